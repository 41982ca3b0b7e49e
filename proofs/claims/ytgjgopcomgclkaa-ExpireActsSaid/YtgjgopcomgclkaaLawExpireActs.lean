/-
  Whatever is armed, stopped and taken, each act tells, and all are armed, as the document says: ExpireActs returns true for all arguments, no condition.
-/
import Derived.Test.YtgjgopcomgclkaaRows
import Derived.Test.YtgjgopcomgclkaaEl7
import Derived.Test.YtgjgopcomgclkaaEao
import Derived.WalkKit
import Derived.ProofKit
import Derived.OpenShut
import Derived.ShutString
import Derived.ChangeOld
import Derived.Below
namespace Go.Proofs.Ytgjgopcomgclkaa.lawExpireActs
open Go.ChangeShapes Go.WideShapes Go.ChangeAt Go.RowKit Go.Proofs.Ytgjgopcomgclkaa
open Go.ChangeMaps (open_string shut_string)
set_option linter.unusedVariables false

theorem own : ownKnob Try.prog.godebug = none := by kernel_rfl
theorem laidOut : laidOutB Try.prog = true := by kernel_rfl

/-- The walk. -/
theorem walk (w : World) (a0 : Option Addr) (len0 cap0 : Nat) (z0 : List EAct) (w0 : RowIn encEA 4 w a0 len0 z0) (lc0 : len0 ≤ cap0) (cm0 : cap0 ≤ maxLen) (r0 : ∀ z ∈ z0, (fun _ => True) z) :
    Calls Try.prog 6 #[.slice a0 len0 cap0] w fun e w' => e = .returned (.bool true) ∧ Below w.heap.size w w' :=
  (eacts_w a0 len0 cap0 z0 w w0 lc0).mono fun _ _ h => ⟨h.1, h.2.below⟩

/-! The row's step, as the guide's skeleton has it. -/
set_option maxRecDepth 100000 in
theorem lifted (os : Os) (started : os.Started) (H : Type) (enc : TypeId × Value → H) :
    ReturnsInHanded {} Try.checked os 6 .any (Rows.expireActsSpec.pre6 enc Try.prog Try.f6 Rows.expireActsRow.domain false) (Rows.expireActsSpec.post enc Try.prog Try.f6 false true false false) := by
  refine returnsInHanded_of_change (C := Try.checked) own started (by kernel_rfl) Try.func6
    (ChangeSpec.witness6 (enc := enc) (C := Try.checked) false ⟨#[], #[.slice none 0 0], []⟩ 8 (by kernel_rfl) (by kernel_rfl) (by kernel_rfl) (by kernel_rfl)) ?_
  intro W base args ds gs before hval0 hW hcnd _
  have hval : ∀ (j : Nat) t v, Try.f6.params[j]? = some t → args[j]? = some v → Value.okWide Try.prog W .any base t v := hval0
  have hW' := hW
  obtain ⟨p, q, hA0, hV, rfl, hfz, hnd⟩ := hW
  have hA : DataW.TrodAll enc Try.prog W 0 (fun _ => true) true Try.f6.params.toList args.toList ds p := hA0
  rw [Try.params6] at hA hval
  obtain ⟨v0, vs0, d0, ds0, p0, q0, hargs, rfl, rfl, h0, r_0⟩ := trodAll_cons hA
  obtain ⟨rfl, rfl, rfl⟩ := trodAll_nil r_0
  obtain rfl : args = #[v0] := by cases args; simp_all
  obtain ⟨rfl, rfl⟩ := trodVars_none hV
  obtain ⟨a0, len0, cap0, rfl⟩ := okWide_slice Try.underlying43 (hval 0 43 v0 rfl rfl)
  have k0 := h0
  have lt0 : ∀ x ∈ p0, x.block < W.heap.size := by obtain ⟨m, hm⟩ := k0; exact DataW.trod_lt m _ _ _ hm
  obtain ⟨z0, w0, lc0, cm0, r0⟩ : ∃ xs : List EAct, RowIn encEA 4 W a0 len0 xs ∧ len0 ≤ cap0 ∧ cap0 ≤ maxLen ∧ ∀ z ∈ xs, (fun _ => True) z := by
    obtain ⟨fuel, hf⟩ := h0
    exact open_row encEA (fun _ => True) Try.underlying43 (by kernel_rfl) (by decide) (fun _ _ _ ht => by obtain ⟨d, hd⟩ := open_eact ht; exact ⟨d, hd, trivial⟩) hf
  clear hA0 hval0
  refine (walk W a0 len0 cap0 z0 w0 lc0 cm0 r0).mono fun e W' ⟨he, bel⟩ => ?_
  subst he
  exact ⟨_, rfl, _, _, _, [], _, [], hW', trodAll_mk1 (shut_bool Try.underlying4 _), (trodAll_cons_mk (Below.trod laidOut (by kernel_rfl) (of_decide_eq_true (by kernel_rfl)) k0 bel lt0) trodAll_mk0), rfl, bel.frame _, fun h => by cases h⟩

theorem over : Rows.expireActsRow.holds Try.pinned (OpenSpec.ofChange Rows.expireActsSpec) :=
  OpenClaim.holds_of_wide 6 Try.f6 rfl rfl rfl rfl rfl rfl rfl ⟨rfl, rfl, rfl, rfl, rfl⟩ rfl rfl rfl rfl rfl (by kernel_rfl) Try.func6 (by kernel_rfl)
    (of_decide_eq_true (by kernel_rfl)) (by unfold Func.isWrapper; first | (rw [if_pos (by decide +kernel)]; kernel_rfl) | (rw [if_neg (by decide +kernel)]; exact ⟨rfl, rfl⟩))
    (fun os started H enc _ => lifted os started H enc)

/-- The statement. -/
theorem proved : Rows.ExpireActsSaid := over
#print axioms proved
end Go.Proofs.Ytgjgopcomgclkaa.lawExpireActs
