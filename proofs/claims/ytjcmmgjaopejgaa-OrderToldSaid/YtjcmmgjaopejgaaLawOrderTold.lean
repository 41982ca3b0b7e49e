/-
  What each task told, put together task by task, is all that was told: OrderTold returns true for all arguments, no condition.
-/
import Derived.Test.YtjcmmgjaopejgaaRows
import Derived.Test.YtjcmmgjaopejgaaPL2
import Derived.Test.YtjcmmgjaopejgaaEo6
import Derived.WalkKit
import Derived.ProofKit
import Derived.OpenShut
import Derived.ShutString
import Derived.ChangeOld
import Derived.Below
namespace Go.Proofs.Ytjcmmgjaopejgaa.lawOrderTold
open Go.ChangeShapes Go.WideShapes Go.ChangeAt Go.RowKit Go.Proofs.Ytjcmmgjaopejgaa
open Go.ChangeMaps (open_string shut_string)
set_option linter.unusedVariables false

theorem own : ownKnob Try.prog.godebug = none := by kernel_rfl
theorem laidOut : laidOutB Try.prog = true := by kernel_rfl

/-- The walk. -/
theorem walk (w : World) (a0 : Option Addr) (len0 cap0 : Nat) (z0 : List Ev) (w0 : RowIn encE 6 w a0 len0 z0) (lc0 : len0 ≤ cap0) (cm0 : cap0 ≤ maxLen) (r0 : ∀ z ∈ z0, (fun _ => True) z) :
    Calls Try.prog 5 #[.slice a0 len0 cap0] w fun e w' => e = .returned (.bool true) ∧ Below w.heap.size w w' :=
  (otold_w a0 len0 cap0 z0 w w0 lc0).mono fun _ _ h => ⟨h.1, h.2.below⟩

/-! The row's step, as the guide's skeleton has it. -/
set_option maxRecDepth 100000 in
theorem lifted (os : Os) (started : os.Started) (H : Type) (enc : TypeId × Value → H) :
    ReturnsInHanded {} Try.checked os 5 .any (Rows.orderToldSpec.pre6 enc Try.prog Try.f5 Rows.orderToldRow.domain false) (Rows.orderToldSpec.post enc Try.prog Try.f5 false true false false) := by
  refine returnsInHanded_of_change (C := Try.checked) own started (by kernel_rfl) Try.func5
    (ChangeSpec.witness6 (enc := enc) (C := Try.checked) false ⟨#[], #[.slice none 0 0], []⟩ 8 (by kernel_rfl) (by kernel_rfl) (by kernel_rfl) (by kernel_rfl)) ?_
  intro W base args ds gs before hval0 hW hcnd _
  have hval : ∀ (j : Nat) t v, Try.f5.params[j]? = some t → args[j]? = some v → Value.okWide Try.prog W .any base t v := hval0
  have hW' := hW
  obtain ⟨p, q, hA0, hV, rfl, hfz, hnd⟩ := hW
  have hA : DataW.TrodAll enc Try.prog W 0 (fun _ => true) true Try.f5.params.toList args.toList ds p := hA0
  rw [Try.params5] at hA hval
  obtain ⟨v0, vs0, d0, ds0, p0, q0, hargs, rfl, rfl, h0, r_0⟩ := trodAll_cons hA
  obtain ⟨rfl, rfl, rfl⟩ := trodAll_nil r_0
  obtain rfl : args = #[v0] := by cases args; simp_all
  obtain ⟨rfl, rfl⟩ := trodVars_none hV
  obtain ⟨a0, len0, cap0, rfl⟩ := okWide_slice Try.underlying22 (hval 0 22 v0 rfl rfl)
  have k0 := h0
  have lt0 : ∀ x ∈ p0, x.block < W.heap.size := by obtain ⟨m, hm⟩ := k0; exact DataW.trod_lt m _ _ _ hm
  obtain ⟨z0, w0, lc0, cm0, r0⟩ : ∃ xs : List Ev, RowIn encE 6 W a0 len0 xs ∧ len0 ≤ cap0 ∧ cap0 ≤ maxLen ∧ ∀ z ∈ xs, (fun _ => True) z := by
    obtain ⟨fuel, hf⟩ := h0
    exact open_row encE (fun _ => True) Try.underlying22 (by kernel_rfl) (by decide) (fun _ _ _ ht => by obtain ⟨d, hd⟩ := open_ev ht; exact ⟨d, hd, trivial⟩) hf
  clear hA0 hval0
  refine (walk W a0 len0 cap0 z0 w0 lc0 cm0 r0).mono fun e W' ⟨he, bel⟩ => ?_
  subst he
  exact ⟨_, rfl, _, _, _, [], _, [], hW', trodAll_mk1 (shut_bool Try.underlying4 _), (trodAll_cons_mk (Below.trod laidOut (by kernel_rfl) (of_decide_eq_true (by kernel_rfl)) k0 bel lt0) trodAll_mk0), rfl, bel.frame _, fun h => by cases h⟩

theorem over : Rows.orderToldRow.holds Try.pinned (OpenSpec.ofChange Rows.orderToldSpec) :=
  OpenClaim.holds_of_wide 5 Try.f5 rfl rfl rfl rfl rfl rfl rfl ⟨rfl, rfl, rfl, rfl, rfl⟩ rfl rfl rfl rfl rfl (by kernel_rfl) Try.func5 (by kernel_rfl)
    (of_decide_eq_true (by kernel_rfl)) (by unfold Func.isWrapper; first | (rw [if_pos (by decide +kernel)]; kernel_rfl) | (rw [if_neg (by decide +kernel)]; exact ⟨rfl, rfl⟩))
    (fun os started H enc _ => lifted os started H enc)

/-- The statement. -/
theorem proved : Rows.OrderToldSaid := over
#print axioms proved
end Go.Proofs.Ytjcmmgjaopejgaa.lawOrderTold
