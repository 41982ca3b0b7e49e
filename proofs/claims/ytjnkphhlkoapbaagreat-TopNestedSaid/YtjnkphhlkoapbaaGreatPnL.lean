/-
  Deadlines within deadlines: whoever waits for the innermost goes on at the least of them all, and is told that its time was over: TopNested returns true for every list of integers, no condition.
-/
import Derived.Test.YtjnkphhlkoapbaaGreatRows
import Derived.Test.YtjnkphhlkoapbaaGreatPn11
import Derived.WalkKit
import Derived.ProofKit
import Derived.OpenShut
import Derived.ShutString
import Derived.ChangeOld
import Derived.Below
namespace Go.Proofs.YtjnkphhlkoapbaaGreat.lawTopNested
open Go.ChangeShapes Go.WideShapes Go.ChangeAt Go.RowKit Go.Proofs.YtjnkphhlkoapbaaGreat
open Go.ChangeMaps (open_string shut_string)
set_option linter.unusedVariables false

theorem own : ownKnob Tryz.prog.godebug = none := by kernel_rfl
theorem laidOut : laidOutB Tryz.prog = true := by kernel_rfl

/-- The walk. -/
theorem walk (w : World) (a0 : Option Addr) (len0 cap0 : Nat) (z0 : List Int) (w0 : RowIn (fun z => [Value.int .i64 z]) 1 w a0 len0 z0) (lc0 : len0 ≤ cap0) (cm0 : cap0 ≤ maxLen) (r0 : ∀ z ∈ z0, (fun z => (Lit.int .i64 z).wf = true) z) :
    Calls Tryz.prog 6 #[.slice a0 len0 cap0] w fun e w' => e = .returned (.bool true) ∧ Below w.heap.size w w' :=
  (nested_w a0 len0 cap0 z0 w w0 lc0).mono fun _ _ h => ⟨h.1, h.2.below⟩

/-! The row's step, as the guide's skeleton has it. -/
set_option maxRecDepth 100000 in
theorem lifted (os : Os) (started : os.Started) (H : Type) (enc : TypeId × Value → H) :
    ReturnsInHanded {} Tryz.checked os 6 .any (Rows.topNestedSpec.pre6 enc Tryz.prog Tryz.f6 Rows.topNestedRow.domain false) (Rows.topNestedSpec.post enc Tryz.prog Tryz.f6 false true false false) := by
  refine returnsInHanded_of_change (C := Tryz.checked) own started (by kernel_rfl) Tryz.func6
    (ChangeSpec.witness6 (enc := enc) (C := Tryz.checked) false ⟨#[], #[.slice none 0 0], []⟩ 8 (by kernel_rfl) (by kernel_rfl) (by kernel_rfl) (by kernel_rfl)) ?_
  intro W base args ds gs before hval0 hW hcnd _
  have hval : ∀ (j : Nat) t v, Tryz.f6.params[j]? = some t → args[j]? = some v → Value.okWide Tryz.prog W .any base t v := hval0
  have hW' := hW
  obtain ⟨p, q, hA0, hV, rfl, hfz, hnd⟩ := hW
  have hA : DataW.TrodAll enc Tryz.prog W 0 (fun _ => true) true Tryz.f6.params.toList args.toList ds p := hA0
  rw [Tryz.params6] at hA hval
  obtain ⟨v0, vs0, d0, ds0, p0, q0, hargs, rfl, rfl, h0, r_0⟩ := trodAll_cons hA
  obtain ⟨rfl, rfl, rfl⟩ := trodAll_nil r_0
  obtain rfl : args = #[v0] := by cases args; simp_all
  obtain ⟨rfl, rfl⟩ := trodVars_none hV
  obtain ⟨a0, len0, cap0, rfl⟩ := okWide_slice Tryz.underlying42 (hval 0 42 v0 rfl rfl)
  have k0 := h0
  have lt0 : ∀ x ∈ p0, x.block < W.heap.size := by obtain ⟨m, hm⟩ := k0; exact DataW.trod_lt m _ _ _ hm
  obtain ⟨z0, w0, lc0, cm0, r0⟩ : ∃ xs : List Int, RowIn (fun z => [Value.int .i64 z]) 1 W a0 len0 xs ∧ len0 ≤ cap0 ∧ cap0 ≤ maxLen ∧ ∀ z ∈ xs, (fun z => (Lit.int .i64 z).wf = true) z := by
    obtain ⟨fuel, hf⟩ := h0
    exact open_row (fun z => [Value.int .i64 z]) (fun z => (Lit.int .i64 z).wf = true) Tryz.underlying42 (by kernel_rfl) (by decide) (fun _ _ _ ht => by obtain ⟨z, rfl, _, hz⟩ := DataW.trod_int Tryz.underlying3 ht; exact ⟨z, rfl, hz⟩) hf
  clear hA0 hval0
  refine (walk W a0 len0 cap0 z0 w0 lc0 cm0 r0).mono fun e W' ⟨he, bel⟩ => ?_
  subst he
  exact ⟨_, rfl, _, _, _, [], _, [], hW', trodAll_mk1 (shut_bool Tryz.underlying4 _), (trodAll_cons_mk (Below.trod laidOut (by kernel_rfl) (of_decide_eq_true (by kernel_rfl)) k0 bel lt0) trodAll_mk0), rfl, bel.frame _, fun h => by cases h⟩

theorem over : Rows.topNestedRow.holds Tryz.pinned (OpenSpec.ofChange Rows.topNestedSpec) :=
  OpenClaim.holds_of_wide 6 Tryz.f6 rfl rfl rfl rfl rfl rfl rfl ⟨rfl, rfl, rfl, rfl, rfl⟩ rfl rfl rfl rfl rfl (by kernel_rfl) Tryz.func6 (by kernel_rfl)
    (of_decide_eq_true (by kernel_rfl)) (by unfold Func.isWrapper; first | (rw [if_pos (by decide +kernel)]; kernel_rfl) | (rw [if_neg (by decide +kernel)]; exact ⟨rfl, rfl⟩))
    (fun os started H enc _ => lifted os started H enc)

/-- The statement. -/
theorem proved : Rows.TopNestedSaid := over
#print axioms proved
end Go.Proofs.YtjnkphhlkoapbaaGreat.lawTopNested
