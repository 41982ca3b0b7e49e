/-
  Whoever is taken out, from wherever, leaves a heap of all others, in their order: HeapRemoves returns true for all arguments, no condition.
-/
import Derived.Test.YtgjgopcomgclkaaRows
import Derived.Test.YtgjgopcomgclkaaHl4
import Derived.WalkKit
import Derived.ProofKit
import Derived.OpenShut
import Derived.ShutString
import Derived.ChangeOld
import Derived.Below
namespace Go.Proofs.Ytgjgopcomgclkaa.lawHeapRemoves
open Go.ChangeShapes Go.WideShapes Go.ChangeAt Go.RowKit Go.Proofs.Ytgjgopcomgclkaa
open Go.ChangeMaps (open_string shut_string)
set_option linter.unusedVariables false

theorem own : ownKnob Try.prog.godebug = none := by kernel_rfl
theorem laidOut : laidOutB Try.prog = true := by kernel_rfl

/-- The walk. -/
theorem walk (w : World) (a0 : Option Addr) (len0 cap0 : Nat) (z0 : List Int) (w0 : RowIn (fun z => [Value.int .i64 z]) 1 w a0 len0 z0) (lc0 : len0 ≤ cap0) (cm0 : cap0 ≤ maxLen) (r0 : ∀ z ∈ z0, (fun z => (Lit.int .i64 z).wf = true) z) (a1 : Option Addr) (len1 cap1 : Nat) (z1 : List Int) (w1 : RowIn (fun z => [Value.int .i64 z]) 1 w a1 len1 z1) (lc1 : len1 ≤ cap1) (cm1 : cap1 ≤ maxLen) (r1 : ∀ z ∈ z1, (fun z => (Lit.int .i64 z).wf = true) z) :
    Calls Try.prog 14 #[.slice a0 len0 cap0, .slice a1 len1 cap1] w fun e w' => e = .returned (.bool true) ∧ Below w.heap.size w w' :=
  (removes_w a0 len0 cap0 z0 a1 len1 cap1 z1 w w0 w1 lc0 lc1).mono fun _ _ h => ⟨h.1, h.2.below⟩

/-! The row's step, as the guide's skeleton has it. -/
set_option maxRecDepth 100000 in
theorem lifted (os : Os) (started : os.Started) (H : Type) (enc : TypeId × Value → H) :
    ReturnsInHanded {} Try.checked os 14 .any (Rows.heapRemovesSpec.pre6 enc Try.prog Try.f14 Rows.heapRemovesRow.domain false) (Rows.heapRemovesSpec.post enc Try.prog Try.f14 false true false false) := by
  refine returnsInHanded_of_change (C := Try.checked) own started (by kernel_rfl) Try.func14
    (ChangeSpec.witness6 (enc := enc) (C := Try.checked) false ⟨#[], #[.slice none 0 0, .slice none 0 0], []⟩ 8 (by kernel_rfl) (by kernel_rfl) (by kernel_rfl) (by kernel_rfl)) ?_
  intro W base args ds gs before hval0 hW hcnd _
  have hval : ∀ (j : Nat) t v, Try.f14.params[j]? = some t → args[j]? = some v → Value.okWide Try.prog W .any base t v := hval0
  have hW' := hW
  obtain ⟨p, q, hA0, hV, rfl, hfz, hnd⟩ := hW
  have hA : DataW.TrodAll enc Try.prog W 0 (fun _ => true) true Try.f14.params.toList args.toList ds p := hA0
  rw [Try.params14] at hA hval
  obtain ⟨v0, vs0, d0, ds0, p0, q0, hargs, rfl, rfl, h0, r_0⟩ := trodAll_cons hA
  obtain ⟨v1, vs1, d1, ds1, p1, q1, rfl, rfl, rfl, h1, r_1⟩ := trodAll_cons r_0
  obtain ⟨rfl, rfl, rfl⟩ := trodAll_nil r_1
  obtain rfl : args = #[v0, v1] := by cases args; simp_all
  obtain ⟨rfl, rfl⟩ := trodVars_none hV
  obtain ⟨a0, len0, cap0, rfl⟩ := okWide_slice Try.underlying22 (hval 0 22 v0 rfl rfl)
  have k0 := h0
  have lt0 : ∀ x ∈ p0, x.block < W.heap.size := by obtain ⟨m, hm⟩ := k0; exact DataW.trod_lt m _ _ _ hm
  obtain ⟨z0, w0, lc0, cm0, r0⟩ : ∃ xs : List Int, RowIn (fun z => [Value.int .i64 z]) 1 W a0 len0 xs ∧ len0 ≤ cap0 ∧ cap0 ≤ maxLen ∧ ∀ z ∈ xs, (fun z => (Lit.int .i64 z).wf = true) z := by
    obtain ⟨fuel, hf⟩ := h0
    exact open_row (fun z => [Value.int .i64 z]) (fun z => (Lit.int .i64 z).wf = true) Try.underlying22 (by kernel_rfl) (by decide) (fun _ _ _ ht => by obtain ⟨z, rfl, _, hz⟩ := DataW.trod_int Try.underlying3 ht; exact ⟨z, rfl, hz⟩) hf
  obtain ⟨a1, len1, cap1, rfl⟩ := okWide_slice Try.underlying22 (hval 1 22 v1 rfl rfl)
  have k1 := h1
  have lt1 : ∀ x ∈ p1, x.block < W.heap.size := by obtain ⟨m, hm⟩ := k1; exact DataW.trod_lt m _ _ _ hm
  obtain ⟨z1, w1, lc1, cm1, r1⟩ : ∃ xs : List Int, RowIn (fun z => [Value.int .i64 z]) 1 W a1 len1 xs ∧ len1 ≤ cap1 ∧ cap1 ≤ maxLen ∧ ∀ z ∈ xs, (fun z => (Lit.int .i64 z).wf = true) z := by
    obtain ⟨fuel, hf⟩ := h1
    exact open_row (fun z => [Value.int .i64 z]) (fun z => (Lit.int .i64 z).wf = true) Try.underlying22 (by kernel_rfl) (by decide) (fun _ _ _ ht => by obtain ⟨z, rfl, _, hz⟩ := DataW.trod_int Try.underlying3 ht; exact ⟨z, rfl, hz⟩) hf
  clear hA0 hval0
  refine (walk W a0 len0 cap0 z0 w0 lc0 cm0 r0 a1 len1 cap1 z1 w1 lc1 cm1 r1).mono fun e W' ⟨he, bel⟩ => ?_
  subst he
  exact ⟨_, rfl, _, _, _, [], _, [], hW', trodAll_mk1 (shut_bool Try.underlying4 _), (trodAll_cons_mk (Below.trod laidOut (by kernel_rfl) (of_decide_eq_true (by kernel_rfl)) k0 bel lt0) (trodAll_cons_mk (Below.trod laidOut (by kernel_rfl) (of_decide_eq_true (by kernel_rfl)) k1 bel lt1) trodAll_mk0)), rfl, bel.frame _, fun h => by cases h⟩

theorem over : Rows.heapRemovesRow.holds Try.pinned (OpenSpec.ofChange Rows.heapRemovesSpec) :=
  OpenClaim.holds_of_wide 14 Try.f14 rfl rfl rfl rfl rfl rfl rfl ⟨rfl, rfl, rfl, rfl, rfl⟩ rfl rfl rfl rfl rfl (by kernel_rfl) Try.func14 (by kernel_rfl)
    (of_decide_eq_true (by kernel_rfl)) (by unfold Func.isWrapper; first | (rw [if_pos (by decide +kernel)]; kernel_rfl) | (rw [if_neg (by decide +kernel)]; exact ⟨rfl, rfl⟩))
    (fun os started H enc _ => lifted os started H enc)

/-- The statement. -/
theorem proved : Rows.HeapRemovesSaid := over
#print axioms proved
end Go.Proofs.Ytgjgopcomgclkaa.lawHeapRemoves
