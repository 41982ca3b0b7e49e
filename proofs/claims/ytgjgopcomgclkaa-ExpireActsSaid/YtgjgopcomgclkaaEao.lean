/-
  A struct of 4 ints that came in, opened (printed by wip/openst.py).
-/
import Derived.Test.YtgjgopcomgclkaaEl6
import Derived.ChangeArms
import Derived.ChangeShapes
namespace Go.Proofs.Ytgjgopcomgclkaa
open Go.RowKit Go.Deep Go.ChangeShapes Go.WideShapes
set_option linter.unusedVariables false
section
variable {H : Type} {enc0 : TypeId × Value → H} {w : World} {base : Nat} {spare : Nat → Bool} {held : Bool}
set_option maxRecDepth 100000 in
theorem open_eact {fuel : Nat} {cs : List Value} {x : DataW H × List MemPlace} (h : DataW.trod enc0 Try.prog w base spare held fuel 53 cs = some x) : ∃ d : EAct, cs = encEA d := by
  obtain ⟨xs, n, _, rfl, hlen, hxl, hf⟩ := DataW.trod_struct Try.underlying53 h
  have hsz : Program.cellsOf Try.prog 53 = 4 := by kernel_rfl
  rw [hsz] at hlen
  have hxl' : xs.length = 4 := hxl
  match cs, hlen with
  | [c0, c1, c2, c3], _ =>
    match xs, hxl' with
    | [x0, x1, x2, x3], _ =>
      have ci : Program.cellsOf Try.prog 3 = 1 := by kernel_rfl
      have t0 : DataW.trod enc0 Try.prog w base spare held n 3 (List.take (Program.cellsOf Try.prog 3) [c0, c1, c2, c3]) = some x0 := hf 0 _ rfl
      rw [ci] at t0
      have t1 : DataW.trod enc0 Try.prog w base spare held n 3 (List.take (Program.cellsOf Try.prog 3) [c1, c2, c3]) = some x1 := hf 1 _ rfl
      rw [ci] at t1
      have t2 : DataW.trod enc0 Try.prog w base spare held n 3 (List.take (Program.cellsOf Try.prog 3) [c2, c3]) = some x2 := hf 2 _ rfl
      rw [ci] at t2
      have t3 : DataW.trod enc0 Try.prog w base spare held n 3 (List.take (Program.cellsOf Try.prog 3) [c3]) = some x3 := hf 3 _ rfl
      rw [ci] at t3
      obtain ⟨z0, e0, _, _⟩ := DataW.trod_int Try.underlying3 t0
      obtain ⟨z1, e1, _, _⟩ := DataW.trod_int Try.underlying3 t1
      obtain ⟨z2, e2, _, _⟩ := DataW.trod_int Try.underlying3 t2
      obtain ⟨z3, e3, _, _⟩ := DataW.trod_int Try.underlying3 t3
      simp only [List.take_succ_cons, List.take_zero, List.cons.injEq, and_true] at e0 e1 e2 e3
      subst e0 e1 e2 e3
      exact ⟨⟨z0, z1, z2, z3⟩, rfl⟩
end
end Go.Proofs.Ytgjgopcomgclkaa
