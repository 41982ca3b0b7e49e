/-
  Words for the laws of the heap: rows of ints that the law makes; ties.
-/
import Derived.Test.YtgjgopcomgclkaaHl2
namespace Go.Proofs.Ytgjgopcomgclkaa
open Go.RowKit
set_option linter.unusedVariables false
set_option linter.unusedSimpArgs false

def encI (z : Int) : List Value := [.int .i64 z]
theorem encI_len (z : Int) : (encI z).length = 1 := rfl
theorem Try.infoI : (Try.prog.info? 3).map (fun i => (i.zero, i.size, i.bytes)) = some (some (.int .i64 0), 1, 8) := by kernel_rfl
/-- A row of ints of the law's own, apart from G. -/
structure IntsAt (w0 w : World) (G : Nat → Prop) (v : Value) (W : List Int) : Prop where
  own : Owns encI 3 1 w v W
  far : ∀ b, v.ownBlock = some b → w0.heap.size ≤ b ∧ ¬ G b
theorem IntsAt.nil (w0 w : World) (G : Nat → Prop) : IntsAt w0 w G (.slice none 0 0) [] := ⟨World.ownsRow_nil _ _ _ _, fun b hb => by simp [Value.ownBlock] at hb⟩
theorem IntsAt.step {w0 w w' : World} {F F' : Nat → Prop} {v : Value} {W : List Int} (h : IntsAt w0 w F v W) (s : Stp w w' F F') : IntsAt w0 w' F' v W :=
  ⟨h.own.turns s.t (fun b hb => (h.far b hb).2), fun b hb => ⟨(h.far b hb).1, fun hf => (s.f b hf).elim (h.far b hb).2 (fun h2 => by have := h.own.lt hb; omega)⟩⟩
theorem IntsAt.made {w0 w w' : World} {F : Nat → Prop} {v : Value} {W : List Int} (h : IntsAt w0 w F v W) (s : Made w w') : IntsAt w0 w' F v W := ⟨h.own.turns s (fun _ _ h => h), h.far⟩
theorem IntsAt.turns {w0 w w' : World} {F S : Nat → Prop} {v : Value} {W : List Int} (h : IntsAt w0 w F v W) (s : Turns S w w') (hn : ∀ b, v.ownBlock = some b → ¬ S b) : IntsAt w0 w' F v W := ⟨h.own.turns s hn, h.far⟩
/-- One more at the end: what the append leaves. -/
theorem IntsAt.pushed {w0 w w1 : World} {G : Nat → Prop} {v v' : Value} {W : List Int} {x : Int} {o : Obj} (h : IntsAt w0 w G v W) (hG : ∀ b, G b → b < w.heap.size) (h0 : w0.heap.size ≤ w.heap.size)
    (hown : w1.ownsRow 0 3 1 v' (W.length + 1) (flat encI W ++ [.int .i64 x])) (hgrow : (w.alloc o).grownBy w1 v.ownBlock) (hat : v'.ownBlock = v.ownBlock ∨ v'.ownBlock = some (w.heap.size + 1)) :
    IntsAt w0 w1 G v' (W ++ [x]) ∧ Turns (fun b => v.ownBlock = some b) w w1 ∧ (∀ b, v'.ownBlock = some b → v.ownBlock = some b ∨ w.heap.size ≤ b) := by
  refine ⟨⟨?_, fun b hb => ?_⟩, ((Turns.refl _ w).alloc o).grown hgrow (fun b hb _ => hb), fun b hb => ?_⟩
  · unfold Owns
    rw [flat_append, List.length_append]
    exact hown
  · rcases hat with e | e
    · exact h.far b (by rw [← e]; exact hb)
    · rw [hb] at e
      simp only [Option.some.injEq] at e
      exact ⟨by omega, fun hg => by have := hG b hg; omega⟩
  · rcases hat with e | e
    · exact .inl (by rw [← e]; exact hb)
    · rw [hb] at e
      simp only [Option.some.injEq] at e
      exact .inr (by omega)
theorem Since.turns {w w1 w2 : World} {F S : Nat → Prop} (h : Since w w1 F) (s : Turns S w1 w2) (hS : ∀ b, b < w.heap.size → ¬ S b) : Since w w2 F := ⟨h.m.then s (fun b hb hs => hS b hb hs), h.f⟩

/-! Ties: all of one time. -/
theorem insL_last {x : It} {L : List It} (h : ∀ y ∈ L, ¬ lt x y) : insL x L = L ++ [x] := by
  induction L with
  | nil => rfl
  | cons y l ih =>
    unfold insL
    rw [if_neg (h y (List.mem_cons_self ..)), ih (fun z hz => h z (List.mem_cons_of_mem _ hz))]
    rfl
theorem tie_last {L : List It} {id when sq : Int} (hw : ∀ y ∈ L, y.when = when) (hs : ∀ y ∈ L, 1 ≤ y.seq ∧ y.seq ≤ sq) : insL ⟨id, when, sq + 1⟩ L = L ++ [⟨id, when, sq + 1⟩] := by
  refine insL_last fun y hy => ?_
  have h1 := hw y hy
  have h2 := hs y hy
  unfold lt
  simp only
  omega
theorem delL_ids (id : Int) (L : List It) : (delL id L).map It.id = (L.map It.id).filter (fun z => z != id) := by
  unfold delL
  rw [List.filter_map]
  rfl
theorem find_of_id {L : List It} (hu : Uniq L) {id : Int} (h : id ∈ L.map It.id) : ∃ x, findL id L = some x := by
  obtain ⟨x, hx, he⟩ := List.mem_map.1 h
  exact ⟨x, (findL_some hu _ _).2 ⟨hx, he⟩⟩
theorem filter_snoc (W : List Int) (m : Nat) (k z : Int) (hz : W[m]? = some z) : (W.take (m + 1)).filter (fun z => z != k) = if z = k then (W.take m).filter (fun z => z != k) else (W.take m).filter (fun z => z != k) ++ [z] := by
  rw [List.take_add_one, hz, List.filter_append]
  by_cases h : z = k
  · simp [h]
  · simp [h]
end Go.Proofs.Ytgjgopcomgclkaa
