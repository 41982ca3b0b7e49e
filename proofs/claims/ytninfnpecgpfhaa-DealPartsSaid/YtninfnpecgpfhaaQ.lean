/-
  A slice of integers of the call's own that begins anywhere in its array: queues.
-/
import Derived.Test.YtninfnpecgpfhaaMem
import Derived.ArgAppend
import Derived.OwnWalk
namespace Go.Proofs.Ytninfnpecgpfhaa
open Go.RowKit
set_option linter.unusedVariables false
set_option linter.unusedSimpArgs false

/-- v reads as q; its array lies in a block from B on, which holds ints alone. -/
def OwnQ (w : World) (B : Nat) (v : Value) (q : List Int) : Prop :=
  (v = .slice none 0 0 ∧ q = []) ∨
  ∃ g off cap cur, v = .slice (some ⟨g, off, none⟩) q.length cap ∧ B ≤ g ∧ w.heap[g]? = some (.cells cur 3 (0, 0)) ∧ q.length ≤ cap ∧ cap ≤ maxLen ∧ off + cap ≤ cur.size ∧
    ∀ (i : Nat) (x : Int), q[i]? = some x → cur[off + i]? = some (.int .i64 x)

section
variable {w w' : World} {B : Nat} {v : Value} {q : List Int}
theorem OwnQ.none_ (w : World) (B : Nat) : OwnQ w B (.slice none 0 0) [] := .inl ⟨rfl, rfl⟩
theorem OwnQ.lt (h : OwnQ w B v q) : ∀ k, v.ownBlock = some k → B ≤ k ∧ k < w.heap.size := by
  intro k hk
  rcases h with ⟨rfl, _⟩ | ⟨g, off, cap, cur, rfl, hb, hg, _⟩
  · simp [Value.ownBlock] at hk
  · simp [Value.ownBlock] at hk
    subst hk
    exact ⟨hb, (Array.getElem?_eq_some_iff.1 hg).1⟩
theorem OwnQ.turns {S : Nat → Prop} (h : OwnQ w B v q) (ht : Turns S w w') (hn : ∀ k, v.ownBlock = some k → ¬ S k) : OwnQ w' B v q := by
  rcases h with h | ⟨g, off, cap, cur, rfl, hb, hg, r⟩
  · exact .inl h
  · exact .inr ⟨g, off, cap, cur, rfl, hb, (ht.block g (Array.getElem?_eq_some_iff.1 hg).1 (hn g rfl)).trans hg, r⟩
theorem OwnQ.alloc (h : OwnQ w B v q) (o : Obj) : OwnQ (w.alloc o) B v q := h.turns ((Turns.refl (fun _ => False) w).alloc o) (fun _ _ h => h)
theorem OwnQ.drew (h : OwnQ w B v q) : OwnQ w.drew B v q := h
theorem OwnQ.form (h : OwnQ w B v q) : ∃ a cap, v = .slice a q.length cap ∧ q.length ≤ cap ∧ cap ≤ maxLen ∧ RowIn (fun z => [Value.int .i64 z]) 1 w a q.length q ∧ (a = none → cap = 0) := by
  rcases h with ⟨rfl, rfl⟩ | ⟨g, off, cap, cur, rfl, hb, hg, h1, h2, h3, h4⟩
  · exact ⟨none, 0, rfl, Nat.le_refl _, by unfold maxLen; omega, ⟨rfl, .inl (Nat.le_refl _)⟩, fun _ => rfl⟩
  · refine ⟨_, cap, rfl, h1, h2, ⟨rfl, .inr ⟨g, off, rfl, (Array.getElem?_eq_some_iff.1 hg).1, fun i x hx j u hu => ?_⟩⟩, fun h => by cases h⟩
    obtain rfl : j = 0 := by
      rcases j with _ | j
      · rfl
      · simp at hu
    simp only [List.getElem?_cons_zero, Option.some.injEq] at hu
    subst hu
    rw [cell_of_row w g _ cur _ (0, 0) hg]
    simpa using h4 i x hx
/-- The first element. -/
theorem OwnQ.head {x : Int} {l : List Int} (h : OwnQ w B v (x :: l)) : ∃ g off cap, v = .slice (some ⟨g, off, none⟩) (l.length + 1) cap ∧ l.length + 1 ≤ cap ∧ cap ≤ maxLen ∧ w.cell? ⟨g, off, none⟩ = some (.int .i64 x) ∧ g < w.heap.size ∧ B ≤ g := by
  rcases h with ⟨_, h⟩ | ⟨g, off, cap, cur, rfl, hb, hg, h1, h2, h3, h4⟩
  · cases h
  · refine ⟨g, off, cap, rfl, by simpa using h1, h2, ?_, (Array.getElem?_eq_some_iff.1 hg).1, hb⟩
    rw [cell_of_row w g _ cur _ (0, 0) hg]
    simpa using h4 0 x rfl
/-- What is behind the first. -/
theorem OwnQ.tail_end {x : Int} {l : List Int} {g off cap : Nat} (h : OwnQ w B (.slice (some ⟨g, off, none⟩) (l.length + 1) cap) (x :: l)) (hc : cap = 1) : OwnQ w B (.slice (some ⟨g, off, none⟩) l.length (cap - 1)) l := by
  rcases h with ⟨h, _⟩ | ⟨g', off', cap', cur, hv, hb, hg, h1, h2, h3, h4⟩
  · cases h
  · simp only [Value.slice.injEq, Option.some.injEq, Addr.mk.injEq, and_true] at hv
    obtain ⟨⟨rfl, rfl⟩, _, rfl⟩ := hv
    simp only [List.length_cons] at h1
    have hl : l = [] := List.eq_nil_of_length_eq_zero (by omega)
    subst hl
    exact .inr ⟨g, off, cap - 1, cur, rfl, hb, hg, Nat.zero_le _, by omega, by omega, fun i x hx => by cases hx⟩
theorem OwnQ.tail {x : Int} {l : List Int} {g off cap : Nat} (h : OwnQ w B (.slice (some ⟨g, off, none⟩) (l.length + 1) cap) (x :: l)) : OwnQ w B (.slice (some ⟨g, off + 1, none⟩) l.length (cap - 1)) l := by
  rcases h with ⟨h, _⟩ | ⟨g', off', cap', cur, hv, hb, hg, h1, h2, h3, h4⟩
  · cases h
  · simp only [Value.slice.injEq, Option.some.injEq, Addr.mk.injEq, and_true] at hv
    obtain ⟨⟨rfl, rfl⟩, _, rfl⟩ := hv
    simp only [List.length_cons] at h1
    refine .inr ⟨g, off + 1, cap - 1, cur, rfl, hb, hg, by omega, by omega, by omega, fun i y hy => ?_⟩
    have := h4 (i + 1) y (by simpa using hy)
    rw [show off + 1 + i = off + (i + 1) from by omega]
    exact this

variable {P : Program}
/-- 'append(q, x)'. -/
theorem OwnQ.push (h : OwnQ w B v q) (t ty : TypeId) (i : TypeInfo) (ht : P.underlying t = some (.slice 3)) (hi : P.info? 3 = some i) (hz : i.zero = some (.int .i64 0)) (hs : i.size = 1) (hb : i.bytes = 8)
    (ad : Addr) (c : Nat) (x : Int) (hx : w.cell? ad = some (.int .i64 x)) (hn : q.length ≤ 1000000) (hB : B ≤ w.heap.size) :
    ∃ v' w', (Builtin.append_ #[t, t] ty #[v, .slice (some ad) 1 c]).run P w = .ok v' w' ∧ OwnQ w' B v' (q ++ [x]) ∧ w.grownBy w' v.ownBlock ∧ (v'.ownBlock = v.ownBlock ∨ v'.ownBlock = some w.heap.size) := by
  have hnews : ∀ j u, [Value.int .i64 x][j]? = some u → w.cell? (ad.add j) = some u := by
    intro j u hj
    match j, hj with
    | 0, hj =>
      simp only [List.getElem?_cons_zero, Option.some.injEq] at hj
      subst hj
      simpa [Addr.add] using hx
  have grown : ∀ (old : Nat) (olds : List Value), olds = q.map (Value.int .i64) → old < q.length + 1 → ∀ (row : Option Nat),
      OwnQ (w.drew.alloc (.cells (olds.toArray ++ [Value.int .i64 x].toArray ++ Builtin.zeroCells (.int .i64 0 : Value).cells (grownCap w (q.length + 1) old 3 - (q.length + 1))) 3)) B
        (.slice (some ⟨w.heap.size, 0, none⟩) (q.length + 1) (grownCap w (q.length + 1) old 3)) (q ++ [x]) ∧
      w.grownBy (w.drew.alloc (.cells (olds.toArray ++ [Value.int .i64 x].toArray ++ Builtin.zeroCells (.int .i64 0 : Value).cells (grownCap w (q.length + 1) old 3 - (q.length + 1))) 3)) row := by
    intro old olds ho hlt row
    subst ho
    have hge := grownCap_ge w (q.length + 1) old 3
    have hcm : grownCap w (q.length + 1) old 3 ≤ maxLen := grownCap_le_maxLen w (q.length + 1) old 3 (by unfold maxLen; omega)
    refine ⟨.inr ⟨w.heap.size, 0, _, _, by rw [List.length_append]; rfl, hB, heap_alloc_new w.drew _, by rw [List.length_append]; exact hge, hcm, ?_, ?_⟩, ⟨rfl, rfl, rfl, by simp, fun k hk _ => heap_alloc_old w.drew _ k hk⟩⟩
    · simp only [Array.size_append, List.size_toArray, List.length_map, List.length_singleton, size_zeroCells, Value.cells]
      simp
      omega
    · intro i y hy
      have hi' : i < q.length + 1 := by
        have := (List.getElem?_eq_some_iff.1 hy).1
        simpa using this
      rw [Nat.zero_add, Array.getElem?_append_left (by simp; omega)]
      have e : (q.map (Value.int .i64)).toArray ++ [Value.int .i64 x].toArray = ((q ++ [x]).map (Value.int .i64)).toArray := by simp
      rw [e]
      simp only [List.getElem?_toArray, List.getElem?_map, hy, Option.map_some]
  rcases h with ⟨rfl, rfl⟩ | ⟨g, off, cap, cur, rfl, hbg, hg, h1, h2, h3, h4⟩
  · have hr := run_append_nil (P := P) w t ty 3 i (.int .i64 0) ht hi hz ad 1 c [.int .i64 x] (by rw [hs]; rfl) hnews (by omega) (by omega) (by rw [hb]; omega)
    have hg := grown 0 [] rfl (by simp) (Value.ownBlock (.slice none 0 0))
    simp only [List.length_nil, Nat.zero_add, Array.empty_append] at hg
    exact ⟨_, _, hr, hg.1, hg.2, .inr rfl⟩
  · by_cases hroom : q.length + 1 ≤ cap
    · have hcell : w.cell? ⟨g, off + q.length, none⟩ = cur[off + q.length]? := cell_of_row w g _ cur _ (0, 0) hg
      have hfree : w.frozen? ⟨g, off + q.length, none⟩ = false := by simp [World.frozen?, hg]
      have hr := run_append_room_cells (P := P) w t ty 3 i ht hi g off q.length cap ad 1 c [.int .i64 x] (by rw [hs]; rfl) hnews (by intro u hu; simp only [List.mem_singleton] at hu; subst hu; rfl) hroom
        (by
          intro j hj
          obtain rfl : j = 0 := by simpa using hj
          rw [hs, Nat.mul_one, Nat.add_zero, hcell, Array.getElem?_eq_getElem (by omega)]
          rfl)
        (by
          intro j hj
          obtain rfl : j = 0 := by simpa using hj
          rw [hs, Nat.mul_one, Nat.add_zero]
          exact hfree)
      rw [hs, Nat.mul_one] at hr
      have hset : (w.setCells g (off + q.length) [.int .i64 x]).heap[g]? = some (.cells (cur.setIfInBounds (off + q.length) (.int .i64 x)) 3 (0, 0)) := by
        simp [World.setCells, World.setCell, Array.getElem?_modify, hg]
      refine ⟨_, _, hr, .inr ⟨g, off, cap, _, by rw [List.length_append]; rfl, hbg, hset, by rw [List.length_append]; exact hroom, h2, by simpa using h3, ?_⟩, ⟨rfl, rfl, rfl, by simp [World.setCells, World.setCell], fun k _ hk => ?_⟩, .inl rfl⟩
      · intro i y hy
        rcases Nat.lt_or_ge i q.length with hlt | hge
        · rw [List.getElem?_append_left hlt] at hy
          rw [Array.getElem?_setIfInBounds_ne (by omega)]
          exact h4 i y hy
        · rw [List.getElem?_append_right hge] at hy
          obtain rfl : i = q.length := by
            have := (List.getElem?_eq_some_iff.1 hy).1
            simp at this
            omega
          simp only [Nat.sub_self, List.getElem?_cons_zero, Option.some.injEq] at hy
          subst hy
          rw [Array.getElem?_setIfInBounds_self_of_lt (by omega)]
      · exact Below.heap_setCell w ⟨g, off + q.length, none⟩ _ k (fun e => hk (by rw [e]; rfl))
    · have hgr := grown cap (q.map (Value.int .i64)) rfl (by omega) (Value.ownBlock (.slice (some ⟨g, off, none⟩) q.length cap))
      have hr := run_append_grow (P := P) w t ty 3 i (.int .i64 0) ht hi hz ⟨g, off, none⟩ q.length cap (q.map (Value.int .i64)) (by rw [hs]; simp)
        (by
          intro j u hu
          rw [Addr.add_lit, cell_of_row w g _ cur _ (0, 0) hg]
          rw [List.getElem?_map] at hu
          cases hq : q[j]? with
          | none => rw [hq] at hu; cases hu
          | some y =>
            rw [hq] at hu
            simp only [Option.map_some, Option.some.injEq] at hu
            subst hu
            exact h4 j y hq)
        ad 1 c [.int .i64 x] (by rw [hs]; rfl) hnews (by omega) (by omega) (growslice_fits (by omega) (by rw [hb]; omega))
      exact ⟨_, _, hr, hgr.1, hgr.2, .inr rfl⟩
end

section
variable {P : Program} (w : World) {ops : Array Oper} {rest : List Oper} {o : Oper} {a : Act} {Q : Exit → Act → World → Prop}
theorem wpList_push (hgd : o.guard = none) (s x : Operand) (t : TypeId) (ho : o.op = .call { callee := .builtin .append, args := #[s, x], argTypes := #[t, t] })
    (B : Nat) (i : TypeInfo) (ht : P.underlying t = some (.slice 3)) (hi : P.info? 3 = some i) (hz : i.zero = some (.int .i64 0)) (hsz : i.size = 1) (hby : i.bytes = 8)
    (v : Value) (q : List Int) (hs : a.eval s = v) (hown : OwnQ w B v q) (ad : Addr) (c : Nat) (y : Int) (hx : a.eval x = .slice (some ad) 1 c) (hy : w.cell? ad = some (.int .i64 y)) (hn : q.length ≤ 1000000) (hB : B ≤ w.heap.size)
    (h : ∀ v' w', OwnQ w' B v' (q ++ [y]) → w.grownBy w' v.ownBlock → (v'.ownBlock = v.ownBlock ∨ v'.ownBlock = some w.heap.size) → wpList P ops Q rest (a.put o.dst v') w') : wpList P ops Q (o :: rest) a w := by
  refine wpList_plain hgd fun K hK => ?_
  obtain ⟨v', w', hr, h2, h3, h4⟩ := hown.push (P := P) t o.type i ht hi hz hsz hby ad c y hy hn hB
  unfold Oper.wp execOp
  simp only [ho, resolve, invoke, builtin, Sem.run_bind, Sem.run_pure, Result.andThen_ok, List.map_toArray, List.map_cons, List.map_nil, hs, hx, hr]
  exact hK _ _ (h v' w' h2 h3 h4)
end
end Go.Proofs.Ytninfnpecgpfhaa
