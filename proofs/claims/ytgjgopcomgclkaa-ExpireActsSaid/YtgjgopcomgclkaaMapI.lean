/-
  A map keyed by int that the call made: what it holds, key by key; its operations.
-/
import Derived.Test.YtgjgopcomgclkaaMem
import Derived.MapKept
import Derived.ChangeMaps4
import Derived.Maps.OwnOps
import Derived.Maps.OwnSet
namespace Go.Proofs.Ytgjgopcomgclkaa
open Go.RowKit Go.MapKept
set_option linter.unusedVariables false
set_option linter.unusedSimpArgs false

/-- Block b is a map keyed by int that holds f. -/
def MapI (w : World) (b : Nat) (f : Int → Option Value) : Prop :=
  ∃ es clock, w.heap[b]? = some (.map es clock) ∧ (∀ x ∈ es.toList, ∃ k, x.key = .int .i64 k) ∧ es.toList.Pairwise (fun x y => x.key ≠ y.key) ∧
    ∀ k v, f k = some v ↔ ∃ x ∈ es.toList, x.key = .int .i64 k ∧ x.val = v

theorem modify_set {α : Type} (f : α → α) : ∀ (l : List α) (j : Nat) (x : α), l[j]? = some x → l.modify j f = l.set j (f x)
  | [], _, _, h => by cases h
  | y :: l, 0, x, h => by
    simp only [List.getElem?_cons_zero, Option.some.injEq] at h
    subst h
    rfl
  | y :: l, j + 1, x, h => by
    rw [List.getElem?_cons_succ] at h
    show y :: l.modify j f = y :: l.set j (f x)
    rw [modify_set f l j x h]

theorem isKey_int (k : Int) : IsKey (.int .i64) (.int .i64 k) := rfl

theorem MapI.lt {w : World} {b : Nat} {f : Int → Option Value} (h : MapI w b f) : b < w.heap.size := by
  obtain ⟨es, clock, hb, _⟩ := h
  exact (Array.getElem?_eq_some_iff.1 hb).1
theorem MapI.turns {S : Nat → Prop} {w w' : World} {b : Nat} {f : Int → Option Value} (h : MapI w b f) (ht : Turns S w w') (hn : ¬ S b) : MapI w' b f := by
  have hl := h.lt
  obtain ⟨es, clock, hb, r⟩ := h
  exact ⟨es, clock, (ht.block b hl hn).trans hb, r⟩
theorem MapI.alloc {w : World} {b : Nat} {f : Int → Option Value} (h : MapI w b f) (o : Obj) : MapI (w.alloc o) b f := h.turns ((Turns.refl (fun _ => False) w).alloc o) (fun h => h)
theorem MapI.new (w : World) : MapI (w.alloc (.map #[] 0)) w.heap.size (fun _ => none) :=
  ⟨#[], 0, heap_alloc_new w _, by simp, by simp, by simp⟩

section
variable {P : Program} {w : World} {b : Nat} {f : Int → Option Value} {t kt et : TypeId}

theorem MapI.found (h : MapI w b f) (hk : P.underlying kt = some (.int .i64)) (k : Int) :
    ∃ es clock, w.heap[b]? = some (.map es clock) ∧ (∀ x ∈ es.toList, ∃ k, x.key = .int .i64 k) ∧ es.toList.Pairwise (fun x y => x.key ≠ y.key) ∧ (∀ k v, f k = some v ↔ ∃ x ∈ es.toList, x.key = .int .i64 k ∧ x.val = v) ∧
      ((∀ w', (Instr.findKey kt (.int .i64 k) es.toList).run P w' = .ok none w') ∧ f k = none ∧ (∀ x ∈ es.toList, x.key ≠ .int .i64 k) ∨
       ∃ j e, (∀ w', (Instr.findKey kt (.int .i64 k) es.toList).run P w' = .ok (some (j, e.val)) w') ∧ f k = some e.val ∧ es.toList[j]? = some e ∧ e.key = .int .i64 k) := by
  obtain ⟨es, clock, hb, hks, hd, hf⟩ := h
  refine ⟨es, clock, hb, hks, hd, hf, ?_⟩
  have hks' : ∀ x ∈ es.toList, IsKey (.int .i64) x.key := fun x hx => by
    obtain ⟨k', e⟩ := hks x hx
    rw [e]
    exact isKey_int k'
  rcases findNow_spec (isKey_int k) es.toList 0 hks' with ⟨h1, h2⟩ | ⟨j, e, h1, h2, h3⟩
  · refine .inl ⟨fun w' => Go.MapKept.run_findKey hk h1, ?_, h2⟩
    cases hfk : f k with
    | none => rfl
    | some v =>
      obtain ⟨x, hx, he, _⟩ := (hf k v).1 hfk
      exact absurd he (h2 x hx)
  · rw [Nat.zero_add] at h1
    exact .inr ⟨j, e, fun w' => Go.MapKept.run_findKey hk h1, (hf k e.val).2 ⟨e, List.mem_of_getElem? h2, h3, rfl⟩, h2, h3⟩

/-- 'm[k]' and 'v, ok := m[k]'. -/
theorem MapI.look (h : MapI w b f) (ht : P.underlying t = some (.map kt et)) (hk : P.underlying kt = some (.int .i64)) {z : Value} (hz : (zeroValue et).run P w = .ok z w) (k : Int) (c : Bool) :
    (Instr.lookup t (.map (some b)) (.int .i64 k) c).run P w = .ok (if c then .tuple #[(f k).getD z, .bool (f k).isSome] else (f k).getD z) w := by
  obtain ⟨es, clock, hb, hks, hd, hf, h1 | ⟨j, e, h1, h2, h3, h4⟩⟩ := h.found hk k
  · obtain ⟨h1, h2, h3⟩ := h1
    simp [Instr.lookup, run_underlying ht, Go.MapKept.run_getObj_map hb, Go.MapKept.run_checkKey hk (isKey_int k), h1, hz, Result.andThen, h2]
  · simp [Instr.lookup, run_underlying ht, Go.MapKept.run_getObj_map hb, Go.MapKept.run_checkKey hk (isKey_int k), h1, Result.andThen, h2]

theorem look_nil (ht : P.underlying t = some (.map kt et)) (hk : P.underlying kt = some (.int .i64)) {z : Value} (hz : (zeroValue et).run P w = .ok z w) (k : Int) (c : Bool) :
    (Instr.lookup t (.map none) (.int .i64 k) c).run P w = .ok (if c then .tuple #[z, .bool false] else z) w := by
  have h1 : (Instr.findKey kt (.int .i64 k) []).run P w = .ok none w := Go.MapKept.run_findKey hk rfl
  simp [Instr.lookup, run_underlying ht, Go.MapKept.run_checkKey hk (isKey_int k), h1, hz, Result.andThen]

/-- 'm[k] = v'. -/
theorem MapI.store (h : MapI w b f) (ht : P.underlying t = some (.map kt et)) (hk : P.underlying kt = some (.int .i64)) (k : Int) (v : Value) :
    ∃ w', (Instr.mapUpdate t (.map (some b)) (.int .i64 k) v).run P w = .ok () w' ∧ MapI w' b (fun j => if j = k then some v else f j) ∧ Turns (fun x => x = b) w w' ∧ w'.heap.size = w.heap.size := by
  have hl := h.lt
  obtain ⟨es, clock, hb, hks, hd, hf, h1 | ⟨j, e, h1, h2, h3, h4⟩⟩ := h.found hk k
  · obtain ⟨h1, h2, h3⟩ := h1
    refine ⟨Go.ChangeMaps.setBlock w b (.map (es.push ⟨.int .i64 k, v, clock⟩) (clock + 1)), ?_, ⟨_, _, (Go.MapKept.heap_set hb).1, ?_, ?_, ?_⟩, ?_, ?_⟩
    · simp [Instr.mapUpdate, run_underlying ht, Go.MapKept.run_getObj_map hb, Go.MapKept.run_checkKey hk (isKey_int k), h1, Go.MapKept.run_setObj_map _ hb, Result.andThen, Go.ChangeMaps.setBlock]
    · intro x hx
      simp only [Array.toList_push, List.mem_append, List.mem_singleton] at hx
      rcases hx with hx | rfl
      · exact hks x hx
      · exact ⟨k, rfl⟩
    · rw [Array.toList_push, List.pairwise_append]
      refine ⟨hd, by simp, fun x hx y hy => ?_⟩
      simp only [List.mem_singleton] at hy
      subst hy
      exact h3 x hx
    · intro k' v'
      simp only [Array.toList_push, List.mem_append, List.mem_singleton]
      by_cases hkk : k' = k
      · subst hkk
        simp only [if_true, Option.some.injEq]
        constructor
        · rintro rfl
          exact ⟨_, .inr rfl, rfl, rfl⟩
        · rintro ⟨x, hx | rfl, he, hv⟩
          · exact absurd he (h3 x hx)
          · exact hv
      · simp only [if_neg hkk]
        rw [hf]
        constructor
        · rintro ⟨x, hx, he, hv⟩
          exact ⟨x, .inl hx, he, hv⟩
        · rintro ⟨x, hx | rfl, he, hv⟩
          · exact ⟨x, hx, he, hv⟩
          · simp only [Value.int.injEq, true_and] at he
            exact absurd he.symm hkk
    · exact ⟨rfl, rfl, rfl, by simp [Go.ChangeMaps.setBlock], fun i _ hn => (Go.MapKept.heap_set hb).2 i hn⟩
    · simp [Go.ChangeMaps.setBlock]
  · have hj : es[j]? = some e := by simpa using h3
    have hjl : j < es.toList.length := (List.getElem?_eq_some_iff.1 h3).1
    have hlist : (es.modify j (fun e' => { e' with key := .int .i64 k, val := v })).toList = es.toList.set j { e with key := .int .i64 k, val := v } := by
      rw [Array.toList_modify, modify_set _ _ _ _ h3]
    have hset : ∀ x, x ∈ es.toList.set j { e with key := .int .i64 k, val := v } → x = { e with key := .int .i64 k, val := v } ∨ (x ∈ es.toList ∧ x.key ≠ .int .i64 k) := by
      intro x hx
      obtain ⟨i, hi, ex⟩ := List.getElem_of_mem hx
      rw [List.getElem_set] at ex
      split at ex
      · exact .inl ex.symm
      · rename_i hne
        have hi' : i < es.toList.length := by simpa using hi
        refine .inr ⟨ex ▸ List.getElem_mem hi', fun he => ?_⟩
        have hjj : es.toList[j] = e := (List.getElem?_eq_some_iff.1 h3).2
        rcases Nat.lt_or_gt_of_ne hne with hlt | hgt
        · exact (List.pairwise_iff_getElem.1 hd) j i hjl hi' hlt (by rw [hjj, ex, he, h4])
        · exact (List.pairwise_iff_getElem.1 hd) i j hi' hjl hgt (by rw [hjj, ex, he, h4])
    refine ⟨Go.ChangeMaps.setBlock w b (.map (es.modify j (fun e' => { e' with key := .int .i64 k, val := v })) clock), ?_, ⟨_, _, (Go.MapKept.heap_set hb).1, ?_, ?_, ?_⟩, ?_, ?_⟩
    · simp [Instr.mapUpdate, run_underlying ht, Go.MapKept.run_getObj_map hb, Go.MapKept.run_checkKey hk (isKey_int k), h1, hj, h4, Go.MapKept.run_keyThatStays (isKey_int k), Go.MapKept.run_setObj_map _ hb, Result.andThen, Go.ChangeMaps.setBlock]
    · intro x hx
      rw [hlist] at hx
      rcases hset x hx with rfl | ⟨hx, _⟩
      · exact ⟨k, rfl⟩
      · exact hks x hx
    · rw [hlist]
      have hm : (es.toList.set j { e with key := .int .i64 k, val := v }).map (·.key) = es.toList.map (·.key) := by
        rw [List.map_set]
        refine List.ext_getElem? fun i => ?_
        rw [List.getElem?_set]
        by_cases hij : j = i
        · subst hij
          rw [if_pos rfl, if_pos (by simpa using hjl), List.getElem?_map, h3]
          simp [h4]
        · rw [if_neg hij]
      have h5 : (es.toList.map (·.key)).Pairwise (· ≠ ·) := List.pairwise_map.2 hd
      rw [← hm] at h5
      exact List.pairwise_map.1 h5
    · intro k' v'
      rw [hlist]
      have hmem : ({ e with key := .int .i64 k, val := v } : MapEntry) ∈ es.toList.set j { e with key := .int .i64 k, val := v } := List.mem_iff_getElem.2 ⟨j, by simpa using hjl, by simp⟩
      by_cases hkk : k' = k
      · subst hkk
        simp only [if_true, Option.some.injEq]
        constructor
        · rintro rfl
          exact ⟨_, hmem, rfl, rfl⟩
        · rintro ⟨x, hx, he, hv⟩
          rcases hset x hx with rfl | ⟨_, hne⟩
          · exact hv
          · exact absurd he hne
      · simp only [if_neg hkk]
        rw [hf]
        constructor
        · rintro ⟨x, hx, he, hv⟩
          obtain ⟨i, hi, ex⟩ := List.getElem_of_mem hx
          refine ⟨x, List.mem_iff_getElem.2 ⟨i, by simpa using hi, ?_⟩, he, hv⟩
          rw [List.getElem_set, if_neg]
          · exact ex
          · rintro rfl
            have hjj : es.toList[j] = e := (List.getElem?_eq_some_iff.1 h3).2
            rw [hjj] at ex
            subst ex
            rw [h4] at he
            simp only [Value.int.injEq, true_and] at he
            exact hkk he.symm
        · rintro ⟨x, hx, he, hv⟩
          rcases hset x hx with rfl | ⟨hx, _⟩
          · simp only [Value.int.injEq, true_and] at he
            exact absurd he.symm hkk
          · exact ⟨x, hx, he, hv⟩
    · exact ⟨rfl, rfl, rfl, by simp [Go.ChangeMaps.setBlock], fun i _ hn => (Go.MapKept.heap_set hb).2 i hn⟩
    · simp [Go.ChangeMaps.setBlock]

/-- 'delete(m, k)'. -/
theorem MapI.drop (h : MapI w b f) (ht : P.underlying t = some (.map kt et)) (hk : P.underlying kt = some (.int .i64)) (k : Int) (ty : TypeId) :
    ∃ w', (Builtin.delete_ #[t, kt] ty #[.map (some b), .int .i64 k]).run P w = .ok (.tuple #[]) w' ∧ MapI w' b (fun j => if j = k then none else f j) ∧ Turns (fun x => x = b) w w' ∧ w'.heap.size = w.heap.size := by
  obtain ⟨es, clock, hb, hks, hd, hf, h1 | ⟨j, e, h1, h2, h3, h4⟩⟩ := h.found hk k
  · obtain ⟨h1, h2, h3⟩ := h1
    refine ⟨Go.ChangeMaps.setBlock w b (.map es clock), ?_, ⟨_, _, (Go.MapKept.heap_set hb).1, hks, hd, ?_⟩, ?_, ?_⟩
    · simp [Builtin.delete_, run_underlying ht, Go.MapKept.run_getObj_map hb, Go.MapKept.run_checkKey hk (isKey_int k), h1, Go.MapKept.run_setObj_map _ hb, Result.andThen, Go.ChangeMaps.setBlock]
    · intro k' v'
      by_cases hkk : k' = k
      · subst hkk
        simp only [if_true]
        constructor
        · intro h; cases h
        · rintro ⟨x, hx, he, _⟩
          exact absurd he (h3 x hx)
      · simp only [if_neg hkk]
        exact hf k' v'
    · exact ⟨rfl, rfl, rfl, by simp [Go.ChangeMaps.setBlock], fun i _ hn => (Go.MapKept.heap_set hb).2 i hn⟩
    · simp [Go.ChangeMaps.setBlock]
  · have hjl : j < es.toList.length := (List.getElem?_eq_some_iff.1 h3).1
    have hjs : j < es.size := by simpa using hjl
    have hsub : (es.eraseIdxIfInBounds j).toList = es.toList.eraseIdx j := by
      unfold Array.eraseIdxIfInBounds
      rw [dif_pos hjs]
      simp
    have hjj : es.toList[j] = e := (List.getElem?_eq_some_iff.1 h3).2
    refine ⟨Go.ChangeMaps.setBlock w b (.map (es.eraseIdxIfInBounds j) clock), ?_, ⟨_, _, (Go.MapKept.heap_set hb).1, ?_, ?_, ?_⟩, ?_, ?_⟩
    · simp [Builtin.delete_, run_underlying ht, Go.MapKept.run_getObj_map hb, Go.MapKept.run_checkKey hk (isKey_int k), h1, Go.MapKept.run_setObj_map _ hb, Result.andThen, Go.ChangeMaps.setBlock]
    · intro x hx
      rw [hsub] at hx
      exact hks x ((List.eraseIdx_sublist _ _).subset hx)
    · rw [hsub]
      exact hd.sublist (List.eraseIdx_sublist _ _)
    · intro k' v'
      rw [hsub]
      by_cases hkk : k' = k
      · subst hkk
        simp only [if_true]
        constructor
        · intro h; cases h
        · rintro ⟨x, hx, he, _⟩
          obtain ⟨i, hne, hi⟩ := List.mem_eraseIdx_iff_getElem?.1 hx
          obtain ⟨hi', ex⟩ := List.getElem?_eq_some_iff.1 hi
          exfalso
          rcases Nat.lt_or_gt_of_ne hne with hlt | hgt
          · exact (List.pairwise_iff_getElem.1 hd) i j hi' hjl hlt (by rw [hjj, ex, he, h4])
          · exact (List.pairwise_iff_getElem.1 hd) j i hjl hi' hgt (by rw [hjj, ex, he, h4])
      · simp only [if_neg hkk]
        rw [hf]
        constructor
        · rintro ⟨x, hx, he, hv⟩
          obtain ⟨i, hi, ex⟩ := List.getElem_of_mem hx
          refine ⟨x, List.mem_eraseIdx_iff_getElem?.2 ⟨i, ?_, by rw [List.getElem?_eq_getElem hi, ex]⟩, he, hv⟩
          rintro rfl
          rw [hjj] at ex
          subst ex
          rw [h4] at he
          simp only [Value.int.injEq, true_and] at he
          exact hkk he.symm
        · rintro ⟨x, hx, he, hv⟩
          exact ⟨x, (List.eraseIdx_sublist _ _).subset hx, he, hv⟩
    · exact ⟨rfl, rfl, rfl, by simp [Go.ChangeMaps.setBlock], fun i _ hn => (Go.MapKept.heap_set hb).2 i hn⟩
    · simp [Go.ChangeMaps.setBlock]

end

section
variable {P : Program} (w : World) {ops : Array Oper} {rest : List Oper} {o : Oper} {a : Act} {Q : Exit → Act → World → Prop}
/-- At the operations, for the walk. -/
theorem wpList_look (hg : o.guard = none) (m x : Operand) (t : TypeId) (c : Bool) (hop : o.op = Op.lookup t m x c) (kt et : TypeId) (ht : P.underlying t = some (.map kt et)) (hk : P.underlying kt = some (.int .i64))
    (z : Value) (hz : (zeroValue et).run P w = .ok z w) (b : Nat) (f : Int → Option Value) (hm : a.eval m = .map (some b)) (h : MapI w b f) (k : Int) (hx : a.eval x = .int .i64 k)
    (hK : wpList P ops Q rest (a.put o.dst (if c then .tuple #[(f k).getD z, .bool (f k).isSome] else (f k).getD z)) w) : wpList P ops Q (o :: rest) a w := by
  refine wpList_plain hg fun K' hK' => ?_
  have hrun := h.look ht hk hz k c
  unfold Oper.wp
  simp [execOp, hop, hm, hx, hrun, Result.andThen]
  exact hK' _ _ hK

/-- A look-up whose run is known. -/
theorem wpList_lookrun (hg : o.guard = none) (m x : Operand) (t : TypeId) (c : Bool) (hop : o.op = Op.lookup t m x c) (mv kv v : Value) (hm : a.eval m = mv) (hx : a.eval x = kv)
    (hrun : (Instr.lookup t mv kv c).run P w = .ok v w) (hK : wpList P ops Q rest (a.put o.dst v) w) : wpList P ops Q (o :: rest) a w := by
  refine wpList_plain hg fun K' hK' => ?_
  unfold Oper.wp
  simp [execOp, hop, hm, hx, hrun, Result.andThen]
  exact hK' _ _ hK

theorem wpList_store (hg : o.guard = none) (m x v : Operand) (t : TypeId) (hop : o.op = Op.mapUpdate t m x v) (kt et : TypeId) (ht : P.underlying t = some (.map kt et)) (hk : P.underlying kt = some (.int .i64))
    (b : Nat) (f : Int → Option Value) (hm : a.eval m = .map (some b)) (h : MapI w b f) (k : Int) (hx : a.eval x = .int .i64 k) (val : Value) (hv : a.eval v = val)
    (hK : ∀ w', MapI w' b (fun j => if j = k then some val else f j) → Turns (fun x => x = b) w w' → w'.heap.size = w.heap.size → wpList P ops Q rest (a.put o.dst undef) w') : wpList P ops Q (o :: rest) a w := by
  refine wpList_plain hg fun K' hK' => ?_
  obtain ⟨w', hrun, r1, r2, r3⟩ := h.store ht hk k val
  unfold Oper.wp
  simp [execOp, hop, hm, hx, hv, hrun, Result.andThen]
  exact hK' _ _ (hK w' r1 r2 r3)

theorem wpList_drop (hg : o.guard = none) (m x : Operand) (t kt : TypeId) (hop : o.op = Op.call { callee := Callee.builtin Builtin.delete, args := #[m, x], argTypes := #[t, kt] }) (et : TypeId) (ht : P.underlying t = some (.map kt et)) (hk : P.underlying kt = some (.int .i64))
    (b : Nat) (f : Int → Option Value) (hm : a.eval m = .map (some b)) (h : MapI w b f) (k : Int) (hx : a.eval x = .int .i64 k)
    (hK : ∀ w', MapI w' b (fun j => if j = k then none else f j) → Turns (fun x => x = b) w w' → w'.heap.size = w.heap.size → wpList P ops Q rest (a.put o.dst (.tuple #[])) w') : wpList P ops Q (o :: rest) a w := by
  refine wpList_plain hg fun K' hK' => ?_
  obtain ⟨w', hrun, r1, r2, r3⟩ := h.drop ht hk k o.type
  unfold Oper.wp
  simp [execOp, hop, resolve, invoke, builtin, hm, hx, hrun, Result.andThen]
  exact hK' _ _ (hK w' r1 r2 r3)
end
end Go.Proofs.Ytgjgopcomgclkaa
