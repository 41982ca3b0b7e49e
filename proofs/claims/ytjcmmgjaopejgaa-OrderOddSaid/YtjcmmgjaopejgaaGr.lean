/-
  Rows that are made anew by appends, as steps of a region that draws its order.
-/
import Derived.Test.YtjcmmgjaopejgaaMem
import Derived.Test.YtjcmmgjaopejgaaRg3
import Derived.Deep.Upon
import Derived.Great.BuildSlice
namespace Go.Proofs.Ytjcmmgjaopejgaa
open Go.RowKit
set_option linter.unusedVariables false
set_option linter.unusedSimpArgs false

/-- A row that was made since W, of these elements. -/
structure Grow {α : Type} (enc : α → List Value) (T : TypeId) (size : Nat) (W w : World) (v : Value) (M : List α) : Prop where
  made : Made W w
  own : Owns enc T size w v M
  far : ∀ c, v.ownBlock = some c → W.heap.size ≤ c
/-- What an append takes from: nothing, or elements that lie in a row. -/
def SrcAt {α : Type} (enc : α → List Value) (w : World) (xv : Value) (N : List α) : Prop :=
  (xv = .slice none 0 0 ∧ N = []) ∨ ∃ ad c, xv = .slice (some ad) N.length c ∧ ∀ j u, (flat enc N)[j]? = some u → w.cell? (ad.add j) = some u

section
variable {α : Type} {enc : α → List Value} {T : TypeId} {size : Nat} {W w : World} {v : Value} {M : List α}
theorem Grow.alloc (h : Grow enc T size W w v M) (o : Obj) : Grow enc T size W (w.alloc o) v M := ⟨Turns.alloc h.made o, World.ownsRow.alloc h.own o, h.far⟩
theorem Grow.drew (h : Grow enc T size W w v M) : Grow enc T size W w.drew v M := ⟨Turns.drew h.made, World.ownsRow.drew h.own, h.far⟩
theorem Grow.new (hm : Made W w) : Grow enc T size W (w.alloc (.cells #[] T)) (.slice (some ⟨w.heap.size, 0, none⟩) 0 0) ([] : List α) :=
  ⟨Turns.alloc hm _, World.ownsRow_made w #[] 0 (Nat.zero_le _) (Nat.zero_le _) (by simp), fun c hc => by
    simp only [Value.ownBlock, Option.some.injEq] at hc
    subst hc
    exact hm.size⟩
theorem Grow.turns {w' : World} {S : Nat → Prop} (h : Grow enc T size W w v M) (ht : Turns S w w') (h1 : ∀ c, c < W.heap.size → ¬ S c) (h2 : ∀ c, v.ownBlock = some c → ¬ S c) : Grow enc T size W w' v M :=
  ⟨h.made.then ht (fun b hb hs => h1 b hb hs), h.own.turns ht h2, h.far⟩
theorem Grow.put (he : ∀ x, (enc x).length = size) {g cap i j : Nat} {x x' : α} {u : Value} (h : Grow enc T size W w (.slice (some ⟨g, 0, none⟩) M.length cap) M) (hx : M[i]? = some x) (hu : enc x' = (enc x).set j u) (hj : j < size) :
    Grow enc T size W (w.setCell ⟨g, i * size + j, none⟩ u) (.slice (some ⟨g, 0, none⟩) M.length cap) (M.set i x') :=
  ⟨h.made.setCell (p := ⟨g, i * size + j, none⟩) (fun hlt => by have := h.far g rfl; simp only at hlt; omega) u, Owns.put he h.own hx hu hj, h.far⟩
theorem SrcAt.nothing : SrcAt enc w (.slice none 0 0) ([] : List α) := .inl ⟨rfl, rfl⟩
theorem SrcAt.block {b n c : Nat} {N : List α} {cs : Array Value} (h : Blk w b T cs) (hn : N.length = n) (hc : cs = (flat enc N).toArray) : SrcAt enc w (.slice (some ⟨b, 0, none⟩) n c) N := by
  subst hn
  refine .inr ⟨_, _, rfl, fun j u hu => ?_⟩
  have h1 := h.cell (0 + j)
  rw [Addr.add_lit]
  simp only [Nat.zero_add] at h1 ⊢
  rw [h1, hc]
  simpa using hu
/-- The first ones of a row that is owned. -/
theorem SrcAt.pre (he : ∀ x, (enc x).length = size) {g cap c k : Nat} {L : List α} (h : Owns enc T size w (.slice (some ⟨g, 0, none⟩) L.length cap) L) (hk : k ≤ L.length) : SrcAt enc w (.slice (some ⟨g, 0, none⟩) k c) (L.take k) := by
  refine .inr ⟨⟨g, 0, none⟩, c, by rw [List.length_take, Nat.min_eq_left hk], fun j u hu => ?_⟩
  refine World.ownsRow.cells (g := g) h rfl j u ?_
  have e : flat enc L = flat enc (L.take k) ++ flat enc (L.drop k) := by rw [← flat_append, List.take_append_drop]
  rw [e, List.getElem?_append_left (List.getElem?_eq_some_iff.1 hu).1]
  exact hu
/-- The last ones. -/
theorem SrcAt.post (he : ∀ x, (enc x).length = size) {g cap c k n o : Nat} {L : List α} (h : Owns enc T size w (.slice (some ⟨g, 0, none⟩) L.length cap) L) (hk : k ≤ L.length) (hn : n = L.length - k) (ho : o = k * size) : SrcAt enc w (.slice (some ⟨g, o, none⟩) n c) (L.drop k) := by
  subst hn ho
  refine .inr ⟨⟨g, k * size, none⟩, c, by rw [List.length_drop], fun j u hu => ?_⟩
  have hl : (flat enc (L.take k)).length = k * size := by rw [flat_length he, List.length_take, Nat.min_eq_left hk]
  have h1 := World.ownsRow.cells (g := g) h rfl (k * size + j) u (by
    have e : flat enc L = flat enc (L.take k) ++ flat enc (L.drop k) := by rw [← flat_append, List.take_append_drop]
    rw [e, List.getElem?_append_right (by omega), hl]
    simpa using hu)
  rw [Addr.add_lit] at h1 ⊢
  simpa using h1
/-- None are left. -/
theorem SrcAt.none_left {g c : Nat} {L : List α} {k : Nat} (hk : L.length ≤ k) : SrcAt enc w (.slice (some ⟨g, 0, none⟩) 0 c) (L.drop k) := by
  rw [List.drop_of_length_le hk]
  exact .inr ⟨_, _, rfl, fun j u hu => by simp [flat] at hu⟩
theorem owns_slice (h : Owns enc T size w v M) : ∃ a c, v = .slice a M.length c := by
  rcases h.form with ⟨rfl, rfl⟩ | ⟨g, cap, rfl, _⟩
  · exact ⟨none, 0, rfl⟩
  · exact ⟨_, _, rfl⟩
end

section
variable {P : Program} {ops : Array Oper} {o : Oper} {a : Act} {K : Act → World → Prop} {Q : Exit → Act → World → Prop} {E : Prop} {α : Type} {enc : α → List Value} {T : TypeId} {size : Nat} {W w : World} {v : Value} {M N : List α}
/-- 'append(row, ys...)'. -/
theorem step_grow (hgd : o.guard = none) (s x : Operand) (t : TypeId) (ho : o.op = .call { callee := .builtin .append, args := #[s, x], argTypes := #[t, t] })
    (i : TypeInfo) (z : Value) (bytes : Nat) (ht : P.underlying t = some (.slice T)) (hi : P.info? T = some i) (hz : i.zero = some z) (hsize : i.size = size) (hby : i.bytes = bytes) (hzs : z.cells.size = size) (hsz : 0 < size)
    (he : ∀ x, (enc x).length = size) (h1 : ∀ x, ∀ u ∈ enc x, u.oneCell' = true)
    (hs : a.eval s = v) (hg : Grow enc T size W w v M) {xv : Value} (hx : a.eval x = xv) (hsrc : SrcAt enc w xv N) (h63 : M.length + N.length ≤ maxLen) (hbytes : (M.length + N.length) * bytes ≤ 140737488355328)
    (h : ∀ v' w', Grow enc T size W w' v' (M ++ N) → (∀ c, c < w.heap.size → v.ownBlock ≠ some c → w'.heap[c]? = w.heap[c]?) → w.heap.size ≤ w'.heap.size → (v'.ownBlock = v.ownBlock ∨ v'.ownBlock = some w.heap.size) → K (a.put o.dst v') w') :
    if Region.wanted o (yielded ops a.tmps) = true then Oper.wp P o a w K Q else E := by
  have hw : Region.wanted o (yielded ops a.tmps) = true := by simp [Region.wanted, hgd]
  rw [if_pos hw]
  obtain ⟨a', c', hv⟩ := owns_slice hg.own
  have hcap : M.length ≤ c' := by
    rcases hg.own.form with ⟨hv2, h0⟩ | ⟨g, cap, hv2, _, h3, _⟩
    · rw [h0]; simp
    · rw [hv] at hv2
      simp only [Value.slice.injEq] at hv2
      omega
  rcases hsrc with ⟨rfl, rfl⟩ | ⟨ad, c, rfl, hnews⟩
  · have hr := run_append_nothing (P := P) w t t o.type T i ht hi a' M.length c' hcap (.slice none 0 0) (by
      refine ⟨.inl ⟨_, ht⟩, fun w' => ?_, ?_, ?_, by simp, by simp⟩
      · rfl
      · cases hss : i.size <;> rfl
      · cases hss : i.size <;> rfl)
    unfold Oper.wp execOp
    simp only [ho, resolve, invoke, builtin, Sem.run_bind, Sem.run_pure, Result.andThen_ok, List.map_toArray, List.map_cons, List.map_nil, hs, hx, hv, hr]
    exact h (.slice a' M.length c') w (by rw [List.append_nil, ← hv]; exact hg) (fun _ _ _ => rfl) (Nat.le_refl _) (.inl (by rw [hv]))
  · have hol := hg.own
    unfold Owns at hol
    obtain ⟨v', w', hr, h2, h3, _, h5⟩ := run_append_own_at (P := P) w 0 t o.type T i z size bytes ht hi hz hsize hby hzs hsz v M.length (flat enc M) hol ad N.length c (flat enc N) (flat_length he N) hnews (fun u hu => by
      unfold flat at hu
      obtain ⟨y, _, hy⟩ := List.mem_flatMap.1 hu
      exact h1 y u hy) h63 hbytes (Nat.zero_le _)
    have hmw := hg.made.size
    have hmd : Made W w' := hg.made.grown h3 (fun k hk hlt => by have := hg.far k hk; omega)
    unfold Oper.wp execOp
    simp only [ho, resolve, invoke, builtin, Sem.run_bind, Sem.run_pure, Result.andThen_ok, List.map_toArray, List.map_cons, List.map_nil, hs, hx, hr]
    refine h v' w' ⟨hmd, ?_, fun c hc => ?_⟩ (fun c hc hn => h3.block c hc (fun e => hn e.symm)) h3.size h5
    · unfold Owns
      rw [flat_append, List.length_append]
      exact h2
    · rcases h5 with e | e
      · exact hg.far c (by rw [← e]; exact hc)
      · rw [e, Option.some.injEq] at hc
        omega
/-- The same in a row of operations that draws nothing. -/
theorem wpList_grow {rest : List Oper} (hgd : o.guard = none) (s x : Operand) (t : TypeId) (ho : o.op = .call { callee := .builtin .append, args := #[s, x], argTypes := #[t, t] })
    (i : TypeInfo) (z : Value) (bytes : Nat) (ht : P.underlying t = some (.slice T)) (hi : P.info? T = some i) (hz : i.zero = some z) (hsize : i.size = size) (hby : i.bytes = bytes) (hzs : z.cells.size = size) (hsz : 0 < size)
    (he : ∀ x, (enc x).length = size) (h1 : ∀ x, ∀ u ∈ enc x, u.oneCell' = true)
    (hs : a.eval s = v) (hg : Grow enc T size W w v M) {xv : Value} (hx : a.eval x = xv) (hsrc : SrcAt enc w xv N) (h63 : M.length + N.length ≤ maxLen) (hbytes : (M.length + N.length) * bytes ≤ 140737488355328)
    (h : ∀ v' w', Grow enc T size W w' v' (M ++ N) → (∀ c, c < w.heap.size → v.ownBlock ≠ some c → w'.heap[c]? = w.heap[c]?) → w.heap.size ≤ w'.heap.size → (v'.ownBlock = v.ownBlock ∨ v'.ownBlock = some w.heap.size) → wpList P ops Q rest (a.put o.dst v') w') :
    wpList P ops Q (o :: rest) a w := by
  refine wpList_plain hgd fun K hK => ?_
  have h0 := step_grow (K := K) (Q := Q) (E := True) (ops := ops) hgd s x t ho i z bytes ht hi hz hsize hby hzs hsz he h1 hs hg hx hsrc h63 hbytes (fun v' w' h1 h2 h3 h4 => hK _ _ (h v' w' h1 h2 h3 h4))
  rwa [if_pos (by simp [Region.wanted, hgd])] at h0
/-- '[]T{}'. -/
theorem step_empty (enc : α → List Value) (size : Nat) (hgd : o.guard = none) (t : TypeId) (ho : o.op = .buildSlice t 0 #[]) (i : TypeInfo) (z : Value) (ht : P.underlying t = some (.slice T)) (hi : P.info? T = some i) (hz : i.zero = some z)
    (hm : Made W w) (h : ∀ b w', Grow enc T size W w' (.slice (some ⟨b, 0, none⟩) 0 0) ([] : List α) → Made w w' → w.heap.size ≤ b → K (a.put o.dst (.slice (some ⟨b, 0, none⟩) 0 0)) w') :
    if Region.wanted o (yielded ops a.tmps) = true then Oper.wp P o a w K Q else E := by
  have hw : Region.wanted o (yielded ops a.tmps) = true := by simp [Region.wanted, hgd]
  rw [if_pos hw]
  have h2 := h _ _ (Grow.new hm) (Turns.alloc (Turns.refl _ w) _) (Nat.le_refl _)
  have hr : (Instr.buildSlice t 0 #[]).run P w = .ok (.slice (some ⟨w.heap.size, 0, none⟩) 0 0) (w.alloc (.cells #[] T)) := by
    simp [Instr.buildSlice, run_underlying ht, sizeOf, typeInfo, zeroValue, hi, hz, newRow, Instr.fill]
    rw [show (Array.range 0) = #[] from by first | rfl | decide | simp [Array.range], List.map_toArray, List.map_nil]
  unfold Oper.wp execOp
  simp only [ho, Sem.run_bind, List.map_toArray, List.map_nil, hr, Result.andThen_ok]
  exact h2
/-- '[]T{x, ..}'. -/
theorem step_lit (hgd : o.guard = none) (t : TypeId) (n : Nat) (parts : Array (Nat × Operand)) (ho : o.op = .buildSlice t n parts) (i : TypeInfo) (z : Value) (ht : P.underlying t = some (.slice T)) (hi : P.info? T = some i) (hz : i.zero = some z)
    (hsmall : ¬ n * i.size > 2 ^ 24) (hpos : ¬ n * i.size = 0) (cells : Array Value)
    (hf : Instr.fill (fun k => some (k * i.size, i.size)) ((Array.range (n * i.size)).map (z.cells[· % z.cells.size]!)) (parts.map fun (k, x) => (k, a.eval x)).toList = some cells)
    (h : ∀ b w', Made w w' → Blk w' b T cells → w.heap.size ≤ b → K (a.put o.dst (.slice (some ⟨b, 0, none⟩) n n)) w') :
    if Region.wanted o (yielded ops a.tmps) = true then Oper.wp P o a w K Q else E := by
  have hw : Region.wanted o (yielded ops a.tmps) = true := by simp [Region.wanted, hgd]
  rw [if_pos hw]
  exact wp_buildSlice t T n parts ho cells i z ht hi hz hsmall hpos hf (h _ _ (Turns.alloc (Turns.refl _ w) (.cells cells T)) (Blk.new w T cells) (Nat.le_refl _))
/-- '[]T{x}', x a struct. -/
theorem step_single (hgd : o.guard = none) (t : TypeId) (s : Operand) (ho : o.op = .buildSlice t 1 #[(0, s)]) (i : TypeInfo) (z : Value) (ht : P.underlying t = some (.slice T)) (hi : P.info? T = some i) (hz : i.zero = some z)
    (hsmall : ¬ 1 * i.size > 2 ^ 24) (hpos : ¬ 1 * i.size = 0) (cells : Array Value) (hs : a.eval s = .agg cells)
    (hf : Instr.fill (fun k => some (k * i.size, i.size)) ((Array.range (1 * i.size)).map (z.cells[· % z.cells.size]!)) [(0, .agg cells)] = some cells)
    (h : ∀ b w', Made w w' → Blk w' b T cells → w.heap.size ≤ b → K (a.put o.dst (.slice (some ⟨b, 0, none⟩) 1 1)) w') :
    if Region.wanted o (yielded ops a.tmps) = true then Oper.wp P o a w K Q else E :=
  step_lit hgd t 1 _ ho i z ht hi hz hsmall hpos cells (by simp only [List.map_toArray, List.map_cons, List.map_nil, hs]; exact hf) h
end
end Go.Proofs.Ytjcmmgjaopejgaa
