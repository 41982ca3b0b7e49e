/-
  The traces of OrderOdd, without the program.
-/
import Derived.Test.YtjcmmgjaopejgaaP4
namespace Go.Proofs.Ytjcmmgjaopejgaa
open Go.RowKit Go.Sort
set_option linter.unusedVariables false
set_option linter.unusedSimpArgs false

section
variable {P : Program} {ops : Array Oper} {o : Oper} {a : Act} {K : Act → World → Prop} {Q : Exit → Act → World → Prop} {E : Prop} {α : Type} {enc : α → List Value} {T : TypeId} {size : Nat} {W w : World} {v : Value} {M N : List α}
theorem step_growW (hw : Region.wanted o (yielded ops a.tmps) = true) (s x : Operand) (t : TypeId) (ho : o.op = .call { callee := .builtin .append, args := #[s, x], argTypes := #[t, t] })
    (i : TypeInfo) (z : Value) (bytes : Nat) (ht : P.underlying t = some (.slice T)) (hi : P.info? T = some i) (hz : i.zero = some z) (hsize : i.size = size) (hby : i.bytes = bytes) (hzs : z.cells.size = size) (hsz : 0 < size)
    (he : ∀ x, (enc x).length = size) (h1 : ∀ x, ∀ u ∈ enc x, u.oneCell' = true)
    (hs : a.eval s = v) (hg : Grow enc T size W w v M) {xv : Value} (hx : a.eval x = xv) (hsrc : SrcAt enc w xv N) (h63 : M.length + N.length ≤ maxLen) (hbytes : (M.length + N.length) * bytes ≤ 140737488355328)
    (h : ∀ v' w', Grow enc T size W w' v' (M ++ N) → (∀ c, c < w.heap.size → v.ownBlock ≠ some c → w'.heap[c]? = w.heap[c]?) → w.heap.size ≤ w'.heap.size → (v'.ownBlock = v.ownBlock ∨ v'.ownBlock = some w.heap.size) → K (a.put o.dst v') w') :
    if Region.wanted o (yielded ops a.tmps) = true then Oper.wp P o a w K Q else E := by
  rw [if_pos hw]
  obtain ⟨a', c', hv⟩ := owns_slice hg.own
  have hcap : M.length ≤ c' := by
    rcases hg.own.form with ⟨hv2, h0⟩ | ⟨g, cap, hv2, _, h3, _⟩
    · rw [h0]; simp
    · rw [hv] at hv2
      simp only [Value.slice.injEq] at hv2
      omega
  rcases hsrc with ⟨rfl, rfl⟩ | ⟨ad, c, rfl, hnews⟩
  · have hr := run_append_nothing (P := P) w t t o.type T i ht hi a' M.length c' hcap (.slice none 0 0) (by
      refine ⟨.inl ⟨_, ht⟩, fun w' => ?_, ?_, ?_, by simp, by simp⟩
      · rfl
      · cases hss : i.size <;> rfl
      · cases hss : i.size <;> rfl)
    unfold Oper.wp execOp
    simp only [ho, resolve, invoke, builtin, Sem.run_bind, Sem.run_pure, Result.andThen_ok, List.map_toArray, List.map_cons, List.map_nil, hs, hx, hv, hr]
    exact h (.slice a' M.length c') w (by rw [List.append_nil, ← hv]; exact hg) (fun _ _ _ => rfl) (Nat.le_refl _) (.inl (by rw [hv]))
  · have hol := hg.own
    unfold Owns at hol
    obtain ⟨v', w', hr, h2, h3, _, h5⟩ := run_append_own_at (P := P) w 0 t o.type T i z size bytes ht hi hz hsize hby hzs hsz v M.length (flat enc M) hol ad N.length c (flat enc N) (flat_length he N) hnews (fun u hu => by
      unfold flat at hu
      obtain ⟨y, _, hy⟩ := List.mem_flatMap.1 hu
      exact h1 y u hy) h63 hbytes (Nat.zero_le _)
    have hmw := hg.made.size
    have hmd : Made W w' := hg.made.grown h3 (fun k hk hlt => by have := hg.far k hk; omega)
    unfold Oper.wp execOp
    simp only [ho, resolve, invoke, builtin, Sem.run_bind, Sem.run_pure, Result.andThen_ok, List.map_toArray, List.map_cons, List.map_nil, hs, hx, hr]
    refine h v' w' ⟨hmd, ?_, fun c hc => ?_⟩ (fun c hc hn => h3.block c hc (fun e => hn e.symm)) h3.size h5
    · unfold Owns
      rw [flat_append, List.length_append]
      exact h2
    · rcases h5 with e | e
      · exact hg.far c (by rw [← e]; exact hc)
      · rw [e, Option.some.injEq] at hc
        omega
theorem step_emptyW (enc : α → List Value) (size : Nat) (hw : Region.wanted o (yielded ops a.tmps) = true) (t : TypeId) (ho : o.op = .buildSlice t 0 #[]) (i : TypeInfo) (z : Value) (ht : P.underlying t = some (.slice T)) (hi : P.info? T = some i) (hz : i.zero = some z)
    (hm : Made W w) (h : ∀ b w', Grow enc T size W w' (.slice (some ⟨b, 0, none⟩) 0 0) ([] : List α) → Made w w' → w.heap.size ≤ b → K (a.put o.dst (.slice (some ⟨b, 0, none⟩) 0 0)) w') :
    if Region.wanted o (yielded ops a.tmps) = true then Oper.wp P o a w K Q else E := by
  rw [if_pos hw]
  have h2 := h _ _ (Grow.new hm) (Turns.alloc (Turns.refl _ w) _) (Nat.le_refl _)
  have hr : (Instr.buildSlice t 0 #[]).run P w = .ok (.slice (some ⟨w.heap.size, 0, none⟩) 0 0) (w.alloc (.cells #[] T)) := by
    simp [Instr.buildSlice, run_underlying ht, sizeOf, typeInfo, zeroValue, hi, hz, newRow, Instr.fill]
    rw [show (Array.range 0) = #[] from by first | rfl | decide | simp [Array.range], List.map_toArray, List.map_nil]
  unfold Oper.wp execOp
  simp only [ho, Sem.run_bind, List.map_toArray, List.map_nil, hr, Result.andThen_ok]
  exact h2
theorem step_litW (hw : Region.wanted o (yielded ops a.tmps) = true) (t : TypeId) (n : Nat) (parts : Array (Nat × Operand)) (ho : o.op = .buildSlice t n parts) (i : TypeInfo) (z : Value) (ht : P.underlying t = some (.slice T)) (hi : P.info? T = some i) (hz : i.zero = some z)
    (hsmall : ¬ n * i.size > 2 ^ 24) (hpos : ¬ n * i.size = 0) (cells : Array Value)
    (hf : Instr.fill (fun k => some (k * i.size, i.size)) ((Array.range (n * i.size)).map (z.cells[· % z.cells.size]!)) (parts.map fun (k, x) => (k, a.eval x)).toList = some cells)
    (h : ∀ b w', Made w w' → Blk w' b T cells → w.heap.size ≤ b → K (a.put o.dst (.slice (some ⟨b, 0, none⟩) n n)) w') :
    if Region.wanted o (yielded ops a.tmps) = true then Oper.wp P o a w K Q else E := by
  rw [if_pos hw]
  exact wp_buildSlice t T n parts ho cells i z ht hi hz hsmall hpos hf (h _ _ (Turns.alloc (Turns.refl _ w) (.cells cells T)) (Blk.new w T cells) (Nat.le_refl _))
theorem step_singleW (hw : Region.wanted o (yielded ops a.tmps) = true) (t : TypeId) (s : Operand) (ho : o.op = .buildSlice t 1 #[(0, s)]) (i : TypeInfo) (z : Value) (ht : P.underlying t = some (.slice T)) (hi : P.info? T = some i) (hz : i.zero = some z)
    (hsmall : ¬ 1 * i.size > 2 ^ 24) (hpos : ¬ 1 * i.size = 0) (cells : Array Value) (hs : a.eval s = .agg cells)
    (hf : Instr.fill (fun k => some (k * i.size, i.size)) ((Array.range (1 * i.size)).map (z.cells[· % z.cells.size]!)) [(0, .agg cells)] = some cells)
    (h : ∀ b w', Made w w' → Blk w' b T cells → w.heap.size ≤ b → K (a.put o.dst (.slice (some ⟨b, 0, none⟩) 1 1)) w') :
    if Region.wanted o (yielded ops a.tmps) = true then Oper.wp P o a w K Q else E :=
  step_litW hw t 1 _ ho i z ht hi hz hsmall hpos cells (by simp only [List.map_toArray, List.map_cons, List.map_nil, hs]; exact hf) h
end
/-- A whole row. -/
theorem SrcAt.whole {α : Type} {enc : α → List Value} {size : Nat} {T : TypeId} {w : World} {v : Value} {L : List α} (he : ∀ x, (enc x).length = size) (h : Owns enc T size w v L) : SrcAt enc w v L := by
  rcases h.form with ⟨rfl, rfl⟩ | ⟨g, cap, rfl, _⟩
  · exact SrcAt.nothing
  · have h2 := SrcAt.pre (c := cap) he h (Nat.le_refl L.length)
    rwa [List.take_length] at h2
def fourE (i : Int) : List Ev := [⟨i, 5, i, 0, 0, 0⟩, ⟨i, 2, i, 0, 0, 0⟩, ⟨i + 1, 3, i, 0, 0, 0⟩, ⟨i + 1, 1, i, 0, 0, 0⟩]
def rawL : Nat → List Ev
  | 0 => []
  | j + 1 => rawL j ++ fourE ((j : Int) + 1)
def goodL (m : Nat) : List Ev := [⟨(m : Int) + 5, 4, m, 0, 0, 0⟩, ⟨(m : Int) + 5, 5, (m : Int) + 1, 0, 0, 0⟩, ⟨(m : Int) + 5, 8, 0, 0, 0, 0⟩, ⟨(m : Int) + 5, 2, 0, 0, 0, 0⟩]
def oddL (m : Nat) : List Ev := [⟨(m : Int) + 5, 3, m, 0, 0, 0⟩, ⟨(m : Int) + 5, 5, (m : Int) + 2, 0, 0, 0⟩, ⟨0, 1, m, 0, 0, 0⟩, ⟨(m : Int) + 5, 9, m, 0, 0, 0⟩, ⟨(m : Int) + 5, 1, (m : Int) + 1, 0, 0, 0⟩, ⟨(m : Int) + 5, 5, m, 0, 0, 0⟩, ⟨(m : Int) + 5, 3, 0, 0, 0, 0⟩, ⟨(m : Int) + 5, 0, 0, 0, 0, 0⟩]
def good0 (m : Nat) : Ev := ⟨(m : Int) + 5, 4, m, 0, 0, 0⟩
def lateE (m : Nat) : Ev := ⟨(m : Int) + 5, 1, m, 0, 0, 0⟩
theorem rawL_len (j : Nat) : (rawL j).length = 4 * j := by
  induction j with
  | zero => rfl
  | succ j ih => unfold rawL; rw [List.length_append, ih]; simp [fourE]; omega
theorem facts0 : ∀ m : Fin 21, 1 ≤ m.val → soundM (rawL m) = true ∧ soundM (rawL m ++ [good0 m] ++ [lateE m]) = false ∧ soundM (rawL m ++ [good0 m] ++ [good0 m]) = false := by decide +kernel
theorem facts1 : ∀ m : Fin 21, 1 ≤ m.val → ∀ x ∈ goodL m, soundM (rawL m ++ [x]) = true := by decide +kernel
theorem facts2 : ∀ m : Fin 21, 1 ≤ m.val → ∀ x ∈ oddL m, soundM (rawL m ++ [x]) = false := by decide +kernel
def upB (a b : Option Ev) : Bool := match a, b with
  | some x, some y => decide (x.step ≤ y.step)
  | _, _ => true
theorem facts3 : ∀ m : Fin 21, ∀ i : Fin 84, upB (rawL m)[i.val]? (rawL m)[i.val + 1]? = true := by decide +kernel
theorem raw_up {m i : Nat} (hm : m ≤ 20) {x y : Ev} (hx : (rawL m)[i]? = some x) (hy : (rawL m)[i + 1]? = some y) : x.step ≤ y.step := by
  have hi : i + 1 < 4 * m := by rw [← rawL_len]; exact (List.getElem?_eq_some_iff.1 hy).1
  have h := facts3 ⟨m, by omega⟩ ⟨i, by omega⟩
  simp only at h
  rw [hx, hy] at h
  exact of_decide_eq_true h
theorem fillE {i : TypeInfo} (h : i.size = 6) (a b c d e f : Value) : Instr.fill (fun k => some (k * i.size, i.size)) ((Array.range (1 * i.size)).map ((Value.agg #[.int .i64 0, .int .i64 0, .int .i64 0, .int .i64 0, .int .i64 0, .int .i64 0]).cells[· % (Value.agg #[.int .i64 0, .int .i64 0, .int .i64 0, .int .i64 0, .int .i64 0, .int .i64 0]).cells.size]!)) [(0, .agg #[a, b, c, d, e, f])] = some #[a, b, c, d, e, f] := by
  rw [h]
  first | kernel_rfl | simp [Instr.fill]
theorem ret_int {k : IntKind} {a b : Int} (h : a = b) : Ending.returned (.int k a) = .returned (.int k b) := by rw [h]
theorem tmod_round (k n : Int) (hn : 0 < n) : (k.tmod n + n).tmod n = k % n := by
  have h2 := Int.lt_tmod_of_pos k hn
  rw [Int.tmod_eq_emod_of_nonneg (by omega), Int.add_emod_right]
  have e := Int.tmod_add_mul_tdiv k n
  have e2 : k.tmod n = k - n * k.tdiv n := by omega
  rw [e2, Int.sub_mul_emod_self_left]
theorem round_c (k n : Int) (w : World) (hn : 0 < n) (hb : n ≤ 4611686018427387904) : Calls Try.prog 15 #[.int .i64 k, .int .i64 n] w fun e w' => e = .returned (.int .i64 (k % n)) ∧ w = w' := by
  have h1 := Int.tmod_lt_of_pos k hn
  have h2 := Int.lt_tmod_of_pos k hn
  have h3 := tmod_round k n hn
  have h4 : 0 ≤ k % n := Int.emod_nonneg _ (by omega)
  have h5 : k % n < n := Int.emod_lt_of_pos _ hn
  have n1 : ¬ n = 0 := by omega
  have n2 : (n == 0) = false := beq_eq_false_iff_ne.mpr n1
  generalize hr : k % n = r at *
  generalize ha : k.tmod n = a at *
  have w1 : wrap64 a = a := by unfold wrap64; omega
  have w2 : wrap64 (a + n) = a + n := by unfold wrap64; omega
  generalize hs : a + n = s at *
  have w3 : s % n = r := by rw [← Int.tmod_eq_emod_of_nonneg (by omega)]; exact h3
  have H := Lib.hid hr
  clear hr h3
  go_enter Try.func15, Try.ntmps15
  go_wp2
  go_ret
  exact ⟨ret_int w3, rfl⟩

end Go.Proofs.Ytjcmmgjaopejgaa
