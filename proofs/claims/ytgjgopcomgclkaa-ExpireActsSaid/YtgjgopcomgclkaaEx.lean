/-
  Package expire: what its timers are; New, Stop, Arm, Armed, Next, Len.
-/
import Derived.Test.YtgjgopcomgclkaaClkE
import Derived.Test.YtgjgopcomgclkaaHpW
namespace Go.Proofs.Ytgjgopcomgclkaa
open Go.RowKit
set_option linter.unusedVariables false
set_option linter.unusedSimpArgs false

def pv (pf : Int → Option Int) : Int → Option Value := fun k => (pf k).map (Value.int .i64)
def pdel (pf : Int → Option Int) (id : Int) : Int → Option Int := fun k => if k = id then none else pf k
def pset (pf : Int → Option Int) (id p : Int) : Int → Option Int := fun k => if k = id then some p else pf k
theorem pv_del (pf : Int → Option Int) (id : Int) : (fun j => if j = id then none else pv pf j) = pv (pdel pf id) := by
  funext j; unfold pv pdel; split <;> rfl
theorem pv_set (pf : Int → Option Int) (id p : Int) : (fun j => if j = id then some (.int .i64 p) else pv pf j) = pv (pset pf id p) := by
  funext j; unfold pv pset; split <;> rfl

/-- The timers behind a pointer: their heap, and each one's period. -/
structure TimIn (w : World) (q p mb : Nat) (F G : Nat → Prop) (L : List It) (sq : Int) (pf : Int → Option Int) : Prop where
  blk : Blk w q 93 #[.pointer (some ⟨p, 0, none⟩), .map (some mb)]
  heap : HeapAt w p F L sq
  map : MapI w mb (pv pf)
  nq : ¬ F q
  nm : ¬ F mb
  qm : q ≠ mb
  ga : ∀ k, F k → G k
  gq : G q
  gm : G mb
  gb : ∀ k, G k → k < w.heap.size
  per : ∀ id, pf id = none ↔ findL id L = none
def TimAt (w : World) (q : Nat) (G : Nat → Prop) (L : List It) (sq : Int) (pf : Int → Option Int) : Prop := ∃ p mb F, TimIn w q p mb F G L sq pf
theorem TimIn.turns {S : Nat → Prop} {w w' : World} {q p mb : Nat} {F G : Nat → Prop} {L : List It} {sq : Int} {pf : Int → Option Int} (h : TimIn w q p mb F G L sq pf) (ht : Turns S w w') (hn : ∀ k, G k → ¬ S k) : TimIn w' q p mb F G L sq pf :=
  { h with blk := h.blk.turns ht (hn _ h.gq), heap := h.heap.turns ht (fun k hk => hn k (h.ga k hk)), map := h.map.turns ht (hn _ h.gm), gb := fun k hk => Nat.lt_of_lt_of_le (h.gb k hk) ht.size }
theorem TimAt.turns {S : Nat → Prop} {w w' : World} {q : Nat} {G : Nat → Prop} {L : List It} {sq : Int} {pf : Int → Option Int} (h : TimAt w q G L sq pf) (ht : Turns S w w') (hn : ∀ k, G k → ¬ S k) : TimAt w' q G L sq pf := by
  obtain ⟨p, mb, F, h⟩ := h
  exact ⟨p, mb, F, h.turns ht hn⟩
theorem TimAt.made {w w' : World} {q : Nat} {G : Nat → Prop} {L : List It} {sq : Int} {pf : Int → Option Int} (h : TimAt w q G L sq pf) (ht : Made w w') : TimAt w' q G L sq pf := h.turns ht (fun _ _ h => h)
theorem TimIn.made {w w' : World} {q p mb : Nat} {F G : Nat → Prop} {L : List It} {sq : Int} {pf : Int → Option Int} (h : TimIn w q p mb F G L sq pf) (ht : Made w w') : TimIn w' q p mb F G L sq pf := h.turns ht (fun _ _ h => h)
theorem TimAt.gb {w : World} {q : Nat} {G : Nat → Prop} {L : List It} {sq : Int} {pf : Int → Option Int} (h : TimAt w q G L sq pf) : ∀ k, G k → k < w.heap.size := by obtain ⟨_, _, _, h⟩ := h; exact h.gb
theorem TimAt.uniq {w : World} {q : Nat} {G : Nat → Prop} {L : List It} {sq : Int} {pf : Int → Option Int} (h : TimAt w q G L sq pf) : Uniq L := by obtain ⟨_, _, _, h⟩ := h; exact h.heap.uniq
theorem TimAt.rise {w : World} {q : Nat} {G : Nat → Prop} {L : List It} {sq : Int} {pf : Int → Option Int} (h : TimAt w q G L sq pf) : L.Pairwise lt := by obtain ⟨_, _, _, h⟩ := h; exact h.heap.rise
theorem TimAt.seqs {w : World} {q : Nat} {G : Nat → Prop} {L : List It} {sq : Int} {pf : Int → Option Int} (h : TimAt w q G L sq pf) : ∀ x ∈ L, 1 ≤ x.seq ∧ x.seq ≤ sq := by obtain ⟨_, _, _, h⟩ := h; exact h.heap.seqs
theorem TimAt.len {w : World} {q : Nat} {G : Nat → Prop} {L : List It} {sq : Int} {pf : Int → Option Int} (h : TimAt w q G L sq pf) : (L.length : Int) ≤ sq := by obtain ⟨_, _, _, h⟩ := h; exact h.heap.len
theorem TimAt.per {w : World} {q : Nat} {G : Nat → Prop} {L : List It} {sq : Int} {pf : Int → Option Int} (h : TimAt w q G L sq pf) : ∀ id, pf id = none ↔ findL id L = none := by obtain ⟨_, _, _, h⟩ := h; exact h.per

attribute [local go_sem] run_mkmap
theorem tnew_c (w : World) : Calls Try.prog 28 #[] w fun e w' => ∃ (q : Nat) (G : Nat → Prop), e = .returned (.pointer (some ⟨q, 0, none⟩)) ∧ TimAt w' q G [] 0 (fun _ => none) ∧ Made w w' ∧ (∀ k, G k → w.heap.size ≤ k) := by
  have H := Lib.hid (hnew_c w)
  go_enter Try.func28, Try.ntmps28
  go_wp2_with fail
  refine H.out.mono ?_
  rintro e w1 ⟨p, F, rfl, hh, hm, hf⟩
  have HH := Lib.hid hh
  have HM := Lib.hid hm
  have HF := Lib.hid hf
  have HB := Lib.hid (Blk.new (w1.alloc (.map #[] 0)) 93 #[.pointer (some ⟨p, 0, none⟩), .map (some w1.heap.size)])
  have HP := Lib.hid ((MapI.new w1).alloc (.cells #[.pointer (some ⟨p, 0, none⟩), .map (some w1.heap.size)] 93))
  clear hh hm hf H
  go_wp2_with fail
  go_ret
  have hsz := HM.out.size
  refine ⟨w1.heap.size + 1, fun k => F k ∨ k = w1.heap.size + 1 ∨ k = w1.heap.size, by simp, ⟨p, w1.heap.size, F, { blk := by have := HB.out; rw [World.size_alloc] at this; exact this, heap := (HH.out.made (alloc_made _ _)).made (alloc_made _ _), map := HP.out, nq := fun h => by have := HH.out.fb _ h; omega, nm := fun h => by have := HH.out.fb _ h; omega, qm := by omega, ga := fun k h => .inl h, gq := .inr (.inl rfl), gm := .inr (.inr rfl), gb := ?_, per := fun id => ⟨fun _ => rfl, fun _ => rfl⟩ }⟩, (HM.out.alloc _).alloc _, ?_⟩
  · intro k hk
    simp only [World.size_alloc]
    rcases hk with h | h | h
    · have := HH.out.fb _ h; omega
    · omega
    · omega
  · intro k hk
    rcases hk with h | h | h
    · exact HF.out k h
    · omega
    · omega

theorem tstop_nil (id : Int) (w : World) : Calls Try.prog 31 #[.pointer none, .int .i64 id] w fun e w' => e = .returned (.bool false) ∧ w = w' := by
  go_enter Try.func31, Try.ntmps31
  go_wp2
  go_ret
  exact ⟨rfl, rfl⟩
theorem delL_none {L : List It} {id : Int} (h : findL id L = none) : delL id L = L := by
  unfold delL
  rw [List.filter_eq_self]
  intro x hx
  simpa using (findL_none id).1 h x hx
/-- Remove, whether it is there or not. -/
theorem hrem_any {p : Nat} {F : Nat → Prop} {L : List It} {sq : Int} (id : Int) (w : World) (h : HeapAt w p F L sq) (hsq : sq ≤ 1000000) :
    Calls Try.prog 40 #[.pointer (some ⟨p, 0, none⟩), .int .i64 id] w fun e w' => e = .returned (.tuple #[aggT (optT (findL id L)), .bool (findL id L).isSome]) ∧ HeapAt w' p F (delL id L) sq ∧ Stp w w' F F := by
  cases hf : findL id L with
  | none =>
    refine (hrem_none id w h hf).mono ?_
    rintro e w' ⟨rfl, hm⟩
    exact ⟨rfl, by rw [delL_none hf]; exact h.made hm, Stp.made hm⟩
  | some x =>
    refine (hrem_c id w h hsq hf).mono ?_
    rintro e w' ⟨rfl, hh, hs⟩
    exact ⟨rfl, hh, hs⟩
theorem per_del {L : List It} {pf : Int → Option Int} (hp : ∀ id, pf id = none ↔ findL id L = none) (id : Int) : ∀ i, pdel pf id i = none ↔ findL i (delL id L) = none := by
  intro i
  unfold pdel
  by_cases h : i = id
  · subst h
    rw [if_pos rfl]
    exact ⟨fun _ => findL_del _ _, fun _ => rfl⟩
  · rw [if_neg h, hp i, findL_none, findL_none]
    constructor
    · intro h1 x hx
      exact h1 x (delL_mem.1 hx).1
    · intro h1 x hx e
      exact h1 x (delL_mem.2 ⟨hx, by rw [e]; exact h⟩) e
theorem per_set {L : List It} {pf : Int → Option Int} (hp : ∀ id, pf id = none ↔ findL id L = none) (id p when sq : Int) : ∀ i, pset pf id p i = none ↔ findL i (insL ⟨id, when, sq⟩ L) = none := by
  intro i
  unfold pset
  by_cases h : i = id
  · subst h
    rw [if_pos rfl, findL_none]
    refine ⟨fun h => (by cases h), fun h => absurd rfl (h ⟨i, when, sq⟩ ((insL_mem _ _ _).2 (.inl rfl)))⟩
  · rw [if_neg h, hp i, findL_none, findL_none]
    constructor
    · intro h1 x hx
      rcases (insL_mem _ _ _).1 hx with rfl | hx
      · exact fun e => h e.symm
      · exact h1 x hx
    · intro h1 x hx
      exact h1 x ((insL_mem _ _ _).2 (.inr hx))

set_option maxHeartbeats 1000000 in
theorem tstop_in {q p mb : Nat} {F G : Nat → Prop} {L : List It} {sq : Int} {pf : Int → Option Int} (id : Int) (w : World) (h : TimIn w q p mb F G L sq pf) (hsq : sq ≤ 1000000) :
    Calls Try.prog 31 #[.pointer (some ⟨q, 0, none⟩), .int .i64 id] w fun e w' => e = .returned (.bool (findL id L).isSome) ∧ TimIn w' q p mb F G (delL id L) sq (pdel pf id) ∧ Turns G w w' := by
  have c0 := h.blk.cell 0
  simp only [List.getElem?_toArray, List.getElem?_cons_zero, List.getElem?_cons_succ] at c0
  have HT := Lib.hid h
  have HR := Lib.hid (hrem_any id w h.heap hsq)
  clear h
  unfold aggT at HR
  generalize optT (findL id L) = x at *
  go_enter Try.func31, Try.ntmps31
  go_wp2_with fail
  refine HR.out.mono ?_
  rintro e w1 ⟨rfl, hh, hs⟩
  have hb := (HT.out.blk.turns hs.t HT.out.nq).made (alloc_made _ (.cells #[.int .i64 x.id, .int .i64 x.when, .int .i64 x.seq] 30))
  have c1 := hb.cell 1
  simp only [List.getElem?_toArray, List.getElem?_cons_zero, List.getElem?_cons_succ] at c1
  have hmm := (HT.out.map.turns hs.t HT.out.nm).alloc (.cells #[.int .i64 x.id, .int .i64 x.when, .int .i64 x.seq] 30)
  obtain ⟨w4, hrun, hmap4, ht4, hsz4⟩ := hmm.drop (P := Try.prog) Try.underlying87 Try.underlying3 id 0
  rw [pv_del] at hmap4
  have HH := Lib.hid (hh.made (alloc_made _ (.cells #[.int .i64 x.id, .int .i64 x.when, .int .i64 x.seq] 30)))
  have HST := Lib.hid (hs.t.alloc (.cells #[.int .i64 x.id, .int .i64 x.when, .int .i64 x.seq] 30))
  have HB := Lib.hid hb
  have HM4 := Lib.hid hmap4
  have HT4 := Lib.hid ht4
  clear hh hs hb hmm hmap4 ht4 HR
  go_wp2_with fail
  go_ret
  have htt : Turns G w w4 := (HST.out.mono (fun k _ hk => HT.out.ga k hk)).then HT4.out (fun b _ e => by rw [e]; exact HT.out.gm)
  refine ⟨rfl, { blk := HB.out.turns HT4.out HT.out.qm, heap := HH.out.turns HT4.out (fun k hk e => HT.out.nm (by rw [← e]; exact hk)), map := HM4.out, nq := HT.out.nq, nm := HT.out.nm, qm := HT.out.qm, ga := HT.out.ga, gq := HT.out.gq, gm := HT.out.gm, gb := fun k hk => Nat.lt_of_lt_of_le (HT.out.gb k hk) htt.size, per := per_del HT.out.per id }, htt⟩
theorem tstop_c {q : Nat} {G : Nat → Prop} {L : List It} {sq : Int} {pf : Int → Option Int} (id : Int) (w : World) (h : TimAt w q G L sq pf) (hsq : sq ≤ 1000000) :
    Calls Try.prog 31 #[.pointer (some ⟨q, 0, none⟩), .int .i64 id] w fun e w' => e = .returned (.bool (findL id L).isSome) ∧ TimAt w' q G (delL id L) sq (pdel pf id) ∧ Stp w w' G G := by
  obtain ⟨p, mb, F, h⟩ := h
  refine (tstop_in id w h hsq).mono ?_
  rintro e w' ⟨rfl, hh, ht⟩
  exact ⟨rfl, ⟨p, mb, F, hh⟩, ⟨ht, fun k hk => .inl hk⟩⟩

theorem tlen_nil (w : World) : Calls Try.prog 38 #[.pointer none] w fun e w' => e = .returned (.int .i64 0) ∧ w = w' := by
  go_enter Try.func38, Try.ntmps38
  go_wp2
  go_ret
  exact ⟨rfl, rfl⟩
theorem tlen_c {q : Nat} {G : Nat → Prop} {L : List It} {sq : Int} {pf : Int → Option Int} (w : World) (h : TimAt w q G L sq pf) :
    Calls Try.prog 38 #[.pointer (some ⟨q, 0, none⟩)] w fun e w' => e = .returned (.int .i64 L.length) ∧ w = w' := by
  obtain ⟨p, mb, F, h⟩ := h
  have c0 := h.blk.cell 0
  simp only [List.getElem?_toArray, List.getElem?_cons_zero, List.getElem?_cons_succ] at c0
  have H := Lib.hid (hlen_c w h.heap)
  clear h
  go_enter Try.func38, Try.ntmps38
  go_wp2_with fail
  refine H.out.mono ?_
  rintro e w' ⟨rfl, rfl⟩
  go_wp2_with fail
  go_ret
  exact ⟨rfl, rfl⟩

theorem tnext_c {q : Nat} {G : Nat → Prop} {L : List It} {sq : Int} {pf : Int → Option Int} (w : World) (h : TimAt w q G L sq pf) :
    Calls Try.prog 37 #[.pointer (some ⟨q, 0, none⟩)] w fun e w' => e = .returned (.tuple #[.int .i64 (optT L[0]?).when, .bool L[0]?.isSome]) ∧ Made w w' := by
  obtain ⟨p, mb, F, h⟩ := h
  have c0 := h.blk.cell 0
  simp only [List.getElem?_toArray, List.getElem?_cons_zero, List.getElem?_cons_succ] at c0
  have H := Lib.hid (hmin_c w h.heap)
  clear h
  unfold aggT at H
  generalize optT L[0]? = x at *
  generalize L[0]?.isSome = r at *
  go_enter Try.func37, Try.ntmps37
  go_wp2_with fail
  refine H.out.mono ?_
  rintro e w' ⟨rfl, hm⟩
  have HM := Lib.hid (hm.alloc (.cells #[.int .i64 x.id, .int .i64 x.when, .int .i64 x.seq] 30))
  clear hm
  go_wp2_with fail
  go_ret2
  exact ⟨rfl, HM.out⟩
end Go.Proofs.Ytgjgopcomgclkaa
