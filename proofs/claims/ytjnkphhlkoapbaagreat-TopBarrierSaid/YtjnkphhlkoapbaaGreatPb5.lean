/-
  Walks and laws under LawTopBarrier, part 5.
-/
import Derived.Test.YtjnkphhlkoapbaaGreatPb4
namespace Go.Proofs.YtjnkphhlkoapbaaGreat
open Go.RowKit
set_option linter.unusedVariables false
set_option linter.unusedSimpArgs false
def pv (pf : Int → Option Int) : Int → Option Value := fun k => (pf k).map (Value.int .i64)
def pdel (pf : Int → Option Int) (id : Int) : Int → Option Int := fun k => if k = id then none else pf k
def pset (pf : Int → Option Int) (id p : Int) : Int → Option Int := fun k => if k = id then some p else pf k
theorem pv_del (pf : Int → Option Int) (id : Int) : (fun j => if j = id then none else pv pf j) = pv (pdel pf id) := by
 funext j; unfold pv pdel; split <;> rfl
theorem pv_set (pf : Int → Option Int) (id p : Int) : (fun j => if j = id then some (.int .i64 p) else pv pf j) = pv (pset pf id p) := by
 funext j; unfold pv pset; split <;> rfl
structure TimIn (w : World) (q p mb : Nat) (F G : Nat → Prop) (L : List It) (sq : Int) (pf : Int → Option Int) : Prop where
 blk : Blk w q 145 #[.pointer (some ⟨p, 0, none⟩), .map (some mb)]
 heap : HeapAt w p F L sq
 map : MapI w mb (pv pf)
 nq : ¬ F q
 nm : ¬ F mb
 qm : q ≠ mb
 ga : ∀ k, F k → G k
 gq : G q
 gm : G mb
 gb : ∀ k, G k → k < w.heap.size
 per : ∀ id, pf id = none ↔ findL id L = none
def TimAt (w : World) (q : Nat) (G : Nat → Prop) (L : List It) (sq : Int) (pf : Int → Option Int) : Prop := ∃ p mb F, TimIn w q p mb F G L sq pf
theorem TimIn.turns {S : Nat → Prop} {w w' : World} {q p mb : Nat} {F G : Nat → Prop} {L : List It} {sq : Int} {pf : Int → Option Int} (h : TimIn w q p mb F G L sq pf) (ht : Turns S w w') (hn : ∀ k, G k → ¬ S k) : TimIn w' q p mb F G L sq pf :=
 { h with blk := h.blk.turns ht (hn _ h.gq), heap := h.heap.turns ht (fun k hk => hn k (h.ga k hk)), map := h.map.turns ht (hn _ h.gm), gb := fun k hk => Nat.lt_of_lt_of_le (h.gb k hk) ht.size }
theorem TimAt.turns {S : Nat → Prop} {w w' : World} {q : Nat} {G : Nat → Prop} {L : List It} {sq : Int} {pf : Int → Option Int} (h : TimAt w q G L sq pf) (ht : Turns S w w') (hn : ∀ k, G k → ¬ S k) : TimAt w' q G L sq pf := by
 obtain ⟨p, mb, F, h⟩ := h
 exact ⟨p, mb, F, h.turns ht hn⟩
theorem TimAt.made {w w' : World} {q : Nat} {G : Nat → Prop} {L : List It} {sq : Int} {pf : Int → Option Int} (h : TimAt w q G L sq pf) (ht : Made w w') : TimAt w' q G L sq pf := h.turns ht (fun _ _ h => h)
theorem TimIn.made {w w' : World} {q p mb : Nat} {F G : Nat → Prop} {L : List It} {sq : Int} {pf : Int → Option Int} (h : TimIn w q p mb F G L sq pf) (ht : Made w w') : TimIn w' q p mb F G L sq pf := h.turns ht (fun _ _ h => h)
theorem TimAt.gb {w : World} {q : Nat} {G : Nat → Prop} {L : List It} {sq : Int} {pf : Int → Option Int} (h : TimAt w q G L sq pf) : ∀ k, G k → k < w.heap.size := by obtain ⟨_, _, _, h⟩ := h; exact h.gb
theorem TimAt.uniq {w : World} {q : Nat} {G : Nat → Prop} {L : List It} {sq : Int} {pf : Int → Option Int} (h : TimAt w q G L sq pf) : Uniq L := by obtain ⟨_, _, _, h⟩ := h; exact h.heap.uniq
theorem TimAt.rise {w : World} {q : Nat} {G : Nat → Prop} {L : List It} {sq : Int} {pf : Int → Option Int} (h : TimAt w q G L sq pf) : L.Pairwise lt := by obtain ⟨_, _, _, h⟩ := h; exact h.heap.rise
theorem TimAt.seqs {w : World} {q : Nat} {G : Nat → Prop} {L : List It} {sq : Int} {pf : Int → Option Int} (h : TimAt w q G L sq pf) : ∀ x ∈ L, 1 ≤ x.seq ∧ x.seq ≤ sq := by obtain ⟨_, _, _, h⟩ := h; exact h.heap.seqs
theorem TimAt.len {w : World} {q : Nat} {G : Nat → Prop} {L : List It} {sq : Int} {pf : Int → Option Int} (h : TimAt w q G L sq pf) : (L.length : Int) ≤ sq := by obtain ⟨_, _, _, h⟩ := h; exact h.heap.len
theorem TimAt.per {w : World} {q : Nat} {G : Nat → Prop} {L : List It} {sq : Int} {pf : Int → Option Int} (h : TimAt w q G L sq pf) : ∀ id, pf id = none ↔ findL id L = none := by obtain ⟨_, _, _, h⟩ := h; exact h.per
attribute [local go_sem] run_mkmap
theorem tnew_c (w : World) : Calls Tryz.prog 35 #[] w fun e w' => ∃ (q : Nat) (G : Nat → Prop), e = .returned (.pointer (some ⟨q, 0, none⟩)) ∧ TimAt w' q G [] 0 (fun _ => none) ∧ Made w w' ∧ (∀ k, G k → w.heap.size ≤ k) := by
 have H := Lib.hid (hnew_c w)
 go_enter Tryz.func35, Tryz.ntmps35
 go_wp2_with fail
 refine H.out.mono ?_
 rintro e w1 ⟨p, F, rfl, hh, hm, hf⟩
 have HH := Lib.hid hh
 have HM := Lib.hid hm
 have HF := Lib.hid hf
 have HB := Lib.hid (Blk.new (w1.alloc (.map #[] 0)) 145 #[.pointer (some ⟨p, 0, none⟩), .map (some w1.heap.size)])
 have HP := Lib.hid ((MapI.new w1).alloc (.cells #[.pointer (some ⟨p, 0, none⟩), .map (some w1.heap.size)] 145))
 clear hh hm hf H
 go_wp2_with fail
 go_ret
 have hsz := HM.out.size
 refine ⟨w1.heap.size + 1, fun k => F k ∨ k = w1.heap.size + 1 ∨ k = w1.heap.size, by simp, ⟨p, w1.heap.size, F, { blk := by have := HB.out; rw [World.size_alloc] at this; exact this, heap := (HH.out.made (alloc_made _ _)).made (alloc_made _ _), map := HP.out, nq := fun h => by have := HH.out.fb _ h; omega, nm := fun h => by have := HH.out.fb _ h; omega, qm := by omega, ga := fun k h => .inl h, gq := .inr (.inl rfl), gm := .inr (.inr rfl), gb := ?_, per := fun id => ⟨fun _ => rfl, fun _ => rfl⟩ }⟩, (HM.out.alloc _).alloc _, ?_⟩
 ·intro k hk
  simp only [World.size_alloc]
  rcases hk with h | h | h
  ·have := HH.out.fb _ h; omega
  ·omega
  ·omega
 ·intro k hk
  rcases hk with h | h | h
  ·exact HF.out k h
  ·omega
  ·omega
theorem delL_none {L : List It} {id : Int} (h : findL id L = none) : delL id L = L := by
 unfold delL
 rw [List.filter_eq_self]
 intro x hx
 simpa using (findL_none id).1 h x hx
theorem hrem_any {p : Nat} {F : Nat → Prop} {L : List It} {sq : Int} (id : Int) (w : World) (h : HeapAt w p F L sq) (hsq : sq ≤ 1000000) :
  Calls Tryz.prog 151 #[.pointer (some ⟨p, 0, none⟩), .int .i64 id] w fun e w' => e = .returned (.tuple #[aggT (optT (findL id L)), .bool (findL id L).isSome]) ∧ HeapAt w' p F (delL id L) sq ∧ Stp w w' F F := by
 cases hf : findL id L with
 | none =>
  refine (hrem_none id w h hf).mono ?_
  rintro e w' ⟨rfl, hm⟩
  exact ⟨rfl, by rw [delL_none hf]; exact h.made hm, Stp.made hm⟩
 | some x =>
  refine (hrem_c id w h hsq hf).mono ?_
  rintro e w' ⟨rfl, hh, hs⟩
  exact ⟨rfl, hh, hs⟩
theorem per_del {L : List It} {pf : Int → Option Int} (hp : ∀ id, pf id = none ↔ findL id L = none) (id : Int) : ∀ i, pdel pf id i = none ↔ findL i (delL id L) = none := by
 intro i
 unfold pdel
 by_cases h : i = id
 ·subst h
  rw [if_pos rfl]
  exact ⟨fun _ => findL_del _ _, fun _ => rfl⟩
 ·rw [if_neg h, hp i, findL_none, findL_none]
  constructor
  ·intro h1 x hx
   exact h1 x (delL_mem.1 hx).1
  ·intro h1 x hx e
   exact h1 x (delL_mem.2 ⟨hx, by rw [e]; exact h⟩) e
theorem per_set {L : List It} {pf : Int → Option Int} (hp : ∀ id, pf id = none ↔ findL id L = none) (id p when sq : Int) : ∀ i, pset pf id p i = none ↔ findL i (insL ⟨id, when, sq⟩ L) = none := by
 intro i
 unfold pset
 by_cases h : i = id
 ·subst h
  rw [if_pos rfl, findL_none]
  refine ⟨fun h => (by cases h), fun h => absurd rfl (h ⟨i, when, sq⟩ ((insL_mem _ _ _).2 (.inl rfl)))⟩
 ·rw [if_neg h, hp i, findL_none, findL_none]
  constructor
  ·intro h1 x hx
   rcases (insL_mem _ _ _).1 hx with rfl | hx
   ·exact fun e => h e.symm
   ·exact h1 x hx
  ·intro h1 x hx
   exact h1 x ((insL_mem _ _ _).2 (.inr hx))
set_option maxHeartbeats 1000000 in
theorem tstop_in {q p mb : Nat} {F G : Nat → Prop} {L : List It} {sq : Int} {pf : Int → Option Int} (id : Int) (w : World) (h : TimIn w q p mb F G L sq pf) (hsq : sq ≤ 1000000) :
  Calls Tryz.prog 152 #[.pointer (some ⟨q, 0, none⟩), .int .i64 id] w fun e w' => e = .returned (.bool (findL id L).isSome) ∧ TimIn w' q p mb F G (delL id L) sq (pdel pf id) ∧ Turns G w w' := by
 have c0 := h.blk.cell 0
 simp only [List.getElem?_toArray, List.getElem?_cons_zero, List.getElem?_cons_succ] at c0
 have HT := Lib.hid h
 have HR := Lib.hid (hrem_any id w h.heap hsq)
 clear h
 unfold aggT at HR
 generalize optT (findL id L) = x at *
 go_enter Tryz.func152, Tryz.ntmps152
 go_wp2_with fail
 refine HR.out.mono ?_
 rintro e w1 ⟨rfl, hh, hs⟩
 have hb := (HT.out.blk.turns hs.t HT.out.nq).made (alloc_made _ (.cells #[.int .i64 x.id, .int .i64 x.when, .int .i64 x.seq] 186))
 have c1 := hb.cell 1
 simp only [List.getElem?_toArray, List.getElem?_cons_zero, List.getElem?_cons_succ] at c1
 have hmm := (HT.out.map.turns hs.t HT.out.nm).alloc (.cells #[.int .i64 x.id, .int .i64 x.when, .int .i64 x.seq] 186)
 obtain ⟨w4, hrun, hmap4, ht4, hsz4⟩ := hmm.drop (P := Tryz.prog) Tryz.underlying98 Tryz.underlying3 id 0
 rw [pv_del] at hmap4
 have HH := Lib.hid (hh.made (alloc_made _ (.cells #[.int .i64 x.id, .int .i64 x.when, .int .i64 x.seq] 186)))
 have HST := Lib.hid (hs.t.alloc (.cells #[.int .i64 x.id, .int .i64 x.when, .int .i64 x.seq] 186))
 have HB := Lib.hid hb
 have HM4 := Lib.hid hmap4
 have HT4 := Lib.hid ht4
 clear hh hs hb hmm hmap4 ht4 HR
 go_wp2_with fail
 go_ret
 have htt : Turns G w w4 := (HST.out.mono (fun k _ hk => HT.out.ga k hk)).then HT4.out (fun b _ e => by rw [e]; exact HT.out.gm)
 refine ⟨rfl, { blk := HB.out.turns HT4.out HT.out.qm, heap := HH.out.turns HT4.out (fun k hk e => HT.out.nm (by rw [← e]; exact hk)), map := HM4.out, nq := HT.out.nq, nm := HT.out.nm, qm := HT.out.qm, ga := HT.out.ga, gq := HT.out.gq, gm := HT.out.gm, gb := fun k hk => Nat.lt_of_lt_of_le (HT.out.gb k hk) htt.size, per := per_del HT.out.per id }, htt⟩
theorem tstop_c {q : Nat} {G : Nat → Prop} {L : List It} {sq : Int} {pf : Int → Option Int} (id : Int) (w : World) (h : TimAt w q G L sq pf) (hsq : sq ≤ 1000000) :
  Calls Tryz.prog 152 #[.pointer (some ⟨q, 0, none⟩), .int .i64 id] w fun e w' => e = .returned (.bool (findL id L).isSome) ∧ TimAt w' q G (delL id L) sq (pdel pf id) ∧ Stp w w' G G := by
 obtain ⟨p, mb, F, h⟩ := h
 refine (tstop_in id w h hsq).mono ?_
 rintro e w' ⟨rfl, hh, ht⟩
 exact ⟨rfl, ⟨p, mb, F, hh⟩, ⟨ht, fun k hk => .inl hk⟩⟩
theorem tnext_c {q : Nat} {G : Nat → Prop} {L : List It} {sq : Int} {pf : Int → Option Int} (w : World) (h : TimAt w q G L sq pf) :
  Calls Tryz.prog 102 #[.pointer (some ⟨q, 0, none⟩)] w fun e w' => e = .returned (.tuple #[.int .i64 (optT L[0]?).when, .bool L[0]?.isSome]) ∧ Made w w' := by
 obtain ⟨p, mb, F, h⟩ := h
 have c0 := h.blk.cell 0
 simp only [List.getElem?_toArray, List.getElem?_cons_zero, List.getElem?_cons_succ] at c0
 have H := Lib.hid (hmin_c w h.heap)
 clear h
 unfold aggT at H
 generalize optT L[0]? = x at *
 generalize L[0]?.isSome = r at *
 go_enter Tryz.func102, Tryz.ntmps102
 go_wp2_with fail
 refine H.out.mono ?_
 rintro e w' ⟨rfl, hm⟩
 have HM := Lib.hid (hm.alloc (.cells #[.int .i64 x.id, .int .i64 x.when, .int .i64 x.seq] 186))
 clear hm
 go_wp2_with fail
 go_ret2
 exact ⟨rfl, HM.out⟩
end Go.Proofs.YtjnkphhlkoapbaaGreat
namespace Go.Proofs.YtjnkphhlkoapbaaGreat
open Go.RowKit
set_option linter.unusedVariables false
set_option linter.unusedSimpArgs false
section
attribute [local go_sem] mx2 mn2 mx_two mn_two
theorem pset_del (pf : Int → Option Int) (id p : Int) : pset (pdel pf id) id p = pset pf id p := by
 funext j; unfold pset pdel; split <;> rfl
set_option maxHeartbeats 1000000 in
theorem tarm_c {q : Nat} {G : Nat → Prop} {L : List It} {sq : Int} {pf : Int → Option Int} (id when period : Int) (w : World) (h : TimAt w q G L sq pf) (hsq : sq < 1000000) (h1 : 0 ≤ when) (h2 : 0 ≤ period) (h3 : when ≤ 4611686018427387904) (h4 : period ≤ 4611686018427387904) :
  Calls Tryz.prog 105 #[.pointer (some ⟨q, 0, none⟩), .int .i64 id, .int .i64 when, .int .i64 period] w fun e w' => e = .returned (.int .i64 0) ∧ ∃ G', TimAt w' q G' (insL ⟨id, when, sq + 1⟩ (delL id L)) (sq + 1) (pset pf id period) ∧ Stp w w' G G' := by
 obtain ⟨p, mb, F, h⟩ := h
 have h2' : ¬ (if period < when then period else when) < 0 := by split <;> omega
 have h3' : ¬ 4611686018427387904 < (if when < period then period else when) := by split <;> omega
 generalize hm : (if period < when then period else when) = m at h2'
 generalize hx : (if when < period then period else when) = x at h3'
 have HST := Lib.hid (tstop_in id w h (by omega))
 have HG := Lib.hid h.gb
 clear h
 go_enter Tryz.func105, Tryz.ntmps105
 go_wp2_with fail
 refine HST.out.mono ?_
 rintro e w1 ⟨rfl, hh, ht⟩
 have c0 := hh.blk.cell 0
 have c1 := hh.blk.cell 1
 simp only [List.getElem?_toArray, List.getElem?_cons_zero, List.getElem?_cons_succ] at c0 c1
 obtain ⟨w2, hrun, hmap2, ht2, -⟩ := hh.map.store (P := Tryz.prog) Tryz.underlying98 Tryz.underlying3 id (.int .i64 period)
 rw [pv_set, pset_del] at hmap2
 have hb2 := hh.blk.turns ht2 hh.qm
 have hh2 : HeapAt w2 p F (delL id L) sq := hh.heap.turns ht2 (fun k hk e => hh.nm (by rw [← e]; exact hk))
 have c3 := hb2.cell 0
 simp only [List.getElem?_toArray, List.getElem?_cons_zero, List.getElem?_cons_succ] at c3
 have HA := Lib.hid (hadd_c id when w2 hh2 (findL_del id L) hsq)
 have HB2 := Lib.hid hb2
 have HM2 := Lib.hid hmap2
 have HT2 := Lib.hid ht2
 have HT := Lib.hid ht
 have HH := Lib.hid hh
 clear hh ht hmap2 ht2 hb2 hh2 HST
 go_wp2_with fail
 refine HA.out.mono ?_
 rintro e w3 ⟨rfl, F3, hh3, hs3⟩
 have HH3 := Lib.hid hh3
 have HS3 := Lib.hid hs3
 clear hh3 hs3 HA
 go_wp2_with fail
 go_ret
 have htw : Turns G w w2 := HT.out.then HT2.out (fun b _ e => by rw [e]; exact HH.out.gm)
 have htf : Turns G w w3 := htw.then HS3.out.t (fun b hb hf => HH.out.ga b hf)
 have hmlt := HM2.out.lt
 have hqlt := HB2.out.lt
 have hnf : ∀ b, b < w2.heap.size → ¬ F b → ¬ F3 b := fun b hb hn h3 => (HS3.out.f b h3).elim hn (fun h => by omega)
 refine ⟨rfl, fun k => G k ∨ F3 k, ⟨p, mb, F3, { blk := HB2.out.turns HS3.out.t HH.out.nq, heap := HH3.out, map := HM2.out.turns HS3.out.t HH.out.nm, nq := hnf q hqlt HH.out.nq, nm := hnf mb hmlt HH.out.nm, qm := HH.out.qm, ga := fun k hk => .inr hk, gq := .inl HH.out.gq, gm := .inl HH.out.gm, gb := ?_, per := ?_ }⟩, ⟨htf, ?_⟩⟩
 ·intro k hk
  rcases hk with hk | hk
  ·exact Nat.lt_of_lt_of_le (HG.out k hk) htf.size
  ·exact HH3.out.fb k hk
 ·rw [← pset_del]
  exact per_set HH.out.per id period when (sq + 1)
 ·intro k hk
  rcases hk with hk | hk
  ·exact .inl hk
  ·rcases HS3.out.f k hk with h | h
   ·exact .inl (HH.out.ga k h)
   ·exact .inr (by have := htw.size; omega)
end
end Go.Proofs.YtjnkphhlkoapbaaGreat
namespace Go.Proofs.YtjnkphhlkoapbaaGreat
open Go.RowKit
set_option linter.unusedVariables false
set_option linter.unusedSimpArgs false
theorem res_boxD {fn : Func} {p u : Tmp} (hr : fn.results = #[.cell p 152, .tmp u]) {tmps : Array Value} {w : World} {g : Nat} {a b c v : Value} (hb : Blk w g 152 #[a, b, c]) (hp : tmps.getD p undef = .pointer (some ⟨g, 0, none⟩)) (hv : tmps.getD u undef = v) :
  (results fn tmps).run Tryz.prog w = .ok (.tuple #[.agg #[a, b, c], v]) w := by
 have c0 := hb.cell 0
 have c1 := hb.cell 1
 have c2 := hb.cell 2
 simp only [List.getElem?_toArray, List.getElem?_cons_zero, List.getElem?_cons_succ] at c0 c1 c2
 rw [results_cell_tmp hr, hp, hv]
 go_simp
def dueV (id when now : Int) : Value := .agg #[.int .i64 id, .int .i64 when, .int .i64 now]
set_option maxHeartbeats 1000000 in
theorem ttake_none {q : Nat} {G : Nat → Prop} {L : List It} {sq : Int} {pf : Int → Option Int} (now : Int) (w : World) (h : TimAt w q G L sq pf) (hn : ∀ x, L[0]? = some x → now < 0 ∨ now < x.when) :
  Calls Tryz.prog 63 #[.pointer (some ⟨q, 0, none⟩), .int .i64 now] w fun e w' => e = .returned (.tuple #[dueV 0 0 0, .bool false]) ∧ Made w w' := by
 have H := Lib.hid (fun (w' : World) (hm : Made w w') => tnext_c w' (h.made hm))
 clear h
 unfold dueV
 cases hL : L[0]? with
 | none =>
  rw [hL] at H
  simp only [optT, Option.getD_none, zeroT, Option.isSome_none] at H
  clear hn hL
  go_enter Tryz.func63, Tryz.ntmps63
  go_wp2_with fail
  refine (H.out _ (alloc_made _ _)).mono ?_
  rintro e w1 ⟨rfl, hm⟩
  have hB1 := (Blk.new w 152 #[.int .i64 0, .int .i64 0, .int .i64 0]).turns hm (fun h => h)
  have b0 := hB1.cell 0
  have b1 := hB1.cell 1
  have b2 := hB1.cell 2
  have g0 := hB1.free 0
  have g1 := hB1.free 1
  have g2 := hB1.free 2
  have hb4 := hB1.lt
  simp only [List.getElem?_toArray, List.getElem?_cons_zero, List.getElem?_cons_succ] at b0 b1 b2
  have HM := Lib.hid ((alloc_made w _).trans hm)
  have HB := Lib.hid hB1
  clear hm hB1 H
  go_wp2_with fail
  refine bodyPost_ret (res_boxD rfl (HB.out.put3 _ _ _) rfl rfl) rfl ?_
  exact ⟨rfl, HM.out.then (set3 _ w.heap.size) (fun b hb e => by omega)⟩
 | some x =>
  have hx := hn x hL
  rw [hL] at H
  simp only [optT, Option.getD_some, Option.isSome_some] at H
  clear hn hL
  by_cases hneg : now < 0
  ·clear hx
   go_enter Tryz.func63, Tryz.ntmps63
   go_wp2_with fail
   refine (H.out _ (alloc_made _ _)).mono ?_
   rintro e w1 ⟨rfl, hm⟩
   have hB1 := (Blk.new w 152 #[.int .i64 0, .int .i64 0, .int .i64 0]).turns hm (fun h => h)
   have b0 := hB1.cell 0
   have b1 := hB1.cell 1
   have b2 := hB1.cell 2
   have g0 := hB1.free 0
   have g1 := hB1.free 1
   have g2 := hB1.free 2
   have hb4 := hB1.lt
   simp only [List.getElem?_toArray, List.getElem?_cons_zero, List.getElem?_cons_succ] at b0 b1 b2
   have HM := Lib.hid ((alloc_made w _).trans hm)
   have HB := Lib.hid hB1
   clear hm hB1 H
   go_wp2_with fail
   refine bodyPost_ret (res_boxD rfl (HB.out.put3 _ _ _) rfl rfl) rfl ?_
   exact ⟨rfl, HM.out.then (set3 _ w.heap.size) (fun b hb e => by omega)⟩
  ·have hx2 : now < x.when := by omega
   clear hx
   go_enter Tryz.func63, Tryz.ntmps63
   go_wp2_with fail
   refine (H.out _ (alloc_made _ _)).mono ?_
   rintro e w1 ⟨rfl, hm⟩
   have hB1 := (Blk.new w 152 #[.int .i64 0, .int .i64 0, .int .i64 0]).turns hm (fun h => h)
   have b0 := hB1.cell 0
   have b1 := hB1.cell 1
   have b2 := hB1.cell 2
   have g0 := hB1.free 0
   have g1 := hB1.free 1
   have g2 := hB1.free 2
   have hb4 := hB1.lt
   simp only [List.getElem?_toArray, List.getElem?_cons_zero, List.getElem?_cons_succ] at b0 b1 b2
   have HM := Lib.hid ((alloc_made w _).trans hm)
   have HB := Lib.hid hB1
   clear hm hB1 H
   go_wp2_with fail
   refine bodyPost_ret (res_boxD rfl (HB.out.put3 _ _ _) rfl rfl) rfl ?_
   exact ⟨rfl, HM.out.then (set3 _ w.heap.size) (fun b hb e => by omega)⟩
def again (x : It) (pd now : Int) : Prop := (nextZ x.when pd now).2 = 0 ∧ now < (nextZ x.when pd now).1
theorem again_bd {x : It} {pd now : Int} (h : again x pd now) (h0 : 0 ≤ now) : 0 ≤ (nextZ x.when pd now).1 ∧ (nextZ x.when pd now).1 ≤ 4611686018427387904 ∧ 1 ≤ pd ∧ pd ≤ 4611686018427387904 := by
 obtain ⟨h1, h2⟩ := h
 unfold nextZ at h1 h2 ⊢
 by_cases hb : pd < 1 ∨ x.when < 0 ∨ now < 0 ∨ 4611686018427387904 < x.when ∨ 4611686018427387904 < pd ∨ 4611686018427387904 < now
 ·rw [if_pos hb] at h1; cases h1
 ·rw [if_neg hb] at h2 ⊢
  by_cases hw : now < x.when
  ·rw [if_pos hw] at h2 ⊢
   simp only at h2 ⊢
   omega
  ·rw [if_neg hw] at h2 ⊢
   simp only at h2 ⊢
   have := heldZ_bd (heldZ now + heldZ (pd - (now - x.when) % pd))
   unfold addZ at h2 ⊢
   omega
set_option maxHeartbeats 4000000 in
set_option maxRecDepth 100000 in
theorem ttake_c {q : Nat} {G : Nat → Prop} {x : It} {l : List It} {sq : Int} {pf : Int → Option Int} (now pd : Int) (w : World) (h : TimAt w q G (x :: l) sq pf) (hsq : sq < 1000000) (hn : 0 ≤ now) (hx : x.when ≤ now) (hpd : pf x.id = some pd) :
  Calls Tryz.prog 63 #[.pointer (some ⟨q, 0, none⟩), .int .i64 now] w fun e w' => e = .returned (.tuple #[dueV x.id x.when now, .bool true]) ∧
   ∃ G', (again x pd now → TimAt w' q G' (insL ⟨x.id, (nextZ x.when pd now).1, sq + 1⟩ l) (sq + 1) (pset pf x.id pd)) ∧ (¬ again x pd now → TimAt w' q G' l sq (pdel pf x.id)) ∧ Stp w w' G G' := by
 have HG := Lib.hid h.gb
 obtain ⟨p, mb, F, h⟩ := h
 have hde := delL_head h.heap.uniq
 have HNX := Lib.hid (fun (w' : World) (hm : Made w w') => tnext_c w' (TimAt.made ⟨p, mb, F, h⟩ hm))
 simp only [List.getElem?_cons_zero, optT, Option.getD_some, Option.isSome_some] at HNX
 have HT := Lib.hid h
 have hfnl : findL x.id l = none := by rw [← hde]; exact findL_del _ _
 have HDE := Lib.hid hde
 have HFN := Lib.hid hfnl
 have hpv : (pv pf x.id).getD (.int .i64 0) = .int .i64 pd := by unfold pv; rw [hpd]; rfl
 have HPV := Lib.hid hpv
 have HPD := Lib.hid hpd
 have hq0 := h.blk.lt
 clear h hde hfnl hpv hpd
 have n1 : ¬ now < 0 := by omega
 have n2 : ¬ now < x.when := by omega
 unfold dueV
 go_enter Tryz.func63, Tryz.ntmps63
 go_wp2_with fail
 refine (HNX.out _ (alloc_made _ _)).mono ?_
 rintro e w1 ⟨rfl, hm⟩
 have HB := Lib.hid ((Blk.new w 152 #[.int .i64 0, .int .i64 0, .int .i64 0]).turns hm (fun h => h))
 have HM1 := Lib.hid ((alloc_made w (.cells #[.int .i64 0, .int .i64 0, .int .i64 0] 152)).trans hm)
 have HT1 := Lib.hid (HT.out.made HM1.out)
 have c0 := HT1.out.blk.cell 0
 simp only [List.getElem?_toArray, List.getElem?_cons_zero, List.getElem?_cons_succ] at c0
 have HPO := Lib.hid (hpop_c w1 HT1.out.heap (by omega))
 unfold aggT at HPO
 clear hm HNX
 go_wp2_with fail
 refine HPO.out.mono ?_
 rintro e w2 ⟨rfl, hh, hs⟩
 have hbx : Blk (w2.alloc (.cells #[.int .i64 x.id, .int .i64 x.when, .int .i64 x.seq] 186)) w2.heap.size 186 #[.int .i64 x.id, .int .i64 x.when, .int .i64 x.seq] := Blk.new w2 _ _
 have ht2 : Turns F w1 (w2.alloc (.cells #[.int .i64 x.id, .int .i64 x.when, .int .i64 x.seq] 186)) := hs.t.alloc _
 have hb1 := HB.out.lt
 have hbF : ¬ F w.heap.size := fun hf => by have := HT.out.heap.fb _ hf; omega
 have HB2 := Lib.hid (HB.out.turns ht2 hbF)
 have HQ2 := Lib.hid (HT1.out.blk.turns ht2 HT.out.nq)
 have HP2 := Lib.hid (HT1.out.map.turns ht2 HT.out.nm)
 have HH2 := Lib.hid (hh.made (alloc_made w2 (.cells #[.int .i64 x.id, .int .i64 x.when, .int .i64 x.seq] 186)))
 have HT2 := Lib.hid (HM1.out.mono (S' := G) (fun _ _ h => h.elim) |>.then ht2 (fun b _ hf => HT.out.ga b hf))
 have HX2 := Lib.hid hbx
 have hsz2 := ht2.size
 have hq8 : w1.heap.size ≤ w2.heap.size := hs.t.size
 clear hh hs hbx ht2 HB HT1 HPO c0 HM1
 go_wp2_with fail
 generalize hbq : w2.heap.size = bx at *
 generalize w2.alloc (.cells #[.int .i64 x.id, .int .i64 x.when, .int .i64 x.seq] 186) = W at *
 clear hbq w2
 refine wp_region_held_drew (S := (fun w' => Made W w')) (by kernel_rfl) ?_ (fun hHeld => ?_)
 ·exact (Turns.refl _ _).drew
 refine takeH (i := 0) (d := some 38) (v := ?_) rfl rfl (by kernel_rfl) (by kernel_rfl) (by kernel_rfl) (fun _ _ _ h => h) (Or.inl ⟨by rfl, ?_⟩) (by assumption) ?_
 rotate_left
 ·intro w hSw
  try dsimp only at hSw
  go_simp
  try with_reducible rfl
 try simp only [Act.put, List.setIfInBounds_toArray, List.set_cons_zero, List.set_cons_succ]
 refine takeH (i := 1) (d := some 39) (v := ?_) rfl rfl (by kernel_rfl) (by kernel_rfl) (by kernel_rfl) (fun _ _ _ h => h) (Or.inl ⟨by rfl, ?_⟩) (by assumption) ?_
 rotate_left
 ·intro w hSw
  try dsimp only at hSw
  go_simp
  try with_reducible rfl
 try simp only [Act.put, List.setIfInBounds_toArray, List.set_cons_zero, List.set_cons_succ]
 refine takeH (i := 2) (d := some 40) (v := ?_) rfl rfl (by kernel_rfl) (by kernel_rfl) (by kernel_rfl) (fun _ _ _ h => h) (Or.inl ⟨by rfl, ?_⟩) (by assumption) ?_
 rotate_left
 ·intro w hSw
  try dsimp only at hSw
  go_simp
  try with_reducible rfl
 try simp only [Act.put, List.setIfInBounds_toArray, List.set_cons_zero, List.set_cons_succ]
 refine takeH (i := 3) (d := some 41) (v := ?_) rfl rfl (by kernel_rfl) (by kernel_rfl) (by kernel_rfl) (fun _ _ _ h => h) (Or.inl ⟨by rfl, ?_⟩) (by assumption) ?_
 rotate_left
 ·intro w hSw
  try dsimp only at hSw
  have hb2 := HQ2.out.made hSw
  have d0 := hb2.cell 1
  simp only [List.getElem?_toArray, List.getElem?_cons_zero, List.getElem?_cons_succ] at d0
  clear hb2
  go_simp
  try with_reducible rfl
 try simp only [Act.put, List.setIfInBounds_toArray, List.set_cons_zero, List.set_cons_succ]
 refine takeH (i := 4) (d := some 42) (v := ?_) rfl rfl (by kernel_rfl) (by kernel_rfl) (by kernel_rfl) (fun _ _ _ h => h) (Or.inl ⟨by rfl, ?_⟩) (by assumption) ?_
 rotate_left
 ·intro w hSw
  try dsimp only at hSw
  go_simp
  try with_reducible rfl
 try simp only [Act.put, List.setIfInBounds_toArray, List.set_cons_zero, List.set_cons_succ]
 refine takeH (i := 5) (d := some 43) (v := ?_) rfl rfl (by kernel_rfl) (by kernel_rfl) (by kernel_rfl) (fun _ _ _ h => h) (Or.inl ⟨by rfl, ?_⟩) (by assumption) ?_
 rotate_left
 ·intro w hSw
  try dsimp only at hSw
  have hb2 := HX2.out.made hSw
  have d0 := hb2.cell 0
  simp only [List.getElem?_toArray, List.getElem?_cons_zero, List.getElem?_cons_succ] at d0
  clear hb2
  go_simp
  try with_reducible rfl
 try simp only [Act.put, List.setIfInBounds_toArray, List.set_cons_zero, List.set_cons_succ]
 refine takeH (i := 6) (d := some 44) (v := ?_) rfl rfl (by kernel_rfl) (by kernel_rfl) (by kernel_rfl) (fun _ _ _ h => h) (Or.inl ⟨by rfl, ?_⟩) (by assumption) ?_
 rotate_left
 ·intro w hSw
  try dsimp only at hSw
  have hlk := (HP2.out.turns hSw (fun h => h)).look (P := Tryz.prog) Tryz.underlying98 Tryz.underlying3 (zero_int _) x.id false
  simp only [Bool.false_eq_true, if_false] at hlk
  rw [HPV.out] at hlk
  go_simp
  try with_reducible rfl
 try simp only [Act.put, List.setIfInBounds_toArray, List.set_cons_zero, List.set_cons_succ]
 refine takeH (i := 7) (d := some 10) (v := ?_) rfl rfl (by kernel_rfl) (by kernel_rfl) (by kernel_rfl) (fun _ _ _ h => h) (Or.inl ⟨by rfl, ?_⟩) (by assumption) ?_
 rotate_left
 ·intro w hSw
  try dsimp only at hSw
  go_simp
  try with_reducible rfl
 try simp only [Act.put, List.setIfInBounds_toArray, List.set_cons_zero, List.set_cons_succ]
 refine wpAnyH_done (by kernel_rfl) ?_ _
 have HB3 := Lib.hid (HB2.out.made hHeld)
 have HQ3 := Lib.hid (HQ2.out.made hHeld)
 have HP3 := Lib.hid (HP2.out.turns hHeld (fun h => h))
 have HH3 := Lib.hid (HH2.out.made hHeld)
 have HT3 := Lib.hid (HT2.out.then hHeld (fun _ _ h => h.elim))
 have HX3 := Lib.hid (HX2.out.made hHeld)
 clear hHeld HB2 HQ2 HP2 HH2 HT2 HX2
 try clear hHeld
 go_wp2_with fail
 generalize W.drew = W3 at *
 refine wp_region_held_drew (S := (fun w' => Blk w' q 145 #[.pointer (some ⟨p, 0, none⟩), .map (some mb)] ∧ Blk w' bx 186 #[.int .i64 x.id, .int .i64 x.when, .int .i64 x.seq])) (by kernel_rfl) ?_ (fun hHeld => ?_)
 ·exact ⟨HQ3.out.made ((Turns.refl _ _).drew), HX3.out.made ((Turns.refl _ _).drew)⟩
 refine takeH (i := 0) (d := some 45) (v := ?_) rfl rfl (by kernel_rfl) (by kernel_rfl) (by kernel_rfl) (fun _ _ _ h => h) (Or.inl ⟨by rfl, ?_⟩) (by assumption) ?_
 rotate_left
 ·intro w hSw
  try dsimp only at hSw
  go_simp
  try with_reducible rfl
 try simp only [Act.put, List.setIfInBounds_toArray, List.set_cons_zero, List.set_cons_succ]
 refine takeH (i := 1) (d := some 46) (v := ?_) rfl rfl (by kernel_rfl) (by kernel_rfl) (by kernel_rfl) (fun _ _ _ h => h) (Or.inl ⟨by rfl, ?_⟩) (by assumption) ?_
 rotate_left
 ·intro w hSw
  try dsimp only at hSw
  go_simp
  try with_reducible rfl
 try simp only [Act.put, List.setIfInBounds_toArray, List.set_cons_zero, List.set_cons_succ]
 refine takeH (i := 2) (d := some 47) (v := ?_) rfl rfl (by kernel_rfl) (by kernel_rfl) (by kernel_rfl) (fun _ _ _ h => h) (Or.inl ⟨by rfl, ?_⟩) (by assumption) ?_
 rotate_left
 ·intro w hSw
  try dsimp only at hSw
  go_simp
  try with_reducible rfl
 try simp only [Act.put, List.setIfInBounds_toArray, List.set_cons_zero, List.set_cons_succ]
 refine takeH (i := 3) (d := some 48) (v := ?_) rfl rfl (by kernel_rfl) (by kernel_rfl) (by kernel_rfl) (fun _ _ _ h => h) (Or.inl ⟨by rfl, ?_⟩) (by assumption) ?_
 rotate_left
 ·intro w hSw
  try dsimp only at hSw
  have d0 := hSw.1.cell 1
  simp only [List.getElem?_toArray, List.getElem?_cons_zero, List.getElem?_cons_succ] at d0
  go_simp
  try with_reducible rfl
 try simp only [Act.put, List.setIfInBounds_toArray, List.set_cons_zero, List.set_cons_succ]
 refine takeH (i := 4) (d := some 49) (v := ?_) rfl rfl (by kernel_rfl) (by kernel_rfl) (by kernel_rfl) (fun _ _ _ h => h) (Or.inl ⟨by rfl, ?_⟩) (by assumption) ?_
 rotate_left
 ·intro w hSw
  try dsimp only at hSw
  go_simp
  try with_reducible rfl
 try simp only [Act.put, List.setIfInBounds_toArray, List.set_cons_zero, List.set_cons_succ]
 refine takeH (i := 5) (d := some 50) (v := ?_) rfl rfl (by kernel_rfl) (by kernel_rfl) (by kernel_rfl) (fun _ _ _ h => h) (Or.inl ⟨by rfl, ?_⟩) (by assumption) ?_
 rotate_left
 ·intro w hSw
  try dsimp only at hSw
  have d0 := hSw.2.cell 0
  simp only [List.getElem?_toArray, List.getElem?_cons_zero, List.getElem?_cons_succ] at d0
  go_simp
  try with_reducible rfl
 try simp only [Act.put, List.setIfInBounds_toArray, List.set_cons_zero, List.set_cons_succ]
 refine wpAnyH_ready (rs := [6]) (by kernel_rfl) (by simp) ?_
 refine AllReadyH.cons rfl (fun K hK => ?_) AllReadyH.nil
 obtain ⟨w4, hrun, hmap4, ht4, -⟩ := (HP3.out.turns ((Turns.refl (fun _ => False) W3).drew) (fun h => h)).drop (P := Tryz.prog) Tryz.underlying98 Tryz.underlying3 x.id 0
 go_simp
 refine hK.out _ _ ?_ (fun hHeld => ?_)
 ·exact ⟨(HQ3.out.made ((Turns.refl _ _).drew)).turns ht4 HT.out.qm, (HX3.out.made ((Turns.refl _ _).drew)).turns ht4 (by have := HT.out.map.lt; omega)⟩
 clear hK K
 try simp only [Act.put, List.setIfInBounds_toArray, List.set_cons_zero, List.set_cons_succ]
 refine wpAnyH_done (by kernel_rfl) ?_ _
 have hd : Made W3 W3.drew := (Turns.refl _ _).drew
 have hmw := HT.out.map.lt
 rw [pv_del] at hmap4
 have hm4n : ¬ w.heap.size = mb := by omega
 have HB4 := Lib.hid ((HB3.out.made hd).turns ht4 hm4n)
 have HX4 := Lib.hid (hHeld.2)
 have HTM := Lib.hid ({ blk := hHeld.1, heap := (HH3.out.made hd).turns ht4 (fun k hk e => HT.out.nm (by rw [← e]; exact hk)), map := hmap4, nq := HT.out.nq, nm := HT.out.nm, qm := HT.out.qm, ga := HT.out.ga, gq := HT.out.gq, gm := HT.out.gm, gb := fun k hk => Nat.lt_of_lt_of_le (HG.out k hk) (Nat.le_trans HT3.out.size (Nat.le_trans hd.size ht4.size)), per := (by have := per_del HT.out.per x.id; rw [HDE.out] at this; exact this) : TimIn w4 q p mb F G l sq (pdel pf x.id) })
 have HT4 := Lib.hid ((HT3.out.then hd (fun _ _ h => h.elim)).then ht4 (fun b _ e => by rw [e]; exact HT.out.gm))
 clear hHeld hmap4 ht4 hrun HB3 HQ3 HP3 HH3 HT3 HX3 hd
 try clear hHeld
 have hnx := next_c x.when pd now w4
 generalize hz : nextZ x.when pd now = nz at *
 obtain ⟨nx, er⟩ := nz
 simp only at hnx
 have HNX := Lib.hid hnx
 have HZ := Lib.hid hz
 clear hnx hz
 have hb4l := HB4.out.lt
 have hx4l := HX4.out.lt
 have d0 := HX4.out.cell 0
 simp only [List.getElem?_toArray, List.getElem?_cons_zero, List.getElem?_cons_succ] at d0
 by_cases hag : again x pd now
 ·have hbd := again_bd hag hn
  have hag2 := hag
  unfold again at hag2
  rw [HZ.out] at hag2 hbd
  simp only at hag2 hbd
  obtain ⟨rfl, hlt⟩ := hag2
  have HAR := Lib.hid (tarm_c x.id nx pd w4 ⟨p, mb, F, HTM.out⟩ hsq hbd.1 (by omega) hbd.2.1 hbd.2.2.2)
  have HAG := Lib.hid hag
  clear hag hbd
  go_wp2_with fail
  refine HNX.out.mono ?_
  rintro e w5 ⟨rfl, rfl⟩
  go_wp2_with fail
  refine HAR.out.mono ?_
  rintro e w5 ⟨rfl, G5, ht5, hs5⟩
  rw [delL_none HFN.out, pset_del] at ht5
  have HTT := Lib.hid ht5
  have HS5 := Lib.hid hs5
  have HB5 := Lib.hid (HB4.out.turns hs5.t (fun hf => by have := HG.out _ hf; omega))
  have HX5 := Lib.hid (HX4.out.turns hs5.t (fun hf => by have := HG.out _ hf; omega))
  clear ht5 hs5 d0 HAR HNX
  have d0 := HX5.out.cell 0
  have b0 := HB5.out.cell 0
  have b1 := HB5.out.cell 1
  have b2 := HB5.out.cell 2
  have g0 := HB5.out.free 0
  have g1 := HB5.out.free 1
  have g2 := HB5.out.free 2
  simp only [List.getElem?_toArray, List.getElem?_cons_zero, List.getElem?_cons_succ] at b0 b1 b2 d0
  go_wp2_with fail
  refine bodyPost_ret (res_boxD rfl (HB5.out.put3 _ _ _) rfl rfl) rfl ?_
  have hng : ∀ k, G5 k → k ≠ w.heap.size := fun k hk e => by
   subst e
   rcases HS5.out.f _ hk with h | h
   ·have := HG.out _ h; omega
   ·omega
  refine ⟨rfl, G5, fun _ => ?_, fun h => absurd HAG.out h, ⟨?_, fun k hk => ?_⟩⟩
  ·rw [HZ.out]
   exact HTT.out.turns (set3 _ w.heap.size) hng
  ·exact (HT4.out.then HS5.out.t (fun _ _ h => h)).then (set3 _ w.heap.size) (fun b hb e => by omega)
  ·rcases HS5.out.f k hk with h | h
   ·exact .inl h
   ·exact .inr (Nat.le_trans HT4.out.size h)
 ·have HAG := Lib.hid hag
  have b0 := HB4.out.cell 0
  have b1 := HB4.out.cell 1
  have b2 := HB4.out.cell 2
  have g0 := HB4.out.free 0
  have g1 := HB4.out.free 1
  have g2 := HB4.out.free 2
  simp only [List.getElem?_toArray, List.getElem?_cons_zero, List.getElem?_cons_succ] at b0 b1 b2
  unfold again at hag
  rw [HZ.out] at hag
  simp only at hag
  by_cases her : er = 0
  ·have hlt : ¬ now < nx := fun h => hag ⟨her, h⟩
   subst her
   clear hag
   go_wp2_with fail
   refine HNX.out.mono ?_
   rintro e w5 ⟨rfl, rfl⟩
   go_wp2_with fail
   refine bodyPost_ret (res_boxD rfl (HB4.out.put3 _ _ _) rfl rfl) rfl ?_
   refine ⟨rfl, G, fun h => absurd h HAG.out, fun _ => TimAt.turns ⟨p, mb, F, HTM.out⟩ (set3 _ w.heap.size) (fun k hk e => ?_), ⟨?_, fun k hk => .inl hk⟩⟩
   ·have := HG.out k hk; omega
   ·exact HT4.out.then (set3 _ w.heap.size) (fun b hb e => by omega)
  ·have herb : (er == 0) = false := beq_eq_false_iff_ne.mpr her
   clear hag
   go_wp2_with fail
   refine HNX.out.mono ?_
   rintro e w5 ⟨rfl, rfl⟩
   go_wp2_with fail
   refine bodyPost_ret (res_boxD rfl (HB4.out.put3 _ _ _) rfl rfl) rfl ?_
   refine ⟨rfl, G, fun h => absurd h HAG.out, fun _ => TimAt.turns ⟨p, mb, F, HTM.out⟩ (set3 _ w.heap.size) (fun k hk e => ?_), ⟨?_, fun k hk => .inl hk⟩⟩
   ·have := HG.out k hk; omega
   ·exact HT4.out.then (set3 _ w.heap.size) (fun b hb e => by omega)
end Go.Proofs.YtjnkphhlkoapbaaGreat
namespace Go.Proofs.YtjnkphhlkoapbaaGreat
open Go.RowKit
set_option linter.unusedVariables false
set_option linter.unusedSimpArgs false
structure Tk where
 kind : Int
 data : Int
 c : Option Nat
def tkC (x : Tk × Int) : List Value := [.int .i64 x.1.kind, .int .i64 x.1.data, .pointer (pt x.1.c), .int .i64 x.2]
theorem tkC_len (x : Tk × Int) : (tkC x).length = 4 := rfl
theorem tkC_one (x : Tk × Int) : ∀ u ∈ tkC x, u.oneCell' = true := by
 intro u hu
 simp only [tkC, List.mem_cons, List.not_mem_nil, or_false] at hu
 rcases hu with rfl | rfl | rfl | rfl <;> rfl
theorem Tryz.infoTk : (Tryz.prog.info? 156).map (fun i => (i.zero, i.size, i.bytes)) = some (some (.agg #[.int .i64 0, .int .i64 0, .pointer none, .int .i64 0]), 4, 32) := by kernel_rfl
theorem fillTk {i : TypeInfo} (h : i.size = 4) (a b c d : Value) : Instr.fill (fun k => some (k * i.size, i.size)) ((Array.range (1 * i.size)).map ((Value.agg #[.int .i64 0, .int .i64 0, .pointer none, .int .i64 0]).cells[· % (Value.agg #[.int .i64 0, .int .i64 0, .pointer none, .int .i64 0]).cells.size]!)) [(0, .agg #[a, b, c, d])] = some #[a, b, c, d] := by
 rw [h]
 first | kernel_rfl | simp [Instr.fill]
structure TsIn (w : World) (p q : Nat) (lb : Nat → Nat) (v : Value) (gs : List (Tk × Int)) (named : Int) (L : List It) (sq : Int) (pf : Int → Option Int) : Prop where
 blk : Blk w p 92 #[v, .pointer (some ⟨q, 0, none⟩), .int .i64 named]
 lp : lb p = 1
 own : Owns tkC 156 4 w v gs
 lv : ∀ k, v.ownBlock = some k ↔ lb k = 2
 tim : TimAt w q (fun k => lb k = 3) L sq pf
def Flat0 (pf : Int → Option Int) : Prop := ∀ id p, pf id = some p → p = 0
theorem Flat0.set {pf : Int → Option Int} (h : Flat0 pf) (i : Int) : Flat0 (pset pf i 0) := by
 intro id p hp
 unfold pset at hp
 split at hp
 ·cases hp; rfl
 ·exact h id p hp
theorem Flat0.nil : Flat0 (fun _ => none) := fun id p hp => (by cases hp)
theorem Flat0.del {pf : Int → Option Int} (h : Flat0 pf) (i : Int) : Flat0 (pdel pf i) := by
 intro id p hp
 unfold pdel at hp
 split at hp
 ·cases hp
 ·exact h id p hp
def TsAt (w : World) (p : Nat) (F : Nat → Prop) (ts : List Tk) (named : Int) (L : List It) (sq : Int) : Prop := ∃ q lb v gs pf, TsIn w p q lb v gs named L sq pf ∧ gs.map Prod.fst = ts ∧ Flat0 pf ∧ Lab w lb F
theorem TsIn.turns {S : Nat → Prop} {w w' : World} {p q : Nat} {lb : Nat → Nat} {v : Value} {gs : List (Tk × Int)} {named : Int} {L : List It} {sq : Int} {pf : Int → Option Int} (h : TsIn w p q lb v gs named L sq pf) (ht : Turns S w w') (hn : ∀ k, lb k ≠ 0 → ¬ S k) : TsIn w' p q lb v gs named L sq pf :=
 ⟨h.blk.turns ht (hn p (by rw [h.lp]; omega)), h.lp, h.own.turns ht (fun k hk => hn k (by rw [(h.lv k).1 hk]; omega)), h.lv, h.tim.turns ht (fun k hk => hn k (by rw [hk]; omega))⟩
theorem TsIn.made {w w' : World} {p q : Nat} {lb : Nat → Nat} {v : Value} {gs : List (Tk × Int)} {named : Int} {L : List It} {sq : Int} {pf : Int → Option Int} (h : TsIn w p q lb v gs named L sq pf) (ht : Made w w') : TsIn w' p q lb v gs named L sq pf := h.turns ht (fun _ _ h => h)
section
variable {w w' : World} {p : Nat} {F : Nat → Prop} {ts : List Tk} {named : Int} {L : List It} {sq : Int}
theorem TsAt.turns {S : Nat → Prop} (h : TsAt w p F ts named L sq) (ht : Turns S w w') (hn : ∀ k, F k → ¬ S k) : TsAt w' p F ts named L sq := by
 obtain ⟨q, lb, v, gs, pf, h, hg, hz, hl⟩ := h
 exact ⟨q, lb, v, gs, pf, h.turns ht (fun k hk => hn k ((hl.on k).2 hk)), hg, hz, hl.turns ht⟩
theorem TsAt.made (h : TsAt w p F ts named L sq) (ht : Made w w') : TsAt w' p F ts named L sq := h.turns ht (fun _ _ h => h)
theorem TsAt.fb (h : TsAt w p F ts named L sq) : ∀ k, F k → k < w.heap.size := by
 obtain ⟨q, lb, v, gs, pf, h, hg, hz, hl⟩ := h
 exact fun k hk => hl.lt k ((hl.on k).1 hk)
theorem TsAt.seqs (h : TsAt w p F ts named L sq) : ∀ x ∈ L, 1 ≤ x.seq ∧ x.seq ≤ sq := by
 obtain ⟨q, lb, v, gs, pf, h, hg, hz, hl⟩ := h
 exact h.tim.seqs
theorem TsAt.rise (h : TsAt w p F ts named L sq) : L.Pairwise lt := by
 obtain ⟨q, lb, v, gs, pf, h, hg, hz, hl⟩ := h
 exact h.tim.rise
end
theorem TsIn.setTim {w w' : World} {p q : Nat} {lb : Nat → Nat} {F F' : Nat → Prop} {v : Value} {gs : List (Tk × Int)} {named : Int} {L L' : List It} {sq sq' : Int} {pf pf' : Int → Option Int} (h : TsIn w p q lb v gs named L sq pf) (hl : Lab w lb F) (ht : TimAt w' q F' L' sq' pf') (hs : Stp w w' (fun k => lb k = 3) F') :
  ∃ lb' FF, TsIn w' p q lb' v gs named L' sq' pf' ∧ Lab w' lb' FF ∧ Stp w w' F FF := by
 obtain ⟨lb', FF, hl', e3, hne, hst⟩ := hl.step 3 (by omega) hs ht.gb
 refine ⟨lb', FF, ⟨h.blk.turns hs.t (by rw [h.lp]; omega), lab_is (hne 1 (by omega) (by omega)) h.lp, h.own.turns hs.t (fun k hk => by rw [(h.lv k).1 hk]; omega), fun k => (h.lv k).trans ?_, by rw [e3]; exact ht⟩, hl', hst⟩
 have := congrFun (hne 2 (by omega) (by omega)) k
 exact (iff_of_eq this).symm
theorem set_same {α : Type} {l : List α} {i : Nat} {x : α} (h : l[i]? = some x) : l.set i x = l := by
 obtain ⟨hi, rfl⟩ := List.getElem?_eq_some_iff.1 h
 exact List.set_getElem_self hi
theorem tsnew_c (w : World) : Calls Tryz.prog 18 #[] w fun e w' => ∃ p F, e = .returned (.pointer (some ⟨p, 0, none⟩)) ∧ TsAt w' p F [] 0 [] 0 ∧ Made w w' ∧ ∀ k, F k → w.heap.size ≤ k := by
 go_enter Tryz.func18, Tryz.ntmps18
 go_wp2_with fail
 refine (tnew_c w).mono ?_
 rintro e w1 ⟨q, G, rfl, h1, m1, f1⟩
 have H1 := Lib.hid (And.intro h1 (And.intro m1 f1))
 clear h1 m1 f1
 go_wp2_with fail
 go_ret
 obtain ⟨h1, m1, f1⟩ := H1.out
 have m2 := (Turns.refl (fun _ => False) w1).alloc (.cells #[.slice none 0 0, .pointer (some ⟨q, 0, none⟩), .int .i64 0] 92)
 obtain ⟨l1, hl1, e1, n1⟩ := (Lab.nil w).add (w' := w1) 3 (by omega) m1.size h1.gb (fun _ _ h => h) (fun _ => by omega)
 obtain ⟨l2, hl2, e2, n2⟩ := hl1.add (w' := w1.alloc (.cells #[.slice none 0 0, .pointer (some ⟨q, 0, none⟩), .int .i64 0] 92)) 1 (by omega) m2.size (G := fun k => k = w1.heap.size) (fun k hk => by simp; omega) (fun k hk h => by
  have := hl1.lt k ((hl1.on k).1 h)
  omega) (lab_no (n1 1 (by omega) (by omega)) (fun _ => by omega))
 have hno2 := lab_no (n2 2 (by omega) (by omega)) (lab_no (n1 2 (by omega) (by omega)) (fun _ => by omega))
 refine ⟨w1.heap.size, _, rfl, ⟨q, l2, .slice none 0 0, [], fun _ => none, ⟨Blk.new w1 _ _, ?_, Owns.nil, fun k => ?_, ?_⟩, rfl, Flat0.nil, hl2⟩, m1.trans m2, fun k hk => ?_⟩
 ·have := congrFun e2 w1.heap.size
  simpa using this
 ·simp [Value.ownBlock, hno2 k]
 ·rw [n2 3 (by omega) (by omega), e1]
  exact h1.made m2
 ·have := m1.size
  rcases hk with (hk | hk) | hk
  ·exact hk.elim
  ·exact f1 k hk
  ·omega
theorem tshas_c {w : World} {p i : Nat} {F : Nat → Prop} {ts : List Tk} {named : Int} {L : List It} {sq : Int} (h : TsAt w p F ts named L sq) (hi : i < ts.length) :
  Calls Tryz.prog 112 #[.pointer (some ⟨p, 0, none⟩), .int .i64 i] w fun e w' => e = .returned (.bool true) ∧ w = w' := by
 obtain ⟨q, lb, v, gs, pf, h, hg, hz, hl⟩ := h
 have hlen : gs.length = ts.length := by rw [← hg, List.length_map]
 obtain ⟨a, c, rfl⟩ := owns_slice h.own
 have q0 := h.blk.cell 0
 simp only [List.getElem?_toArray, List.getElem?_cons_zero, List.getElem?_cons_succ] at q0
 have hi2 : i < gs.length := by omega
 clear h hg hz hl hlen hi
 go_enter Tryz.func112, Tryz.ntmps112
 go_wp2_with fail
 go_ret
 refine ⟨?_, rfl⟩
 simp
 try omega
attribute [local go_sem] mx2 mn2 mx_two mn_two
theorem own_tk {w : World} {g c i : Nat} {gs : List (Tk × Int)} {x : Tk × Int} (h : Owns tkC 156 4 w (.slice (some ⟨g, 0, none⟩) gs.length c) gs) (hx : gs[i]? = some x) : w.cell? ⟨g, i * 4, none⟩ = some (.int .i64 x.1.kind) ∧ w.cell? ⟨g, i * 4 + 1, none⟩ = some (.int .i64 x.1.data) ∧ w.cell? ⟨g, i * 4 + 2, none⟩ = some (.pointer (pt x.1.c)) ∧ w.cell? ⟨g, i * 4 + 3, none⟩ = some (.int .i64 x.2) := by
 have h := fun j u hu => Owns.cell tkC_len h hx (j := j) (u := u) hu
 exact ⟨h 0 _ rfl, h 1 _ rfl, h 2 _ rfl, h 3 _ rfl⟩
set_option maxHeartbeats 2000000 in
theorem tsarm_c {w : World} {p i : Nat} {F : Nat → Prop} {ts : List Tk} {named : Int} {L : List It} {sq : Int} {x : Tk} {now d when_ : Int} (h : TsAt w p F ts named L sq) (hx : ts[i]? = some x) (hk : x.kind ≠ 2) (hn : ts.length ≤ 1000) (hsq : sq < 1000000) (hd : 0 ≤ d) (hw : addZ now d = when_) (h1 : 0 ≤ when_) (h2 : when_ ≤ 4611686018427387904) :
  Calls Tryz.prog 179 #[.pointer (some ⟨p, 0, none⟩), .int .i64 i, .int .i64 now, .int .i64 d] w fun e w' => e = .returned (.tuple #[]) ∧ ∃ F', TsAt w' p F' ts named (insL ⟨i, when_, sq + 1⟩ (delL i L)) (sq + 1) ∧ Stp w w' F F' := by
 obtain ⟨q, lb, v, gs, pf, h, hg, hz, hl⟩ := h
 have hlen : gs.length = ts.length := by rw [← hg, List.length_map]
 obtain ⟨gx, hgx, hgf⟩ : ∃ gx, gs[i]? = some gx ∧ gx.1 = x := by
  rw [← hg, List.getElem?_map, Option.map_eq_some_iff] at hx
  exact hx
 have hi : i < gs.length := (List.getElem?_eq_some_iff.1 hgx).1
 rcases h.own.form with ⟨_, h0⟩ | ⟨g, c, rfl, hgb, hlc, hcm⟩
 ·subst h0
  simp at hi
 have HG := Lib.hid hg
 have HZ := Lib.hid hz
 have HGX := Lib.hid hgx
 obtain ⟨k0, k1, k2, k3⟩ := own_tk h.own hgx
 have q0 := h.blk.cell 0
 simp only [List.getElem?_toArray, List.getElem?_cons_zero, List.getElem?_cons_succ] at q0
 have hk2 : (gx.1.kind == 2) = false := by
  rw [hgf]
  simpa using hk
 have hnl : gs.length ≤ 1000 := by omega
 have HW := Lib.hid hw
 have HLV := Lib.hid h.lv
 have HC := Lib.hid h
 have HL := Lib.hid hl
 clear hg hz hgx hgf hlen hx hk hl h hw
 have hdn : ¬ d < 0 := by omega
 go_enter Tryz.func179, Tryz.ntmps179
 go_wp2_with fail
 have HB := Lib.hid HC.out.blk
 have HAD := Lib.hid (add_c now d)
 have HT := Lib.hid (fun when_ h1 h2 => tarm_c (i : Int) when_ 0 w.drew (HC.out.tim.made (Turns.refl (fun _ => False) w).drew) hsq h1 (by omega) h2 (by omega))
 have HN1 := Lib.hid (show ¬ lb p = 3 from by rw [HC.out.lp]; omega)
 have hdn2 : (d < 0) = False := eq_false (by omega)
 clear k0 k1 k2 k3 q0
 refine wp_region_held_drew (S := fun w' => Blk w' (p) 92 #[.slice (some ⟨g, 0, none⟩) gs.length c, .pointer (some ⟨q, 0, none⟩), .int .i64 named] ∧ Turns (fun k => lb k = 3) w w') (by kernel_rfl) ?_ (fun hHeld => ?_)
 ·exact ⟨HB.out, (Turns.refl _ w).drew⟩
 refine takeH (i := 0) (d := some 20) (v := ?_) rfl rfl (by kernel_rfl) (by kernel_rfl) (by kernel_rfl) (fun _ _ _ h => h) (Or.inl ⟨by rfl, ?_⟩) (by assumption) ?_
 rotate_left
 ·intro w hSw
  try dsimp only at hSw
  go_simp
  try with_reducible rfl
 try simp only [Act.put, List.setIfInBounds_toArray, List.set_cons_zero, List.set_cons_succ]
 refine takeH (i := 1) (d := some 21) (v := ?_) rfl rfl (by kernel_rfl) (by kernel_rfl) (by kernel_rfl) (fun _ _ _ h => h) (Or.inl ⟨by rfl, ?_⟩) (by assumption) ?_
 rotate_left
 ·intro w hSw
  try dsimp only at hSw
  go_simp
  try with_reducible rfl
 try simp only [Act.put, List.setIfInBounds_toArray, List.set_cons_zero, List.set_cons_succ]
 refine takeH (i := 2) (d := some 22) (v := ?_) rfl rfl (by kernel_rfl) (by kernel_rfl) (by kernel_rfl) (fun _ _ _ h => h) (Or.inl ⟨by rfl, ?_⟩) (by assumption) ?_
 rotate_left
 ·intro w hSw
  try dsimp only at hSw
  go_simp
  try with_reducible rfl
 try simp only [Act.put, List.setIfInBounds_toArray, List.set_cons_zero, List.set_cons_succ]
 refine takeH (i := 3) (d := some 23) (v := ?_) rfl rfl (by kernel_rfl) (by kernel_rfl) (by kernel_rfl) (fun _ _ _ h => h) (Or.inl ⟨by rfl, ?_⟩) (by assumption) ?_
 rotate_left
 ·intro w hSw
  try dsimp only at hSw
  have q0_0 := hSw.1.cell 0
  have q0_1 := hSw.1.cell 1
  have q0_2 := hSw.1.cell 2
  simp only [List.getElem?_toArray, List.getElem?_cons_zero, List.getElem?_cons_succ] at q0_0 q0_1 q0_2
  go_simp
  try with_reducible rfl
 try simp only [Act.put, List.setIfInBounds_toArray, List.set_cons_zero, List.set_cons_succ]
 refine takeH (i := 4) (d := some 24) (v := ?_) rfl rfl (by kernel_rfl) (by kernel_rfl) (by kernel_rfl) (fun _ _ _ h => h) (Or.inl ⟨by rfl, ?_⟩) (by assumption) ?_
 rotate_left
 ·intro w hSw
  try dsimp only at hSw
  go_simp
  try with_reducible rfl
 try simp only [Act.put, List.setIfInBounds_toArray, List.set_cons_zero, List.set_cons_succ]
 refine takeH (i := 5) (d := some 25) (v := ?_) rfl rfl (by kernel_rfl) (by kernel_rfl) (by kernel_rfl) (fun _ _ _ h => h) (Or.inl ⟨by rfl, ?_⟩) (by assumption) ?_
 rotate_left
 ·intro w hSw
  try dsimp only at hSw
  go_simp
  try with_reducible rfl
 try simp only [Act.put, List.setIfInBounds_toArray, List.set_cons_zero, List.set_cons_succ]
 refine takeH (i := 6) (d := some 26) (v := ?_) rfl rfl (by kernel_rfl) (by kernel_rfl) (by kernel_rfl) (fun _ _ _ h => h) (Or.inl ⟨by rfl, ?_⟩) (by assumption) ?_
 rotate_left
 ·intro w hSw
  try dsimp only at hSw
  go_simp
  try with_reducible rfl
 try simp only [Act.put, List.setIfInBounds_toArray, List.set_cons_zero, List.set_cons_succ]
 refine takeH (i := 7) (d := some 27) (v := ?_) rfl rfl (by kernel_rfl) (by kernel_rfl) (by kernel_rfl) (fun _ _ _ h => h) (Or.inl ⟨by rfl, ?_⟩) (by assumption) ?_
 rotate_left
 ·intro w hSw
  try dsimp only at hSw
  go_simp
  try with_reducible rfl
 try simp only [Act.put, List.setIfInBounds_toArray, List.set_cons_zero, List.set_cons_succ]
 refine takeH (i := 9) (d := some 29) (v := ?_) rfl rfl (by kernel_rfl) (by kernel_rfl) (by kernel_rfl) (fun _ _ _ h => h) (Or.inl ⟨by rfl, ?_⟩) (by assumption) ?_
 rotate_left
 ·intro w hSw
  try dsimp only at hSw
  go_simp
  try with_reducible rfl
 try simp only [Act.put, List.setIfInBounds_toArray, List.set_cons_zero, List.set_cons_succ]
 refine wpAnyH_ready (rs := [8]) (by kernel_rfl) (by simp) ?_
 refine AllReadyH.cons rfl (fun K hK => ?_) AllReadyH.nil
 go_simp
 refine (HAD.out _).mono ?_
 rintro e w2 ⟨rfl, rfl⟩
 rw [HW.out]
 refine hK.out _ _ ?_ (fun hHeld => ?_)
 ·exact hHeld
 clear hK K
 try simp only [Act.put, List.setIfInBounds_toArray, List.set_cons_zero, List.set_cons_succ]
 refine wpAnyH_ready (rs := [10]) (by kernel_rfl) (by simp) ?_
 refine AllReadyH.cons rfl (fun K hK => ?_) AllReadyH.nil
 go_simp
 refine (HT.out _ h1 h2).mono ?_
 rintro e w2 ⟨rfl, F2, ht2, hs2⟩
 refine hK.out _ _ ?_ (fun hHeld => ?_)
 ·exact ⟨hHeld.1.turns hs2.t HN1.out, hHeld.2.trans hs2.t⟩
 clear hK K
 try simp only [Act.put, List.setIfInBounds_toArray, List.set_cons_zero, List.set_cons_succ]
 refine wpAnyH_done (by kernel_rfl) ?_ _
 obtain ⟨lb2, FF, hc2, hl2, hst2⟩ := (HC.out.made (Turns.refl (fun _ => False) w).drew).setTim (HL.out.turns (Turns.refl (fun _ => False) w).drew) ht2 hs2
 have HE := Lib.hid (And.intro hc2 (And.intro hl2 ((Stp.made (F := F) (Turns.refl (fun _ => False) w).drew).trans hst2)))
 obtain ⟨k0, k1, k2, k3⟩ := own_tk hc2.own HGX.out
 have q0 := hc2.blk.cell 0
 simp only [List.getElem?_toArray, List.getElem?_cons_zero, List.getElem?_cons_succ] at q0
 have f3 := hc2.own.free (i * 4 + 3)
 clear hHeld ht2 hs2 hc2 hl2 hst2 k0 k1 k2
 go_wp2_with fail
 go_end0
 obtain ⟨hc2, hl2, hst2⟩ := HE.out
 have hp := hc2.own.put tkC_len HGX.out (x' := (gx.1, wrap64 (gx.2 + 1))) (j := 3) (u := .int .i64 (wrap64 (gx.2 + 1))) rfl (by omega)
 have hpg : ¬ p = g := fun e => by
  have h3 := (hc2.lv g).1 rfl
  rw [← e, hc2.lp] at h3
  omega
 have htg := (Turns.refl (fun k => lb2 k = 2) w2).setCell (p := ⟨g, i * 4 + 3, none⟩) (fun _ => (hc2.lv g).1 rfl) (.int .i64 (wrap64 (gx.2 + 1)))
 refine ⟨rfl, FF, ⟨q, lb2, _, gs.set i (gx.1, wrap64 (gx.2 + 1)), _, ⟨hc2.blk.turns htg (by rw [hc2.lp]; omega), hc2.lp, hp, hc2.lv, hc2.tim.turns htg (fun k hk => by rw [hk]; omega)⟩, ?_, HZ.out.set i, hl2.turns htg⟩, hst2.trans (Stp.same (htg.mono (fun k _ hk => (hl2.on k).2 (by rw [hk]; omega))))⟩
 rw [List.map_set, HG.out]
 exact set_same (by rw [← HG.out, List.getElem?_map, HGX.out]; rfl)
end Go.Proofs.YtjnkphhlkoapbaaGreat
namespace Go.Proofs.YtjnkphhlkoapbaaGreat
open Go.RowKit
set_option linter.unusedVariables false
set_option linter.unusedSimpArgs false
set_option maxRecDepth 100000 in
set_option maxHeartbeats 4000000 in
theorem tsmake1_c {w : World} {p : Nat} {F : Nat → Prop} {ts : List Tk} {named : Int} {L : List It} {sq : Int} {now d when_ data : Int} {cp : Option Nat} (h : TsAt w p F ts named L sq) (hn : ts.length < 1000) (hnm : 0 ≤ named ∧ named < 64) (hsq : sq < 1000000) (hdt : 0 ≤ data) (hnow : 0 ≤ now ∧ now ≤ 4611686018427387904) (hd : 0 ≤ d) (hw : addZ now d = when_) (h1 : 0 ≤ when_) (h2 : when_ ≤ 4611686018427387904) :
  Calls Tryz.prog 176 #[.pointer (some ⟨p, 0, none⟩), .agg #[.int .i64 1, .int .i64 data, .pointer (pt cp), .int .i64 0], .int .i64 now, .int .i64 d] w fun e w' => e = .returned (.tuple #[.int .i64 ts.length, .int .i64 0]) ∧ ∃ F', TsAt w' p F' (ts ++ [⟨1, data, cp⟩]) (named + 1) (insL ⟨ts.length, when_, sq + 1⟩ (delL ts.length L)) (sq + 1) ∧ Stp w w' F F' := by
 obtain ⟨hnow1, hnow2⟩ := hnow
 obtain ⟨hnm1, hnm2⟩ := hnm
 have HM := Lib.hid ((Turns.refl (fun _ => False) w).alloc (.cells #[.int .i64 1, .int .i64 data, .pointer (pt cp), .int .i64 0] 156))
 have HX := Lib.hid (Blk.new w 156 #[.int .i64 1, .int .i64 data, .pointer (pt cp), .int .i64 0])
 obtain ⟨q, lb, v, gs, pf, h, hg, hz, hl⟩ := h
 have HLEN := Lib.hid (show gs.length = ts.length from by rw [← hg, List.length_map])
 have HC := Lib.hid (h.made HM.out)
 have HL := Lib.hid (hl.turns HM.out)
 have HN0 := Lib.hid (show lb w.heap.size = 0 from by
  by_cases e : lb w.heap.size = 0
  ·exact e
  ·have := hl.lt _ e; omega)
 have HG := Lib.hid (And.intro hg hz)
 have q2 := HC.out.blk.cell 2
 have f2 := HC.out.blk.free 2
 simp only [List.getElem?_toArray, List.getElem?_cons_zero, List.getElem?_cons_succ] at q2
 have HW := Lib.hid hw
 clear h hg hz hl hw
 go_enter Tryz.func176, Tryz.ntmps176
 go_wp2_with fail
 refine (tbad_c now _ hnow1 hnow2).mono ?_
 rintro e w1 ⟨rfl, rfl⟩
 go_upto_region 8 with fail
 have HP2 := HC.out.blk.put 2 (.int .i64 (named + 1))
 simp only [List.setIfInBounds_toArray, List.set_cons_zero, List.set_cons_succ] at HP2
 have HP := Lib.hid HP2
 have ht0 := set1 (w.alloc (.cells #[.int .i64 1, .int .i64 data, .pointer (pt cp), .int .i64 0] 156)) p 2 (.int .i64 (named + 1))
 have HT0 := Lib.hid ht0
 have HNP := Lib.hid (show ∀ k, lb k ≠ 0 → lb k ≠ 1 → ¬ k = p from fun k h0 h1 e => h1 (by rw [e, HC.out.lp]))
 have hpne : ¬ w.heap.size = p := fun e => by have h3 := HC.out.lp; rw [← e, HN0.out] at h3; omega
 have HX2 := Lib.hid (HX.out.turns ht0 hpne)
 have HO := Lib.hid (HC.out.own.turns ht0 (fun k hk e => by have h3 := (HC.out.lv k).1 hk; rw [e, HC.out.lp] at h3; omega))
 have HTI := Lib.hid (HC.out.tim.turns ht0 (fun k hk e => by rw [e, HC.out.lp] at hk; omega))
 have HL2 := Lib.hid (HL.out.turns ht0)
 have HS0 := Lib.hid (show Turns F w ((w.alloc (.cells #[.int .i64 1, .int .i64 data, .pointer (pt cp), .int .i64 0] 156)).setCell ⟨p, 2, none⟩ (.int .i64 (named + 1))) from (HM.out.mono (fun _ _ h => h.elim)).then ht0 (fun k hk e => (HL.out.on k).2 (by rw [e, HC.out.lp]; omega)))
 clear HP2 ht0 hpne q2 f2
 generalize (w.alloc (.cells #[.int .i64 1, .int .i64 data, .pointer (pt cp), .int .i64 0] 156)).setCell ⟨p, 2, none⟩ (.int .i64 (named + 1)) = W at *
 have HNP1 := Lib.hid (show ∀ k, v.ownBlock = some k → k ≠ p from fun k hk e => by have h3 := (HC.out.lv k).1 hk; rw [e, HC.out.lp] at h3; omega)
 have HNX1 := Lib.hid (show ∀ k, v.ownBlock = some k → k ≠ w.heap.size from fun k hk e => by have h3 := (HC.out.lv k).1 hk; rw [e, HN0.out] at h3; omega)
 obtain ⟨i0, hi0, hz0, hz1, hz2⟩ := info_parts Tryz.infoTk
 refine wp_region_z (S := fun w' => Blk w' (p) 92 #[v, .pointer (some ⟨q, 0, none⟩), .int .i64 (named + 1)] ∧ Blk w' (w.heap.size) 156 #[.int .i64 1, .int .i64 data, .pointer (pt cp), .int .i64 0] ∧ Turns (fun k => (v).ownBlock = some k) W w') 10 (by kernel_rfl) ?_ (fun hHeld => ?_)
 ·exact ⟨HP.out, HX2.out, (Turns.refl _ W).drew⟩
 refine takeZ (i := 0) (d := some 50) (v := ?_) rfl rfl (by kernel_rfl) (by kernel_rfl) (by kernel_rfl) (by kernel_rfl) (fun _ _ _ h => h) (Or.inl ⟨by rfl, ?_⟩) (by assumption) ?_
 rotate_left
 ·intro w hSw
  try dsimp only at hSw
  go_simp
  try with_reducible rfl
 try simp only [Act.put, List.setIfInBounds_toArray, List.set_cons_zero, List.set_cons_succ]
 refine takeZ (i := 1) (d := some 51) (v := ?_) rfl rfl (by kernel_rfl) (by kernel_rfl) (by kernel_rfl) (by kernel_rfl) (fun _ _ _ h => h) (Or.inl ⟨by rfl, ?_⟩) (by assumption) ?_
 rotate_left
 ·intro w hSw
  try dsimp only at hSw
  go_simp
  try with_reducible rfl
 try simp only [Act.put, List.setIfInBounds_toArray, List.set_cons_zero, List.set_cons_succ]
 refine takeZ (i := 2) (d := some 52) (v := ?_) rfl rfl (by kernel_rfl) (by kernel_rfl) (by kernel_rfl) (by kernel_rfl) (fun _ _ _ h => h) (Or.inl ⟨by rfl, ?_⟩) (by assumption) ?_
 rotate_left
 ·intro w hSw
  try dsimp only at hSw
  go_simp
  try with_reducible rfl
 try simp only [Act.put, List.setIfInBounds_toArray, List.set_cons_zero, List.set_cons_succ]
 refine takeZ (i := 3) (d := some 53) (v := ?_) rfl rfl (by kernel_rfl) (by kernel_rfl) (by kernel_rfl) (by kernel_rfl) (fun _ _ _ h => h) (Or.inl ⟨by rfl, ?_⟩) (by assumption) ?_
 rotate_left
 ·intro w hSw
  try dsimp only at hSw
  go_simp
  try with_reducible rfl
 try simp only [Act.put, List.setIfInBounds_toArray, List.set_cons_zero, List.set_cons_succ]
 refine takeZ (i := 4) (d := some 54) (v := ?_) rfl rfl (by kernel_rfl) (by kernel_rfl) (by kernel_rfl) (by kernel_rfl) (fun _ _ _ h => h) (Or.inl ⟨by rfl, ?_⟩) (by assumption) ?_
 rotate_left
 ·intro w hSw
  try dsimp only at hSw
  have q0_0 := hSw.1.cell 0
  have q0_1 := hSw.1.cell 1
  have q0_2 := hSw.1.cell 2
  have q1_0 := hSw.2.1.cell 0
  have q1_1 := hSw.2.1.cell 1
  have q1_2 := hSw.2.1.cell 2
  have q1_3 := hSw.2.1.cell 3
  simp only [List.getElem?_toArray, List.getElem?_cons_zero, List.getElem?_cons_succ] at q0_0 q0_1 q0_2 q1_0 q1_1 q1_2 q1_3
  go_simp
  try with_reducible rfl
 try simp only [Act.put, List.setIfInBounds_toArray, List.set_cons_zero, List.set_cons_succ]
 refine takeZ (i := 5) (d := some 55) (v := ?_) rfl rfl (by kernel_rfl) (by kernel_rfl) (by kernel_rfl) (by kernel_rfl) (fun _ _ _ h => h) (Or.inl ⟨by rfl, ?_⟩) (by assumption) ?_
 rotate_left
 ·intro w hSw
  try dsimp only at hSw
  have q0_0 := hSw.1.cell 0
  have q0_1 := hSw.1.cell 1
  have q0_2 := hSw.1.cell 2
  have q1_0 := hSw.2.1.cell 0
  have q1_1 := hSw.2.1.cell 1
  have q1_2 := hSw.2.1.cell 2
  have q1_3 := hSw.2.1.cell 3
  simp only [List.getElem?_toArray, List.getElem?_cons_zero, List.getElem?_cons_succ] at q0_0 q0_1 q0_2 q1_0 q1_1 q1_2 q1_3
  go_simp
  try with_reducible rfl
 try simp only [Act.put, List.setIfInBounds_toArray, List.set_cons_zero, List.set_cons_succ]
 refine wpAnyZ_ready (rs := [6]) (by kernel_rfl) (by simp) ?_
 refine AllReadyZ.cons rfl (fun K hK => ?_) AllReadyZ.nil
 refine step_single rfl _ (.tmp 55) (by rfl) i0 _ Tryz.underlying90 hi0 hz0 (by rw [hz1]; decide) (by rw [hz1]; decide) #[.int .i64 1, .int .i64 data, .pointer (pt cp), .int .i64 0] (by rfl) (fillTk hz1 _ _ _ _) ?_
 intro bX wX hTX hBX hLX
 refine hK.out _ _ ?_ (fun hHeld => ?_)
 ·exact ⟨hHeld.1.turns hTX (fun h => h), hHeld.2.1.turns hTX (fun h => h), (hHeld.2.2).trans (hTX.mono (fun _ _ h => h.elim))⟩
 clear hK K
 try simp only [Act.put, List.setIfInBounds_toArray, List.set_cons_zero, List.set_cons_succ]
 refine wpAnyZ_ready (rs := [7]) (by kernel_rfl) (by simp) ?_
 refine AllReadyZ.cons rfl (fun K hK => ?_) AllReadyZ.nil
 refine step_push rfl _ _ _ (by rfl) i0 _ 32 Tryz.underlying90 hi0 hz0 hz1 hz2 rfl (by omega) tkC_len tkC_one (by rfl) ((HO.out.drew).turns hTX (fun _ _ h => h)) ((⟨1, data, cp⟩, 0)) (by rfl) hBX (by rw [HLEN.out]; omega) (by omega) ?_
 intro v2 w2 hO2 hT2 hV2
 obtain ⟨a3, c3, rfl⟩ := owns_slice hO2
 refine hK.out _ _ ?_ (fun hHeld => ?_)
 ·exact ⟨hHeld.1.turns hT2 (fun e => HNP1.out _ e rfl), hHeld.2.1.turns hT2 (fun e => HNX1.out _ e rfl), (hHeld.2.2).trans hT2⟩
 clear hK K
 try simp only [Act.put, List.setIfInBounds_toArray, List.set_cons_zero, List.set_cons_succ]
 refine wpAnyZ_ready (rs := [8]) (by kernel_rfl) (by simp) ?_
 refine AllReadyZ.cons rfl (fun K hK => ?_) AllReadyZ.nil
 go_simp
 refine hK.out _ _ hHeld (fun hHeld => ?_)
 clear hK K
 try simp only [Act.put, List.setIfInBounds_toArray, List.set_cons_zero, List.set_cons_succ]
 refine takeZ (i := 9) (d := some 59) (v := ?_) rfl rfl (by kernel_rfl) (by kernel_rfl) (by kernel_rfl) (by kernel_rfl) (fun _ _ _ h => h) (Or.inl ⟨by rfl, ?_⟩) (by assumption) ?_
 rotate_left
 ·intro w hSw
  try dsimp only at hSw
  go_simp
  try with_reducible rfl
 try simp only [Act.put, List.setIfInBounds_toArray, List.set_cons_zero, List.set_cons_succ]
 refine wpAnyZ_ready (rs := [10]) (by kernel_rfl) (by simp) ?_
 refine AllReadyZ.last rfl (fun K hK => ?_) AllReadyZ.nil
 have qz0 := hHeld.1.cell 0
 have qf := hHeld.1.free 0
 simp only [List.getElem?_toArray, List.getElem?_cons_zero, List.getElem?_cons_succ] at qz0
 go_simp
 refine hK.out _ _ ?_
 clear hK K
 try simp only [Act.put, List.setIfInBounds_toArray, List.set_cons_zero, List.set_cons_succ]
 refine wpAnyZ_done (by kernel_rfl) ?_ _
 have hp2 := hHeld.1.put 0 (.slice a3 (gs.length + 1) c3)
 simp only [List.setIfInBounds_toArray, List.set_cons_zero, List.set_cons_succ] at hp2
 have hsz : W.heap.size ≤ wX.heap.size := hTX.size
 have hne2 : ∀ k, (Value.slice a3 (gs.length + 1) c3).ownBlock = some k → k ≠ p := fun k hk e => by
  subst e
  rcases hV2 _ (by simpa using hk) with h4 | h4
  ·exact HNP1.out _ h4 rfl
  ·have := HP.out.lt; omega
 have ho2 : Owns tkC 156 4 (w2.setCell ⟨p, 0, none⟩ (.slice a3 (gs.length + 1) c3)) (.slice a3 (gs.length + 1) c3) (gs ++ [(⟨1, data, cp⟩, 0)]) := by
  have := hO2.turns (set1 w2 p 0 (.slice a3 (gs.length + 1) c3)) (fun k hk => hne2 k (by simpa using hk))
  simpa using this
 have ht2 : Turns (fun k => lb k = 1 ∨ lb k = 2) W (w2.setCell ⟨p, 0, none⟩ (.slice a3 (gs.length + 1) c3)) := by
  refine (hHeld.2.2.mono (S' := fun k => lb k = 1 ∨ lb k = 2) (fun k _ hk => .inr ((HC.out.lv k).1 hk))).trans ((set1 w2 p 0 _).mono (fun k _ e => .inl (by rw [e]; exact HC.out.lp)))
 have hst2 : Stp W (w2.setCell ⟨p, 0, none⟩ (.slice a3 (gs.length + 1) c3)) (fun k => lb k = 2) (fun k => (Value.slice a3 (gs.length + 1) c3).ownBlock = some k) ∨ True := .inr trivial
 have hTI2 := HTI.out.turns ht2 (fun k hk h => by rw [hk] at h; omega)
 have hlab : ∃ lb' FF, (∀ k, (Value.slice a3 (gs.length + 1) c3).ownBlock = some k ↔ lb' k = 2) ∧ lb' p = 1 ∧ (fun k => lb' k = 3) = (fun k => lb k = 3) ∧ Lab (w2.setCell ⟨p, 0, none⟩ (.slice a3 (gs.length + 1) c3)) lb' FF ∧ Stp w (w2.setCell ⟨p, 0, none⟩ (.slice a3 (gs.length + 1) c3)) F FF := by
  have hmid : Turns (fun k => lb k = 2) W w2 := hHeld.2.2.mono (fun k _ hk => (HC.out.lv k).1 hk)
  obtain ⟨lb', FF, hl', e2, hne, hst⟩ := HL2.out.step 2 (by omega) (w' := w2) (F' := fun k => (Value.slice a3 (gs.length + 1) c3).ownBlock = some k) ⟨hmid, fun k hk => by
   rcases hV2 k (by simpa using hk) with h4 | h4
   ·exact .inl ((HC.out.lv k).1 h4)
   ·exact .inr (by omega)⟩ (fun k hk => hO2.lt (by simpa using hk))
  have hlp := lab_is (hne 1 (by omega) (by omega)) HC.out.lp
  refine ⟨lb', FF, fun k => (iff_of_eq (congrFun e2 k)).symm, hlp, hne 3 (by omega) (by omega), hl'.turns (set1 w2 p 0 _), ?_⟩
  refine ⟨(HS0.out.then hst.t (fun k hk h => h)).trans ((set1 w2 p 0 _).mono (fun k _ e => (HL.out.on k).2 (by rw [e, HC.out.lp]; omega))), fun k hk => ?_⟩
  rcases hst.f k hk with h4 | h4
  ·exact .inl h4
  ·have := HS0.out.size; exact .inr (by omega)
 obtain ⟨lb', FF, hlv, hlp, hl3, hl', hs'⟩ := hlab
 have hin : TsIn (w2.setCell ⟨p, 0, none⟩ (.slice a3 (gs.length + 1) c3)) p q lb' (.slice a3 (gs.length + 1) c3) (gs ++ [(⟨1, data, cp⟩, 0)]) (named + 1) L sq pf := ⟨hp2, hlp, ho2, hlv, by rw [hl3]; exact hTI2⟩
 have hgl : (gs ++ [((⟨1, data, cp⟩ : Tk), (0 : Int))]).map Prod.fst = ts ++ [⟨1, data, cp⟩] := by rw [List.map_append, HG.out.1]; rfl
 have hat : TsAt (w2.setCell ⟨p, 0, none⟩ (.slice a3 (gs.length + 1) c3)) p FF (ts ++ [⟨1, data, cp⟩]) (named + 1) L sq := ⟨q, lb', _, _, pf, hin, hgl, HG.out.2, hl'⟩
 have q0 := hin.blk.cell 0
 simp only [List.getElem?_toArray, List.getElem?_cons_zero, List.getElem?_cons_succ] at q0
 have HARM := Lib.hid (tsarm_c (i := ts.length) (x := ⟨1, data, cp⟩) hat (by simp) (by show (1 : Int) ≠ 2; decide) (by simp; omega) hsq hd HW.out h1 h2)
 have HS2 := Lib.hid hs'
 clear hHeld hO2 hT2 hV2 hTX hBX hLX hp2 hsz hne2 ho2 ht2 hst2 hTI2 hlv hlp hl3 hl' hs' hin hgl hat
 generalize w2.setCell ⟨p, 0, none⟩ (.slice a3 (gs.length + 1) c3) = V at *
 rw [HLEN.out] at *
 go_wp2_with fail
 refine HARM.out.mono ?_
 rintro e w3 ⟨rfl, F3, h3, hs3⟩
 obtain ⟨q', lb3, v3, gs3, pf3, hin3, hg3, hz3, hl3⟩ := h3
 obtain ⟨a4, c4, rfl⟩ := owns_slice hin3.own
 have hlen3 : gs3.length = ts.length + 1 := by
  have := congrArg List.length hg3
  simpa using this
 have q0 := hin3.blk.cell 0
 simp only [List.getElem?_toArray, List.getElem?_cons_zero, List.getElem?_cons_succ] at q0
 rw [hlen3] at q0
 have HE := Lib.hid (show TsAt w3 p F3 _ _ _ _ from ⟨q', lb3, _, gs3, pf3, hin3, hg3, hz3, hl3⟩)
 have HS3 := Lib.hid (HS2.out.trans hs3)
 clear hin3 hg3 hz3 hl3 hs3 hlen3
 go_wp2_with fail
 go_ret2
 refine ⟨?_, F3, HE.out, HS3.out⟩
 simp
end Go.Proofs.YtjnkphhlkoapbaaGreat
namespace Go.Proofs.YtjnkphhlkoapbaaGreat
open Go.RowKit
set_option linter.unusedVariables false
set_option linter.unusedSimpArgs false
theorem tstimer_c {w : World} {p : Nat} {F : Nat → Prop} {ts : List Tk} {named : Int} {L : List It} {sq : Int} {now d when_ : Int} (h : TsAt w p F ts named L sq) (hn : ts.length < 1000) (hnm : 0 ≤ named ∧ named < 64) (hsq : sq < 1000000) (hnow : 0 ≤ now ∧ now ≤ 4611686018427387904) (hd : 0 ≤ d) (hw : addZ now d = when_) (h1 : 0 ≤ when_) (h2 : when_ ≤ 4611686018427387904) :
  Calls Tryz.prog 131 #[.pointer (some ⟨p, 0, none⟩), .int .i64 now, .int .i64 d] w fun e w' => ∃ cp Fc F', e = .returned (.tuple #[.int .i64 ts.length, .pointer (some ⟨cp, 0, none⟩), .int .i64 0]) ∧ TsAt w' p F' (ts ++ [⟨1, 0, some cp⟩]) (named + 1) (insL ⟨ts.length, when_, sq + 1⟩ (delL ts.length L)) (sq + 1) ∧ ChAt w' cp Fc ⟨true, false, false, true, none, []⟩ ∧ Stp w w' F F' ∧ (∀ k, Fc k → w.heap.size ≤ k) ∧ ∀ k, Fc k → ¬ F' k := by
 have H : Calls Tryz.prog 175 #[.pointer (some ⟨p, 0, none⟩), .int .i64 1, .int .i64 now, .int .i64 d] w fun e w' => ∃ cp Fc F', e = .returned (.tuple #[.int .i64 ts.length, .pointer (some ⟨cp, 0, none⟩), .int .i64 0]) ∧ TsAt w' p F' (ts ++ [⟨1, 0, some cp⟩]) (named + 1) (insL ⟨ts.length, when_, sq + 1⟩ (delL ts.length L)) (sq + 1) ∧ ChAt w' cp Fc ⟨true, false, false, true, none, []⟩ ∧ Stp w w' F F' ∧ (∀ k, Fc k → w.heap.size ≤ k) ∧ ∀ k, Fc k → ¬ F' k := by
  have HA := Lib.hid h
  have HW := Lib.hid hw
  clear h hw
  go_enter Tryz.func175, Tryz.ntmps175
  go_wp2_with fail
  refine (chtimed_c w).mono ?_
  rintro e w1 ⟨cp, Fc, rfl, hc, m1, f1⟩
  have HC := Lib.hid (And.intro hc (And.intro m1 f1))
  have HMK := Lib.hid (tsmake1_c (data := 0) (cp := some cp) (HA.out.made m1) hn hnm hsq (by omega) hnow hd HW.out h1 h2)
  simp only [pt, Option.map] at HMK
  clear hc m1 f1
  go_wp2_with fail
  refine HMK.out.mono ?_
  rintro e w2 ⟨rfl, F2, h2, hs2⟩
  have HE := Lib.hid (And.intro h2 hs2)
  clear h2 hs2
  go_wp2_with fail
  obtain ⟨hc, m1, f1⟩ := HC.out
  obtain ⟨h2, hs2⟩ := HE.out
  have hdis : ∀ k, Fc k → ¬ F k := fun k hk h => by have := HA.out.fb k h; have := f1 k hk; omega
  exact bodyPost_ret (v := .tuple #[.int .i64 ts.length, .pointer (some ⟨cp, 0, none⟩), .int .i64 0]) (by simp [results, Tryz.results175, go_sem]) rfl ⟨cp, Fc, F2, rfl, h2, hc.turns hs2.t hdis, (Stp.made m1).trans hs2, f1, fun k hk h => by
   rcases hs2.f k h with h3 | h3
   ·exact hdis k hk h3
   ·have := hc.fb k hk; omega⟩
 have H := Lib.hid H
 clear h hw
 go_enter Tryz.func131, Tryz.ntmps131
 go_wp2_with fail
 refine H.out.mono ?_
 rintro e w1 ⟨cp, Fc, F2, rfl, h3⟩
 have HE := Lib.hid h3
 clear h3
 go_wp2_with fail
 exact bodyPost_ret (v := .tuple #[.int .i64 ts.length, .pointer (some ⟨cp, 0, none⟩), .int .i64 0]) (by simp [results, Tryz.results131, go_sem]) rfl ⟨cp, Fc, F2, rfl, HE.out⟩
theorem ts_row {w : World} {p : Nat} {F : Nat → Prop} {ts : List Tk} {named : Int} {L : List It} {sq : Int} {i : Nat} {x : Tk} (h : TsAt w p F ts named L sq) (hx : ts[i]? = some x) : ∃ q g c n, w.cell? ⟨p, 0, none⟩ = some (.slice (some ⟨g, 0, none⟩) n c) ∧ w.cell? ⟨p, 1, none⟩ = some (.pointer (some ⟨q, 0, none⟩)) ∧ i < n ∧ w.cell? ⟨g, i * 4, none⟩ = some (.int .i64 x.kind) ∧ w.cell? ⟨g, i * 4 + 1, none⟩ = some (.int .i64 x.data) ∧ w.cell? ⟨g, i * 4 + 2, none⟩ = some (.pointer (pt x.c)) ∧ n = ts.length := by
 obtain ⟨q, lb, v, gs, pf, h, hg, hz, hl⟩ := h
 have hlen : gs.length = ts.length := by rw [← hg, List.length_map]
 obtain ⟨gx, hgx, hgf⟩ : ∃ gx, gs[i]? = some gx ∧ gx.1 = x := by
  rw [← hg, List.getElem?_map, Option.map_eq_some_iff] at hx
  exact hx
 have hi : i < gs.length := (List.getElem?_eq_some_iff.1 hgx).1
 rcases h.own.form with ⟨_, h0⟩ | ⟨g, c, rfl, hgb, hlc, hcm⟩
 ·subst h0
  simp at hi
 obtain ⟨k0, k1, k2, k3⟩ := own_tk h.own hgx
 have q0 := h.blk.cell 0
 have q1 := h.blk.cell 1
 simp only [List.getElem?_toArray, List.getElem?_cons_zero, List.getElem?_cons_succ] at q0 q1
 rw [hgf] at k0 k1 k2
 exact ⟨q, g, c, gs.length, q0, q1, hi, k0, k1, k2, hlen⟩
theorem tskind_c {w : World} {p : Nat} {F : Nat → Prop} {ts : List Tk} {named : Int} {L : List It} {sq : Int} {i : Nat} {x : Tk} (h : TsAt w p F ts named L sq) (hx : ts[i]? = some x) (hn : ts.length ≤ 1000) :
  Calls Tryz.prog 134 #[.pointer (some ⟨p, 0, none⟩), .int .i64 i] w fun e w' => e = .returned (.int .i64 x.kind) ∧ w = w' := by
 have H := Lib.hid (tshas_c h (List.getElem?_eq_some_iff.1 hx).1)
 obtain ⟨q, g, c, n, q0, q1, hi, k0, k1, k2, hnn⟩ := ts_row h hx
 have hn2 : n ≤ 1000 := by omega
 clear h hx hnn
 go_enter Tryz.func134, Tryz.ntmps134
 go_wp2_with fail
 refine H.out.mono ?_
 rintro e w1 ⟨rfl, rfl⟩
 go_wp2_with fail
 go_ret
 exact ⟨rfl, rfl⟩
theorem tschan_c {w : World} {p : Nat} {F : Nat → Prop} {ts : List Tk} {named : Int} {L : List It} {sq : Int} {i : Nat} {x : Tk} (h : TsAt w p F ts named L sq) (hx : ts[i]? = some x) (hn : ts.length ≤ 1000) :
  Calls Tryz.prog 71 #[.pointer (some ⟨p, 0, none⟩), .int .i64 i] w fun e w' => e = .returned (.pointer (pt x.c)) ∧ w = w' := by
 have H := Lib.hid (tshas_c h (List.getElem?_eq_some_iff.1 hx).1)
 obtain ⟨q, g, c, n, q0, q1, hi, k0, k1, k2, hnn⟩ := ts_row h hx
 have hn2 : n ≤ 1000 := by omega
 generalize pt x.c = cc at *
 clear h hx hnn
 go_enter Tryz.func71, Tryz.ntmps71
 go_wp2_with fail
 refine H.out.mono ?_
 rintro e w1 ⟨rfl, rfl⟩
 go_wp2_with fail
 go_ret
 exact ⟨rfl, rfl⟩
theorem tsstop_t {w : World} {p : Nat} {F : Nat → Prop} {ts : List Tk} {named : Int} {L : List It} {sq : Int} (i : Nat) (h : TsAt w p F ts named L sq) (hsq : sq ≤ 1000000) : ∃ q, w.cell? ⟨p, 1, none⟩ = some (.pointer (some ⟨q, 0, none⟩)) ∧ Calls Tryz.prog 152 #[.pointer (some ⟨q, 0, none⟩), .int .i64 i] w fun e w' => e = .returned (.bool (findL (i : Int) L).isSome) ∧ TsAt w' p F ts named (delL i L) sq ∧ Turns F w w' := by
 obtain ⟨q, lb, v, gs, pf, h, hg, hz, hl⟩ := h
 have q1 := h.blk.cell 1
 simp only [List.getElem?_toArray, List.getElem?_cons_zero, List.getElem?_cons_succ] at q1
 refine ⟨q, q1, (tstop_c (i : Int) w h.tim hsq).mono ?_⟩
 rintro e w' ⟨rfl, ht, hs⟩
 have hst : Turns F w w' := hs.t.mono (fun k _ hk => (hl.on k).2 (by rw [hk]; omega))
 refine ⟨rfl, ⟨q, lb, v, gs, _, ⟨h.blk.turns hs.t (by rw [h.lp]; omega), h.lp, h.own.turns hs.t (fun k hk => by rw [(h.lv k).1 hk]; omega), h.lv, ht⟩, hg, hz.del i, hl.turns hst⟩, hst⟩
set_option maxHeartbeats 1000000 in
theorem tsstop_0 {w : World} {p : Nat} {F : Nat → Prop} {ts : List Tk} {named : Int} {L : List It} {sq : Int} {i : Nat} {kd dt : Int} {cp : Nat} {Fc : Nat → Prop} {s cl rm : Bool} {l : List Wt} (h : TsAt w p F ts named L sq) (hx : ts[i]? = some ⟨kd, dt, some cp⟩) (hc : ChAt w cp Fc ⟨true, s, cl, rm, none, l⟩) (hd : ∀ k, Fc k → ¬ F k) (hn : ts.length ≤ 1000) (hsq : sq ≤ 1000000) :
  Calls Tryz.prog 135 #[.pointer (some ⟨p, 0, none⟩), .int .i64 i] w fun e w' => e = .returned (.tuple #[.bool (findL (i : Int) L).isSome, .int .i64 0]) ∧ TsAt w' p F ts named (delL i L) sq ∧ ChAt w' cp Fc ⟨true, s, cl, rm, none, l⟩ ∧ Turns F w w' := by
 have H := Lib.hid (tshas_c h (List.getElem?_eq_some_iff.1 hx).1)
 obtain ⟨q, hq1, hst⟩ := tsstop_t i h hsq
 have HST := Lib.hid hst
 have HX := Lib.hid hx
 have HA := Lib.hid h
 obtain ⟨b, hb⟩ : ∃ b, (findL (i : Int) L).isSome = b := ⟨_, rfl⟩
 rw [hb] at HST ⊢
 clear h hx hst hb
 go_enter Tryz.func135, Tryz.ntmps135
 go_wp2_with fail
 refine H.out.mono ?_
 rintro e w1 ⟨rfl, rfl⟩
 go_wp2_with fail
 refine HST.out.mono ?_
 rintro e w2 ⟨rfl, h2, ht2⟩
 obtain ⟨q', g, c, n, q0, q1, hi, k0, k1, k2, hnn⟩ := ts_row h2 HX.out
 simp only [pt, Option.map] at k2
 have hn2 : n ≤ 1000 := by omega
 have HE := Lib.hid (And.intro h2 ht2)
 have HCH := Lib.hid (hc.turns ht2 hd)
 clear h2 ht2 hnn hq1 H HST
 go_wp2_with fail
 refine (chdrop_0 HCH.out).mono ?_
 rintro e w3 ⟨rfl, rfl⟩
 go_wp2_with fail
 go_ret2
 first
 | exact ⟨rfl, HE.out.1, HCH.out, HE.out.2⟩
 | (refine ⟨by simp, HE.out.1, HCH.out, HE.out.2⟩)
set_option maxHeartbeats 1000000 in
theorem tsstop_1 {w : World} {p : Nat} {F : Nat → Prop} {ts : List Tk} {named : Int} {L : List It} {sq : Int} {i : Nat} {kd dt : Int} {cp : Nat} {Fc : Nat → Prop} {s cl rm : Bool} {l : List Wt} {v : Int} (h : TsAt w p F ts named L sq) (hx : ts[i]? = some ⟨kd, dt, some cp⟩) (hc : ChAt w cp Fc ⟨true, s, cl, rm, some v, l⟩) (hd : ∀ k, Fc k → ¬ F k) (hn : ts.length ≤ 1000) (hsq : sq ≤ 1000000) :
  Calls Tryz.prog 135 #[.pointer (some ⟨p, 0, none⟩), .int .i64 i] w fun e w' => e = .returned (.tuple #[.bool true, .int .i64 0]) ∧ TsAt w' p F ts named (delL i L) sq ∧ ChAt w' cp Fc ⟨true, s, cl, rm, none, l⟩ ∧ Turns (fun k => F k ∨ Fc k) w w' := by
 have H := Lib.hid (tshas_c h (List.getElem?_eq_some_iff.1 hx).1)
 obtain ⟨q, hq1, hst⟩ := tsstop_t i h hsq
 have HST := Lib.hid hst
 have HX := Lib.hid hx
 have HA := Lib.hid h
 obtain ⟨b, hb⟩ : ∃ b, (findL (i : Int) L).isSome = b := ⟨_, rfl⟩
 rw [hb] at HST
 clear h hx hst hb
 go_enter Tryz.func135, Tryz.ntmps135
 go_wp2_with fail
 refine H.out.mono ?_
 rintro e w1 ⟨rfl, rfl⟩
 go_wp2_with fail
 refine HST.out.mono ?_
 rintro e w2 ⟨rfl, h2, ht2⟩
 obtain ⟨q', g, c, n, q0, q1, hi, k0, k1, k2, hnn⟩ := ts_row h2 HX.out
 simp only [pt, Option.map] at k2
 have hn2 : n ≤ 1000 := by omega
 have HE := Lib.hid (And.intro h2 ht2)
 have HCH := Lib.hid (hc.turns ht2 hd)
 clear h2 ht2 hnn hq1 H HST
 go_wp2_with fail
 refine (chdrop_1 HCH.out).mono ?_
 rintro e w3 ⟨rfl, h3, ht3⟩
 have HE3 := Lib.hid (And.intro (HE.out.1.turns ht3 (fun k hk hf => hd k hf hk)) (And.intro h3 ((HE.out.2.mono (S' := fun k => F k ∨ Fc k) (fun k _ h => .inl h)).trans (ht3.mono (S' := fun k => F k ∨ Fc k) (fun k _ h => .inr h)))))
 clear h3 ht3
 go_wp2_with fail
 go_ret2
 exact ⟨rfl, HE3.out⟩
end Go.Proofs.YtjnkphhlkoapbaaGreat
namespace Go.Proofs.YtjnkphhlkoapbaaGreat
open Go.RowKit
set_option linter.unusedVariables false
set_option linter.unusedSimpArgs false
set_option maxHeartbeats 2000000 in
theorem tsreset_0 {w : World} {p : Nat} {F : Nat → Prop} {ts : List Tk} {named : Int} {L : List It} {sq : Int} {i : Nat} {dt now d when_ : Int} {cp : Nat} {Fc : Nat → Prop} {s cl rm : Bool} {l : List Wt} (h : TsAt w p F ts named L sq) (hx : ts[i]? = some ⟨1, dt, some cp⟩) (hc : ChAt w cp Fc ⟨true, s, cl, rm, none, l⟩) (hdis : ∀ k, Fc k → ¬ F k) (hn : ts.length ≤ 1000) (hsq : sq < 1000000) (hnow : 0 ≤ now ∧ now ≤ 4611686018427387904) (hd : 0 ≤ d) (hw : addZ now d = when_) (h1 : 0 ≤ when_) (h2 : when_ ≤ 4611686018427387904) :
  Calls Tryz.prog 136 #[.pointer (some ⟨p, 0, none⟩), .int .i64 i, .int .i64 now, .int .i64 d] w fun e w' => e = .returned (.tuple #[.bool (findL (i : Int) L).isSome, .int .i64 0]) ∧ ∃ F', TsAt w' p F' ts named (insL ⟨i, when_, sq + 1⟩ (delL i (delL i L))) (sq + 1) ∧ ChAt w' cp Fc ⟨true, s, cl, rm, none, l⟩ ∧ Turns (fun k => F k ∨ Fc k) w w' ∧ (∀ k, F' k → F k ∨ w.heap.size ≤ k) ∧ ∀ k, Fc k → ¬ F' k := by
 obtain ⟨hnow1, hnow2⟩ := hnow
 have H := Lib.hid (tshas_c h (List.getElem?_eq_some_iff.1 hx).1)
 have HST := Lib.hid (tsstop_0 h hx hc hdis hn (by omega))
 obtain ⟨q, g, c, n, q0, q1, hi, k0, k1, k2, hnn⟩ := ts_row h hx
 have hn2 : n ≤ 1000 := by omega
 have HX := Lib.hid hx
 have HW := Lib.hid hw
 have HFB := Lib.hid (And.intro h.fb hc.fb)
 obtain ⟨b, hb⟩ : ∃ b, (findL (i : Int) L).isSome = b := ⟨_, rfl⟩
 rw [hb] at HST ⊢
 clear h hx hw hc hnn hb
 go_enter Tryz.func136, Tryz.ntmps136
 go_wp2_with fail
 refine H.out.mono ?_
 rintro e w1 ⟨rfl, rfl⟩
 go_wp2_with fail
 refine (tbad_c now _ hnow1 hnow2).mono ?_
 rintro e w1 ⟨rfl, rfl⟩
 go_wp2_with fail
 refine HST.out.mono ?_
 rintro e w2 ⟨rfl, ha, hch, ht⟩
 have HE := Lib.hid (And.intro ha (And.intro hch ht))
 have HAR := Lib.hid (tsarm_c ha HX.out (by show (1 : Int) ≠ 2; decide) hn hsq hd HW.out h1 h2)
 clear ha hch ht q0 q1 k0 k1 k2
 go_wp2_with fail
 refine HAR.out.mono ?_
 rintro e w3 ⟨rfl, F3, h3, hs3⟩
 have HE3 := Lib.hid (And.intro h3 hs3)
 clear h3 hs3
 go_wp2_with fail
 go_ret2
 obtain ⟨ha, hch, ht⟩ := HE.out
 obtain ⟨h3, hs3⟩ := HE3.out
 have ht2 : Turns (fun k => F k ∨ Fc k) w w2 := ht.mono (fun k _ h => .inl h)
 have hsz := ht2.size
 refine ⟨rfl, F3, h3, hch.turns hs3.t hdis, ht2.trans (hs3.t.mono (fun k _ h => .inl h)), fun k hk => ?_, fun k hk h => ?_⟩
 ·rcases hs3.f k hk with h4 | h4
  ·exact .inl h4
  ·exact .inr (by omega)
 ·rcases hs3.f k h with h4 | h4
  ·exact hdis k hk h4
  ·have := HFB.out.2 k hk; omega
theorem Tryz.sizeFired : (Tryz.prog.info? 114).map (·.size) = some 7 := by kernel_rfl
theorem tstake_t {w : World} {p : Nat} {F : Nat → Prop} {ts : List Tk} {named : Int} {L : List It} {sq : Int} {i : Nat} {wh se now : Int} {l : List It} (h : TsAt w p F ts named (⟨i, wh, se⟩ :: l) sq) (hsq : sq < 1000000) (hn : 0 ≤ now) (hx : wh ≤ now) : ∃ q, w.cell? ⟨p, 1, none⟩ = some (.pointer (some ⟨q, 0, none⟩)) ∧ Calls Tryz.prog 63 #[.pointer (some ⟨q, 0, none⟩), .int .i64 now] w fun e w' => e = .returned (.tuple #[.agg #[.int .i64 i, .int .i64 wh, .int .i64 now], .bool true]) ∧ ∃ F', TsAt w' p F' ts named l sq ∧ Stp w w' F F' := by
 obtain ⟨q, lb, v, gs, pf, h, hg, hz, hl⟩ := h
 have q1 := h.blk.cell 1
 simp only [List.getElem?_toArray, List.getElem?_cons_zero, List.getElem?_cons_succ] at q1
 have hpf : pf (i : Int) = some 0 := by
  cases hq : pf (i : Int) with
  | none =>
   have := (h.tim.per (i : Int)).1 hq
   rw [findL_none] at this
   exact absurd rfl (this ⟨i, wh, se⟩ (List.mem_cons_self ..))
  | some z => rw [hz _ _ hq]
 refine ⟨q, q1, (ttake_c now 0 w h.tim hsq hn hx hpf).mono ?_⟩
 rintro e w' ⟨rfl, G', _, ht, hs⟩
 have hna : ¬ again (⟨i, wh, se⟩ : It) 0 now := fun ha => by have := (again_bd ha hn).2.2.1; omega
 obtain ⟨lb', FF, hin, hl', hst⟩ := h.setTim hl (ht hna) hs
 exact ⟨rfl, FF, ⟨q, lb', v, gs, _, hin, hg, hz.del _, hl'⟩, hst⟩
theorem tsnone_t {w : World} {p : Nat} {F : Nat → Prop} {ts : List Tk} {named : Int} {L : List It} {sq : Int} {now : Int} (h : TsAt w p F ts named L sq) (hn : ∀ x, L[0]? = some x → now < 0 ∨ now < x.when) : ∃ q, w.cell? ⟨p, 1, none⟩ = some (.pointer (some ⟨q, 0, none⟩)) ∧ Calls Tryz.prog 63 #[.pointer (some ⟨q, 0, none⟩), .int .i64 now] w fun e w' => e = .returned (.tuple #[.agg #[.int .i64 0, .int .i64 0, .int .i64 0], .bool false]) ∧ Made w w' := by
 obtain ⟨q, lb, v, gs, pf, h, hg, hz, hl⟩ := h
 have q1 := h.blk.cell 1
 simp only [List.getElem?_toArray, List.getElem?_cons_zero, List.getElem?_cons_succ] at q1
 exact ⟨q, q1, ttake_none now w h.tim hn⟩
set_option maxHeartbeats 2000000 in
theorem tsfire_none {w : World} {p : Nat} {F : Nat → Prop} {ts : List Tk} {named : Int} {L : List It} {sq : Int} {now : Int} (h : TsAt w p F ts named L sq) (hn : ∀ x, L[0]? = some x → now < 0 ∨ now < x.when) :
  Calls Tryz.prog 43 #[.pointer (some ⟨p, 0, none⟩), .int .i64 now] w fun e w' => e = .returned (.tuple #[.agg #[.int .i64 0, .int .i64 0, .int .i64 0, .int .i64 0, .int .i64 0, .slice none 0 0, .bool false], .bool false]) ∧ Made w w' := by
 have HM := Lib.hid ((Turns.refl (fun _ => False) w).alloc (.cells #[.int .i64 0, .int .i64 0, .int .i64 0, .int .i64 0, .int .i64 0, .slice none 0 0, .bool false] 114))
 have HB := Lib.hid (Blk.new w 114 #[.int .i64 0, .int .i64 0, .int .i64 0, .int .i64 0, .int .i64 0, .slice none 0 0, .bool false])
 obtain ⟨q, hq1, hst⟩ := tsnone_t (h.made HM.out) hn
 have HST := Lib.hid hst
 have HN := Lib.hid hn
 clear h hst hn
 go_enter Tryz.func43, Tryz.ntmps43
 go_wp2_with fail
 refine HST.out.mono ?_
 rintro e w1 ⟨rfl, hm⟩
 have hm2 := hm.alloc (.cells #[.int .i64 0, .int .i64 0, .int .i64 0] 152)
 have hb := HB.out.turns hm2 (fun h => h)
 have HM2 := Lib.hid (HM.out.trans hm2)
 have HB2 := Lib.hid hb
 have b0 := hb.cell 0
 have b1 := hb.cell 1
 have b2 := hb.cell 2
 have b3 := hb.cell 3
 have b4 := hb.cell 4
 have b5 := hb.cell 5
 have b6 := hb.cell 6
 have f0 := hb.free 0
 have f1 := hb.free 1
 have f2 := hb.free 2
 have f3 := hb.free 3
 have f4 := hb.free 4
 have f5 := hb.free 5
 have f6 := hb.free 6
 simp only [List.getElem?_toArray, List.getElem?_cons_zero, List.getElem?_cons_succ] at b0 b1 b2 b3 b4 b5 b6
 clear hm hm2 hb hq1
 go_wp2_with fail
 have hb3 := ((((((HB2.out.put 0 (.int .i64 0)).put 1 (.int .i64 0)).put 2 (.int .i64 0)).put 3 (.int .i64 0)).put 4 (.int .i64 0)).put 5 (.slice none 0 0)).put 6 (.bool false)
 simp only [List.setIfInBounds_toArray, List.set_cons_zero, List.set_cons_succ] at hb3
 refine bodyPost_ret (res_row rfl hb3 rfl rfl Tryz.underlying114 rfl Tryz.sizeFired) rfl ⟨rfl, ?_⟩
 exact HM2.out.then (((((((set1 _ _ 0 _).trans (set1 _ _ 1 _)).trans (set1 _ _ 2 _)).trans (set1 _ _ 3 _)).trans (set1 _ _ 4 _)).trans (set1 _ _ 5 _)).trans (set1 _ _ 6 _)) (fun k hk (e : k = w.heap.size) => by omega)
set_option maxRecDepth 100000 in
set_option maxHeartbeats 4000000 in
theorem tsfire_0 {w : World} {p : Nat} {F : Nat → Prop} {ts : List Tk} {named : Int} {L : List It} {sq : Int} {i : Nat} {wh se now kd dt : Int} {ll : List It} {cp : Nat} {Fc : Nat → Prop} {s cl : Bool} (h : TsAt w p F ts named (⟨i, wh, se⟩ :: ll) sq) (hxx : ts[i]? = some ⟨kd, dt, some cp⟩) (hc : ChAt w cp Fc ⟨true, s, cl, true, none, []⟩) (hdis : ∀ k, Fc k → ¬ F k) (hnl : ts.length ≤ 1000) (hsq : sq < 1000000) (hn : 0 ≤ now) (hx : wh ≤ now) :
  Calls Tryz.prog 43 #[.pointer (some ⟨p, 0, none⟩), .int .i64 now] w fun e w' => e = .returned (.tuple #[.agg #[.int .i64 i, .int .i64 kd, .int .i64 wh, .int .i64 now, .int .i64 dt, .slice none 0 0, .bool true], .bool true]) ∧ ∃ F', TsAt w' p F' ts named ll sq ∧ ChAt w' cp Fc ⟨true, s, cl, true, some now, []⟩ ∧ Turns (fun k => F k ∨ Fc k) w w' ∧ (∀ k, F' k → F k ∨ w.heap.size ≤ k) ∧ ∀ k, Fc k → ¬ F' k := by
 have HM := Lib.hid ((Turns.refl (fun _ => False) w).alloc (.cells #[.int .i64 0, .int .i64 0, .int .i64 0, .int .i64 0, .int .i64 0, .slice none 0 0, .bool false] 114))
 have HB := Lib.hid (Blk.new w 114 #[.int .i64 0, .int .i64 0, .int .i64 0, .int .i64 0, .int .i64 0, .slice none 0 0, .bool false])
 obtain ⟨q, hq1, hst⟩ := tstake_t (L := []) (h.made HM.out) hsq hn hx
 have HST := Lib.hid hst
 have HXX := Lib.hid hxx
 have HFB0 := Lib.hid h.fb
 have HCH := Lib.hid (And.intro hc hdis)
 clear h hst hn hx hxx
 go_enter Tryz.func43, Tryz.ntmps43
 go_wp2_with fail
 refine HST.out.mono ?_
 rintro e w1 ⟨rfl, F1, ha1, hs1⟩
 have HA1 := Lib.hid ha1
 have HS1 := Lib.hid ((Stp.made (F := F) HM.out).trans hs1)
 have HST1 := Lib.hid hs1
 have hnf : ¬ F w.heap.size := fun hk => by have := HFB0.out _ hk; omega
 have HB1 := Lib.hid (HB.out.turns hs1.t hnf)
 have hnf1 : ¬ F1 w.heap.size := fun hk => by
  rcases hs1.f _ hk with h4 | h4
  ·exact hnf h4
  ·simp only [World.size_alloc] at h4; omega
 have HNF1 := Lib.hid hnf1
 clear ha1 hs1 hq1 hnf hnf1
 go_upto_region 6 with fail
 have hmd := (Turns.refl (fun _ => False) w1).alloc (.cells #[.int .i64 i, .int .i64 wh, .int .i64 now] 152)
 have HD := Lib.hid (Blk.new w1 152 #[.int .i64 i, .int .i64 wh, .int .i64 now])
 obtain ⟨q2, lb, v, gs, pf, h, hg, hz, hl⟩ := HA1.out.made hmd
 have hlen : gs.length = ts.length := by rw [← hg, List.length_map]
 obtain ⟨gx, hgx⟩ : ∃ gx, gs[i]? = some (⟨kd, dt, some cp⟩, gx) := by
  have h9 := HXX.out
  rw [← hg, List.getElem?_map, Option.map_eq_some_iff] at h9
  obtain ⟨z, h8, h7⟩ := h9
  exact ⟨z.2, by rw [h8, ← h7]⟩
 have hi : i < gs.length := (List.getElem?_eq_some_iff.1 hgx).1
 rcases h.own.form with ⟨_, h0⟩ | ⟨g, c, rfl, hgb, hlc, hcm⟩
 ·subst h0
  simp at hi
 have HP := Lib.hid h.blk
 have HO := Lib.hid h.own
 have HGX := Lib.hid hgx
 have HMD := Lib.hid hmd
 have HSZ := Lib.hid hgb
 have HLEN := Lib.hid hlen
 have hgl : gs.length ≤ 1000 := by omega
 clear h hg hz hl hgx hmd hlen
 have hsz1 : w1.heap.size < (w1.alloc (.cells #[.int .i64 i, .int .i64 wh, .int .i64 now] 152)).heap.size := by simp
 have HSZ1 := Lib.hid hsz1
 clear hsz1
 generalize w1.alloc (.cells #[.int .i64 i, .int .i64 wh, .int .i64 now] 152) = W at *
 have ib1 : (0 : Int) ≤ (i : Int) := by omega
 have ib2 : (i : Int) < (gs.length : Int) := by omega
 refine wp_region_held_drew (S := fun w' => Blk w' (p) 92 #[.slice (some ⟨g, 0, none⟩) gs.length c, .pointer (some ⟨q2, 0, none⟩), .int .i64 named] ∧ Blk w' (w1.heap.size) 152 #[.int .i64 i, .int .i64 wh, .int .i64 now] ∧ Owns tkC 156 4 w' (.slice (some ⟨g, 0, none⟩) gs.length c) gs ∧ Made W w') (by kernel_rfl) ?_ (fun hHeld => ?_)
 ·exact ⟨HP.out, HD.out, HO.out.drew, (Turns.refl (fun _ => False) W).drew⟩
 refine takeH (i := 0) (d := some 25) (v := ?_) rfl rfl (by kernel_rfl) (by kernel_rfl) (by kernel_rfl) (fun _ _ _ h => h) (Or.inl ⟨by rfl, ?_⟩) (by assumption) ?_
 rotate_left
 ·intro w hSw
  try dsimp only at hSw
  go_simp
  try with_reducible rfl
 try simp only [Act.put, List.setIfInBounds_toArray, List.set_cons_zero, List.set_cons_succ]
 refine takeH (i := 1) (d := some 26) (v := ?_) rfl rfl (by kernel_rfl) (by kernel_rfl) (by kernel_rfl) (fun _ _ _ h => h) (Or.inl ⟨by rfl, ?_⟩) (by assumption) ?_
 rotate_left
 ·intro w hSw
  try dsimp only at hSw
  go_simp
  try with_reducible rfl
 try simp only [Act.put, List.setIfInBounds_toArray, List.set_cons_zero, List.set_cons_succ]
 refine takeH (i := 2) (d := some 27) (v := ?_) rfl rfl (by kernel_rfl) (by kernel_rfl) (by kernel_rfl) (fun _ _ _ h => h) (Or.inl ⟨by rfl, ?_⟩) (by assumption) ?_
 rotate_left
 ·intro w hSw
  try dsimp only at hSw
  go_simp
  try with_reducible rfl
 try simp only [Act.put, List.setIfInBounds_toArray, List.set_cons_zero, List.set_cons_succ]
 refine takeH (i := 3) (d := some 28) (v := ?_) rfl rfl (by kernel_rfl) (by kernel_rfl) (by kernel_rfl) (fun _ _ _ h => h) (Or.inl ⟨by rfl, ?_⟩) (by assumption) ?_
 rotate_left
 ·intro w hSw
  try dsimp only at hSw
  have q0_0 := hSw.1.cell 0
  have q0_1 := hSw.1.cell 1
  have q0_2 := hSw.1.cell 2
  have q1_0 := hSw.2.1.cell 0
  have q1_1 := hSw.2.1.cell 1
  have q1_2 := hSw.2.1.cell 2
  simp only [List.getElem?_toArray, List.getElem?_cons_zero, List.getElem?_cons_succ] at q0_0 q0_1 q0_2 q1_0 q1_1 q1_2
  obtain ⟨k0, k1, k2, k3⟩ := own_tk hSw.2.2.1 HGX.out
  simp only [pt, Option.map] at k2
  go_simp
  try with_reducible rfl
 try simp only [Act.put, List.setIfInBounds_toArray, List.set_cons_zero, List.set_cons_succ]
 refine takeH (i := 4) (d := some 29) (v := ?_) rfl rfl (by kernel_rfl) (by kernel_rfl) (by kernel_rfl) (fun _ _ _ h => h) (Or.inl ⟨by rfl, ?_⟩) (by assumption) ?_
 rotate_left
 ·intro w hSw
  try dsimp only at hSw
  go_simp
  try with_reducible rfl
 try simp only [Act.put, List.setIfInBounds_toArray, List.set_cons_zero, List.set_cons_succ]
 refine takeH (i := 5) (d := some 30) (v := ?_) rfl rfl (by kernel_rfl) (by kernel_rfl) (by kernel_rfl) (fun _ _ _ h => h) (Or.inl ⟨by rfl, ?_⟩) (by assumption) ?_
 rotate_left
 ·intro w hSw
  try dsimp only at hSw
  have q0_0 := hSw.1.cell 0
  have q0_1 := hSw.1.cell 1
  have q0_2 := hSw.1.cell 2
  have q1_0 := hSw.2.1.cell 0
  have q1_1 := hSw.2.1.cell 1
  have q1_2 := hSw.2.1.cell 2
  simp only [List.getElem?_toArray, List.getElem?_cons_zero, List.getElem?_cons_succ] at q0_0 q0_1 q0_2 q1_0 q1_1 q1_2
  obtain ⟨k0, k1, k2, k3⟩ := own_tk hSw.2.2.1 HGX.out
  simp only [pt, Option.map] at k2
  go_simp
  try with_reducible rfl
 try simp only [Act.put, List.setIfInBounds_toArray, List.set_cons_zero, List.set_cons_succ]
 refine takeH (i := 6) (d := some 31) (v := ?_) rfl rfl (by kernel_rfl) (by kernel_rfl) (by kernel_rfl) (fun _ _ _ h => h) (Or.inl ⟨by rfl, ?_⟩) (by assumption) ?_
 rotate_left
 ·intro w hSw
  try dsimp only at hSw
  go_simp
  try with_reducible rfl
 try simp only [Act.put, List.setIfInBounds_toArray, List.set_cons_zero, List.set_cons_succ]
 refine takeH (i := 7) (d := some 32) (v := ?_) rfl rfl (by kernel_rfl) (by kernel_rfl) (by kernel_rfl) (fun _ _ _ h => h) (Or.inl ⟨by rfl, ?_⟩) (by assumption) ?_
 rotate_left
 ·intro w hSw
  try dsimp only at hSw
  have q0_0 := hSw.1.cell 0
  have q0_1 := hSw.1.cell 1
  have q0_2 := hSw.1.cell 2
  have q1_0 := hSw.2.1.cell 0
  have q1_1 := hSw.2.1.cell 1
  have q1_2 := hSw.2.1.cell 2
  simp only [List.getElem?_toArray, List.getElem?_cons_zero, List.getElem?_cons_succ] at q0_0 q0_1 q0_2 q1_0 q1_1 q1_2
  obtain ⟨k0, k1, k2, k3⟩ := own_tk hSw.2.2.1 HGX.out
  simp only [pt, Option.map] at k2
  go_simp
  try with_reducible rfl
 try simp only [Act.put, List.setIfInBounds_toArray, List.set_cons_zero, List.set_cons_succ]
 refine wpAnyH_ready (rs := [8]) (by kernel_rfl) (by simp) ?_
 refine AllReadyH.cons rfl (fun K hK => ?_) AllReadyH.nil
 go_simp
 refine hK.out _ _ ?_ (fun hHeld => ?_)
 ·exact ⟨HP.out.drew.alloc _, HD.out.drew.alloc _, HO.out.drew.made ((Turns.refl (fun _ => False) _).alloc _), (Turns.refl (fun _ => False) W).drew.alloc _⟩
 clear hK K
 try simp only [Act.put, List.setIfInBounds_toArray, List.set_cons_zero, List.set_cons_succ]
 refine wpAnyH_ready (rs := [9]) (by kernel_rfl) (by simp) ?_
 refine AllReadyH.cons rfl (fun K hK => ?_) AllReadyH.nil
 go_simp
 refine hK.out _ _ ?_ (fun hHeld => ?_)
 ·exact ⟨HP.out.drew.alloc _, HD.out.drew.alloc _, HO.out.drew.made ((Turns.refl (fun _ => False) _).alloc _), (Turns.refl (fun _ => False) W).drew.alloc _⟩
 clear hK K
 try simp only [Act.put, List.setIfInBounds_toArray, List.set_cons_zero, List.set_cons_succ]
 refine wpAnyH_done (by kernel_rfl) ?_ _
 clear hHeld
 have HD2 : Hid (Blk (W.alloc (.cells #[.int .i64 kd, .int .i64 dt, .pointer (some ⟨cp, 0, none⟩), .int .i64 gx] 156)).drew w1.heap.size 152 #[.int .i64 i, .int .i64 wh, .int .i64 now]) := Lib.hid (HD.out.alloc _)
 have HO2 : Hid (Blk (W.alloc (.cells #[.int .i64 kd, .int .i64 dt, .pointer (some ⟨cp, 0, none⟩), .int .i64 gx] 156)).drew W.heap.size 156 #[.int .i64 kd, .int .i64 dt, .pointer (some ⟨cp, 0, none⟩), .int .i64 gx]) := Lib.hid (Blk.new W _ _)
 have HMV : Hid (Made w1 (W.alloc (.cells #[.int .i64 kd, .int .i64 dt, .pointer (some ⟨cp, 0, none⟩), .int .i64 gx] 156)).drew) := Lib.hid ((HMD.out.alloc _).drew)
 clear ib1 ib2
 generalize (W.alloc (.cells #[.int .i64 kd, .int .i64 dt, .pointer (some ⟨cp, 0, none⟩), .int .i64 gx] 156)).drew = V at *
 have d0 := HD2.out.cell 0
 have d1 := HD2.out.cell 1
 have d2 := HD2.out.cell 2
 have o0 := HO2.out.cell 0
 have o1 := HO2.out.cell 1
 have o2 := HO2.out.cell 2
 have hvw : W.heap.size < V.heap.size := HO2.out.lt
 simp only [List.getElem?_toArray, List.getElem?_cons_zero, List.getElem?_cons_succ] at d0 d1 d2 o0 o1 o2
 have HS1V := Lib.hid (HMV.out.alloc (.cells #[.int .i64 i, .int .i64 kd, .int .i64 wh, .int .i64 now, .int .i64 dt, .slice none 0 0, .bool false] 114))
 have HF9 := Lib.hid (Blk.new V 114 #[.int .i64 i, .int .i64 kd, .int .i64 wh, .int .i64 now, .int .i64 dt, .slice none 0 0, .bool false])
 have HB4 := Lib.hid (HB1.out.turns HS1V.out (fun h => h))
 have HA4 := Lib.hid (HA1.out.made HS1V.out)
 have HCV := Lib.hid (((HCH.out.1.made HM.out).turns (HST1.out.t) (fun k hk hf => HCH.out.2 k hk hf)).made HS1V.out)
 have HCFB := Lib.hid HCH.out.1.fb
 have hvs : w.heap.size < V.heap.size := by have h1 := HB1.out.lt; have h2 := HMV.out.size; omega
 go_wp2_with fail
 refine (chput_0 now HCV.out).mono ?_
 rintro e w5 ⟨rfl, hc5, ht5⟩
 have HF92 := Lib.hid (HF9.out.turns ht5 (fun hk => by have := HCFB.out _ hk; omega))
 have HB42 := Lib.hid (HB4.out.turns ht5 (fun hk => by have := HCFB.out _ hk; omega))
 have HC5 := Lib.hid (And.intro hc5 ht5)
 clear hc5 ht5
 have u5 := HF92.out.cell 5
 have u6 := HF92.out.cell 6
 have fu5 := HF92.out.free 5
 have fu6 := HF92.out.free 6
 simp only [List.getElem?_toArray, List.getElem?_cons_zero, List.getElem?_cons_succ] at u5 u6
 go_upto_region 9 with fail
 have hf93 := (HF92.out.put 5 (.slice none 0 0)).put 6 (.bool true)
 simp only [List.setIfInBounds_toArray, List.set_cons_zero, List.set_cons_succ] at hf93
 have hne94 : ¬ w.heap.size = V.heap.size := by omega
 have hb93 := (HB42.out.far (p := ⟨V.heap.size, 5, none⟩) hne94 (.slice none 0 0)).far (p := ⟨V.heap.size, 6, none⟩) hne94 (.bool true)
 have ht93 := (set1 w5 V.heap.size 5 (.slice none 0 0)).trans (set1 _ V.heap.size 6 (.bool true))
 have HT93 := Lib.hid ht93
 have HF93 := Lib.hid hf93
 have HB93 := Lib.hid hb93
 clear hne94 ht93 u5 u6 fu5 fu6 hf93 hb93
 generalize (w5.setCell ⟨V.heap.size, 5, none⟩ (.slice none 0 0)).setCell ⟨V.heap.size, 6, none⟩ (.bool true) = U at *
 have u0 := HF93.out.cell 0
 have u1 := HF93.out.cell 1
 have u2 := HF93.out.cell 2
 have u3 := HF93.out.cell 3
 have u4 := HF93.out.cell 4
 have u5 := HF93.out.cell 5
 have u6 := HF93.out.cell 6
 have b0 := HB93.out.cell 0
 have fb0 := HB93.out.free 0
 have b1 := HB93.out.cell 1
 have fb1 := HB93.out.free 1
 have b2 := HB93.out.cell 2
 have fb2 := HB93.out.free 2
 have b3 := HB93.out.cell 3
 have fb3 := HB93.out.free 3
 have b4 := HB93.out.cell 4
 have fb4 := HB93.out.free 4
 have b5 := HB93.out.cell 5
 have fb5 := HB93.out.free 5
 have b6 := HB93.out.cell 6
 have fb6 := HB93.out.free 6
 simp only [List.getElem?_toArray, List.getElem?_cons_zero, List.getElem?_cons_succ] at u0 u1 u2 u3 u4 u5 u6 b0 b1 b2 b3 b4 b5 b6
 have hbf := ((((((HB93.out.put 0 (.int .i64 i)).put 1 (.int .i64 kd)).put 2 (.int .i64 wh)).put 3 (.int .i64 now)).put 4 (.int .i64 dt)).put 5 (.slice none 0 0)).put 6 (.bool true)
 simp only [List.setIfInBounds_toArray, List.set_cons_zero, List.set_cons_succ] at hbf
 have HBF := Lib.hid hbf
 clear hbf
 go_wp2_with fail
 refine bodyPost_ret (res_row rfl HBF.out rfl rfl Tryz.underlying114 rfl Tryz.sizeFired) rfl ?_
 have ht7 := ((((((set1 U w.heap.size 0 (.int .i64 i)).trans (set1 _ _ 1 (.int .i64 kd))).trans (set1 _ _ 2 (.int .i64 wh))).trans (set1 _ _ 3 (.int .i64 now))).trans (set1 _ _ 4 (.int .i64 dt))).trans (set1 _ _ 5 (.slice none 0 0))).trans (set1 _ _ 6 (.bool true))
 obtain ⟨hc5, ht5⟩ := HC5.out
 have hd1 : ∀ k, Fc k → ¬ F1 k := fun k hk h => by
  rcases HS1.out.f k h with h4 | h4
  ·exact HCH.out.2 k hk h4
  ·have := HCFB.out k hk; omega
 have hgo : Turns (fun k => k = V.heap.size ∨ k = w.heap.size) w5 _ := ((HT93.out.mono (S' := fun k => k = V.heap.size ∨ k = w.heap.size) (fun k _ h => .inl h)).trans (ht7.mono (S' := fun k => k = V.heap.size ∨ k = w.heap.size) (fun k _ h => .inr h)))
 have hf1 : ∀ k, F1 k → ¬ (k = V.heap.size ∨ k = w.heap.size) := fun k hk e => by
  rcases e with e | e
  ·have := HA1.out.fb k hk; have := HMV.out.size; omega
  ·exact HNF1.out (by rw [← e]; exact hk)
 have hs1 := HS1.out.t.size
 refine ⟨rfl, F1, (HA4.out.turns ht5 (fun k hk hc => hd1 k hc hk)).turns hgo hf1, hc5.turns hgo (fun k hk e => by have := HCFB.out k hk; omega), ?_, fun k hk => HS1.out.f k hk, hd1⟩
 have hx1 : Turns (fun k => F k ∨ Fc k) w w5 := ((HS1.out.t.mono (S' := fun k => F k ∨ Fc k) (fun k _ h => .inl h)).trans (HS1V.out.mono (fun _ _ h => h.elim))).trans (ht5.mono (fun k _ h => .inr h))
 exact hx1.then hgo (fun k hk e => by have := HMV.out.size; omega)
set_option maxRecDepth 100000 in
set_option maxHeartbeats 4000000 in
theorem tsfire_w {w : World} {p : Nat} {F : Nat → Prop} {ts : List Tk} {named : Int} {L : List It} {sq : Int} {i : Nat} {wh se now kd dt : Int} {ll : List It} {cp : Nat} {Fc : Nat → Prop} {s cl : Bool} {v0 : Option Int} {x : Wt} {lw : List Wt} (h : TsAt w p F ts named (⟨i, wh, se⟩ :: ll) sq) (hxx : ts[i]? = some ⟨kd, dt, some cp⟩) (hc : ChAt w cp Fc ⟨true, s, cl, true, v0, x :: lw⟩) (hdis : ∀ k, Fc k → ¬ F k) (hll : lw.length ≤ 1000) (hnl : ts.length ≤ 1000) (hsq : sq < 1000000) (hn : 0 ≤ now) (hx : wh ≤ now) :
  Calls Tryz.prog 43 #[.pointer (some ⟨p, 0, none⟩), .int .i64 now] w fun e w' => ∃ a F' Fc', e = .returned (.tuple #[.agg #[.int .i64 i, .int .i64 kd, .int .i64 wh, .int .i64 now, .int .i64 dt, .slice a 1 1, .bool true], .bool true]) ∧ WkRow w w' (fun k => F' k ∨ Fc' k) a [⟨x.task, x.kase, now, true, false⟩] ∧ TsAt w' p F' ts named ll sq ∧ ChAt w' cp Fc' ⟨true, s, cl, true, v0, lw⟩ ∧ Turns (fun k => F k ∨ Fc k) w w' ∧ (∀ k, F' k → F k ∨ w.heap.size ≤ k) ∧ (∀ k, Fc' k → Fc k ∨ w.heap.size ≤ k) ∧ ∀ k, Fc' k → ¬ F' k := by
 have HM := Lib.hid ((Turns.refl (fun _ => False) w).alloc (.cells #[.int .i64 0, .int .i64 0, .int .i64 0, .int .i64 0, .int .i64 0, .slice none 0 0, .bool false] 114))
 have HB := Lib.hid (Blk.new w 114 #[.int .i64 0, .int .i64 0, .int .i64 0, .int .i64 0, .int .i64 0, .slice none 0 0, .bool false])
 obtain ⟨q, hq1, hst⟩ := tstake_t (L := []) (h.made HM.out) hsq hn hx
 have HST := Lib.hid hst
 have HXX := Lib.hid hxx
 have HFB0 := Lib.hid h.fb
 have HCH := Lib.hid (And.intro hc hdis)
 clear h hst hn hx hxx
 go_enter Tryz.func43, Tryz.ntmps43
 go_wp2_with fail
 refine HST.out.mono ?_
 rintro e w1 ⟨rfl, F1, ha1, hs1⟩
 have HA1 := Lib.hid ha1
 have HS1 := Lib.hid ((Stp.made (F := F) HM.out).trans hs1)
 have HST1 := Lib.hid hs1
 have hnf : ¬ F w.heap.size := fun hk => by have := HFB0.out _ hk; omega
 have HB1 := Lib.hid (HB.out.turns hs1.t hnf)
 have hnf1 : ¬ F1 w.heap.size := fun hk => by
  rcases hs1.f _ hk with h4 | h4
  ·exact hnf h4
  ·simp only [World.size_alloc] at h4; omega
 have HNF1 := Lib.hid hnf1
 clear ha1 hs1 hq1 hnf hnf1
 go_upto_region 6 with fail
 have hmd := (Turns.refl (fun _ => False) w1).alloc (.cells #[.int .i64 i, .int .i64 wh, .int .i64 now] 152)
 have HD := Lib.hid (Blk.new w1 152 #[.int .i64 i, .int .i64 wh, .int .i64 now])
 obtain ⟨q2, lb, v, gs, pf, h, hg, hz, hl⟩ := HA1.out.made hmd
 have hlen : gs.length = ts.length := by rw [← hg, List.length_map]
 obtain ⟨gx, hgx⟩ : ∃ gx, gs[i]? = some (⟨kd, dt, some cp⟩, gx) := by
  have h9 := HXX.out
  rw [← hg, List.getElem?_map, Option.map_eq_some_iff] at h9
  obtain ⟨z, h8, h7⟩ := h9
  exact ⟨z.2, by rw [h8, ← h7]⟩
 have hi : i < gs.length := (List.getElem?_eq_some_iff.1 hgx).1
 rcases h.own.form with ⟨_, h0⟩ | ⟨g, c, rfl, hgb, hlc, hcm⟩
 ·subst h0
  simp at hi
 have HP := Lib.hid h.blk
 have HO := Lib.hid h.own
 have HGX := Lib.hid hgx
 have HMD := Lib.hid hmd
 have HSZ := Lib.hid hgb
 have HLEN := Lib.hid hlen
 have hgl : gs.length ≤ 1000 := by omega
 clear h hg hz hl hgx hmd hlen
 have hsz1 : w1.heap.size < (w1.alloc (.cells #[.int .i64 i, .int .i64 wh, .int .i64 now] 152)).heap.size := by simp
 have HSZ1 := Lib.hid hsz1
 clear hsz1
 generalize w1.alloc (.cells #[.int .i64 i, .int .i64 wh, .int .i64 now] 152) = W at *
 have ib1 : (0 : Int) ≤ (i : Int) := by omega
 have ib2 : (i : Int) < (gs.length : Int) := by omega
 refine wp_region_held_drew (S := fun w' => Blk w' (p) 92 #[.slice (some ⟨g, 0, none⟩) gs.length c, .pointer (some ⟨q2, 0, none⟩), .int .i64 named] ∧ Blk w' (w1.heap.size) 152 #[.int .i64 i, .int .i64 wh, .int .i64 now] ∧ Owns tkC 156 4 w' (.slice (some ⟨g, 0, none⟩) gs.length c) gs ∧ Made W w') (by kernel_rfl) ?_ (fun hHeld => ?_)
 ·exact ⟨HP.out, HD.out, HO.out.drew, (Turns.refl (fun _ => False) W).drew⟩
 refine takeH (i := 0) (d := some 25) (v := ?_) rfl rfl (by kernel_rfl) (by kernel_rfl) (by kernel_rfl) (fun _ _ _ h => h) (Or.inl ⟨by rfl, ?_⟩) (by assumption) ?_
 rotate_left
 ·intro w hSw
  try dsimp only at hSw
  go_simp
  try with_reducible rfl
 try simp only [Act.put, List.setIfInBounds_toArray, List.set_cons_zero, List.set_cons_succ]
 refine takeH (i := 1) (d := some 26) (v := ?_) rfl rfl (by kernel_rfl) (by kernel_rfl) (by kernel_rfl) (fun _ _ _ h => h) (Or.inl ⟨by rfl, ?_⟩) (by assumption) ?_
 rotate_left
 ·intro w hSw
  try dsimp only at hSw
  go_simp
  try with_reducible rfl
 try simp only [Act.put, List.setIfInBounds_toArray, List.set_cons_zero, List.set_cons_succ]
 refine takeH (i := 2) (d := some 27) (v := ?_) rfl rfl (by kernel_rfl) (by kernel_rfl) (by kernel_rfl) (fun _ _ _ h => h) (Or.inl ⟨by rfl, ?_⟩) (by assumption) ?_
 rotate_left
 ·intro w hSw
  try dsimp only at hSw
  go_simp
  try with_reducible rfl
 try simp only [Act.put, List.setIfInBounds_toArray, List.set_cons_zero, List.set_cons_succ]
 refine takeH (i := 3) (d := some 28) (v := ?_) rfl rfl (by kernel_rfl) (by kernel_rfl) (by kernel_rfl) (fun _ _ _ h => h) (Or.inl ⟨by rfl, ?_⟩) (by assumption) ?_
 rotate_left
 ·intro w hSw
  try dsimp only at hSw
  have q0_0 := hSw.1.cell 0
  have q0_1 := hSw.1.cell 1
  have q0_2 := hSw.1.cell 2
  have q1_0 := hSw.2.1.cell 0
  have q1_1 := hSw.2.1.cell 1
  have q1_2 := hSw.2.1.cell 2
  simp only [List.getElem?_toArray, List.getElem?_cons_zero, List.getElem?_cons_succ] at q0_0 q0_1 q0_2 q1_0 q1_1 q1_2
  obtain ⟨k0, k1, k2, k3⟩ := own_tk hSw.2.2.1 HGX.out
  simp only [pt, Option.map] at k2
  go_simp
  try with_reducible rfl
 try simp only [Act.put, List.setIfInBounds_toArray, List.set_cons_zero, List.set_cons_succ]
 refine takeH (i := 4) (d := some 29) (v := ?_) rfl rfl (by kernel_rfl) (by kernel_rfl) (by kernel_rfl) (fun _ _ _ h => h) (Or.inl ⟨by rfl, ?_⟩) (by assumption) ?_
 rotate_left
 ·intro w hSw
  try dsimp only at hSw
  go_simp
  try with_reducible rfl
 try simp only [Act.put, List.setIfInBounds_toArray, List.set_cons_zero, List.set_cons_succ]
 refine takeH (i := 5) (d := some 30) (v := ?_) rfl rfl (by kernel_rfl) (by kernel_rfl) (by kernel_rfl) (fun _ _ _ h => h) (Or.inl ⟨by rfl, ?_⟩) (by assumption) ?_
 rotate_left
 ·intro w hSw
  try dsimp only at hSw
  have q0_0 := hSw.1.cell 0
  have q0_1 := hSw.1.cell 1
  have q0_2 := hSw.1.cell 2
  have q1_0 := hSw.2.1.cell 0
  have q1_1 := hSw.2.1.cell 1
  have q1_2 := hSw.2.1.cell 2
  simp only [List.getElem?_toArray, List.getElem?_cons_zero, List.getElem?_cons_succ] at q0_0 q0_1 q0_2 q1_0 q1_1 q1_2
  obtain ⟨k0, k1, k2, k3⟩ := own_tk hSw.2.2.1 HGX.out
  simp only [pt, Option.map] at k2
  go_simp
  try with_reducible rfl
 try simp only [Act.put, List.setIfInBounds_toArray, List.set_cons_zero, List.set_cons_succ]
 refine takeH (i := 6) (d := some 31) (v := ?_) rfl rfl (by kernel_rfl) (by kernel_rfl) (by kernel_rfl) (fun _ _ _ h => h) (Or.inl ⟨by rfl, ?_⟩) (by assumption) ?_
 rotate_left
 ·intro w hSw
  try dsimp only at hSw
  go_simp
  try with_reducible rfl
 try simp only [Act.put, List.setIfInBounds_toArray, List.set_cons_zero, List.set_cons_succ]
 refine takeH (i := 7) (d := some 32) (v := ?_) rfl rfl (by kernel_rfl) (by kernel_rfl) (by kernel_rfl) (fun _ _ _ h => h) (Or.inl ⟨by rfl, ?_⟩) (by assumption) ?_
 rotate_left
 ·intro w hSw
  try dsimp only at hSw
  have q0_0 := hSw.1.cell 0
  have q0_1 := hSw.1.cell 1
  have q0_2 := hSw.1.cell 2
  have q1_0 := hSw.2.1.cell 0
  have q1_1 := hSw.2.1.cell 1
  have q1_2 := hSw.2.1.cell 2
  simp only [List.getElem?_toArray, List.getElem?_cons_zero, List.getElem?_cons_succ] at q0_0 q0_1 q0_2 q1_0 q1_1 q1_2
  obtain ⟨k0, k1, k2, k3⟩ := own_tk hSw.2.2.1 HGX.out
  simp only [pt, Option.map] at k2
  go_simp
  try with_reducible rfl
 try simp only [Act.put, List.setIfInBounds_toArray, List.set_cons_zero, List.set_cons_succ]
 refine wpAnyH_ready (rs := [8]) (by kernel_rfl) (by simp) ?_
 refine AllReadyH.cons rfl (fun K hK => ?_) AllReadyH.nil
 go_simp
 refine hK.out _ _ ?_ (fun hHeld => ?_)
 ·exact ⟨HP.out.drew.alloc _, HD.out.drew.alloc _, HO.out.drew.made ((Turns.refl (fun _ => False) _).alloc _), (Turns.refl (fun _ => False) W).drew.alloc _⟩
 clear hK K
 try simp only [Act.put, List.setIfInBounds_toArray, List.set_cons_zero, List.set_cons_succ]
 refine wpAnyH_ready (rs := [9]) (by kernel_rfl) (by simp) ?_
 refine AllReadyH.cons rfl (fun K hK => ?_) AllReadyH.nil
 go_simp
 refine hK.out _ _ ?_ (fun hHeld => ?_)
 ·exact ⟨HP.out.drew.alloc _, HD.out.drew.alloc _, HO.out.drew.made ((Turns.refl (fun _ => False) _).alloc _), (Turns.refl (fun _ => False) W).drew.alloc _⟩
 clear hK K
 try simp only [Act.put, List.setIfInBounds_toArray, List.set_cons_zero, List.set_cons_succ]
 refine wpAnyH_done (by kernel_rfl) ?_ _
 clear hHeld
 have HD2 : Hid (Blk (W.alloc (.cells #[.int .i64 kd, .int .i64 dt, .pointer (some ⟨cp, 0, none⟩), .int .i64 gx] 156)).drew w1.heap.size 152 #[.int .i64 i, .int .i64 wh, .int .i64 now]) := Lib.hid (HD.out.alloc _)
 have HO2 : Hid (Blk (W.alloc (.cells #[.int .i64 kd, .int .i64 dt, .pointer (some ⟨cp, 0, none⟩), .int .i64 gx] 156)).drew W.heap.size 156 #[.int .i64 kd, .int .i64 dt, .pointer (some ⟨cp, 0, none⟩), .int .i64 gx]) := Lib.hid (Blk.new W _ _)
 have HMV : Hid (Made w1 (W.alloc (.cells #[.int .i64 kd, .int .i64 dt, .pointer (some ⟨cp, 0, none⟩), .int .i64 gx] 156)).drew) := Lib.hid ((HMD.out.alloc _).drew)
 clear ib1 ib2
 generalize (W.alloc (.cells #[.int .i64 kd, .int .i64 dt, .pointer (some ⟨cp, 0, none⟩), .int .i64 gx] 156)).drew = V at *
 have d0 := HD2.out.cell 0
 have d1 := HD2.out.cell 1
 have d2 := HD2.out.cell 2
 have o0 := HO2.out.cell 0
 have o1 := HO2.out.cell 1
 have o2 := HO2.out.cell 2
 have hvw : W.heap.size < V.heap.size := HO2.out.lt
 simp only [List.getElem?_toArray, List.getElem?_cons_zero, List.getElem?_cons_succ] at d0 d1 d2 o0 o1 o2
 have HS1V := Lib.hid (HMV.out.alloc (.cells #[.int .i64 i, .int .i64 kd, .int .i64 wh, .int .i64 now, .int .i64 dt, .slice none 0 0, .bool false] 114))
 have HF9 := Lib.hid (Blk.new V 114 #[.int .i64 i, .int .i64 kd, .int .i64 wh, .int .i64 now, .int .i64 dt, .slice none 0 0, .bool false])
 have HB4 := Lib.hid (HB1.out.turns HS1V.out (fun h => h))
 have HA4 := Lib.hid (HA1.out.made HS1V.out)
 have HCV := Lib.hid (((HCH.out.1.made HM.out).turns (HST1.out.t) (fun k hk hf => HCH.out.2 k hk hf)).made HS1V.out)
 have HCFB := Lib.hid HCH.out.1.fb
 have hvs : w.heap.size < V.heap.size := by have h1 := HB1.out.lt; have h2 := HMV.out.size; omega
 go_wp2_with fail
 refine (chput_w now HCV.out hll).mono ?_
 rintro e w5 ⟨ra, Fc5, rfl, hrow, hc5, hs5⟩
 have HF92 := Lib.hid (HF9.out.turns hs5.t (fun hk => by have := HCFB.out _ hk; omega))
 have HB42 := Lib.hid (HB4.out.turns hs5.t (fun hk => by have := HCFB.out _ hk; omega))
 have HC5 := Lib.hid (And.intro hc5 (And.intro hs5 hrow))
 clear hc5 hs5 hrow
 have u5 := HF92.out.cell 5
 have u6 := HF92.out.cell 6
 have fu5 := HF92.out.free 5
 have fu6 := HF92.out.free 6
 simp only [List.getElem?_toArray, List.getElem?_cons_zero, List.getElem?_cons_succ] at u5 u6
 go_upto_region 9 with fail
 have hf93 := (HF92.out.put 5 (.slice ra 1 1)).put 6 (.bool true)
 simp only [List.setIfInBounds_toArray, List.set_cons_zero, List.set_cons_succ] at hf93
 have hne94 : ¬ w.heap.size = V.heap.size := by omega
 have hb93 := (HB42.out.far (p := ⟨V.heap.size, 5, none⟩) hne94 (.slice ra 1 1)).far (p := ⟨V.heap.size, 6, none⟩) hne94 (.bool true)
 have ht93 := (set1 w5 V.heap.size 5 (.slice ra 1 1)).trans (set1 _ V.heap.size 6 (.bool true))
 have HT93 := Lib.hid ht93
 have HF93 := Lib.hid hf93
 have HB93 := Lib.hid hb93
 clear hne94 ht93 u5 u6 fu5 fu6 hf93 hb93
 generalize (w5.setCell ⟨V.heap.size, 5, none⟩ (.slice ra 1 1)).setCell ⟨V.heap.size, 6, none⟩ (.bool true) = U at *
 have u0 := HF93.out.cell 0
 have u1 := HF93.out.cell 1
 have u2 := HF93.out.cell 2
 have u3 := HF93.out.cell 3
 have u4 := HF93.out.cell 4
 have u5 := HF93.out.cell 5
 have u6 := HF93.out.cell 6
 have b0 := HB93.out.cell 0
 have fb0 := HB93.out.free 0
 have b1 := HB93.out.cell 1
 have fb1 := HB93.out.free 1
 have b2 := HB93.out.cell 2
 have fb2 := HB93.out.free 2
 have b3 := HB93.out.cell 3
 have fb3 := HB93.out.free 3
 have b4 := HB93.out.cell 4
 have fb4 := HB93.out.free 4
 have b5 := HB93.out.cell 5
 have fb5 := HB93.out.free 5
 have b6 := HB93.out.cell 6
 have fb6 := HB93.out.free 6
 simp only [List.getElem?_toArray, List.getElem?_cons_zero, List.getElem?_cons_succ] at u0 u1 u2 u3 u4 u5 u6 b0 b1 b2 b3 b4 b5 b6
 have hbf := ((((((HB93.out.put 0 (.int .i64 i)).put 1 (.int .i64 kd)).put 2 (.int .i64 wh)).put 3 (.int .i64 now)).put 4 (.int .i64 dt)).put 5 (.slice ra 1 1)).put 6 (.bool true)
 simp only [List.setIfInBounds_toArray, List.set_cons_zero, List.set_cons_succ] at hbf
 have HBF := Lib.hid hbf
 clear hbf
 go_wp2_with fail
 refine bodyPost_ret (res_row rfl HBF.out rfl rfl Tryz.underlying114 rfl Tryz.sizeFired) rfl ?_
 have ht7 := ((((((set1 U w.heap.size 0 (.int .i64 i)).trans (set1 _ _ 1 (.int .i64 kd))).trans (set1 _ _ 2 (.int .i64 wh))).trans (set1 _ _ 3 (.int .i64 now))).trans (set1 _ _ 4 (.int .i64 dt))).trans (set1 _ _ 5 (.slice ra 1 1))).trans (set1 _ _ 6 (.bool true))
 obtain ⟨hc5, hs5, hrow⟩ := HC5.out
 have hd1 : ∀ k, Fc k → ¬ F1 k := fun k hk h => by
  rcases HS1.out.f k h with h4 | h4
  ·exact HCH.out.2 k hk h4
  ·have := HCFB.out k hk; omega
 have hd5 : ∀ k, Fc5 k → ¬ F1 k := fun k hk h => by
  rcases hs5.f k hk with h4 | h4
  ·exact hd1 k h4 h
  ·have := HA4.out.fb k h; omega
 have hgo : Turns (fun k => k = V.heap.size ∨ k = w.heap.size) w5 _ := ((HT93.out.mono (S' := fun k => k = V.heap.size ∨ k = w.heap.size) (fun k _ h => .inl h)).trans (ht7.mono (S' := fun k => k = V.heap.size ∨ k = w.heap.size) (fun k _ h => .inr h)))
 have hf1 : ∀ k, F1 k → ¬ (k = V.heap.size ∨ k = w.heap.size) := fun k hk e => by
  rcases e with e | e
  ·have := HA1.out.fb k hk; have := HMV.out.size; omega
  ·exact HNF1.out (by rw [← e]; exact hk)
 have hsv : (V.alloc (.cells #[.int .i64 i, .int .i64 kd, .int .i64 wh, .int .i64 now, .int .i64 dt, .slice none 0 0, .bool false] 114)).heap.size = V.heap.size + 1 := by simp
 have hf5 : ∀ k, Fc5 k → ¬ (k = V.heap.size ∨ k = w.heap.size) := fun k hk e => by
  rcases hs5.f k hk with h4 | h4
  ·have := HCFB.out k h4; omega
  ·omega
 have hs1 := HS1.out.t.size
 refine ⟨ra, F1, Fc5, rfl, ⟨hrow.1.turns hgo (fun b off e h => ?_), fun b off e => ⟨?_, fun h => ?_⟩⟩, (HA4.out.turns hs5.t (fun k hk hc => hd1 k hc hk)).turns hgo hf1, hc5.turns hgo hf5, ?_, fun k hk => HS1.out.f k hk, fun k hk => ?_, hd5⟩
 ·have := (hrow.2 b off e).1
  omega
 ·have := (hrow.2 b off e).1
  omega
 ·rcases h with h | h
  ·have h5 := HA4.out.fb b h
   have := (hrow.2 b off e).1
   omega
  ·exact (hrow.2 b off e).2 h
 ·have hx1 : Turns (fun k => F k ∨ Fc k) w w5 := ((HS1.out.t.mono (S' := fun k => F k ∨ Fc k) (fun k _ h => .inl h)).trans (HS1V.out.mono (fun _ _ h => h.elim))).trans (hs5.t.mono (fun k _ h => .inr h))
  exact hx1.then hgo (fun k hk e => by have := HMV.out.size; omega)
 ·rcases hs5.f k hk with h4 | h4
  ·exact .inl h4
  ·exact .inr (by omega)
end Go.Proofs.YtjnkphhlkoapbaaGreat
namespace Go.Proofs.YtjnkphhlkoapbaaGreat
open Go.RowKit
set_option linter.unusedVariables false
set_option linter.unusedSimpArgs false
set_option maxHeartbeats 4000000 in
theorem ldo_move {a : Option Addr} {p : List Ins} {cap pc i j : Nat} {v u : Int} {r : Reg} {now : Int} (w : World) (hgood : ∀ x ∈ p, GoodC x p.length) (h : RowIn insC 6 w a p.length p) (hl : p.length ≤ 100) (hx : p[pc]? = some ⟨2, i, j, v⟩) (hi : i < 8) (hj : j < 8) :
  Calls Tryz.prog 48 #[.slice a p.length cap, .int .i64 pc, regV r, .int .i64 now] w fun e w' => e = .returned (.tuple #[.agg (outA ⟨pc + 1, r.set i (r.get j), false, 0, false⟩), .int .i64 0]) ∧ Made w w' := by
 have HG := Lib.hid hgood
 have HR := Lib.hid h
 clear hgood h
 go_enter Tryz.func48, Tryz.ntmps48
 go_wp2_with fail
 have H1 := Lib.hid ((Blk.new w 36 #[.int .i64 r.r0, .int .i64 r.r1, .int .i64 r.r2, .int .i64 r.r3, .int .i64 r.r4, .int .i64 r.r5, .int .i64 r.r6, .int .i64 r.r7]).alloc (.cells #[.int .i64 0, .int .i64 0, .int .i64 0, .int .i64 0, .int .i64 0, .int .i64 0, .int .i64 0, .int .i64 0, .int .i64 0, .bool false, .int .i64 0, .bool false] 125))
 have H2 := Blk.new (w.alloc (.cells #[.int .i64 r.r0, .int .i64 r.r1, .int .i64 r.r2, .int .i64 r.r3, .int .i64 r.r4, .int .i64 r.r5, .int .i64 r.r6, .int .i64 r.r7] 36)) 125 #[.int .i64 0, .int .i64 0, .int .i64 0, .int .i64 0, .int .i64 0, .int .i64 0, .int .i64 0, .int .i64 0, .int .i64 0, .bool false, .int .i64 0, .bool false]
 rw [World.size_alloc] at H2
 have H2 := Lib.hid H2
 have HM := Lib.hid (((Turns.refl (fun _ => False) w).alloc (.cells #[.int .i64 r.r0, .int .i64 r.r1, .int .i64 r.r2, .int .i64 r.r3, .int .i64 r.r4, .int .i64 r.r5, .int .i64 r.r6, .int .i64 r.r7] 36)).alloc (.cells #[.int .i64 0, .int .i64 0, .int .i64 0, .int .i64 0, .int .i64 0, .int .i64 0, .int .i64 0, .int .i64 0, .int .i64 0, .bool false, .int .i64 0, .bool false] 125))
 generalize (w.alloc (.cells #[.int .i64 r.r0, .int .i64 r.r1, .int .i64 r.r2, .int .i64 r.r3, .int .i64 r.r4, .int .i64 r.r5, .int .i64 r.r6, .int .i64 r.r7] 36)).alloc (.cells #[.int .i64 0, .int .i64 0, .int .i64 0, .int .i64 0, .int .i64 0, .int .i64 0, .int .i64 0, .int .i64 0, .int .i64 0, .bool false, .int .i64 0, .bool false] 125) = W at *
 refine (check_c (cap := cap) _ HG.out (HR.out.made HM.out) hl).mono ?_
 rintro e w1 ⟨rfl, hm1⟩
 have HM1 := Lib.hid (HM.out.trans hm1)
 have HB1 := Lib.hid (H1.out.turns hm1 (fun h => h))
 have HB2 := Lib.hid (H2.out.turns hm1 (fun h => h))
 have hsz : w.heap.size + 1 < w1.heap.size := HB2.out.lt
 clear H1 H2 HM hm1
 obtain ⟨b, off, rfl, hb1, hlt, c0, c1, c2, c3, c4, c5⟩ := ins_at (HR.out.made HM1.out) hx
 have u0 := HB1.out.cell 0
 have u1 := HB1.out.cell 1
 have u2 := HB1.out.cell 2
 have u3 := HB1.out.cell 3
 have u4 := HB1.out.cell 4
 have u5 := HB1.out.cell 5
 have u6 := HB1.out.cell 6
 have u7 := HB1.out.cell 7
 simp only [List.getElem?_toArray, List.getElem?_cons_zero, List.getElem?_cons_succ] at u0 u1 u2 u3 u4 u5 u6 u7
 go_wp2_with fail
 refine (mine_t (by decide) _).mono ?_
 rintro e w2 ⟨rfl, rfl⟩
 go_upto_region 18 with fail
 have HO : Blk ((w1.alloc (.cells (outA ⟨pc + 1, r, false, 0, false⟩) 125)).alloc (.cells #[.int .i64 2, .int .i64 ↑i, .int .i64 ↑j, .int .i64 v, .slice none 0 0, .bool false] 25)) w1.heap.size 125 (outA ⟨pc + 1, r, false, 0, false⟩) := (Blk.new w1 _ _).alloc _
 have HI := Blk.new (w1.alloc (.cells (outA ⟨pc + 1, r, false, 0, false⟩) 125)) 25 #[.int .i64 2, .int .i64 ↑i, .int .i64 ↑j, .int .i64 v, .slice none 0 0, .bool false]
 rw [World.size_alloc] at HI
 have HMV := (((Turns.refl (fun _ => False) w1).alloc (.cells (outA ⟨pc + 1, r, false, 0, false⟩) 125)).alloc (.cells #[.int .i64 2, .int .i64 ↑i, .int .i64 ↑j, .int .i64 v, .slice none 0 0, .bool false] 25))
 have HZ := Lib.hid (HB2.out.turns HMV (fun h => h))
 have HU := Lib.hid (HB1.out.turns HMV (fun h => h))
 have HMV := Lib.hid (HM1.out.trans HMV)
 clear c0 c1 c2 c3 c4 c5 u0 u1 u2 u3 u4 u5 u6 u7
 generalize (w1.alloc (.cells (outA ⟨pc + 1, r, false, 0, false⟩) 125)).alloc (.cells #[.int .i64 2, .int .i64 ↑i, .int .i64 ↑j, .int .i64 v, .slice none 0 0, .bool false] 25) = V at *
 have HOK := Lib.hid ((HO.cell (1 + i)).trans (out_get _ _ _ hi))
 have HOF := Lib.hid (HO.free (1 + i))
 have HO := Lib.hid HO
 have HI := Lib.hid HI
 have jb1 : (0 : Int) ≤ (j : Int) := by omega
 have jb2 : (j : Int) < 8 := by omega
 have ib1 : (0 : Int) ≤ (i : Int) := by omega
 have ib2 : (i : Int) < 8 := by omega
 refine wp_region_held_drew (S := fun w' => Blk w' (w1.heap.size + 1) 25 #[.int .i64 2, .int .i64 ↑i, .int .i64 ↑j, .int .i64 v, .slice none 0 0, .bool false] ∧ Blk w' (w.heap.size) 36 #[.int .i64 r.r0, .int .i64 r.r1, .int .i64 r.r2, .int .i64 r.r3, .int .i64 r.r4, .int .i64 r.r5, .int .i64 r.r6, .int .i64 r.r7] ∧ Made w w') (by kernel_rfl) ?_ (fun hHeld => ?_)
 ·exact ⟨HI.out, HU.out, HMV.out.drew⟩
 refine takeH (i := 0) (d := some 74) (v := ?_) rfl rfl (by kernel_rfl) (by kernel_rfl) (by kernel_rfl) (fun _ _ _ h => h) (Or.inl ⟨by rfl, ?_⟩) (by assumption) ?_
 rotate_left
 ·intro w hSw
  try dsimp only at hSw
  go_simp
  try with_reducible rfl
 try simp only [Act.put, List.setIfInBounds_toArray, List.set_cons_zero, List.set_cons_succ]
 refine takeH (i := 1) (d := some 75) (v := ?_) rfl rfl (by kernel_rfl) (by kernel_rfl) (by kernel_rfl) (fun _ _ _ h => h) (Or.inl ⟨by rfl, ?_⟩) (by assumption) ?_
 rotate_left
 ·intro w hSw
  try dsimp only at hSw
  have q0_0 := hSw.1.cell 0
  have q0_1 := hSw.1.cell 1
  have q0_2 := hSw.1.cell 2
  have q0_3 := hSw.1.cell 3
  have q0_4 := hSw.1.cell 4
  have q0_5 := hSw.1.cell 5
  simp only [List.getElem?_toArray, List.getElem?_cons_zero, List.getElem?_cons_succ] at q0_0 q0_1 q0_2 q0_3 q0_4 q0_5
  go_simp
  try with_reducible rfl
 try simp only [Act.put, List.setIfInBounds_toArray, List.set_cons_zero, List.set_cons_succ]
 refine takeH (i := 2) (d := some 76) (v := ?_) rfl rfl (by kernel_rfl) (by kernel_rfl) (by kernel_rfl) (fun _ _ _ h => h) (Or.inl ⟨by rfl, ?_⟩) (by assumption) ?_
 rotate_left
 ·intro w hSw
  try dsimp only at hSw
  go_simp
  try with_reducible rfl
 try simp only [Act.put, List.setIfInBounds_toArray, List.set_cons_zero, List.set_cons_succ]
 refine takeH (i := 3) (d := some 77) (v := ?_) rfl rfl (by kernel_rfl) (by kernel_rfl) (by kernel_rfl) (fun _ _ _ h => h) (Or.inl ⟨by rfl, ?_⟩) (by assumption) ?_
 rotate_left
 ·intro w hSw
  try dsimp only at hSw
  have q0_0 := hSw.1.cell 0
  have q0_1 := hSw.1.cell 1
  have q0_2 := hSw.1.cell 2
  have q0_3 := hSw.1.cell 3
  have q0_4 := hSw.1.cell 4
  have q0_5 := hSw.1.cell 5
  simp only [List.getElem?_toArray, List.getElem?_cons_zero, List.getElem?_cons_succ] at q0_0 q0_1 q0_2 q0_3 q0_4 q0_5
  go_simp
  try with_reducible rfl
 try simp only [Act.put, List.setIfInBounds_toArray, List.set_cons_zero, List.set_cons_succ]
 refine takeH (i := 4) (d := some 78) (v := ?_) rfl rfl (by kernel_rfl) (by kernel_rfl) (by kernel_rfl) (fun _ _ _ h => h) (Or.inl ⟨by rfl, ?_⟩) (by assumption) ?_
 rotate_left
 ·intro w hSw
  try dsimp only at hSw
  go_simp
  try with_reducible rfl
 try simp only [Act.put, List.setIfInBounds_toArray, List.set_cons_zero, List.set_cons_succ]
 refine takeH (i := 5) (d := some 79) (v := ?_) rfl rfl (by kernel_rfl) (by kernel_rfl) (by kernel_rfl) (fun _ _ _ h => h) (Or.inl ⟨by rfl, ?_⟩) (by assumption) ?_
 rotate_left
 ·intro w hSw
  try dsimp only at hSw
  have q := hSw.2.1.cell j
  rw [reg_get r j hj] at q
  go_simp
  try with_reducible rfl
 try simp only [Act.put, List.setIfInBounds_toArray, List.set_cons_zero, List.set_cons_succ]
 refine takeH (i := 6) (d := some 80) (v := ?_) rfl rfl (by kernel_rfl) (by kernel_rfl) (by kernel_rfl) (fun _ _ _ h => h) (Or.inl ⟨by rfl, ?_⟩) (by assumption) ?_
 rotate_left
 ·intro w hSw
  try dsimp only at hSw
  go_simp
  try with_reducible rfl
 try simp only [Act.put, List.setIfInBounds_toArray, List.set_cons_zero, List.set_cons_succ]
 refine takeH (i := 7) (d := some 81) (v := ?_) rfl rfl (by kernel_rfl) (by kernel_rfl) (by kernel_rfl) (fun _ _ _ h => h) (Or.inl ⟨by rfl, ?_⟩) (by assumption) ?_
 rotate_left
 ·intro w hSw
  try dsimp only at hSw
  go_simp
  try with_reducible rfl
 try simp only [Act.put, List.setIfInBounds_toArray, List.set_cons_zero, List.set_cons_succ]
 refine wpAnyH_ready (rs := [8]) (by kernel_rfl) (by simp) ?_
 refine AllReadyH.cons rfl (fun K hK => ?_) AllReadyH.nil
 have ok : V.drew.cell? ⟨w1.heap.size, 1 + i, none⟩ = _ := HOK.out
 have ofr : V.drew.frozen? ⟨w1.heap.size, 1 + i, none⟩ = _ := HOF.out
 simp only [World.cell?_drew, World.frozen?_drew] at ok ofr
 go_simp
 refine hK.out _ _ ?_ (fun hHeld => ?_)
 ·exact ⟨hHeld.1.far (p := ⟨w1.heap.size, 1 + i, none⟩) (fun e => by simp at e) _, hHeld.2.1.far (p := ⟨w1.heap.size, 1 + i, none⟩) (fun e => by simp only at e; omega) _, hHeld.2.2.setCell (p := ⟨w1.heap.size, 1 + i, none⟩) (fun hk => by simp only at hk; omega) _⟩
 clear hK K
 try simp only [Act.put, List.setIfInBounds_toArray, List.set_cons_zero, List.set_cons_succ]
 refine wpAnyH_done (by kernel_rfl) ?_ _
 clear hHeld
 try clear hHeld
 try clear hHeld
 go_upto_region 26 with fail
 have HO2 := HO.out.put (1 + i) (.int .i64 (r.get j))
 rw [out_set _ _ _ _ hi] at HO2
 have hne : w.heap.size + 1 ≠ w1.heap.size := by omega
 have HZ2 := Lib.hid (HZ.out.far (p := ⟨w1.heap.size, 1 + i, none⟩) hne (.int .i64 (r.get j)))
 have HMV2 := Lib.hid (HMV.out.setCell (p := ⟨w1.heap.size, 1 + i, none⟩) (fun hk => by simp only at hk; omega) (.int .i64 (r.get j)))
 have HO2 := Lib.hid HO2
 generalize V.setCell ⟨w1.heap.size, 1 + i, none⟩ (.int .i64 (r.get j)) = V2 at *
 have o0 := HO2.out.cell 0
 have o1 := HO2.out.cell 1
 have o2 := HO2.out.cell 2
 have o3 := HO2.out.cell 3
 have o4 := HO2.out.cell 4
 have o5 := HO2.out.cell 5
 have o6 := HO2.out.cell 6
 have o7 := HO2.out.cell 7
 have o8 := HO2.out.cell 8
 have o9 := HO2.out.cell 9
 have o10 := HO2.out.cell 10
 have o11 := HO2.out.cell 11
 simp only [List.getElem?_toArray, List.getElem?_cons_zero, List.getElem?_cons_succ] at o0 o1 o2 o3 o4 o5 o6 o7 o8 o9 o10 o11
 have z0 := HZ2.out.cell 0
 have z1 := HZ2.out.cell 1
 have z2 := HZ2.out.cell 2
 have z3 := HZ2.out.cell 3
 have z4 := HZ2.out.cell 4
 have z5 := HZ2.out.cell 5
 have z6 := HZ2.out.cell 6
 have z7 := HZ2.out.cell 7
 have z8 := HZ2.out.cell 8
 have z9 := HZ2.out.cell 9
 have z10 := HZ2.out.cell 10
 have z11 := HZ2.out.cell 11
 simp only [List.getElem?_toArray, List.getElem?_cons_zero, List.getElem?_cons_succ] at z0 z1 z2 z3 z4 z5 z6 z7 z8 z9 z10 z11
 have fz0 := HZ2.out.free 0
 have fz1 := HZ2.out.free 1
 have fz2 := HZ2.out.free 2
 have fz3 := HZ2.out.free 3
 have fz4 := HZ2.out.free 4
 have fz5 := HZ2.out.free 5
 have fz6 := HZ2.out.free 6
 have fz7 := HZ2.out.free 7
 have fz8 := HZ2.out.free 8
 have fz9 := HZ2.out.free 9
 have fz10 := HZ2.out.free 10
 have fz11 := HZ2.out.free 11
 go_wp2_with fail
 refine bodyPost_ret (res_boxO (o := ⟨pc + 1, r.set i (r.get j), false, 0, false⟩) rfl (HZ2.out.put12 _ _ _ _ _ _ _ _ _ _ _ _).drew rfl rfl) rfl ?_
 exact ⟨rfl, (HMV2.out.then (set12 _ _ _ _ _ _ _ _ _ _ _ _ _ _) (fun k hk (e : k = w.heap.size + 1) => by omega)).drew⟩
set_option maxHeartbeats 4000000 in
theorem ldo_emit {a : Option Addr} {p : List Ins} {cap pc i j : Nat} {v u : Int} {r : Reg} {now : Int} (w : World) (hgood : ∀ x ∈ p, GoodC x p.length) (h : RowIn insC 6 w a p.length p) (hl : p.length ≤ 100) (hx : p[pc]? = some ⟨6, i, j, v⟩) (hi : i < 8) :
  Calls Tryz.prog 48 #[.slice a p.length cap, .int .i64 pc, regV r, .int .i64 now] w fun e w' => e = .returned (.tuple #[.agg (outA ⟨pc + 1, r, true, r.get i, false⟩), .int .i64 0]) ∧ Made w w' := by
 have HG := Lib.hid hgood
 have HR := Lib.hid h
 clear hgood h
 go_enter Tryz.func48, Tryz.ntmps48
 go_wp2_with fail
 have H1 := Lib.hid ((Blk.new w 36 #[.int .i64 r.r0, .int .i64 r.r1, .int .i64 r.r2, .int .i64 r.r3, .int .i64 r.r4, .int .i64 r.r5, .int .i64 r.r6, .int .i64 r.r7]).alloc (.cells #[.int .i64 0, .int .i64 0, .int .i64 0, .int .i64 0, .int .i64 0, .int .i64 0, .int .i64 0, .int .i64 0, .int .i64 0, .bool false, .int .i64 0, .bool false] 125))
 have H2 := Blk.new (w.alloc (.cells #[.int .i64 r.r0, .int .i64 r.r1, .int .i64 r.r2, .int .i64 r.r3, .int .i64 r.r4, .int .i64 r.r5, .int .i64 r.r6, .int .i64 r.r7] 36)) 125 #[.int .i64 0, .int .i64 0, .int .i64 0, .int .i64 0, .int .i64 0, .int .i64 0, .int .i64 0, .int .i64 0, .int .i64 0, .bool false, .int .i64 0, .bool false]
 rw [World.size_alloc] at H2
 have H2 := Lib.hid H2
 have HM := Lib.hid (((Turns.refl (fun _ => False) w).alloc (.cells #[.int .i64 r.r0, .int .i64 r.r1, .int .i64 r.r2, .int .i64 r.r3, .int .i64 r.r4, .int .i64 r.r5, .int .i64 r.r6, .int .i64 r.r7] 36)).alloc (.cells #[.int .i64 0, .int .i64 0, .int .i64 0, .int .i64 0, .int .i64 0, .int .i64 0, .int .i64 0, .int .i64 0, .int .i64 0, .bool false, .int .i64 0, .bool false] 125))
 generalize (w.alloc (.cells #[.int .i64 r.r0, .int .i64 r.r1, .int .i64 r.r2, .int .i64 r.r3, .int .i64 r.r4, .int .i64 r.r5, .int .i64 r.r6, .int .i64 r.r7] 36)).alloc (.cells #[.int .i64 0, .int .i64 0, .int .i64 0, .int .i64 0, .int .i64 0, .int .i64 0, .int .i64 0, .int .i64 0, .int .i64 0, .bool false, .int .i64 0, .bool false] 125) = W at *
 refine (check_c (cap := cap) _ HG.out (HR.out.made HM.out) hl).mono ?_
 rintro e w1 ⟨rfl, hm1⟩
 have HM1 := Lib.hid (HM.out.trans hm1)
 have HB1 := Lib.hid (H1.out.turns hm1 (fun h => h))
 have HB2 := Lib.hid (H2.out.turns hm1 (fun h => h))
 have hsz : w.heap.size + 1 < w1.heap.size := HB2.out.lt
 clear H1 H2 HM hm1
 obtain ⟨b, off, rfl, hb1, hlt, c0, c1, c2, c3, c4, c5⟩ := ins_at (HR.out.made HM1.out) hx
 have u0 := HB1.out.cell 0
 have u1 := HB1.out.cell 1
 have u2 := HB1.out.cell 2
 have u3 := HB1.out.cell 3
 have u4 := HB1.out.cell 4
 have u5 := HB1.out.cell 5
 have u6 := HB1.out.cell 6
 have u7 := HB1.out.cell 7
 simp only [List.getElem?_toArray, List.getElem?_cons_zero, List.getElem?_cons_succ] at u0 u1 u2 u3 u4 u5 u6 u7
 go_wp2_with fail
 refine (mine_t (by decide) _).mono ?_
 rintro e w2 ⟨rfl, rfl⟩
 go_upto_region 23 with fail
 have HO : Blk ((w1.alloc (.cells (outA ⟨pc + 1, r, false, 0, false⟩) 125)).alloc (.cells #[.int .i64 6, .int .i64 ↑i, .int .i64 ↑j, .int .i64 v, .slice none 0 0, .bool false] 25)) w1.heap.size 125 (outA ⟨pc + 1, r, false, 0, false⟩) := (Blk.new w1 _ _).alloc _
 have HI := Blk.new (w1.alloc (.cells (outA ⟨pc + 1, r, false, 0, false⟩) 125)) 25 #[.int .i64 6, .int .i64 ↑i, .int .i64 ↑j, .int .i64 v, .slice none 0 0, .bool false]
 rw [World.size_alloc] at HI
 have HMV := (((Turns.refl (fun _ => False) w1).alloc (.cells (outA ⟨pc + 1, r, false, 0, false⟩) 125)).alloc (.cells #[.int .i64 6, .int .i64 ↑i, .int .i64 ↑j, .int .i64 v, .slice none 0 0, .bool false] 25))
 have HZ := Lib.hid (HB2.out.turns HMV (fun h => h))
 have HU := Lib.hid (HB1.out.turns HMV (fun h => h))
 have HMV := Lib.hid (HM1.out.trans HMV)
 clear c0 c1 c2 c3 c4 c5 u0 u1 u2 u3 u4 u5 u6 u7
 generalize (w1.alloc (.cells (outA ⟨pc + 1, r, false, 0, false⟩) 125)).alloc (.cells #[.int .i64 6, .int .i64 ↑i, .int .i64 ↑j, .int .i64 v, .slice none 0 0, .bool false] 25) = V at *
 have HO := Lib.hid HO
 have HI := Lib.hid HI
 have ib1 : (0 : Int) ≤ (i : Int) := by omega
 have ib2 : (i : Int) < 8 := by omega
 refine wp_region_held_drew (S := fun w' => Blk w' (w1.heap.size + 1) 25 #[.int .i64 6, .int .i64 ↑i, .int .i64 ↑j, .int .i64 v, .slice none 0 0, .bool false] ∧ Blk w' (w.heap.size) 36 #[.int .i64 r.r0, .int .i64 r.r1, .int .i64 r.r2, .int .i64 r.r3, .int .i64 r.r4, .int .i64 r.r5, .int .i64 r.r6, .int .i64 r.r7] ∧ Made w w') (by kernel_rfl) ?_ (fun hHeld => ?_)
 ·exact ⟨HI.out, HU.out, HMV.out.drew⟩
 refine takeH (i := 0) (d := some 104) (v := ?_) rfl rfl (by kernel_rfl) (by kernel_rfl) (by kernel_rfl) (fun _ _ _ h => h) (Or.inl ⟨by rfl, ?_⟩) (by assumption) ?_
 rotate_left
 ·intro w hSw
  try dsimp only at hSw
  go_simp
  try with_reducible rfl
 try simp only [Act.put, List.setIfInBounds_toArray, List.set_cons_zero, List.set_cons_succ]
 refine takeH (i := 1) (d := some 105) (v := ?_) rfl rfl (by kernel_rfl) (by kernel_rfl) (by kernel_rfl) (fun _ _ _ h => h) (Or.inl ⟨by rfl, ?_⟩) (by assumption) ?_
 rotate_left
 ·intro w hSw
  try dsimp only at hSw
  have q0_0 := hSw.1.cell 0
  have q0_1 := hSw.1.cell 1
  have q0_2 := hSw.1.cell 2
  have q0_3 := hSw.1.cell 3
  have q0_4 := hSw.1.cell 4
  have q0_5 := hSw.1.cell 5
  simp only [List.getElem?_toArray, List.getElem?_cons_zero, List.getElem?_cons_succ] at q0_0 q0_1 q0_2 q0_3 q0_4 q0_5
  go_simp
  try with_reducible rfl
 try simp only [Act.put, List.setIfInBounds_toArray, List.set_cons_zero, List.set_cons_succ]
 refine takeH (i := 2) (d := some 106) (v := ?_) rfl rfl (by kernel_rfl) (by kernel_rfl) (by kernel_rfl) (fun _ _ _ h => h) (Or.inl ⟨by rfl, ?_⟩) (by assumption) ?_
 rotate_left
 ·intro w hSw
  try dsimp only at hSw
  go_simp
  try with_reducible rfl
 try simp only [Act.put, List.setIfInBounds_toArray, List.set_cons_zero, List.set_cons_succ]
 refine takeH (i := 3) (d := some 107) (v := ?_) rfl rfl (by kernel_rfl) (by kernel_rfl) (by kernel_rfl) (fun _ _ _ h => h) (Or.inl ⟨by rfl, ?_⟩) (by assumption) ?_
 rotate_left
 ·intro w hSw
  try dsimp only at hSw
  have q := hSw.2.1.cell i
  rw [reg_get r i hi] at q
  go_simp
  try with_reducible rfl
 try simp only [Act.put, List.setIfInBounds_toArray, List.set_cons_zero, List.set_cons_succ]
 refine takeH (i := 4) (d := some 108) (v := ?_) rfl rfl (by kernel_rfl) (by kernel_rfl) (by kernel_rfl) (fun _ _ _ h => h) (Or.inl ⟨by rfl, ?_⟩) (by assumption) ?_
 rotate_left
 ·intro w hSw
  try dsimp only at hSw
  go_simp
  try with_reducible rfl
 try simp only [Act.put, List.setIfInBounds_toArray, List.set_cons_zero, List.set_cons_succ]
 refine wpAnyH_ready (rs := [5]) (by kernel_rfl) (by simp) ?_
 refine AllReadyH.cons rfl (fun K hK => ?_) AllReadyH.nil
 have q := HO.out.cell 9
 have qf := HO.out.free 9
 simp only [List.getElem?_toArray, List.getElem?_cons_zero, List.getElem?_cons_succ] at q
 go_simp
 refine hK.out _ _ ?_ (fun hHeld => ?_)
 ·exact ⟨hHeld.1.far (p := ⟨w1.heap.size, 9, none⟩) (fun e => by simp at e) _, hHeld.2.1.far (p := ⟨w1.heap.size, 9, none⟩) (fun e => by simp only at e; omega) _, hHeld.2.2.setCell (p := ⟨w1.heap.size, 9, none⟩) (fun hk => by simp only at hk; omega) _⟩
 clear hK K
 try simp only [Act.put, List.setIfInBounds_toArray, List.set_cons_zero, List.set_cons_succ]
 refine takeH (i := 6) (d := some 109) (v := ?_) rfl rfl (by kernel_rfl) (by kernel_rfl) (by kernel_rfl) (fun _ _ _ h => h) (Or.inl ⟨by rfl, ?_⟩) (by assumption) ?_
 rotate_left
 ·intro w hSw
  try dsimp only at hSw
  go_simp
  try with_reducible rfl
 try simp only [Act.put, List.setIfInBounds_toArray, List.set_cons_zero, List.set_cons_succ]
 refine wpAnyH_ready (rs := [7]) (by kernel_rfl) (by simp) ?_
 refine AllReadyH.cons rfl (fun K hK => ?_) AllReadyH.nil
 have HO3 := HO.out.put 9 (.bool true)
 have q := HO3.cell 10
 have qf := HO3.free 10
 simp only [List.setIfInBounds_toArray, List.set_cons_zero, List.set_cons_succ, List.getElem?_toArray, List.getElem?_cons_zero, List.getElem?_cons_succ] at q
 go_simp
 refine hK.out _ _ ?_ (fun hHeld => ?_)
 ·exact ⟨hHeld.1.far (p := ⟨w1.heap.size, 10, none⟩) (fun e => by simp at e) _, hHeld.2.1.far (p := ⟨w1.heap.size, 10, none⟩) (fun e => by simp only at e; omega) _, hHeld.2.2.setCell (p := ⟨w1.heap.size, 10, none⟩) (fun hk => by simp only at hk; omega) _⟩
 clear hK K
 try simp only [Act.put, List.setIfInBounds_toArray, List.set_cons_zero, List.set_cons_succ]
 refine wpAnyH_done (by kernel_rfl) ?_ _
 clear hHeld
 try clear hHeld
 try clear hHeld
 have HO2 := (HO.out.put 9 (.bool true)).put 10 (.int .i64 (r.get i))
 simp only [List.setIfInBounds_toArray, List.set_cons_zero, List.set_cons_succ] at HO2
 have HO2 := Lib.hid HO2
 have HZ2 := Lib.hid ((HZ.out.far (p := ⟨w1.heap.size, 9, none⟩) (fun e => by simp only at e; omega) (.bool true)).far (p := ⟨w1.heap.size, 10, none⟩) (fun e => by simp only at e; omega) (.int .i64 (r.get i)))
 have HMV2 := Lib.hid ((HMV.out.setCell (p := ⟨w1.heap.size, 9, none⟩) (fun hk => by simp only at hk; omega) (.bool true)).setCell (p := ⟨w1.heap.size, 10, none⟩) (fun hk => by simp only at hk; omega) (.int .i64 (r.get i)))
 generalize (V.setCell ⟨w1.heap.size, 9, none⟩ (.bool true)).setCell ⟨w1.heap.size, 10, none⟩ (.int .i64 (r.get i)) = V2 at *
 have o0 := HO2.out.cell 0
 have o1 := HO2.out.cell 1
 have o2 := HO2.out.cell 2
 have o3 := HO2.out.cell 3
 have o4 := HO2.out.cell 4
 have o5 := HO2.out.cell 5
 have o6 := HO2.out.cell 6
 have o7 := HO2.out.cell 7
 have o8 := HO2.out.cell 8
 have o9 := HO2.out.cell 9
 have o10 := HO2.out.cell 10
 have o11 := HO2.out.cell 11
 simp only [List.getElem?_toArray, List.getElem?_cons_zero, List.getElem?_cons_succ] at o0 o1 o2 o3 o4 o5 o6 o7 o8 o9 o10 o11
 have z0 := HZ2.out.cell 0
 have z1 := HZ2.out.cell 1
 have z2 := HZ2.out.cell 2
 have z3 := HZ2.out.cell 3
 have z4 := HZ2.out.cell 4
 have z5 := HZ2.out.cell 5
 have z6 := HZ2.out.cell 6
 have z7 := HZ2.out.cell 7
 have z8 := HZ2.out.cell 8
 have z9 := HZ2.out.cell 9
 have z10 := HZ2.out.cell 10
 have z11 := HZ2.out.cell 11
 simp only [List.getElem?_toArray, List.getElem?_cons_zero, List.getElem?_cons_succ] at z0 z1 z2 z3 z4 z5 z6 z7 z8 z9 z10 z11
 have fz0 := HZ2.out.free 0
 have fz1 := HZ2.out.free 1
 have fz2 := HZ2.out.free 2
 have fz3 := HZ2.out.free 3
 have fz4 := HZ2.out.free 4
 have fz5 := HZ2.out.free 5
 have fz6 := HZ2.out.free 6
 have fz7 := HZ2.out.free 7
 have fz8 := HZ2.out.free 8
 have fz9 := HZ2.out.free 9
 have fz10 := HZ2.out.free 10
 have fz11 := HZ2.out.free 11
 go_wp2_with fail
 refine bodyPost_ret (res_boxO (o := ⟨pc + 1, r, true, r.get i, false⟩) rfl (HZ2.out.put12 _ _ _ _ _ _ _ _ _ _ _ _).drew rfl rfl) rfl ?_
 exact ⟨rfl, (HMV2.out.then (set12 _ _ _ _ _ _ _ _ _ _ _ _ _ _) (fun k hk (e : k = w.heap.size + 1) => by omega)).drew⟩
end Go.Proofs.YtjnkphhlkoapbaaGreat
namespace Go.Proofs.YtjnkphhlkoapbaaGreat
open Go.RowKit
set_option linter.unusedVariables false
set_option linter.unusedSimpArgs false
structure Ev where
 step : Int
 kind : Int
 task : Int
 a : Int
 b : Int
 c : Int
def evC (x : Ev) : List Value := [.int .i64 x.step, .int .i64 x.kind, .int .i64 x.task, .int .i64 x.a, .int .i64 x.b, .int .i64 x.c]
theorem evC_len (x : Ev) : (evC x).length = 6 := rfl
theorem evC_one (x : Ev) : ∀ u ∈ evC x, u.oneCell' = true := by
 intro u hu
 simp only [evC, List.mem_cons, List.not_mem_nil, or_false] at hu
 rcases hu with rfl | rfl | rfl | rfl | rfl | rfl <;> rfl
structure Dl where
 ch : Int
 task : Int
 value : Int
 got : Bool
 at_ : Int
def dlC (x : Dl) : List Value := [.int .i64 x.ch, .int .i64 x.task, .int .i64 x.value, .bool x.got, .int .i64 x.at_]
theorem dlC_len (x : Dl) : (dlC x).length = 5 := rfl
theorem dlC_one (x : Dl) : ∀ u ∈ dlC x, u.oneCell' = true := by
 intro u hu
 simp only [dlC, List.mem_cons, List.not_mem_nil, or_false] at hu
 rcases hu with rfl | rfl | rfl | rfl | rfl <;> rfl
structure Lk where
 row : Option Addr × Nat × Nat
 picked : Int
def lkC (x : Lk) : List Value := [.slice x.row.1 x.row.2.1 x.row.2.2, .int .i64 x.picked]
theorem lkC_len (x : Lk) : (lkC x).length = 2 := rfl
theorem lkC_one (x : Lk) : ∀ u ∈ lkC x, u.oneCell' = true := by
 intro u hu
 simp only [lkC, List.mem_cons, List.not_mem_nil, or_false] at hu
 rcases hu with rfl | rfl <;> rfl
def pC (p : Nat) : List Value := [.pointer (some ⟨p, 0, none⟩)]
theorem pC_len (p : Nat) : (pC p).length = 1 := rfl
theorem pC_one (p : Nat) : ∀ u ∈ pC p, u.oneCell' = true := by
 intro u hu
 simp only [pC, List.mem_cons, List.not_mem_nil, or_false] at hu
 subst hu
 rfl
structure Wp where
 pb : Nat
 pk : Nat
 pt : Nat
 pm : Nat
 pd : Nat
 px : Nat
structure Wst where
 now : Int
 ts : List Tsk
 rd : List Int
 chs : List (Nat × Chn)
 made : Int
 tms : List Tk
 named : Int
 L : List It
 sq : Int
 nd : Nat
 nl : Nat
 steps : Int
 ev : List Ev
structure Ext (CX : World → (Nat → Prop) → Prop) : Prop where
 turns : ∀ (S : Nat → Prop) (w w' : World) (F : Nat → Prop), CX w F → Turns S w w' → (∀ k, F k → ¬ S k) → CX w' F
structure PrIn (w : World) (o : Nat → Nat) (v : Value) (ps : List (List Ins)) : Prop where
 ex : ∃ g c, v = .slice (some ⟨g, 0, none⟩) ps.length c ∧ o g = 7 ∧ g < w.heap.size ∧ ∀ i p, ps[i]? = some p → ∃ a ci, w.cell? ⟨g, i, none⟩ = some (.slice a p.length ci) ∧ RowIn insC 6 w a p.length p ∧ ∀ b off, a = some ⟨b, off, none⟩ → o b = 7
theorem PrIn.turns {S : Nat → Prop} {w w' : World} {o o' : Nat → Nat} {v : Value} {ps : List (List Ins)} (h : PrIn w o v ps) (ht : Turns S w w') (hn : ∀ k, o k = 7 → ¬ S k) (ho : ∀ k, o k = 7 → o' k = 7) : PrIn w' o' v ps := by
 obtain ⟨g, c, e, hg, hlt, h⟩ := h
 refine ⟨g, c, e, ho g hg, Nat.lt_of_lt_of_le hlt ht.size, fun i p hp => ?_⟩
 obtain ⟨a, ci, h1, h2, h3⟩ := h i p hp
 exact ⟨a, ci, (ht.cell (p := ⟨g, i, none⟩) hlt (hn g hg)).trans h1, h2.turns ht (fun b off e => hn b (h3 b off e)), fun b off e => ho b (h3 b off e)⟩
structure WAt (CX : World → (Nat → Prop) → Prop) (w : World) (b : Wp) (o : Nat → Nat) (ps : List (List Ins)) (s : Wst) (vp vc vl ve : Value) : Prop where
 blk : Blk w b.pb 65 #[vp, .pointer (some ⟨b.pk, 0, none⟩), .pointer (some ⟨b.pt, 0, none⟩), vc, .int .i64 s.made, .pointer (some ⟨b.pm, 0, none⟩), .pointer (some ⟨b.px, 0, none⟩), .pointer (some ⟨b.pd, 0, none⟩), vl, .int .i64 s.steps, ve]
 ob : o b.pb = 1
 lt : ∀ k, o k ≠ 0 → k < w.heap.size
 clk : Blk w b.pk 80 #[.int .i64 s.now]
 ok : o b.pk = 2
 tab : TabAt w b.pt (fun k => o k = 3) s.ts s.rd
 tms : TsAt w b.pm (fun k => o k = 4) s.tms s.named s.L s.sq
 dls : ∃ ds : List Dl, ds.length = s.nd ∧ BoxAt dlC 204 95 5 w b.pd (fun k => o k = 5) ds
 ctx : CX w (fun k => o k = 6)
 prs : PrIn w o vp ps
 crow : Owns pC 104 1 w vc (s.chs.map Prod.fst)
 co : ∀ k, vc.ownBlock = some k ↔ o k = 8
 lrow : ∃ ls : List Lk, ls.length = s.nl ∧ Owns lkC 123 2 w vl ls
 lo : ∀ k, vl.ownBlock = some k ↔ o k = 9
 erow : Owns evC 45 6 w ve s.ev
 eo : ∀ k, ve.ownBlock = some k ↔ o k = 10
 cnd : (s.chs.map Prod.fst).Nodup
 chn : ∀ p c, (p, c) ∈ s.chs → ChAt w p (fun k => o k = 16 + p) c
def WW (CX : World → (Nat → Prop) → Prop) (w : World) (b : Wp) (o : Nat → Nat) (ps : List (List Ins)) (s : Wst) : Prop := ∃ vp vc vl ve, WAt CX w b o ps s vp vc vl ve
abbrev Own (o : Nat → Nat) : Nat → Prop := fun k => o k ≠ 0
section
variable {CX : World → (Nat → Prop) → Prop} {w w' : World} {b : Wp} {o o' : Nat → Nat} {ps : List (List Ins)} {s : Wst} {vp vc vl ve : Value}
theorem WAt.turns {S : Nat → Prop} (hx : Ext CX) (h : WAt CX w b o ps s vp vc vl ve) (ht : Turns S w w') (hn : ∀ k, o k ≠ 0 → ¬ S k) : WAt CX w' b o ps s vp vc vl ve := by
 have n : ∀ j, j ≠ 0 → ∀ k, o k = j → ¬ S k := fun j hj k hk => hn k (by rw [hk]; exact hj)
 obtain ⟨ds, hd1, hd2⟩ := h.dls
 obtain ⟨ls, hl1, hl2⟩ := h.lrow
 exact { blk := h.blk.turns ht (n 1 (by omega) _ h.ob), ob := h.ob, lt := fun k hk => Nat.lt_of_lt_of_le (h.lt k hk) ht.size, clk := h.clk.turns ht (n 2 (by omega) _ h.ok), ok := h.ok, tab := h.tab.turns ht (n 3 (by omega)), tms := h.tms.turns ht (n 4 (by omega)), dls := ⟨ds, hd1, hd2.turns ht (n 5 (by omega))⟩, ctx := hx.turns S w w' _ h.ctx ht (n 6 (by omega)), prs := h.prs.turns ht (n 7 (by omega)) (fun _ hk => hk), crow := h.crow.turns ht (fun k hk => n 8 (by omega) k ((h.co k).1 hk)), co := h.co, lrow := ⟨ls, hl1, hl2.turns ht (fun k hk => n 9 (by omega) k ((h.lo k).1 hk))⟩, lo := h.lo, erow := h.erow.turns ht (fun k hk => n 10 (by omega) k ((h.eo k).1 hk)), eo := h.eo, cnd := h.cnd, chn := fun p c hp => (h.chn p c hp).turns ht (n (16 + p) (by omega)) }
theorem WAt.made (hx : Ext CX) (h : WAt CX w b o ps s vp vc vl ve) (ht : Made w w') : WAt CX w' b o ps s vp vc vl ve := h.turns hx ht (fun _ _ h => h)
theorem WW.made (hx : Ext CX) (h : WW CX w b o ps s) (ht : Made w w') : WW CX w' b o ps s := by
 obtain ⟨vp, vc, vl, ve, h⟩ := h
 exact ⟨vp, vc, vl, ve, h.made hx ht⟩
theorem relabel {i : Nat} {F' : Nat → Prop} (hlt : ∀ k, o k ≠ 0 → k < w.heap.size) (hi : i ≠ 0) (hs : Stp w w' (fun k => o k = i) F') (hb : ∀ k, F' k → k < w'.heap.size) :
  ∃ o', (∀ k, o' k ≠ 0 → k < w'.heap.size) ∧ (fun k => o' k = i) = F' ∧ (∀ j, j ≠ 0 → j ≠ i → (fun k => o' k = j) = fun k => o k = j) ∧ Stp w w' (Own o) (Own o') := by
 have hl : Lab w o (Own o) := ⟨fun _ => Iff.rfl, hlt⟩
 obtain ⟨o', FF, hl', e, hne, hst⟩ := hl.step i hi hs hb
 have hff : FF = Own o' := by
  funext k
  exact propext (hl'.on k)
 subst hff
 exact ⟨o', hl'.lt, e, hne, hst⟩
theorem WAt.stepTab (hx : Ext CX) (h : WAt CX w b o ps s vp vc vl ve) {F' : Nat → Prop} {ts' : List Tsk} {rd' : List Int} (ha : TabAt w' b.pt F' ts' rd') (hs : Stp w w' (fun k => o k = 3) F') : ∃ o', WAt CX w' b o' ps { s with ts := ts', rd := rd' } vp vc vl ve ∧ (fun k => o' k = 3) = F' ∧ Stp w w' (Own o) (Own o') := by
 obtain ⟨o', hlt, e, hne, hst⟩ := relabel h.lt (by omega) hs (ha.fb)
 obtain ⟨ds, hd1, hd2⟩ := h.dls
 obtain ⟨ls, hl1, hl2⟩ := h.lrow
 exact ⟨o', { lt := hlt, cnd := h.cnd, blk := h.blk.turns hs.t (by rw [h.ob]; omega), ob := lab_is (hne 1 (by omega) (by omega)) h.ob, clk := h.clk.turns hs.t (by rw [h.ok]; omega), ok := lab_is (hne 2 (by omega) (by omega)) h.ok, tab := by rw [e]; exact ha, tms := by rw [hne 4 (by omega) (by omega)]; exact h.tms.turns hs.t (fun k hk => by rw [hk]; omega), dls := ⟨ds, hd1, by rw [hne 5 (by omega) (by omega)]; exact hd2.turns hs.t (fun k hk => by rw [hk]; omega)⟩, ctx := by rw [hne 6 (by omega) (by omega)]; exact hx.turns _ w w' _ h.ctx hs.t (fun k hk => by rw [hk]; omega), prs := h.prs.turns hs.t (fun k hk => by rw [hk]; omega) (fun k hk => lab_is (hne 7 (by omega) (by omega)) hk), crow := h.crow.turns hs.t (fun k hk => by rw [(h.co k).1 hk]; omega), co := fun k => (h.co k).trans (iff_of_eq (congrFun (hne 8 (by omega) (by omega)) k)).symm, lrow := ⟨ls, hl1, hl2.turns hs.t (fun k hk => by rw [(h.lo k).1 hk]; omega)⟩, lo := fun k => (h.lo k).trans (iff_of_eq (congrFun (hne 9 (by omega) (by omega)) k)).symm, erow := h.erow.turns hs.t (fun k hk => by rw [(h.eo k).1 hk]; omega), eo := fun k => (h.eo k).trans (iff_of_eq (congrFun (hne 10 (by omega) (by omega)) k)).symm, chn := fun p c hp => by rw [hne (16 + p) (by omega) (by omega)]; exact (h.chn p c hp).turns hs.t (fun k hk => by rw [hk]; omega) }, e, hst⟩
theorem WAt.stepTms (hx : Ext CX) (h : WAt CX w b o ps s vp vc vl ve) {F' : Nat → Prop} {tms' : List Tk} {named' : Int} {L' : List It} {sq' : Int} (ha : TsAt w' b.pm F' tms' named' L' sq') (hs : Stp w w' (fun k => o k = 4) F') : ∃ o', WAt CX w' b o' ps { s with tms := tms', named := named', L := L', sq := sq' } vp vc vl ve ∧ (fun k => o' k = 4) = F' ∧ Stp w w' (Own o) (Own o') := by
 obtain ⟨o', hlt, e, hne, hst⟩ := relabel h.lt (by omega) hs (ha.fb)
 obtain ⟨ds, hd1, hd2⟩ := h.dls
 obtain ⟨ls, hl1, hl2⟩ := h.lrow
 exact ⟨o', { lt := hlt, cnd := h.cnd, blk := h.blk.turns hs.t (by rw [h.ob]; omega), ob := lab_is (hne 1 (by omega) (by omega)) h.ob, clk := h.clk.turns hs.t (by rw [h.ok]; omega), ok := lab_is (hne 2 (by omega) (by omega)) h.ok, tab := by rw [hne 3 (by omega) (by omega)]; exact h.tab.turns hs.t (fun k hk => by rw [hk]; omega), tms := by rw [e]; exact ha, dls := ⟨ds, hd1, by rw [hne 5 (by omega) (by omega)]; exact hd2.turns hs.t (fun k hk => by rw [hk]; omega)⟩, ctx := by rw [hne 6 (by omega) (by omega)]; exact hx.turns _ w w' _ h.ctx hs.t (fun k hk => by rw [hk]; omega), prs := h.prs.turns hs.t (fun k hk => by rw [hk]; omega) (fun k hk => lab_is (hne 7 (by omega) (by omega)) hk), crow := h.crow.turns hs.t (fun k hk => by rw [(h.co k).1 hk]; omega), co := fun k => (h.co k).trans (iff_of_eq (congrFun (hne 8 (by omega) (by omega)) k)).symm, lrow := ⟨ls, hl1, hl2.turns hs.t (fun k hk => by rw [(h.lo k).1 hk]; omega)⟩, lo := fun k => (h.lo k).trans (iff_of_eq (congrFun (hne 9 (by omega) (by omega)) k)).symm, erow := h.erow.turns hs.t (fun k hk => by rw [(h.eo k).1 hk]; omega), eo := fun k => (h.eo k).trans (iff_of_eq (congrFun (hne 10 (by omega) (by omega)) k)).symm, chn := fun p c hp => by rw [hne (16 + p) (by omega) (by omega)]; exact (h.chn p c hp).turns hs.t (fun k hk => by rw [hk]; omega) }, e, hst⟩
theorem WAt.stepDls (hx : Ext CX) (h : WAt CX w b o ps s vp vc vl ve) {F' : Nat → Prop} {ds' : List Dl} (ha : BoxAt dlC 204 95 5 w' b.pd F' ds') (hs : Stp w w' (fun k => o k = 5) F') : ∃ o', WAt CX w' b o' ps { s with nd := ds'.length } vp vc vl ve ∧ (fun k => o' k = 5) = F' ∧ Stp w w' (Own o) (Own o') := by
 obtain ⟨o', hlt, e, hne, hst⟩ := relabel h.lt (by omega) hs (ha.fb)
 obtain ⟨ds, hd1, hd2⟩ := h.dls
 obtain ⟨ls, hl1, hl2⟩ := h.lrow
 exact ⟨o', { lt := hlt, cnd := h.cnd, blk := h.blk.turns hs.t (by rw [h.ob]; omega), ob := lab_is (hne 1 (by omega) (by omega)) h.ob, clk := h.clk.turns hs.t (by rw [h.ok]; omega), ok := lab_is (hne 2 (by omega) (by omega)) h.ok, tab := by rw [hne 3 (by omega) (by omega)]; exact h.tab.turns hs.t (fun k hk => by rw [hk]; omega), tms := by rw [hne 4 (by omega) (by omega)]; exact h.tms.turns hs.t (fun k hk => by rw [hk]; omega), dls := ⟨ds', rfl, by rw [e]; exact ha⟩, ctx := by rw [hne 6 (by omega) (by omega)]; exact hx.turns _ w w' _ h.ctx hs.t (fun k hk => by rw [hk]; omega), prs := h.prs.turns hs.t (fun k hk => by rw [hk]; omega) (fun k hk => lab_is (hne 7 (by omega) (by omega)) hk), crow := h.crow.turns hs.t (fun k hk => by rw [(h.co k).1 hk]; omega), co := fun k => (h.co k).trans (iff_of_eq (congrFun (hne 8 (by omega) (by omega)) k)).symm, lrow := ⟨ls, hl1, hl2.turns hs.t (fun k hk => by rw [(h.lo k).1 hk]; omega)⟩, lo := fun k => (h.lo k).trans (iff_of_eq (congrFun (hne 9 (by omega) (by omega)) k)).symm, erow := h.erow.turns hs.t (fun k hk => by rw [(h.eo k).1 hk]; omega), eo := fun k => (h.eo k).trans (iff_of_eq (congrFun (hne 10 (by omega) (by omega)) k)).symm, chn := fun p c hp => by rw [hne (16 + p) (by omega) (by omega)]; exact (h.chn p c hp).turns hs.t (fun k hk => by rw [hk]; omega) }, e, hst⟩
theorem WAt.stepCh (hx : Ext CX) (h : WAt CX w b o ps s vp vc vl ve) {F' : Nat → Prop} {i p : Nat} {c c' : Chn} (hi : s.chs[i]? = some (p, c)) (ha : ChAt w' p F' c') (hs : Stp w w' (fun k => o k = 16 + p) F') : ∃ o', WAt CX w' b o' ps { s with chs := s.chs.set i (p, c') } vp vc vl ve ∧ (fun k => o' k = 16 + p) = F' ∧ Stp w w' (Own o) (Own o') := by
 obtain ⟨o', hlt, e, hne, hst⟩ := relabel h.lt (by omega) hs ha.fb
 obtain ⟨ds, hd1, hd2⟩ := h.dls
 obtain ⟨ls, hl1, hl2⟩ := h.lrow
 have hmap : (s.chs.set i (p, c')).map Prod.fst = s.chs.map Prod.fst := by
  rw [List.map_set]
  exact set_same (by rw [List.getElem?_map, hi]; rfl)
 refine ⟨o', { lt := hlt, cnd := by show ((s.chs.set i (p, c')).map Prod.fst).Nodup; rw [hmap]; exact h.cnd, crow := by show Owns pC _ 1 w' vc ((s.chs.set i (p, c')).map Prod.fst); rw [hmap]; exact h.crow.turns hs.t (fun k hk => by rw [(h.co k).1 hk]; omega), co := fun k => (h.co k).trans (iff_of_eq (congrFun (hne 8 (by omega) (by omega)) k)).symm, chn := fun p2 c2 hp => ?_, blk := h.blk.turns hs.t (by rw [h.ob]; omega), ob := lab_is (hne 1 (by omega) (by omega)) h.ob, clk := h.clk.turns hs.t (by rw [h.ok]; omega), ok := lab_is (hne 2 (by omega) (by omega)) h.ok, tab := by rw [hne 3 (by omega) (by omega)]; exact h.tab.turns hs.t (fun k hk => by rw [hk]; omega), tms := by rw [hne 4 (by omega) (by omega)]; exact h.tms.turns hs.t (fun k hk => by rw [hk]; omega), dls := ⟨ds, hd1, by rw [hne 5 (by omega) (by omega)]; exact hd2.turns hs.t (fun k hk => by rw [hk]; omega)⟩, ctx := by rw [hne 6 (by omega) (by omega)]; exact hx.turns _ w w' _ h.ctx hs.t (fun k hk => by rw [hk]; omega), prs := h.prs.turns hs.t (fun k hk => by rw [hk]; omega) (fun k hk => lab_is (hne 7 (by omega) (by omega)) hk), lrow := ⟨ls, hl1, hl2.turns hs.t (fun k hk => by rw [(h.lo k).1 hk]; omega)⟩, lo := fun k => (h.lo k).trans (iff_of_eq (congrFun (hne 9 (by omega) (by omega)) k)).symm, erow := h.erow.turns hs.t (fun k hk => by rw [(h.eo k).1 hk]; omega), eo := fun k => (h.eo k).trans (iff_of_eq (congrFun (hne 10 (by omega) (by omega)) k)).symm }, e, hst⟩
 obtain ⟨j, hj⟩ := List.getElem?_of_mem hp
 by_cases hij : i = j
 ·subst hij
  have hil : i < s.chs.length := (List.getElem?_eq_some_iff.1 hi).1
  rw [List.getElem?_set_self hil] at hj
  cases hj
  rw [e]
  exact ha
 ·rw [List.getElem?_set_ne hij] at hj
  have hpp : p2 ≠ p := by
   rintro rfl
   have h1 : (s.chs.map Prod.fst)[i]? = some p2 := by rw [List.getElem?_map, hi]; rfl
   have h2 : (s.chs.map Prod.fst)[j]? = some p2 := by rw [List.getElem?_map, hj]; rfl
   rcases Nat.lt_or_gt_of_ne hij with h3 | h3
   ·exact nd_ne h.cnd h1 h2 h3 rfl
   ·exact nd_ne h.cnd h2 h1 h3 rfl
  rw [hne (16 + p2) (by omega) (by omega)]
  exact (h.chn p2 c2 (List.mem_of_getElem? hj)).turns hs.t (fun k hk => by rw [hk]; omega)
end
end Go.Proofs.YtjnkphhlkoapbaaGreat
