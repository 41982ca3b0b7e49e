/-
  Walks and laws under LawTopBarrier, part 10.
-/
import Derived.Test.YtjnkphhlkoapbaaGreatPb9
namespace Go.Proofs.YtjnkphhlkoapbaaGreat
open Go.RowKit
set_option linter.unusedVariables false
set_option linter.unusedSimpArgs false
def prC (r : Option Addr × Nat × Nat) : List Value := [.slice r.1 r.2.1 r.2.2]
theorem prC_len (r : Option Addr × Nat × Nat) : (prC r).length = 1 := rfl
theorem prC_one (r : Option Addr × Nat × Nat) : ∀ u ∈ prC r, u.oneCell' = true := by
 intro u hu
 simp only [prC, List.mem_cons, List.not_mem_nil, or_false] at hu
 subst hu
 rfl
theorem Tryz.infoPr : (Tryz.prog.info? 26).map (fun i => (i.zero, i.size, i.bytes)) = some (some (.slice none 0 0), 1, 24) := by kernel_rfl
theorem clknew_c (w : World) : Calls Tryz.prog 16 #[] w fun e w' => ∃ p, e = .returned (.pointer (some ⟨p, 0, none⟩)) ∧ Blk w' p 80 #[.int .i64 0] ∧ Made w w' ∧ w.heap.size ≤ p := by
 have HB := Lib.hid (Blk.new w 80 #[.int .i64 0])
 have HM := Lib.hid ((Turns.refl (fun _ => False) w).alloc (.cells #[.int .i64 0] 80))
 go_enter Tryz.func16, Tryz.ntmps16
 go_wp2_with fail
 go_ret
 exact ⟨w.heap.size, by simp, HB.out, HM.out, Nat.le_refl _⟩
structure PrAt (wr : World) (lo : Nat) (ps : List (List Ins)) (vp : Value) (rows : List (Option Addr × Nat × Nat)) : Prop where
 own : Owns prC 26 1 wr vp rows
 far : ∀ j, vp.ownBlock = some j → lo ≤ j
 row : ∀ (i : Nat) (r : Option Addr × Nat × Nat) (p : List Ins), rows[i]? = some r → ps[i]? = some p → r.2.1 = p.length ∧ RowIn insC 6 wr r.1 p.length p ∧ ∀ b off, r.1 = some ⟨b, off, none⟩ → lo ≤ b ∧ b < wr.heap.size ∧ vp.ownBlock ≠ some b
theorem PrAt.turns {S : Nat → Prop} {w w' : World} {lo : Nat} {ps : List (List Ins)} {vp : Value} {rows : List (Option Addr × Nat × Nat)} (h : PrAt w lo ps vp rows) (ht : Turns S w w') (hn : ∀ k, lo ≤ k → k < w.heap.size → ¬ S k) : PrAt w' lo ps vp rows :=
 ⟨h.own.turns ht (fun k hk => hn k (h.far k hk) (h.own.lt hk)), h.far, fun i r p hr hp => by
  obtain ⟨h1, h2, h3⟩ := h.row i r p hr hp
  exact ⟨h1, h2.turns ht (fun b off e => hn b (h3 b off e).1 (h3 b off e).2.1), fun b off e => ⟨(h3 b off e).1, Nat.lt_of_lt_of_le (h3 b off e).2.1 ht.size, (h3 b off e).2.2⟩⟩⟩
open Classical in
theorem six_labels {F2 F3 F4 G : Nat → Prop} {pb pk : Nat} (h12 : pb ≠ pk) (h13 : ¬ F2 pb) (h14 : ¬ F3 pb) (h15 : ¬ F4 pb) (h17 : ¬ G pb) (h23 : ¬ F2 pk) (h24 : ¬ F3 pk) (h25 : ¬ F4 pk) (h27 : ¬ G pk) (h34 : ∀ k, F3 k → ¬ F2 k) (h35 : ∀ k, F4 k → ¬ F2 k) (h37 : ∀ k, G k → ¬ F2 k) (h45 : ∀ k, F4 k → ¬ F3 k) (h47 : ∀ k, G k → ¬ F3 k) (h57 : ∀ k, G k → ¬ F4 k) :
  ∃ o : Nat → Nat, o pb = 1 ∧ o pk = 2 ∧ (fun k => o k = 3) = F2 ∧ (fun k => o k = 4) = F3 ∧ (fun k => o k = 5) = F4 ∧ (∀ k, o k = 7 ↔ G k) ∧ (∀ k, o k ≠ 0 → k = pb ∨ k = pk ∨ F2 k ∨ F3 k ∨ F4 k ∨ G k) ∧ ∀ k, o k ≤ 7 := by
 refine ⟨fun k => if k = pb then 1 else if k = pk then 2 else if F2 k then 3 else if F3 k then 4 else if F4 k then 5 else if G k then 7 else 0, ?_, ?_, ?_, ?_, ?_, ?_, ?_, ?_⟩
 ·simp
 ·simp; grind
 ·funext k; grind
 ·funext k; grind
 ·funext k; grind
 ·intro k; grind
 ·intro k; grind
 ·intro k; grind
def NRel (w5 : World) (pb pk pt pm pd px : Nat) (ps : List (List Ins)) (k : Nat) (wr : World) : Prop := ∃ vp rows, Blk wr pb 65 #[vp, .pointer (some ⟨pk, 0, none⟩), .pointer (some ⟨pt, 0, none⟩), .slice none 0 0, .int .i64 0, .pointer (some ⟨pm, 0, none⟩), .pointer (some ⟨px, 0, none⟩), .pointer (some ⟨pd, 0, none⟩), .slice none 0 0, .int .i64 0, .slice none 0 0] ∧ rows.length = k ∧ PrAt wr w5.heap.size ps vp rows ∧ Turns (fun k => k = pb) w5 wr
def CX0 : World → (Nat → Prop) → Prop := fun _ _ => True
theorem CX0.ext : Ext CX0 := ⟨fun _ _ _ _ _ _ _ => trivial⟩
def initS : Wst := ⟨0, [⟨0, 0, 0, 0, ⟨0, 0, 0, 0, 0, 0, 0, 0⟩, ⟨0, 0, 0, 0⟩⟩], [0], [], 0, [], 0, [], 0, 0, 0, 0, []⟩
set_option maxRecDepth 100000 in
set_option maxHeartbeats 4000000 in
theorem worldnew_c {ps : List (List Ins)} {b off cap : Nat} (w : World) (hp : ProgsC ps) (hne : ∀ p ∈ ps, 1 ≤ p.length) (h : RowsIn w b off ps) :
  Calls Tryz.prog 8 #[.slice (some ⟨b, off, none⟩) ps.length cap] w fun e w' => ∃ wp o, e = .returned (.tuple #[.pointer (some ⟨wp.pb, 0, none⟩), .int .i64 0]) ∧ WA CX0 w' wp o ps initS ∧ Made w w' ∧ (∀ k, Own o k → w.heap.size ≤ k) := by
 have HP := Lib.hid (And.intro hp hne)
 have HR := Lib.hid h
 have HAL := Lib.hid (all_c (cap := cap) w hp h)
 obtain ⟨i0, hi0, hz0, hz1, hz2⟩ := info_parts Tryz.infoPr
 clear hp h hne
 go_enter Tryz.func8, Tryz.ntmps8
 go_wp2_with fail
 refine HAL.out.mono ?_
 rintro e w0 ⟨rfl, hm0⟩
 have HM0 := Lib.hid hm0
 clear hm0
 go_wp2_with fail
 refine (clknew_c w0).mono ?_
 rintro e w1 ⟨pk, rfl, hk1, hm1, hl1⟩
 have HK1 := Lib.hid (And.intro hk1 (And.intro hm1 hl1))
 clear hk1 hm1 hl1
 go_wp2_with fail
 refine (tabnew_c w1).mono ?_
 rintro e w2 ⟨pt, F2, rfl, hk1, hm1, hl1⟩
 have HK2 := Lib.hid (And.intro hk1 (And.intro hm1 hl1))
 clear hk1 hm1 hl1
 go_wp2_with fail
 refine (tsnew_c w2).mono ?_
 rintro e w3 ⟨pm, F3, rfl, hk1, hm1, hl1⟩
 have HK3 := Lib.hid (And.intro hk1 (And.intro hm1 hl1))
 clear hk1 hm1 hl1
 go_wp2_with fail
 refine (dlnew_c w3).mono ?_
 rintro e w4 ⟨pd, F4, rfl, hk1, hm1, hl1⟩
 have HK4 := Lib.hid (And.intro hk1 (And.intro hm1 hl1))
 clear hk1 hm1 hl1
 have hb5 := Blk.new w4 65 #[.slice none 0 0, .pointer (some ⟨pk, 0, none⟩), .pointer (some ⟨pt, 0, none⟩), .slice none 0 0, .int .i64 0, .pointer (some ⟨pm, 0, none⟩), .pointer none, .pointer (some ⟨pd, 0, none⟩), .slice none 0 0, .int .i64 0, .slice none 0 0]
 have q5 := hb5.cell 5
 simp only [List.getElem?_toArray, List.getElem?_cons_zero, List.getElem?_cons_succ] at q5
 have HB5 := Lib.hid hb5
 have HM5 := Lib.hid ((Turns.refl (fun _ => False) w4).alloc (.cells #[.slice none 0 0, .pointer (some ⟨pk, 0, none⟩), .pointer (some ⟨pt, 0, none⟩), .slice none 0 0, .int .i64 0, .pointer (some ⟨pm, 0, none⟩), .pointer none, .pointer (some ⟨pd, 0, none⟩), .slice none 0 0, .int .i64 0, .slice none 0 0] 65))
 have HL5 := Lib.hid (show (w4.alloc (.cells #[.slice none 0 0, .pointer (some ⟨pk, 0, none⟩), .pointer (some ⟨pt, 0, none⟩), .slice none 0 0, .int .i64 0, .pointer (some ⟨pm, 0, none⟩), .pointer none, .pointer (some ⟨pd, 0, none⟩), .slice none 0 0, .int .i64 0, .slice none 0 0] 65)).heap.size = w4.heap.size + 1 from by simp)
 clear hb5
 go_upto_region 5 with fail
 generalize w4.alloc (.cells #[.slice none 0 0, .pointer (some ⟨pk, 0, none⟩), .pointer (some ⟨pt, 0, none⟩), .slice none 0 0, .int .i64 0, .pointer (some ⟨pm, 0, none⟩), .pointer none, .pointer (some ⟨pd, 0, none⟩), .slice none 0 0, .int .i64 0, .slice none 0 0] 65) = w5 at *
 go_wp2_with fail
 refine (ctxnew_c w5 pm).mono ?_
 rintro e w6 ⟨px, ptr, pmm, w06, rfl, hbg, -, hm6, hl6⟩
 have HK6 := Lib.hid (And.intro hm6 hl6)
 have HB6 := Lib.hid (HB5.out.turns hm6 (fun h => h))
 have q6 := HB6.out.cell 6
 have f6 := HB6.out.free 6
 simp only [List.getElem?_toArray, List.getElem?_cons_zero, List.getElem?_cons_succ] at q6
 clear hbg hm6 hl6 q5
 go_upto_region 6 with fail
 have HB7 : Hid (Blk (w6.setCell ⟨w4.heap.size, 6, none⟩ (.pointer (some ⟨px, 0, none⟩))) w4.heap.size 65 #[.slice none 0 0, .pointer (some ⟨pk, 0, none⟩), .pointer (some ⟨pt, 0, none⟩), .slice none 0 0, .int .i64 0, .pointer (some ⟨pm, 0, none⟩), .pointer (some ⟨px, 0, none⟩), .pointer (some ⟨pd, 0, none⟩), .slice none 0 0, .int .i64 0, .slice none 0 0]) := Lib.hid (by simpa using HB6.out.put 6 (.pointer (some ⟨px, 0, none⟩)))
 have HT7 := Lib.hid ((HK6.out.1.mono (S' := fun k => k = w4.heap.size) (fun _ _ h => h.elim)).trans (set1 w6 w4.heap.size 6 (.pointer (some ⟨px, 0, none⟩))))
 clear q6 f6
 generalize w6.setCell ⟨w4.heap.size, 6, none⟩ (.pointer (some ⟨px, 0, none⟩)) = w7 at *
 have HM7 := Lib.hid (show Made w w7 from by
  have hA := ((((HM0.out.trans HK1.out.2.1).trans HK2.out.2.1).trans HK3.out.2.1).trans HK4.out.2.1)
  have hB := hA.trans HM5.out
  have hs := hA.size
  exact hB.then HT7.out (fun k hk e => by omega))
 have HRL := Lib.hid (show NRel w5 w4.heap.size pk pt pm pd px ps 0 w7 from ⟨_, [], HB7.out, rfl, ⟨Owns.nil, fun j hj => (by cases hj), fun i r p hr _ => (by simp at hr)⟩, HT7.out⟩)
 have HLW : Hid (w.heap.size ≤ w4.heap.size) := Lib.hid ((((HM0.out.trans HK1.out.2.1).trans HK2.out.2.1).trans HK3.out.2.1).trans HK4.out.2.1).size
 clear HB7 HT7
 go_wp2_with fail
 go_loopw [29] (fun v29 wr => ∃ k : Nat, k ≤ ps.length ∧ v29 = .int .i64 k ∧ NRel w5 w4.heap.size pk pt pm pd px ps k wr) (fun v29 _ => ps.length - (intOf v29).toNat)
 case atStart => exact ⟨0, Nat.zero_le _, rfl, HRL.out⟩
 case round =>
  obtain ⟨k0, hk, rfl, hg⟩ := hrel
  by_cases hlt : k0 < ps.length
  ·obtain ⟨p, hpk⟩ := get_of_lt (xs := ps) (k := k0) hlt
   obtain ⟨vp, rows, hbp, hrl, hpr, htr⟩ := hg
   have hmw : Made w wr := (HM0.out.trans (((HK1.out.2.1.trans HK2.out.2.1).trans HK3.out.2.1).trans HK4.out.2.1)).trans HM5.out |>.then htr (fun k hk e => by have := HLW.out; omega)
   obtain ⟨ap, cp, hcp, hrow⟩ := HR.out.row k0 p hpk
   have hcell : wr.cell? ⟨b, off + k0, none⟩ = some (.slice ap p.length cp) := (hmw.cell (p := ⟨b, off + k0, none⟩) HR.out.lt (fun h => h)).trans hcp
   have HB := Lib.hid hbp
   have HPR := Lib.hid hpr
   have HTR := Lib.hid htr
   have HMW := Lib.hid hmw
   have HRLN := Lib.hid hrl
   have HPK := Lib.hid hpk
   have HPS := Lib.hid (And.intro (HP.out.1.len p (List.mem_of_getElem? hpk)) (And.intro (HP.out.2 p (List.mem_of_getElem? hpk)) HP.out.1.le))
   have HRW := Lib.hid (hrow.turns hmw (fun _ _ _ h => h))
   have HOW := Lib.hid (fun ww (hh : Made wr ww) => own_c (cap := cp) ww (HRW.out.turns hh (fun _ _ _ h => h)) HPS.out.1 (fun e => by
    have h1 := HPS.out.2.1
    rcases HRW.out.2 with h2 | ⟨b2, o2, e2, _⟩
    ·omega
    ·rw [e] at e2; cases e2))
   have hps := HP.out.1.le
   have i1 : (0 : Int) ≤ (k0 : Int) := by omega
   have i2 : (k0 : Int) < (ps.length : Int) := by omega
   clear hbp hpr htr hmw hcp hrow hpk hrl
   have HNP := Lib.hid (show ∀ k, vp.ownBlock = some k → k ≠ w4.heap.size from fun k hk e => by have h1 := HPR.out.far k hk; have h2 := HL5.out; omega)
   go_upto_region 9 with fail
   refine wp_region_z (S := fun w' => Blk w' (w4.heap.size) 65 #[vp, .pointer (some ⟨pk, 0, none⟩), .pointer (some ⟨pt, 0, none⟩), .slice none 0 0, .int .i64 0, .pointer (some ⟨pm, 0, none⟩), .pointer (some ⟨px, 0, none⟩), .pointer (some ⟨pd, 0, none⟩), .slice none 0 0, .int .i64 0, .slice none 0 0] ∧ Turns (fun k => vp.ownBlock = some k) wr w') 11 (by kernel_rfl) ?_ (fun hHeld => ?_)
   ·exact ⟨HB.out, (Turns.refl _ wr).drew⟩
   refine takeZ (i := 0) (d := some 33) (v := ?_) rfl rfl (by kernel_rfl) (by kernel_rfl) (by kernel_rfl) (by kernel_rfl) (fun _ _ _ h => h) (Or.inl ⟨by rfl, ?_⟩) (by assumption) ?_
   rotate_left
   ·intro w hSw
    try dsimp only at hSw
    go_simp
    try with_reducible rfl
   try simp only [Act.put, List.setIfInBounds_toArray, List.set_cons_zero, List.set_cons_succ]
   refine takeZ (i := 1) (d := some 34) (v := ?_) rfl rfl (by kernel_rfl) (by kernel_rfl) (by kernel_rfl) (by kernel_rfl) (fun _ _ _ h => h) (Or.inl ⟨by rfl, ?_⟩) (by assumption) ?_
   rotate_left
   ·intro w hSw
    try dsimp only at hSw
    go_simp
    try with_reducible rfl
   try simp only [Act.put, List.setIfInBounds_toArray, List.set_cons_zero, List.set_cons_succ]
   refine takeZ (i := 2) (d := some 35) (v := ?_) rfl rfl (by kernel_rfl) (by kernel_rfl) (by kernel_rfl) (by kernel_rfl) (fun _ _ _ h => h) (Or.inl ⟨by rfl, ?_⟩) (by assumption) ?_
   rotate_left
   ·intro w hSw
    try dsimp only at hSw
    go_simp
    try with_reducible rfl
   try simp only [Act.put, List.setIfInBounds_toArray, List.set_cons_zero, List.set_cons_succ]
   refine takeZ (i := 3) (d := some 36) (v := ?_) rfl rfl (by kernel_rfl) (by kernel_rfl) (by kernel_rfl) (by kernel_rfl) (fun _ _ _ h => h) (Or.inl ⟨by rfl, ?_⟩) (by assumption) ?_
   rotate_left
   ·intro w hSw
    try dsimp only at hSw
    go_simp
    try with_reducible rfl
   try simp only [Act.put, List.setIfInBounds_toArray, List.set_cons_zero, List.set_cons_succ]
   refine takeZ (i := 4) (d := some 37) (v := ?_) rfl rfl (by kernel_rfl) (by kernel_rfl) (by kernel_rfl) (by kernel_rfl) (fun _ _ _ h => h) (Or.inl ⟨by rfl, ?_⟩) (by assumption) ?_
   rotate_left
   ·intro w hSw
    try dsimp only at hSw
    have q0_0 := hSw.1.cell 0
    simp only [List.getElem?_toArray, List.getElem?_cons_zero, List.getElem?_cons_succ] at q0_0
    go_simp
    try with_reducible rfl
   try simp only [Act.put, List.setIfInBounds_toArray, List.set_cons_zero, List.set_cons_succ]
   refine takeZ (i := 5) (d := some 38) (v := ?_) rfl rfl (by kernel_rfl) (by kernel_rfl) (by kernel_rfl) (by kernel_rfl) (fun _ _ _ h => h) (Or.inl ⟨by rfl, ?_⟩) (by assumption) ?_
   rotate_left
   ·intro w hSw
    try dsimp only at hSw
    go_simp
    try with_reducible rfl
   try simp only [Act.put, List.setIfInBounds_toArray, List.set_cons_zero, List.set_cons_succ]
   refine wpAnyZ_ready (rs := [6]) (by kernel_rfl) (by simp) ?_
   refine AllReadyZ.cons rfl (fun K hK => ?_) AllReadyZ.nil
   go_simp
   refine (HOW.out wr.drew (Turns.refl (fun _ => False) wr).drew).mono ?_
   rintro e wG ⟨v1, rfl, hgG⟩
   obtain ⟨a1, c1, rfl⟩ := owns_slice hgG.own
   have hmG : Made wr wG := ((Turns.refl (fun _ => False) wr).drew).trans hgG.made
   refine hK.out _ _ ?_ (fun hHeld => ?_)
   ·exact ⟨hHeld.1.turns hgG.made (fun h => h), hHeld.2.trans (hgG.made.mono (fun _ _ h => h.elim))⟩
   clear hK K
   try simp only [Act.put, List.setIfInBounds_toArray, List.set_cons_zero, List.set_cons_succ]
   refine wpAnyZ_ready (rs := [7]) (by kernel_rfl) (by simp) ?_
   refine AllReadyZ.cons rfl (fun K hK => ?_) AllReadyZ.nil
   go_simp
   refine hK.out _ _ ?_ (fun hHeld => ?_)
   ·exact ⟨hHeld.1.alloc _, hHeld.2.alloc _⟩
   clear hK K
   try simp only [Act.put, List.setIfInBounds_toArray, List.set_cons_zero, List.set_cons_succ]
   refine wpAnyZ_ready (rs := [8]) (by kernel_rfl) (by simp) ?_
   refine AllReadyZ.cons rfl (fun K hK => ?_) AllReadyZ.nil
   refine step_push rfl _ _ _ (by rfl) i0 _ 24 Tryz.underlying31 hi0 hz0 hz1 hz2 rfl (by omega) prC_len prC_one (by rfl) ((HPR.out.own.turns hmG (fun _ _ h => h)).turns ((Turns.refl (fun _ => False) wG).alloc _) (fun _ _ h => h)) (a1, p.length, c1) (by rfl) (Blk.new wG _ _) (by have := HRLN.out; omega) (by omega) ?_
   intro v2 w2 hO2 hT2 hV2
   obtain ⟨a3, c3, rfl⟩ := owns_slice hO2
   refine hK.out _ _ ?_ (fun hHeld => ?_)
   ·exact ⟨hHeld.1.turns hT2 (fun e => HNP.out _ e rfl), hHeld.2.trans hT2⟩
   clear hK K
   try simp only [Act.put, List.setIfInBounds_toArray, List.set_cons_zero, List.set_cons_succ]
   refine wpAnyZ_ready (rs := [9]) (by kernel_rfl) (by simp) ?_
   refine AllReadyZ.cons rfl (fun K hK => ?_) AllReadyZ.nil
   go_simp
   refine hK.out _ _ hHeld (fun hHeld => ?_)
   clear hK K
   try simp only [Act.put, List.setIfInBounds_toArray, List.set_cons_zero, List.set_cons_succ]
   refine takeZ (i := 10) (d := some 43) (v := ?_) rfl rfl (by kernel_rfl) (by kernel_rfl) (by kernel_rfl) (by kernel_rfl) (fun _ _ _ h => h) (Or.inl ⟨by rfl, ?_⟩) (by assumption) ?_
   rotate_left
   ·intro w hSw
    try dsimp only at hSw
    go_simp
    try with_reducible rfl
   try simp only [Act.put, List.setIfInBounds_toArray, List.set_cons_zero, List.set_cons_succ]
   refine wpAnyZ_ready (rs := [11]) (by kernel_rfl) (by simp) ?_
   refine AllReadyZ.last rfl (fun K hK => ?_) AllReadyZ.nil
   have qz0 := hHeld.1.cell 0
   have qf := hHeld.1.free 0
   simp only [List.getElem?_toArray, List.getElem?_cons_zero, List.getElem?_cons_succ] at qz0
   go_simp
   refine hK.out _ _ ?_
   clear hK K
   try simp only [Act.put, List.setIfInBounds_toArray, List.set_cons_zero, List.set_cons_succ]
   refine wpAnyZ_done (by kernel_rfl) ?_ _
   have hL := Lib.hid hHeld
   have HE : Hid (NRel w5 w4.heap.size pk pt pm pd px ps (k0 + 1) (w2.setCell ⟨w4.heap.size, 0, none⟩ (.slice a3 (rows ++ [(a1, p.length, c1)]).length c3))) := Lib.hid (by
    have hs2 : wr.heap.size ≤ wG.heap.size := hgG.made.size
    have hs3 := hT2.size
    have hs4 : wG.heap.size ≤ (wG.alloc (.cells #[.slice a1 p.length c1] 26)).heap.size := by simp
    have hs5 := HTR.out.size
    have hfar : ∀ j, (Value.slice a3 (rows ++ [(a1, p.length, c1)]).length c3).ownBlock = some j → vp.ownBlock = some j ∨ wG.heap.size ≤ j := fun j hj => (hV2 j hj).imp id (fun h => by omega)
    have htw : Turns (fun k => vp.ownBlock = some k ∨ k = w4.heap.size) wG (w2.setCell ⟨w4.heap.size, 0, none⟩ (.slice a3 (rows ++ [(a1, p.length, c1)]).length c3)) := (((Turns.refl (fun k => vp.ownBlock = some k ∨ k = w4.heap.size) wG).alloc _).trans (hT2.mono (fun _ _ h => .inl h))).trans ((set1 w2 w4.heap.size 0 _).mono (fun _ _ e => .inr e))
    refine ⟨_, rows ++ [(a1, p.length, c1)], by simpa using hHeld.1.put 0 (.slice a3 (rows ++ [(a1, p.length, c1)]).length c3), by simp [HRLN.out], ⟨hO2.turns (set1 w2 w4.heap.size 0 _) (fun k hk e => ?_), fun j hj => ?_, fun i r q hr hq => ?_⟩, ?_⟩
    ·rcases hfar k hk with h1 | h1
     ·exact HNP.out k h1 e
     ·have := HL5.out; omega
    ·rcases hfar j hj with h1 | h1
     ·exact HPR.out.far j h1
     ·omega
    ·rcases Nat.lt_or_ge i rows.length with h1 | h1
     ·rw [List.getElem?_append_left h1] at hr
      obtain ⟨h2, h3, h4⟩ := HPR.out.row i r q hr hq
      refine ⟨h2, (h3.turns hmG (fun _ _ _ h => h)).turns htw (fun b2 off2 e h => ?_), fun b2 off2 e => ?_⟩
      ·obtain ⟨m1, m2, m3⟩ := h4 b2 off2 e
       rcases h with h | h
       ·exact m3 h
       ·have := HL5.out; omega
      ·obtain ⟨m1, m2, m3⟩ := h4 b2 off2 e
       have hsz := htw.size
       exact ⟨m1, by omega, fun h => by
        rcases hfar b2 h with h5 | h5
        ·exact m3 h5
        ·omega⟩
     ·rw [List.getElem?_append_right h1] at hr
      have hi0 : i - rows.length = 0 := by
       rcases Nat.eq_zero_or_pos (i - rows.length) with h2 | h2
       ·exact h2
       ·rw [List.getElem?_eq_none (by simp; omega)] at hr; cases hr
      rw [hi0] at hr
      cases hr
      have hie : i = k0 := by have := HRLN.out; omega
      subst hie
      have hq2 : q = p := by have h2 := HPK.out; rw [hq] at h2; exact Option.some.inj h2
      subst hq2
      have hgf : ∀ b2 off2, a1 = some ⟨b2, off2, none⟩ → wr.heap.size ≤ b2 ∧ b2 < wG.heap.size := fun b2 off2 e => by subst e; exact ⟨hgG.far b2 rfl, hgG.own.lt rfl⟩
      have hnv : ∀ b2 off2, a1 = some ⟨b2, off2, none⟩ → vp.ownBlock ≠ some b2 := fun b2 off2 e h => by have h6 := hgf b2 off2 e; have h7 := HPR.out.own.lt h; omega
      obtain ⟨a4, c4, he4, hri, -⟩ := hgG.own.rowIn insC_len
      cases he4
      refine ⟨rfl, hri.turns htw (fun b2 off2 e h => ?_), fun b2 off2 e => ?_⟩
      ·rcases h with h | h
       ·exact hnv b2 off2 e h
       ·have h6 := hgf b2 off2 e; have := HL5.out; omega
      ·have h6 := hgf b2 off2 e
       have hsz := htw.size
       exact ⟨by omega, by omega, fun h => by
        rcases hfar b2 h with h5 | h5
        ·exact hnv b2 off2 e h5
        ·omega⟩
    ·exact (HTR.out.then hmG (fun _ _ (h : False) => h.elim)).then htw (fun k hk e => by
      rcases e with e | e
      ·have := HPR.out.far k e; omega
      ·exact e))
   clear hHeld hO2 hT2 hV2
   go_wp2_with fail
   go_roundw
   case rel =>
    have HE2 := HE.out
    simp only [List.length_append, List.length_cons, List.length_nil, Nat.zero_add] at HE2
    exact ⟨k0 + 1, by omega, by go_num, HE2⟩
   case measure => simp [intOf]; omega
  ·have hk2 : k0 = ps.length := by omega
   obtain ⟨vp, rows, hbp, hrl, hpr, htr⟩ := hg
   have hs0 := HM0.out.size
   have hs1 := HK1.out.2.1.size
   have hs2 := HK2.out.2.1.size
   have hs3 := HK3.out.2.1.size
   have hs4 := HK4.out.2.1.size
   have hs5 := HL5.out
   have hs7 := htr.size
   have hkl := HK1.out.1.lt
   have m45 : Made w4 w5 := HM5.out
   have m15 : Made w1 w5 := ((HK2.out.2.1.trans HK3.out.2.1).trans HK4.out.2.1).trans m45
   have m25 : Made w2 w5 := (HK3.out.2.1.trans HK4.out.2.1).trans m45
   have m35 : Made w3 w5 := HK4.out.2.1.trans m45
   have hclk := (HK1.out.1.turns m15 (fun h => h)).turns htr (by omega)
   have htab := (HK2.out.1.made m25).turns htr (fun k hk e => by have := HK2.out.1.fb k hk; omega)
   have htms := (HK3.out.1.made m35).turns htr (fun k hk e => by have := HK3.out.1.fb k hk; omega)
   have hdls := (HK4.out.1.made m45).turns htr (fun k hk e => by have := HK4.out.1.fb k hk; omega)
   have HCL := Lib.hid hclk
   have HTM := Lib.hid htms
   have HDL := Lib.hid hdls
   have HBP := Lib.hid hbp
   have HPR := Lib.hid (And.intro hpr (And.intro hrl hk2))
   have HTR := Lib.hid htr
   have HST := Lib.hid (tabstart_c (pg := 0) (r := ⟨0, 0, 0, 0, 0, 0, 0, 0⟩) htab (by simp) (by omega) (by simp) (by simp))
   have HSZ : Hid (w.heap.size ≤ w0.heap.size ∧ w0.heap.size ≤ w1.heap.size ∧ w1.heap.size ≤ w2.heap.size ∧ w2.heap.size ≤ w3.heap.size ∧ w3.heap.size ≤ w4.heap.size ∧ w5.heap.size = w4.heap.size + 1 ∧ w5.heap.size ≤ wr.heap.size ∧ pk < w1.heap.size) := Lib.hid ⟨hs0, hs1, hs2, hs3, hs4, hs5, hs7, hkl⟩
   have q2 := hbp.cell 2
   simp only [List.getElem?_toArray, List.getElem?_cons_zero, List.getElem?_cons_succ] at q2
   clear hbp hpr htr hclk htab htms hdls m45 m15 m25 m35 hs0 hs1 hs2 hs3 hs4 hs5 hs7 hkl hrl hk2
   go_wp2_with fail
   refine HST.out.mono ?_
   rintro e w8 ⟨rfl, F2', ht8, hst8⟩
   have HT8 := Lib.hid (And.intro ht8 hst8)
   clear ht8 hst8
   go_wp2_with fail
   go_returns
   obtain ⟨hs0, hs1, hs2, hs3, hs4, hs5, hs7, hkl⟩ := HSZ.out
   obtain ⟨ht8, hst8⟩ := HT8.out
   have hs8 := hst8.t.size
   have b2 : ∀ k, F2 k → w1.heap.size ≤ k ∧ k < w2.heap.size := fun k hk => ⟨HK2.out.2.2 k hk, HK2.out.1.fb k hk⟩
   have b2' : ∀ k, F2' k → (w1.heap.size ≤ k ∧ k < w2.heap.size) ∨ wr.heap.size ≤ k := fun k hk => (hst8.f k hk).imp (b2 k) id
   have b3 : ∀ k, F3 k → w2.heap.size ≤ k ∧ k < w3.heap.size := fun k hk => ⟨HK3.out.2.2 k hk, HK3.out.1.fb k hk⟩
   have b4 : ∀ k, F4 k → w3.heap.size ≤ k ∧ k < w4.heap.size := fun k hk => ⟨HK4.out.2.2 k hk, HK4.out.1.fb k hk⟩
   have hpk := HK1.out.2.2
   obtain ⟨o, e1, e2, e3, e4, e5, e7, eo, ele⟩ := six_labels (F2 := F2') (F3 := F3) (F4 := F4) (G := fun k => w5.heap.size ≤ k ∧ k < wr.heap.size) (pb := w4.heap.size) (pk := pk) (by omega) (fun h => by have := b2' _ h; omega) (fun h => by have := b3 _ h; omega) (fun h => by have := b4 _ h; omega) (fun h => by omega) (fun h => by have := b2' _ h; omega) (fun h => by have := b3 _ h; omega) (fun h => by have := b4 _ h; omega) (fun h => by omega) (fun k h g => by have := b2' _ g; have := b3 _ h; omega) (fun k h g => by have := b2' _ g; have := b4 _ h; omega) (fun k h g => by have := b2' _ g; omega) (fun k h g => by have := b3 _ g; have := b4 _ h; omega) (fun k h g => by have := b3 _ g; omega) (fun k h g => by have := b4 _ g; omega)
   have hm8 : Made w w8 := (show Made w wr from ((((((HM0.out.trans HK1.out.2.1).trans HK2.out.2.1).trans HK3.out.2.1).trans HK4.out.2.1).trans HM5.out).then HTR.out (fun k hk e => by omega))).then hst8.t (fun k hk h => by have := b2 k h; omega)
   have hn8 : ∀ k, o k = 6 ∨ o k = 8 ∨ o k = 9 ∨ o k = 10 → False := fun k hk => by
    have hz : o k ≠ 0 := by omega
    rcases eo k hz with h | h | h | h | h | h
    ·rw [h, e1] at hk; omega
    ·rw [h, e2] at hk; omega
    ·have h2 : o k = 3 := by rw [← e3] at h; exact h
     omega
    ·have h2 : o k = 4 := by rw [← e4] at h; exact h
     omega
    ·have h2 : o k = 5 := by rw [← e5] at h; exact h
     omega
    ·have h2 := (e7 k).2 h
     omega
   have hlo : ∀ k, o k ≠ 0 → w.heap.size ≤ k ∧ k < w8.heap.size := fun k hk => by
    rcases eo k hk with h | h | h | h | h | h
    ·omega
    ·omega
    ·have := ht8.fb k h; have := b2' k h; omega
    ·have := b3 k h; omega
    ·have := b4 k h; omega
    ·omega
   have hnl : ∀ k, (Value.slice none 0 0).ownBlock = some k ↔ False := fun k => ⟨fun h => (by cases h), fun h => h.elim⟩
   obtain ⟨hpr, hrl, hk2⟩ := HPR.out
   refine ⟨⟨w4.heap.size, pk, pt, pm, pd, px⟩, o, rfl, ⟨⟨fun i q hq => by simp [initS] at hq, fun t ht => by simp [initS] at ht⟩, [], rfl, vp, .slice none 0 0, .slice none 0 0, .slice none 0 0, ?_⟩, hm8, fun k hk => (hlo k hk).1⟩
   exact { blk := HBP.out.turns hst8.t (fun h => by have := b2 _ h; omega), ob := e1, lt := fun k hk => (hlo k hk).2, clk := HCL.out.turns hst8.t (fun h => by have := b2 _ h; omega), ok := e2, tab := by rw [e3]; exact ht8, tms := by rw [e4]; exact HTM.out.turns hst8.t (fun k hk h => by have := b2 _ h; have := b3 _ hk; omega), dls := ⟨[], rfl, by rw [e5]; exact HDL.out.turns hst8.t (fun k hk h => by have := b2 _ h; have := b4 _ hk; omega)⟩, ctx := trivial, prs := (by
    have hpos := HP.out.1.ge
    rcases hpr.own.form with ⟨_, h0⟩ | ⟨g, c, hv, hg, _⟩
    ·rw [h0] at hrl; simp only [List.length_nil] at hrl; omega
    ·have hgo : w5.heap.size ≤ g := hpr.far g (by rw [hv]; rfl)
     refine ⟨g, c, by rw [hv, hrl, hk2], (e7 g).2 ⟨hgo, hg⟩, by omega, fun i p hp => ?_⟩
     have hi : i < rows.length := by rw [hrl, hk2]; exact (List.getElem?_eq_some_iff.1 hp).1
     obtain ⟨r, hr⟩ := get_of_lt (xs := rows) hi
     obtain ⟨h1, h2, h3⟩ := hpr.row i r p hr hp
     have hc := Owns.cell prC_len (hv ▸ hpr.own) hr (j := 0) rfl
     refine ⟨r.1, r.2.2, ?_, h2.turns hst8.t (fun bb off2 e h => by have := h3 bb off2 e; have := b2 _ h; omega), fun bb off2 e => (e7 bb).2 ⟨(h3 bb off2 e).1, (h3 bb off2 e).2.1⟩⟩
     have h5 := (hst8.t.cell (p := ⟨g, i * 1 + 0, none⟩) hg (fun h => by have : w1.heap.size ≤ g ∧ g < w2.heap.size := b2 _ h; omega)).trans hc
     rw [h1] at h5
     simpa using h5), crow := Owns.nil, co := fun k => (hnl k).trans ⟨fun h => h.elim, fun h => hn8 k (.inr (.inl h))⟩, lrow := ⟨[], rfl, Owns.nil⟩, lo := fun k => (hnl k).trans ⟨fun h => h.elim, fun h => hn8 k (.inr (.inr (.inl h)))⟩, erow := Owns.nil, eo := fun k => (hnl k).trans ⟨fun h => h.elim, fun h => hn8 k (.inr (.inr (.inr h)))⟩, cnd := List.nodup_nil, chn := fun p c hp => (by cases hp) }
end Go.Proofs.YtjnkphhlkoapbaaGreat
namespace Go.Proofs.YtjnkphhlkoapbaaGreat
open Go.RowKit
set_option linter.unusedVariables false
set_option linter.unusedSimpArgs false
section
variable {ps : List (List Ins)} {s : Wst}
theorem stepF_idle {n : Int} (hl : Lim s) (hrd : s.rd = []) : stepF ps s (.run n) = some { s with ev := [], nl := s.nl + 1, steps := s.steps + 1 } := by
 obtain ⟨l1, l2, l3, l4, l5, l6, l7, l8, l9, l10, l11, l12, l13, l14, l15⟩ := id hl
 unfold stepF
 rw [if_pos hl]
 have h1 : runF ps { s with ev := [] } n = some { s with ev := [], nl := s.nl + 1 } := by
  unfold runF
  exact if_pos hrd
 simp only [h1]
 unfold doneF
 rw [if_pos ⟨l10, l11, by simp⟩]
theorem stepF_loc {n : Int} {i : Nat} {x : Tsk} {p : List Ins} {O : LOut} (hl : Lim s) (hnl : s.nl < 99999) (h1 : s.rd[(pickZ n s.rd.length).toNat]? = some (i : Int)) (h2 : s.ts[i]? = some x) (h3 : ps[x.prog.toNat]? = some p) (h4 : x.st = 0 ∧ 0 ≤ x.prog ∧ 0 ≤ x.pc) (h5 : locF p x.pc.toNat x.regs s.now = some O) :
  stepF ps s (.run n) = some { aloneS { s with ev := [], nl := s.nl + 1 } i x O with steps := s.steps + 1 } := by
 obtain ⟨l1, l2, l3, l4, l5, l6, l7, l8, l9, l10, l11, l12, l13, l14, l15⟩ := id hl
 have hne : s.rd ≠ [] := fun e => by rw [e] at h1; simp at h1
 unfold stepF
 rw [if_pos hl]
 have hr : runF ps { s with ev := [] } n = some (aloneS { s with ev := [], nl := s.nl + 1 } i x O) := by
  unfold runF
  rw [if_neg hne]
  simp only [h1, Int.toNat_natCast, h2, h3, h5]
  rw [if_pos ⟨Int.natCast_nonneg _, h4.1, h4.2.1, h4.2.2, hnl⟩]
 simp only [hr]
 unfold doneF
 have hst : (aloneS { s with ev := [], nl := s.nl + 1 } i x O).steps = s.steps ∧ (aloneS { s with ev := [], nl := s.nl + 1 } i x O).ev.length < 900 := by
  obtain ⟨opc, oregs, ot, ov, oe⟩ := O
  cases ot <;> cases oe <;> simp [aloneS]
 rw [if_pos ⟨by rw [hst.1]; exact l10, by rw [hst.1]; exact l11, hst.2⟩, hst.1]
theorem stepF_act {n : Int} {i : Nat} {x : Tsk} {p : List Ins} {ins : Ins} {s2 : Wst} {rr : Option Reg} (hl : Lim s) (hnl : s.nl < 99999) (h1 : s.rd[(pickZ n s.rd.length).toNat]? = some (i : Int)) (h2 : s.ts[i]? = some x) (h3 : ps[x.prog.toNat]? = some p) (h4 : x.st = 0 ∧ 0 ≤ x.prog ∧ 0 ≤ x.pc) (h5 : p[x.pc.toNat]? = some ins) (h6 : mineB ins.op = false)
  (h7 : actF { s with ev := [], nl := s.nl + 1 } i ins x.regs = some (s2, rr)) (h8 : s2.steps = s.steps) (h9 : s2.ev.length < 800) :
  stepF ps s (.run n) = some { (match rr with | none => parkS s2 i x ins | some r2 => putS s2 i x r2) with steps := s.steps + 1 } := by
 obtain ⟨l1, l2, l3, l4, l5, l6, l7, l8, l9, l10, l11, l12, l13, l14, l15⟩ := id hl
 have hne : s.rd ≠ [] := fun e => by rw [e] at h1; simp at h1
 have hmi : ¬ (ins.op = 1 ∨ ins.op = 2 ∨ ins.op = 6 ∨ ins.op = 16) := by
  unfold mineB at h6
  simp only [decide_eq_false_iff_not] at h6
  omega
 have hlo : locF p x.pc.toNat x.regs s.now = none := by
  unfold locF
  rw [if_neg (fun e => by rw [e] at h5; simp at h5)]
  simp only [h5]
  rw [if_neg (fun e => hmi (.inl e.1)), if_neg (fun e => hmi (.inr (.inl e.1))), if_neg (fun e => hmi (.inr (.inr (.inl e.1)))), if_neg (fun e => hmi (.inr (.inr (.inr e.1))))]
 unfold stepF
 rw [if_pos hl]
 have hr : runF ps { s with ev := [] } n = some (match rr with | none => parkS s2 i x ins | some r2 => putS s2 i x r2) := by
  unfold runF
  rw [if_neg hne]
  simp only [h1, Int.toNat_natCast, h2, h3, hlo, h5, h6, h7]
  rw [if_pos ⟨Int.natCast_nonneg _, h4.1, h4.2.1, h4.2.2, hnl⟩]
  cases rr <;> rfl
 simp only [hr]
 unfold doneF
 cases rr with
 | none =>
  have he : (parkS s2 i x ins).ev.length < 900 := by
   show (s2.ev ++ [_]).length < 900
   rw [List.length_append]; simp only [List.length_cons, List.length_nil]; omega
  show (if 0 ≤ s2.steps ∧ s2.steps < 100000 ∧ (parkS s2 i x ins).ev.length < 900 then some { parkS s2 i x ins with steps := s2.steps + 1 } else none) = _
  rw [h8, if_pos ⟨l10, l11, he⟩]
 | some r2 =>
  show (if 0 ≤ s2.steps ∧ s2.steps < 100000 ∧ s2.ev.length < 900 then some { putS s2 i x r2 with steps := s2.steps + 1 } else none) = _
  rw [h8, if_pos ⟨l10, l11, by omega⟩]
theorem stepF_adv {d : Int} {s2 : Wst} (hl : Lim s) (hd : 0 ≤ d ∧ s.now + d ≤ 1000000) (hf : firesF 100 { s with ev := [], now := s.now + d } = some s2) (h8 : s2.steps = s.steps) (h9 : s2.ev.length < 900) : stepF ps s (.adv d) = some { s2 with steps := s.steps + 1 } := by
 obtain ⟨l1, l2, l3, l4, l5, l6, l7, l8, l9, l10, l11, l12, l13, l14, l15⟩ := id hl
 unfold stepF
 rw [if_pos hl]
 simp only [if_pos hd, hf]
 unfold doneF
 rw [h8, if_pos ⟨l10, l11, h9⟩]
theorem firesF_none {k : Nat} (h : ∀ it, s.L[0]? = some it → s.now < it.when) : firesF (k + 1) s = some s := by
 unfold firesF
 cases hL : s.L with
 | nil => rfl
 | cons it ll =>
  have h1 := h it (by rw [hL]; rfl)
  simp only
  rw [if_neg (by omega)]
theorem firesF_wake {k i ci : Nat} {wh se dt : Int} {ll : List It} {sg cl : Bool} {v : Option Int} {x : Wt} {lw : List Wt} {q : Nat} (hl : Lim s) (hL : s.L = ⟨i, wh, se⟩ :: ll) (hd : wh ≤ s.now) (ht : s.tms[i]? = some ⟨1, dt, some ci⟩) (hc : s.chs[ci]? = some (q, ⟨true, sg, cl, true, v, x :: lw⟩)) (hw : wakeB s ⟨x.task, x.kase, s.now, true, false⟩) (hlw : lw.length ≤ 100) :
  firesF (k + 1) s = firesF k (wakeS (fireB { s with L := ll, chs := s.chs.set ci (q, ⟨true, sg, cl, true, v, lw⟩) } i wh) ⟨x.task, x.kase, s.now, true, false⟩) := by
 have hf : fireF s = some (wakeS (fireB { s with L := ll, chs := s.chs.set ci (q, ⟨true, sg, cl, true, v, lw⟩) } i wh) ⟨x.task, x.kase, s.now, true, false⟩) := by
  unfold fireF
  rw [hL]
  simp only [Int.toNat_natCast, ht, hc]
  rw [if_pos ⟨Int.natCast_nonneg _, trivial, trivial, trivial, by simp only [List.length_cons]; omega⟩, if_pos hw]
 conv => lhs; unfold firesF
 rw [hL]
 simp only
 rw [if_pos hd, if_pos hl, hf]
theorem Ex.one {e : Ent} {s1 : Wst} (h : stepF ps s e = some s1) : Ex ps s [e] s1.ev s1 := ⟨s1, [], h, ⟨rfl, rfl⟩, by simp⟩
theorem Ex.cons {e : Ent} {l : List Ent} {s1 s2 : Wst} {ev evs : List Ev} (h : stepF ps s e = some s1) (he : s1.ev = ev) (k : Ex ps s1 l evs s2) : Ex ps s (e :: l) (ev ++ evs) s2 := ⟨s1, evs, h, k, by rw [he]⟩
end
def toldM (l : List Ev) (t : Int) : List Int := l.filterMap fun e => if e.kind = 1 ∧ e.task = t then some e.a else none
def manyE : Nat → Nat → List Ent
 | _, 0 => []
 | i, n + 1 => .run i :: manyE (i + 1) n
theorem Ex.idle {ps : List (List Ins)} {i : Nat} : ∀ {n : Nat} {s : Wst}, Lim s → s.rd = [] → s.ev = [] → s.nl + n < 100000 → s.steps + n < 100000 → Ex ps s (manyE i n) [] { s with nl := s.nl + n, steps := s.steps + n }
 | 0, s, hl, hr, he, h1, h2 => ⟨rfl, by simp⟩
 | n + 1, s, hl, hr, he, h1, h2 => by
  have hs := stepF_idle (ps := ps) (n := (i : Int)) hl hr
  have hl2 : Lim { s with ev := [], nl := s.nl + 1, steps := s.steps + 1 } := by
   obtain ⟨l1, l2, l3, l4, l5, l6, l7, l8, l9, l10, l11, l12, l13, l14, l15⟩ := hl
   exact ⟨by simp, l2, l3, l4, l5, l6, l7, l8, by show s.nl + 1 < 100000; omega, by show 0 ≤ s.steps + 1; omega, by show s.steps + 1 < 100000; omega, l12, l13, l14, l15⟩
  have ih := Ex.idle (ps := ps) (i := i + 1) (n := n) (s := { s with ev := [], nl := s.nl + 1, steps := s.steps + 1 }) hl2 hr rfl (by show s.nl + 1 + n < 100000; omega) (by show s.steps + 1 + n < 100000; omega)
  have h3 := Ex.cons hs rfl ih
  have e1 : s.nl + 1 + n = s.nl + (n + 1) := by omega
  have e2 : s.steps + 1 + (n : Int) = s.steps + ((n + 1 : Nat) : Int) := by omega
  simp only [e1, e2, List.nil_append] at h3
  refine cast (congrArg (Ex ps s (manyE i (n + 1)) []) ?_) h3
  cases s
  simp only at he
  subst he
  rfl
end Go.Proofs.YtjnkphhlkoapbaaGreat
namespace Go.Proofs.YtjnkphhlkoapbaaGreat
open Go.RowKit
set_option linter.unusedVariables false
set_option linter.unusedSimpArgs false
section
variable {P : Program} {ops : Array Oper} {o : Oper} {a : Act} {Q : Exit → Act → World → Prop} {α : Type} {enc : α → List Value} {T : TypeId} {size : Nat} {w : World} {v : Value} {M N : List α}
theorem SrcAt.ofOwns (he : ∀ x, (enc x).length = size) (h : Owns enc T size w v M) : SrcAt enc w v M := by
 rcases h.form with ⟨rfl, rfl⟩ | ⟨g, cap, rfl, _⟩
 ·exact SrcAt.nothing
 ·have h1 := SrcAt.pre (c := cap) he h (Nat.le_refl _)
  rwa [List.take_length] at h1
theorem wpList_cat {rest : List Oper} (hgd : o.guard = none) (s x : Operand) (t : TypeId) (ho : o.op = .call { callee := .builtin .append, args := #[s, x], argTypes := #[t, t] })
  (i : TypeInfo) (z : Value) (bytes : Nat) (ht : P.underlying t = some (.slice T)) (hi : P.info? T = some i) (hz : i.zero = some z) (hsize : i.size = size) (hby : i.bytes = bytes) (hzs : z.cells.size = size) (hsz : 0 < size)
  (he : ∀ x, (enc x).length = size) (h1 : ∀ x, ∀ u ∈ enc x, u.oneCell' = true)
  (hs : a.eval s = v) (hg : Owns enc T size w v M) {xv : Value} (hx : a.eval x = xv) (hsrc : SrcAt enc w xv N) (h63 : M.length + N.length ≤ maxLen) (hbytes : (M.length + N.length) * bytes ≤ 140737488355328)
  (h : ∀ v' w', Owns enc T size w' v' (M ++ N) → Turns (fun k => v.ownBlock = some k) w w' → (∀ k, v'.ownBlock = some k → v.ownBlock = some k ∨ w.heap.size ≤ k) → wpList P ops Q rest (a.put o.dst v') w') :
  wpList P ops Q (o :: rest) a w := by
 refine wpList_plain hgd fun K hK => ?_
 obtain ⟨a', c', hv⟩ := owns_slice hg
 have hcap : M.length ≤ c' := by
  rcases hg.form with ⟨hv2, h0⟩ | ⟨g, cap, hv2, _, h3, _⟩
  ·rw [h0]; simp
  ·rw [hv] at hv2
   simp only [Value.slice.injEq] at hv2
   omega
 rcases hsrc with ⟨rfl, rfl⟩ | ⟨ad, c, rfl, hnews⟩
 ·have hr := run_append_nothing (P := P) w t t o.type T i ht hi a' M.length c' hcap (.slice none 0 0) (by
   refine ⟨.inl ⟨_, ht⟩, fun w' => ?_, ?_, ?_, by simp, by simp⟩
   ·rfl
   ·cases hss : i.size <;> rfl
   ·cases hss : i.size <;> rfl)
  unfold Oper.wp execOp
  simp only [ho, resolve, invoke, builtin, Sem.run_bind, Sem.run_pure, Result.andThen_ok, List.map_toArray, List.map_cons, List.map_nil, hs, hx, hv, hr]
  exact hK _ _ (h (.slice a' M.length c') w (by rw [List.append_nil, ← hv]; exact hg) (Turns.refl _ _) (fun k hk => .inl (by rw [hv]; exact hk)))
 ·have hol := hg
  unfold Owns at hol
  obtain ⟨v', w', hr, h2, h3, _, h5⟩ := run_append_own_at (P := P) w 0 t o.type T i z size bytes ht hi hz hsize hby hzs hsz v M.length (flat enc M) hol ad N.length c (flat enc N) (flat_length he N) hnews (fun u hu => by
   unfold flat at hu
   obtain ⟨y, _, hy⟩ := List.mem_flatMap.1 hu
   exact h1 y u hy) h63 hbytes (Nat.zero_le _)
  unfold Oper.wp execOp
  simp only [ho, resolve, invoke, builtin, Sem.run_bind, Sem.run_pure, Result.andThen_ok, List.map_toArray, List.map_cons, List.map_nil, hs, hx, hr]
  refine hK _ _ (h v' w' ?_ ((Turns.refl _ _).grown h3 (fun k hk _ => hk)) (fun k hk => ?_))
  ·unfold Owns
   rw [flat_append, List.length_append]
   exact h2
  ·rcases h5 with e | e
   ·exact .inl (by rw [← e]; exact hk)
   ·rw [e, Option.some.injEq] at hk
    exact .inr (by omega)
end
theorem Tryz.infoI : (Tryz.prog.info? 3).map (fun i => (i.zero, i.size, i.bytes)) = some (some (.int .i64 0), 1, 8) := by kernel_rfl
theorem Grow.nil {α : Type} {enc : α → List Value} {T : TypeId} {size : Nat} {W w : World} (h : Made W w) : Grow enc T size W w (.slice none 0 0) ([] : List α) :=
 ⟨h, ⟨by simp [flat], .inl ⟨rfl, rfl⟩⟩, fun c hc => by simp [Value.ownBlock] at hc⟩
theorem told_next {l : List Ev} {t : Int} {k : Nat} {e : Ev} (h : l[k]? = some e) : toldM (l.take (k + 1)) t = toldM (l.take k) t ++ (if e.kind = 1 ∧ e.task = t then [e.a] else []) := by
 obtain ⟨hl, rfl⟩ := List.getElem?_eq_some_iff.1 h
 unfold toldM
 rw [List.take_succ_eq_append_getElem hl, List.filterMap_append]
 congr 1
 by_cases hc : l[k].kind = 1 ∧ l[k].task = t <;> simp [hc]
theorem told_le (l : List Ev) (t : Int) (k : Nat) : (toldM (l.take k) t).length ≤ k := by
 unfold toldM
 have h1 := List.length_filterMap_le (fun e : Ev => if e.kind = 1 ∧ e.task = t then some e.a else none) (l.take k)
 have h2 := List.length_take_le k l
 omega
theorem ev_cells {w : World} {b off : Nat} {l : List Ev} (h : Lies evC 6 w b off l) {i : Nat} {e : Ev} (he : l[i]? = some e) :
  w.cell? ⟨b, off + i * 6, none⟩ = some (.int .i64 e.step) ∧ w.cell? ⟨b, off + i * 6 + 1, none⟩ = some (.int .i64 e.kind) ∧ w.cell? ⟨b, off + i * 6 + 2, none⟩ = some (.int .i64 e.task) ∧
  w.cell? ⟨b, off + i * 6 + 3, none⟩ = some (.int .i64 e.a) ∧ w.cell? ⟨b, off + i * 6 + 4, none⟩ = some (.int .i64 e.b) ∧ w.cell? ⟨b, off + i * 6 + 5, none⟩ = some (.int .i64 e.c) :=
 ⟨h i e he 0 _ rfl, h i e he 1 _ rfl, h i e he 2 _ rfl, h i e he 3 _ rfl, h i e he 4 _ rfl, h i e he 5 _ rfl⟩
set_option maxHeartbeats 4000000 in
set_option maxRecDepth 100000 in
theorem told_c (a : Option Addr) (len cap : Nat) (l : List Ev) (t : Int) (w : World) (hw : RowIn evC 6 w a len l) (hn : len ≤ 100000) :
  Calls Tryz.prog 13 #[.slice a len cap, .int .i64 t] w fun e w' => ∃ v, e = .returned v ∧ Grow encI 3 1 w w' v (toldM l t) := by
 obtain ⟨i0, hi0, hz0, hz1, hz2⟩ := info_parts Tryz.infoI
 have HW := Lib.hid hw
 clear hw
 go_enter Tryz.func13, Tryz.ntmps13
 go_wp2_with fail
 go_loopw [4, 9] (fun v4 v9 wr => ∃ j : Nat, j ≤ len ∧ v9 = .int .i64 j ∧ Grow encI 3 1 w wr v4 (toldM (l.take j) t)) (fun _ v9 _ => len - (intOf v9).toNat)
 case atStart => exact ⟨0, Nat.zero_le _, rfl, Grow.nil (Turns.refl _ _)⟩
 case round =>
  obtain ⟨j, hj, rfl, hg⟩ := hrel
  have HG := Lib.hid hg
  clear hg
  have j1 : (0 : Int) ≤ (j : Int) := Int.natCast_nonneg _
  by_cases hjl : j < len
  ·have j2 : (j : Int) < (len : Int) := by omega
   obtain ⟨hlen, h0 | ⟨bb, off, rfl, hb, hlies⟩⟩ := HW.out
   ·omega
   obtain ⟨e, he⟩ := get_of_lt (xs := l) (k := j) (by omega)
   obtain ⟨c0, c1, c2, c3, c4, c5⟩ := ev_cells (hlies.keep fun o => HG.out.made.cell (p := ⟨bb, o, none⟩) hb (fun h => h)) he
   have HN := Lib.hid (told_next (t := t) he)
   have hle := told_le l t j
   generalize toldM (l.take j) t = A at *
   clear he hlies hb hlen
   by_cases h1 : e.kind = 1
   ·have b1 : (e.kind == 1) = true := by simp [h1]
    by_cases h2 : e.task = t
    ·have b2 : (e.task == t) = true := by simp [h2]
     have HA := Lib.hid (show toldM (l.take (j + 1)) t = A ++ [e.a] by rw [HN.out, if_pos ⟨h1, h2⟩])
     clear h1 h2
     have HGA := Lib.hid ((HG.out.alloc (.cells #[.int .i64 e.step, .int .i64 e.kind, .int .i64 e.task, .int .i64 e.a, .int .i64 e.b, .int .i64 e.c] 45)).alloc (.cells #[.int .i64 e.a] 3))
     have HS := Lib.hid (SrcAt.block (enc := encI) (N := [e.a]) (n := 1) (c := 1) (Blk.new (wr.alloc (.cells #[.int .i64 e.step, .int .i64 e.kind, .int .i64 e.task, .int .i64 e.a, .int .i64 e.b, .int .i64 e.c] 45)) 3 #[.int .i64 e.a]) rfl (by simp [flat, encI]))
     rw [World.size_alloc] at HS
     go_wp2_with (at_builtin; refine wpList_grow rfl (.tmp 22) (.tmp 25) 42 rfl i0 _ 8 Tryz.underlying42 hi0 hz0 hz1 hz2 rfl (by omega) encI_len encI_one rfl HGA.out rfl HS.out (by simp [maxLen]; omega) (by simp; omega) ?_)
     intro v3 w3 hg3 hF hS hO
     have HG3 := Lib.hid hg3
     clear hg3 hF hS hO HS HGA
     go_wp2_with fail
     go_roundw
     case rel => exact ⟨j + 1, by omega, by go_num, by rw [HA.out]; exact HG3.out⟩
     case measure => simp [intOf]; omega
    ·have b2 : (e.task == t) = false := by simp [h2]
     have HA := Lib.hid (show toldM (l.take (j + 1)) t = A by rw [HN.out, if_neg (fun h => h2 h.2), List.append_nil])
     clear h1 h2
     go_wp2_with fail
     go_roundw
     case rel => exact ⟨j + 1, by omega, by go_num, by rw [HA.out]; exact HG.out.alloc _⟩
     case measure => simp [intOf]; omega
   ·have b1 : (e.kind == 1) = false := by simp [h1]
    have HA := Lib.hid (show toldM (l.take (j + 1)) t = A by rw [HN.out, if_neg (fun h => h1 h.1), List.append_nil])
    clear h1
    go_wp2_with fail
    go_roundw
    case rel => exact ⟨j + 1, by omega, by go_num, by rw [HA.out]; exact HG.out.alloc _⟩
    case measure => simp [intOf]; omega
  ·have j2 : ¬ (j : Int) < (len : Int) := by omega
   have hall : l.take j = l := List.take_of_length_le (by have := HW.out.1; omega)
   rw [hall] at HG
   clear hall
   go_wp2_with fail
   go_ret
   exact ⟨_, rfl, HG.out⟩
set_option maxHeartbeats 4000000 in
set_option maxRecDepth 100000 in
theorem ints_c (va vb : Value) (L : List Int) (w : World) (ha : Owns encI 3 1 w va L) (hb : Owns encI 3 1 w vb L) (hn : L.length ≤ 1000000) : Calls Tryz.prog 12 #[va, vb] w fun e w' => e = .returned (.bool true) ∧ Made w w' := by
 obtain ⟨aa, ca, rfl⟩ := owns_slice ha
 obtain ⟨ab, cb, rfl⟩ := owns_slice hb
 have HA := Lib.hid ha
 have HB := Lib.hid hb
 have hne : ((L.length : Int) != (L.length : Int)) = false := by simp
 clear ha hb
 go_enter Tryz.func12, Tryz.ntmps12
 go_wp2_with fail
 go_loopw [5] (fun v5 wr => ∃ j : Nat, v5 = .int .i64 j ∧ Made w wr) (fun v5 _ => L.length - (intOf v5).toNat)
 case atStart => exact ⟨0, rfl, Turns.refl _ _⟩
 case round =>
  obtain ⟨j, rfl, hm⟩ := hrel
  have HM := Lib.hid hm
  clear hm
  by_cases hj : j < L.length
  ·obtain ⟨x, hx⟩ := get_of_lt hj
   have HX := Lib.hid hx
   rcases HA.out.form with ⟨h0, h1⟩ | ⟨ga, ca', hva, hga, hla, hcma⟩
   ·rw [h1] at hj; simp at hj
   rcases HB.out.form with ⟨h0, h1⟩ | ⟨gb, cb', hvb, hgb, hlb, hcmb⟩
   ·rw [h1] at hj; simp at hj
   simp only [Value.slice.injEq, true_and] at hva hvb
   obtain ⟨rfl, rfl⟩ := hva
   obtain ⟨rfl, rfl⟩ := hvb
   have j1 : (0 : Int) ≤ (j : Int) := Int.natCast_nonneg _
   have j2 : (j : Int) < (L.length : Int) := by omega
   have n0 : (x != x) = false := by simp
   clear hga hgb hx
   go_wp2_with fail
   refine wp_region_held_drew (S := fun w' => Made w w') (by kernel_rfl) ?_ (fun hHeld => ?_)
   ·exact HM.out.drew
   refine takeH (i := 0) (d := some 17) (v := ?_) rfl rfl (by kernel_rfl) (by kernel_rfl) (by kernel_rfl) (fun _ _ _ h => h) (Or.inl ⟨by rfl, ?_⟩) (by assumption) ?_
   rotate_left
   ·intro w hSw
    try dsimp only at hSw
    go_simp
    try with_reducible rfl
   try simp only [Act.put, List.setIfInBounds_toArray, List.set_cons_zero, List.set_cons_succ]
   refine takeH (i := 1) (d := some 18) (v := ?_) rfl rfl (by kernel_rfl) (by kernel_rfl) (by kernel_rfl) (fun _ _ _ h => h) (Or.inl ⟨by rfl, ?_⟩) (by assumption) ?_
   rotate_left
   ·intro w hSw
    try dsimp only at hSw
    go_simp
    try with_reducible rfl
   try simp only [Act.put, List.setIfInBounds_toArray, List.set_cons_zero, List.set_cons_succ]
   refine takeH (i := 2) (d := some 19) (v := ?_) rfl rfl (by kernel_rfl) (by kernel_rfl) (by kernel_rfl) (fun _ _ _ h => h) (Or.inl ⟨by rfl, ?_⟩) (by assumption) ?_
   rotate_left
   ·intro w hSw
    try dsimp only at hSw
    go_simp
    try with_reducible rfl
   try simp only [Act.put, List.setIfInBounds_toArray, List.set_cons_zero, List.set_cons_succ]
   refine takeH (i := 3) (d := some 20) (v := ?_) rfl rfl (by kernel_rfl) (by kernel_rfl) (by kernel_rfl) (fun _ _ _ h => h) (Or.inl ⟨by rfl, ?_⟩) (by assumption) ?_
   rotate_left
   ·intro w hSw
    try dsimp only at hSw
    have q0 := Owns.cell encI_len (HA.out.turns hSw (fun _ _ h => h)) HX.out (j := 0) rfl
    simp only [Nat.add_zero, Nat.mul_one] at q0
    go_simp
    try with_reducible rfl
   try simp only [Act.put, List.setIfInBounds_toArray, List.set_cons_zero, List.set_cons_succ]
   refine takeH (i := 4) (d := some 21) (v := ?_) rfl rfl (by kernel_rfl) (by kernel_rfl) (by kernel_rfl) (fun _ _ _ h => h) (Or.inl ⟨by rfl, ?_⟩) (by assumption) ?_
   rotate_left
   ·intro w hSw
    try dsimp only at hSw
    go_simp
    try with_reducible rfl
   try simp only [Act.put, List.setIfInBounds_toArray, List.set_cons_zero, List.set_cons_succ]
   refine takeH (i := 5) (d := some 22) (v := ?_) rfl rfl (by kernel_rfl) (by kernel_rfl) (by kernel_rfl) (fun _ _ _ h => h) (Or.inl ⟨by rfl, ?_⟩) (by assumption) ?_
   rotate_left
   ·intro w hSw
    try dsimp only at hSw
    go_simp
    try with_reducible rfl
   try simp only [Act.put, List.setIfInBounds_toArray, List.set_cons_zero, List.set_cons_succ]
   refine takeH (i := 6) (d := some 23) (v := ?_) rfl rfl (by kernel_rfl) (by kernel_rfl) (by kernel_rfl) (fun _ _ _ h => h) (Or.inl ⟨by rfl, ?_⟩) (by assumption) ?_
   rotate_left
   ·intro w hSw
    try dsimp only at hSw
    go_simp
    try with_reducible rfl
   try simp only [Act.put, List.setIfInBounds_toArray, List.set_cons_zero, List.set_cons_succ]
   refine takeH (i := 7) (d := some 24) (v := ?_) rfl rfl (by kernel_rfl) (by kernel_rfl) (by kernel_rfl) (fun _ _ _ h => h) (Or.inl ⟨by rfl, ?_⟩) (by assumption) ?_
   rotate_left
   ·intro w hSw
    try dsimp only at hSw
    have q0 := Owns.cell encI_len (HB.out.turns hSw (fun _ _ h => h)) HX.out (j := 0) rfl
    simp only [Nat.add_zero, Nat.mul_one] at q0
    go_simp
    try with_reducible rfl
   try simp only [Act.put, List.setIfInBounds_toArray, List.set_cons_zero, List.set_cons_succ]
   refine takeH (i := 8) (d := some 25) (v := ?_) rfl rfl (by kernel_rfl) (by kernel_rfl) (by kernel_rfl) (fun _ _ _ h => h) (Or.inl ⟨by rfl, ?_⟩) (by assumption) ?_
   rotate_left
   ·intro w hSw
    try dsimp only at hSw
    go_simp
    try with_reducible rfl
   try simp only [Act.put, List.setIfInBounds_toArray, List.set_cons_zero, List.set_cons_succ]
   refine wpAnyH_done (by kernel_rfl) ?_ _
   have HM2 := Lib.hid hHeld
   clear hHeld HM
   try clear hHeld
   go_wp2_with fail
   go_roundw
   case rel => exact ⟨j + 1, by go_num, HM2.out⟩
   case measure => simp [intOf]; omega
  ·have j2 : ¬ (j : Int) < (L.length : Int) := by omega
   go_wp2_with fail
   go_ret
   exact ⟨rfl, HM.out⟩
theorem WA.turns {CX : World → (Nat → Prop) → Prop} {w w' : World} {b : Wp} {o : Nat → Nat} {ps : List (List Ins)} {s : Wst} {S : Nat → Prop} (hx : Ext CX) (h : WA CX w b o ps s) (ht : Turns S w w') (hn : ∀ k, Own o k → ¬ S k) : WA CX w' b o ps s := by
 obtain ⟨hi, cps, hl, hw⟩ := h
 exact ⟨hi, cps, hl, hw.turns hx ht hn⟩
theorem WA.lt {CX : World → (Nat → Prop) → Prop} {w : World} {b : Wp} {o : Nat → Nat} {ps : List (List Ins)} {s : Wst} (h : WA CX w b o ps s) : ∀ k, Own o k → k < w.heap.size := by
 obtain ⟨hi, cps, hl, hw⟩ := h
 exact hw.lt
def MRel (CX : World → (Nat → Prop) → Prop) (b : Wp) (ps : List (List Ins)) (w : World) (o : Nat → Nat) (n : Nat) (evs : List Ev) (s' : Wst) (k : Nat) (v : Value) (wr : World) : Prop := ∃ o1 s1 e1 e2, WA CX wr b o1 ps s1 ∧ Ex ps s1 (manyE k (n - k)) e2 s' ∧ evs = e1 ++ e2 ∧ Owns evC 45 6 wr v e1 ∧ (∀ k, v.ownBlock = some k → ¬ Own o1 k ∧ w.heap.size ≤ k) ∧ Stp w wr (Own o) (Own o1)
set_option maxHeartbeats 2000000 in
set_option maxRecDepth 100000 in
theorem many_c {CX : World → (Nat → Prop) → Prop} {w : World} {b : Wp} {o : Nat → Nat} {ps : List (List Ins)} {s : Wst} {n : Nat} {evs : List Ev} {s' : Wst} (hx : Ext CX) (hps : PsOK ps) (hn : n ≤ 10000) (hW : WA CX w b o ps s) (hex : Ex ps s (manyE 0 n) evs s') (hlen : evs.length ≤ 100000) :
  Calls Tryz.prog 11 #[.pointer (some ⟨b.pb, 0, none⟩), .int .i64 n] w fun e w' => ∃ v, e = .returned v ∧ ∃ o', WA CX w' b o' ps s' ∧ Owns evC 45 6 w' v evs ∧ (∀ k, v.ownBlock = some k → ¬ Own o' k ∧ w.heap.size ≤ k) ∧ Stp w w' (Own o) (Own o') := by
 obtain ⟨i0, hi0, hz0, hz1, hz2⟩ := info_parts Tryz.infoEv
 have HXX := Lib.hid (And.intro hx hps)
 have HLN := Lib.hid hlen
 have H0 := Lib.hid (show MRel CX b ps w o n evs s' 0 (.slice none 0 0) w from ⟨o, s, [], evs, hW, hex, rfl, Owns.nil, fun k hk => (by cases hk), Stp.made (Turns.refl _ w)⟩)
 clear hW hex hx hps hlen
 go_enter Tryz.func11, Tryz.ntmps11
 go_wp2_with fail
 go_loopw [5, 6] (fun v5 v6 wr => ∃ k : Nat, k ≤ n ∧ v6 = .int .i64 k ∧ MRel CX b ps w o n evs s' k v5 wr) (fun _ v6 _ => n - (intOf v6).toNat)
 case atStart => exact ⟨0, Nat.zero_le _, rfl, H0.out⟩
 case round =>
  obtain ⟨k, hk, rfl, hrl⟩ := hrel
  have j1 : (0 : Int) ≤ (k : Int) := Int.natCast_nonneg _
  by_cases hkn : k < n
  ·obtain ⟨o1, s1, e1, e2, hw1, hex1, he, ho1, hf1, hs1⟩ := hrl
   have hsub : n - k = (n - (k + 1)) + 1 := by omega
   rw [hsub] at hex1
   obtain ⟨s2, e3, hst, hex2, he2⟩ := hex1
   have HST := Lib.hid (step_F (e := .run k) HXX.out.1 HXX.out.2 hw1 hst)
   have HE := Lib.hid (And.intro hex2 (And.intro he he2))
   have HO := Lib.hid (And.intro ho1 hf1)
   have HS := Lib.hid hs1
   have HLT := Lib.hid hw1.lt
   have j2 : (k : Int) < (n : Int) := by omega
   clear hw1 hex2 he he2 ho1 hf1 hs1 hst hsub
   go_wp2_with fail
   refine HST.out.mono ?_
   rintro e w2 ⟨vx, rfl, o2, hw2, hox, hfx, hs2⟩
   have hlow : ∀ k, u5.ownBlock = some k → ¬ Own o2 k := fun k hk h0 => by
    rcases hs2.f k h0 with h1 | h1
    ·exact (HO.out.2 k hk).1 h1
    ·exact absurd (HO.out.1.lt hk) (Nat.not_lt.2 h1)
   have hlen : (e1.length + s2.ev.length) ≤ 100000 := by
    have h1 := HLN.out
    rw [HE.out.2.1, HE.out.2.2, List.length_append, List.length_append] at h1
    omega
   have HO2 := Lib.hid (HO.out.1.turns hs2.t (fun k hk => (HO.out.2 k hk).1))
   have HSX := Lib.hid (SrcAt.ofOwns evC_len hox)
   have HW2 := Lib.hid (And.intro hw2 (HS.out.trans hs2))
   have HFX := Lib.hid (And.intro hlow hw2.lt)
   clear hw2 hox hfx hs2 hlow
   go_wp2_with (at_builtin; refine wpList_cat rfl (.tmp 12) (.tmp 16) 32 rfl i0 _ 48 Tryz.underlying32 hi0 hz0 hz1 hz2 rfl (by omega) evC_len evC_one rfl HO2.out rfl HSX.out (by unfold maxLen; omega) (by omega) ?_)
   intro v3 w3 ho3 ht3 hv3
   have HR := Lib.hid (show MRel CX b ps w o n evs s' (k + 1) v3 w3 from ⟨o2, s2, e1 ++ s2.ev, e3, HW2.out.1.turns HXX.out.1 ht3 (fun j hj hk => HFX.out.1 j hk hj), HE.out.1, by rw [HE.out.2.1, HE.out.2.2, List.append_assoc], ho3, fun j hj => by
    rcases hv3 j hj with h1 | h1
    ·exact ⟨HFX.out.1 j h1, (HO.out.2 j h1).2⟩
    ·exact ⟨fun h0 => absurd (HFX.out.2 j h0) (Nat.not_lt.2 h1), Nat.le_trans HW2.out.2.t.size h1⟩, ⟨HW2.out.2.t.then ht3 (fun j hj hk => absurd (HO.out.2 j hk).2 (Nat.not_le.2 hj)), HW2.out.2.f⟩⟩)
   clear ho3 ht3 hv3
   go_wp2_with fail
   go_roundw
   case rel => exact ⟨k + 1, by omega, by go_num, HR.out⟩
   case measure => simp [intOf]; omega
  ·obtain ⟨o1, s1, e1, e2, hw1, hex1, he, ho1, hf1, hs1⟩ := hrl
   have hk2 : k = n := by omega
   subst hk2
   rw [Nat.sub_self] at hex1
   obtain ⟨rfl, rfl⟩ := hex1
   rw [List.append_nil] at he
   subst he
   have HE := Lib.hid (And.intro hw1 (And.intro ho1 (And.intro hf1 hs1)))
   clear hw1 ho1 hf1 hs1
   go_wp2_with fail
   go_ret
   exact ⟨_, rfl, o1, HE.out.1, HE.out.2.1, HE.out.2.2.1, HE.out.2.2.2⟩
end Go.Proofs.YtjnkphhlkoapbaaGreat
namespace Go.Proofs.YtjnkphhlkoapbaaGreat
open Go.RowKit
set_option linter.unusedVariables false
set_option linter.unusedSimpArgs false
def zI : Ins := ⟨0, 0, 0, 0⟩
theorem pick_one (n a : Int) : [a][(pickZ n ([a] : List Int).length).toNat]? = some a := by
 have h : pickZ n ([a] : List Int).length = 0 := by unfold pickZ; simp [Int.emod_one]
 rw [h]; rfl
theorem toldM_append (l m : List Ev) (t : Int) : toldM (l ++ m) t = toldM l t ++ toldM m t := List.filterMap_append
section
variable {ps : List (List Ins)} {s : Wst}
def chE (l : List Wt) : Chn := ⟨true, false, false, true, none, l⟩
end
end Go.Proofs.YtjnkphhlkoapbaaGreat
namespace Go.Proofs.YtjnkphhlkoapbaaGreat
open Go.RowKit
set_option linter.unusedVariables false
set_option linter.unusedSimpArgs false
def awP : List Ins := [⟨1, 1, 10, 0⟩, ⟨17, 0, 1, 2⟩, ⟨20, 0, 3, 0⟩, ⟨6, 3, 0, 0⟩, ⟨11, 2, 4, 5⟩]
def aw1 : Wst := ⟨0, [⟨0, 1, 0, 0, ⟨0, 10, 0, 0, 0, 0, 0, 0⟩, zI⟩], [0], [], 0, [], 0, [], 0, 0, 1, 1, []⟩
def aw2 : Wst := ⟨0, [⟨0, 2, 0, 0, ⟨0, 10, 0, 0, 0, 0, 0, 0⟩, zI⟩], [0], [(0, chE [])], 0, [⟨1, 0, some 0⟩], 1, [⟨0, 10, 1⟩], 1, 0, 2, 2, []⟩
def aw3 : Wst := ⟨20, [⟨0, 2, 0, 0, ⟨0, 10, 0, 0, 0, 0, 0, 0⟩, zI⟩], [0], [(0, ⟨true, false, false, true, some 20, []⟩)], 0, [⟨1, 0, some 0⟩], 1, [], 1, 1, 2, 3, [⟨2, 6, -1, 0, 10, 0⟩]⟩
def aw4 : Wst := ⟨20, [⟨0, 3, 0, 0, ⟨0, 10, 0, 1, 0, 0, 0, 0⟩, zI⟩], [0], [(0, chE [])], 0, [⟨1, 0, some 0⟩], 1, [], 1, 1, 3, 4, []⟩
def aw5 : Wst := ⟨20, [⟨0, 4, 0, 0, ⟨0, 10, 0, 1, 0, 0, 0, 0⟩, zI⟩], [0], [(0, chE [])], 0, [⟨1, 0, some 0⟩], 1, [], 1, 1, 4, 5, [⟨4, 1, 0, 1, 0, 0⟩]⟩
def aw6 : Wst := ⟨20, [⟨0, 4, 1, 0, ⟨0, 10, 0, 1, 0, 0, 0, 0⟩, ⟨11, 2, 4, 5⟩⟩], [], [(0, chE [⟨0, 0, 0⟩])], 0, [⟨1, 0, some 0⟩], 1, [], 1, 1, 5, 6, [⟨5, 2, 0, 0, 0, 0⟩]⟩
theorem awS1 : stepF [awP] initS (.run 0) = some aw1 := rfl
theorem awS2 : stepF [awP] aw1 (.run 0) = some aw2 := rfl
theorem awS3 : stepF [awP] aw2 (.adv 20) = some aw3 := rfl
theorem awS4 : stepF [awP] aw3 (.run 0) = some aw4 := rfl
theorem awS5 : stepF [awP] aw4 (.run 0) = some aw5 := rfl
theorem awS6 : stepF [awP] aw5 (.run 0) = some aw6 := rfl
end Go.Proofs.YtjnkphhlkoapbaaGreat
namespace Go.Proofs.YtjnkphhlkoapbaaGreat
open Go.RowKit
set_option linter.unusedVariables false
set_option linter.unusedSimpArgs false
theorem RowIn.ofBlk {α : Type} {enc : α → List Value} {size : Nat} (he : ∀ x, (enc x).length = size) {w : World} {g : Nat} {t : TypeId} {xs : List α} (h : Blk w g t (flat enc xs).toArray) : RowIn enc size w (some ⟨g, 0, none⟩) xs.length xs :=
 ⟨rfl, .inr ⟨g, 0, rfl, h.lt, fun i x hx j v hv => by
  have h1 := h.cell (0 + i * size + j)
  rw [h1]
  have h2 := flat_get he hx hv
  simpa using h2⟩⟩
theorem awProgs : ProgsC [awP] := by
 refine ⟨by simp, by simp, by simp [awP], fun p hp x hx => ?_, fun p hp x hx => ?_⟩
 ·simp only [List.mem_singleton] at hp
  subst hp
  simp only [awP, List.mem_cons, List.not_mem_nil, or_false] at hx
  rcases hx with rfl | rfl | rfl | rfl | rfl
  ·exact good_1 _ _ _ _ (by omega) rfl
  ·exact good_17 _ _ _ _ (by omega) (by omega) (by omega)
  ·exact good_20 _ _ _ _ (by omega) (by omega) rfl
  ·exact good_6 _ _ _ _ (by omega) rfl rfl
  ·exact good_11 _ _ _ _ (by omega) (by omega) (by omega)
 ·simp only [List.mem_singleton] at hp
  subst hp
  simp only [awP, List.mem_cons, List.not_mem_nil, or_false] at hx
  rcases hx with rfl | rfl | rfl | rfl | rfl <;> exact .inr ⟨by decide, by decide, by decide, by decide⟩
theorem ProgsC.ok {ps : List (List Ins)} (h : ProgsC ps) : PsOK ps := ⟨h.le, h.len, h.good⟩
theorem one_ev {w : World} {v : Value} {x : Ev} (h : Owns evC 45 6 w v [x]) : ∃ g c, v = .slice (some ⟨g, 0, none⟩) 1 c ∧ w.cell? ⟨g, 1, none⟩ = some (.int .i64 x.kind) ∧ w.cell? ⟨g, 3, none⟩ = some (.int .i64 x.a) ∧ w.cell? ⟨g, 4, none⟩ = some (.int .i64 x.b) := by
 rcases h.form with ⟨_, h0⟩ | ⟨g, c, rfl, _⟩
 ·cases h0
 ·have c1 := Owns.cell evC_len h (i := 0) (x := x) rfl (j := 1) (u := .int .i64 x.kind) rfl
  have c3 := Owns.cell evC_len h (i := 0) (x := x) rfl (j := 3) (u := .int .i64 x.a) rfl
  have c4 := Owns.cell evC_len h (i := 0) (x := x) rfl (j := 4) (u := .int .i64 x.b) rfl
  exact ⟨g, c, rfl, by simpa using c1, by simpa using c3, by simpa using c4⟩
set_option maxRecDepth 100000 in
set_option maxHeartbeats 4000000 in
theorem awake_c (w : World) : Calls Tryz.prog 7 #[] w fun e w' => e = .returned (.bool true) ∧ Made w w' := by
 have hb1 := Blk.new w 25 #[.int .i64 1, .int .i64 1, .int .i64 10, .int .i64 0, .slice none 0 0, .bool false, .int .i64 17, .int .i64 0, .int .i64 1, .int .i64 2, .slice none 0 0, .bool false, .int .i64 20, .int .i64 0, .int .i64 3, .int .i64 0, .slice none 0 0, .bool false, .int .i64 6, .int .i64 3, .int .i64 0, .int .i64 0, .slice none 0 0, .bool false, .int .i64 11, .int .i64 2, .int .i64 4, .int .i64 5, .slice none 0 0, .bool false]
 have hm1 := (Turns.refl (fun _ => False) w).alloc (.cells #[.int .i64 1, .int .i64 1, .int .i64 10, .int .i64 0, .slice none 0 0, .bool false, .int .i64 17, .int .i64 0, .int .i64 1, .int .i64 2, .slice none 0 0, .bool false, .int .i64 20, .int .i64 0, .int .i64 3, .int .i64 0, .slice none 0 0, .bool false, .int .i64 6, .int .i64 3, .int .i64 0, .int .i64 0, .slice none 0 0, .bool false, .int .i64 11, .int .i64 2, .int .i64 4, .int .i64 5, .slice none 0 0, .bool false] 25)
 have hs : (w.alloc (.cells #[.int .i64 1, .int .i64 1, .int .i64 10, .int .i64 0, .slice none 0 0, .bool false, .int .i64 17, .int .i64 0, .int .i64 1, .int .i64 2, .slice none 0 0, .bool false, .int .i64 20, .int .i64 0, .int .i64 3, .int .i64 0, .slice none 0 0, .bool false, .int .i64 6, .int .i64 3, .int .i64 0, .int .i64 0, .slice none 0 0, .bool false, .int .i64 11, .int .i64 2, .int .i64 4, .int .i64 5, .slice none 0 0, .bool false] 25)).heap.size = w.heap.size + 1 := by simp
 have hb2 := Blk.new (w.alloc (.cells #[.int .i64 1, .int .i64 1, .int .i64 10, .int .i64 0, .slice none 0 0, .bool false, .int .i64 17, .int .i64 0, .int .i64 1, .int .i64 2, .slice none 0 0, .bool false, .int .i64 20, .int .i64 0, .int .i64 3, .int .i64 0, .slice none 0 0, .bool false, .int .i64 6, .int .i64 3, .int .i64 0, .int .i64 0, .slice none 0 0, .bool false, .int .i64 11, .int .i64 2, .int .i64 4, .int .i64 5, .slice none 0 0, .bool false] 25)) 26 #[.slice (some ⟨w.heap.size, 0, none⟩) 5 5]
 rw [hs] at hb2
 have hm2 := (Turns.refl (fun _ => False) (w.alloc (.cells #[.int .i64 1, .int .i64 1, .int .i64 10, .int .i64 0, .slice none 0 0, .bool false, .int .i64 17, .int .i64 0, .int .i64 1, .int .i64 2, .slice none 0 0, .bool false, .int .i64 20, .int .i64 0, .int .i64 3, .int .i64 0, .slice none 0 0, .bool false, .int .i64 6, .int .i64 3, .int .i64 0, .int .i64 0, .slice none 0 0, .bool false, .int .i64 11, .int .i64 2, .int .i64 4, .int .i64 5, .slice none 0 0, .bool false] 25))).alloc (.cells #[.slice (some ⟨w.heap.size, 0, none⟩) 5 5] 26)
 have hr : RowIn insC 6 ((w.alloc (.cells #[.int .i64 1, .int .i64 1, .int .i64 10, .int .i64 0, .slice none 0 0, .bool false, .int .i64 17, .int .i64 0, .int .i64 1, .int .i64 2, .slice none 0 0, .bool false, .int .i64 20, .int .i64 0, .int .i64 3, .int .i64 0, .slice none 0 0, .bool false, .int .i64 6, .int .i64 3, .int .i64 0, .int .i64 0, .slice none 0 0, .bool false, .int .i64 11, .int .i64 2, .int .i64 4, .int .i64 5, .slice none 0 0, .bool false] 25)).alloc (.cells #[.slice (some ⟨w.heap.size, 0, none⟩) 5 5] 26)) (some ⟨w.heap.size, 0, none⟩) 5 awP := RowIn.ofBlk insC_len (show Blk _ _ 25 (flat insC awP).toArray from hb1.turns hm2 (fun h => h))
 have hrs : RowsIn ((w.alloc (.cells #[.int .i64 1, .int .i64 1, .int .i64 10, .int .i64 0, .slice none 0 0, .bool false, .int .i64 17, .int .i64 0, .int .i64 1, .int .i64 2, .slice none 0 0, .bool false, .int .i64 20, .int .i64 0, .int .i64 3, .int .i64 0, .slice none 0 0, .bool false, .int .i64 6, .int .i64 3, .int .i64 0, .int .i64 0, .slice none 0 0, .bool false, .int .i64 11, .int .i64 2, .int .i64 4, .int .i64 5, .slice none 0 0, .bool false] 25)).alloc (.cells #[.slice (some ⟨w.heap.size, 0, none⟩) 5 5] 26)) (w.heap.size + 1) 0 [awP] := ⟨hb2.lt, fun i p hp => by
  cases i with
  | zero =>
   cases hp
   exact ⟨_, 5, hb2.cell 0, hr⟩
  | succ i => simp at hp⟩
 have HNW := Lib.hid (worldnew_c (cap := 1) _ awProgs (by simp [awP]) hrs)
 have HM := Lib.hid (hm1.trans hm2)
 clear hb1 hb2 hr hrs hm1 hm2 hs
 go_enter Tryz.func7, Tryz.ntmps7
 go_wp2_with fail
 refine HNW.out.mono ?_
 rintro e w1 ⟨b, o0, rfl, hw, hmw, hlo⟩
 have HPS := Lib.hid awProgs.ok
 have HLO := Lib.hid hlo
 have HSZ := Lib.hid (HM.out.trans hmw)
 have HST := Lib.hid (step_F (e := .run 0) CX0.ext HPS.out hw awS1)
 clear hw hmw hlo
 go_wp2_with fail
 refine HST.out.mono ?_
 rintro e w2 ⟨v1, rfl, o1, hw, -, -, hs1⟩
 have HST2 := Lib.hid (step_F (e := .run 0) CX0.ext HPS.out hw awS2)
 have HS1 := Lib.hid hs1
 clear hw hs1
 go_wp2_with fail
 refine HST2.out.mono ?_
 rintro e w3 ⟨v2, rfl, o2, hw, -, -, hs1⟩
 have HST3 := Lib.hid (step_F (e := .adv 20) CX0.ext HPS.out hw awS3)
 have HS2 := Lib.hid (HS1.out.trans hs1)
 clear hw hs1
 go_wp2_with fail
 refine HST3.out.mono ?_
 rintro e w4 ⟨vf, rfl, o3, hw, hof, hff, hs1⟩
 have HST4 := Lib.hid (step_F (e := .run 0) CX0.ext HPS.out hw awS4)
 have HS3 := Lib.hid (HS2.out.trans hs1)
 have HF := Lib.hid (And.intro hof (fun k hk => (hff k hk).1))
 clear hw hs1 hof hff
 go_wp2_with fail
 refine HST4.out.mono ?_
 rintro e w5 ⟨v4, rfl, o4, hw, -, -, hs1⟩
 have HST5 := Lib.hid (step_F (e := .run 0) CX0.ext HPS.out hw awS5)
 have HS4 := Lib.hid (HS3.out.trans hs1)
 have HF2 := Lib.hid (show Owns evC 45 6 w5 vf _ ∧ ∀ k, vf.ownBlock = some k → ¬ Own o4 k from ⟨HF.out.1.turns hs1.t HF.out.2, fun k hk h0 => (hs1.f k h0).elim (HF.out.2 k hk) (fun h => absurd (HF.out.1.lt hk) (Nat.not_lt.2 h))⟩)
 clear hw hs1
 go_wp2_with fail
 refine HST5.out.mono ?_
 rintro e w6 ⟨vt, rfl, o5, hw, hot, hft, hs1⟩
 have HST6 := Lib.hid (step_F (e := .run 0) CX0.ext HPS.out hw awS6)
 have HS5 := Lib.hid (HS4.out.trans hs1)
 have HF3 := Lib.hid (show Owns evC 45 6 w6 vf _ ∧ ∀ k, vf.ownBlock = some k → ¬ Own o5 k from ⟨HF2.out.1.turns hs1.t HF2.out.2, fun k hk h0 => (hs1.f k h0).elim (HF2.out.2 k hk) (fun h => absurd (HF2.out.1.lt hk) (Nat.not_lt.2 h))⟩)
 have HT := Lib.hid (And.intro hot (fun k hk => (hft k hk).1))
 clear hw hs1 hot hft
 go_wp2_with fail
 refine HST6.out.mono ?_
 rintro e w7 ⟨vl, rfl, o6, hw, hol, -, hs1⟩
 have HS6 := Lib.hid (HS5.out.trans hs1)
 obtain ⟨gf, cf, rfl, f1, f3, f4⟩ := one_ev (HF3.out.1.turns hs1.t HF3.out.2)
 obtain ⟨gt, ct, rfl, t1, t3, t4⟩ := one_ev (HT.out.1.turns hs1.t HT.out.2)
 obtain ⟨gl, cl, rfl, l1, l3, l4⟩ := one_ev hol
 simp only at f1 f3 f4 t1 t3 t4 l1 l3 l4
 clear hw hol hs1
 go_wp2_with fail
 go_returns
 exact ⟨rfl, HSZ.out.then HS6.out.t (fun k hk h => absurd (HLO.out k h) (by have := HM.out.size; omega))⟩
end Go.Proofs.YtjnkphhlkoapbaaGreat
namespace Go.Proofs.YtjnkphhlkoapbaaGreat
open Go.RowKit
set_option linter.unusedVariables false
set_option linter.unusedSimpArgs false
theorem wakeS_one {s : Wst} {i a j k : Nat} {pg pc how v : Int} {r : Reg} (h : s.ts[i]? = some ⟨pg, pc, 1, how, r, ⟨11, a, j, k⟩⟩) : wakeS s ⟨(i : Int), 0, v, true, false⟩ = { s with nd := s.nd + 1, ts := s.ts.set i ⟨pg, pc + 1, 0, how, ((r.set j v).set k 1), ⟨0, 0, 0, 0⟩⟩, rd := s.rd ++ [(i : Int)], ev := s.ev ++ [⟨s.steps, 3, (i : Int), 0, v, 1⟩] } := wakeS_yes h
section
variable {d at_ anew now dl : Int} {x : Ins} {L : List It} {sq st : Int} {nl : Nat}
end
section
variable {d at_ anew now dl w : Int} {x : Ins} {sq st : Int} {nl : Nat}
end
theorem Ex.nil (ps : List (List Ins)) (s : Wst) : Ex ps s [] [] s := ⟨rfl, rfl⟩
end Go.Proofs.YtjnkphhlkoapbaaGreat
namespace Go.Proofs.YtjnkphhlkoapbaaGreat
open Go.RowKit
set_option linter.unusedVariables false
set_option linter.unusedSimpArgs false
theorem owns_blk {α : Type} {enc : α → List Value} {size : Nat} {w : World} {b n : Nat} {T : TypeId} {cs : Array Value} {l : List α} (he : ∀ x, (enc x).length = size) (h : Blk w b T cs) (hc : cs = (flat enc l).toArray) (hn : l.length = n) (hm : n ≤ maxLen) : Owns enc T size w (.slice (some ⟨b, 0, none⟩) n n) l := by
 subst hn
 have hs : cs.size = l.length * size := by rw [hc]; simp [flat_length he]
 exact ⟨flat_length he l, .inr ⟨b, l.length, cs, rfl, Nat.zero_le _, h, Nat.le_refl _, hm, hs, by rw [hc, ← flat_length he l]; simp⟩⟩
end Go.Proofs.YtjnkphhlkoapbaaGreat
namespace Go.Proofs.YtjnkphhlkoapbaaGreat
open Go.RowKit
set_option linter.unusedVariables false
set_option linter.unusedSimpArgs false
def tbP (n : Nat) (d : Int) : List Ins := ⟨9, 0, 0, 0⟩ :: (List.replicate n ⟨8, 7, 1, 0⟩ ++ [⟨1, 1, d, 0⟩, ⟨17, 2, 1, 3⟩, ⟨11, 3, 4, 5⟩, ⟨12, 0, 0, 0⟩])
def tbQ : List Ins := [⟨11, 0, 4, 5⟩, ⟨16, 6, 0, 0⟩, ⟨6, 6, 0, 0⟩]
def chO (l : List Wt) : Chn := ⟨false, false, false, false, none, l⟩
def exF (ps : List (List Ins)) : Wst → List Ent → Option (List Ev × Wst)
 | s, [] => some ([], s)
 | s, e :: l => match stepF ps s e with
  | none => none
  | some s1 => match exF ps s1 l with
   | none => none
   | some r => some (s1.ev ++ r.1, r.2)
theorem exF_Ex {ps : List (List Ins)} : ∀ {l : List Ent} {s s' : Wst} {evs : List Ev}, exF ps s l = some (evs, s') → Ex ps s l evs s'
 | [], s, s', evs, h => by
  cases h
  exact ⟨rfl, rfl⟩
 | e :: l, s, s', evs, h => by
  unfold exF at h
  split at h
  ·cases h
  ·rename_i s1 h1
   split at h
   ·cases h
   ·rename_i r hr
    cases h
    exact ⟨s1, r.1, h1, exF_Ex hr, rfl⟩
def tbT (j : Nat) : Tsk := ⟨1, 0, 1, 0, ⟨0, 0, 0, 0, 0, 0, 0, j⟩, ⟨11, 0, 4, 5⟩⟩
def tbS (n : Nat) (d : Int) (W : List Wt) (nl : Nat) (st : Int) : Wst := ⟨0, ⟨0, n + 3, 1, 0, ⟨0, d, 0, 1, 0, 0, 0, n⟩, ⟨11, 3, 4, 5⟩⟩ :: (List.range n).map tbT, [], [(0, chO W), (1, chE [⟨0, 0, 0⟩])], 1, [⟨1, 0, some 1⟩], 1, [⟨0, d, 1⟩], 1, 0, nl, st, []⟩
structure TbW (n : Nat) (W : List Wt) : Prop where
 len : W.length = n
 nd : (W.map Wt.task).Nodup
 all : ∀ j, j < n → ((j : Int) + 1) ∈ W.map Wt.task
 few : ∀ x ∈ W, 1 ≤ x.task ∧ x.task ≤ n
theorem tb_first1 {d : Int} (hd : 1 ≤ d ∧ d ≤ 100) : ∃ evs W, Ex [tbP 1 d, tbQ] initS (manyE 0 60) evs (tbS 1 d W 60 60) ∧ (∀ e ∈ evs, e.kind ≠ 1) ∧ evs.length ≤ 100 ∧ TbW 1 W := by
 have a1 : addZ 0 d = d := (addZ_small (by omega) (by omega) (by omega) (by omega)).trans (by omega)
 have h1 : exF [tbP 1 d, tbQ] initS (manyE 0 4) = some ([⟨1, 5, 1, 1, 0, 0⟩, ⟨3, 2, 1, 0, 0, 0⟩], ⟨0, [⟨0, 3, 0, 0, ⟨0, d, 0, 0, 0, 0, 0, 1⟩, zI⟩, ⟨1, 0, 1, 0, ⟨0, 0, 0, 0, 0, 0, 0, 0⟩, ⟨11, 0, 4, 5⟩⟩], [0], [(0, chO [⟨1, 0, 0⟩])], 1, [], 0, [], 0, 0, 4, 4, [⟨3, 2, 1, 0, 0, 0⟩]⟩) := by kernel_rfl
 have h2 : stepF [tbP 1 d, tbQ] ⟨0, [⟨0, 3, 0, 0, ⟨0, d, 0, 0, 0, 0, 0, 1⟩, zI⟩, ⟨1, 0, 1, 0, ⟨0, 0, 0, 0, 0, 0, 0, 0⟩, ⟨11, 0, 4, 5⟩⟩], [0], [(0, chO [⟨1, 0, 0⟩])], 1, [], 0, [], 0, 0, 4, 4, [⟨3, 2, 1, 0, 0, 0⟩]⟩ (.run 4) = some ⟨0, [⟨0, 4, 0, 0, ⟨0, d, 0, 1, 0, 0, 0, 1⟩, zI⟩, ⟨1, 0, 1, 0, ⟨0, 0, 0, 0, 0, 0, 0, 0⟩, ⟨11, 0, 4, 5⟩⟩], [0], [(0, chO [⟨1, 0, 0⟩]), (1, chE [])], 1, [⟨1, 0, some 1⟩], 1, [⟨0, d, 1⟩], 1, 0, 5, 5, []⟩ := by
  refine Eq.trans (stepF_act (i := 0) (x := ⟨0, 3, 0, 0, ⟨0, d, 0, 0, 0, 0, 0, 1⟩, zI⟩) (p := tbP 1 d) (ins := ⟨17, 2, 1, 3⟩) (rr := some ⟨0, d, 0, 1, 0, 0, 0, 1⟩) (s2 := timerS ⟨0, [⟨0, 3, 0, 0, ⟨0, d, 0, 0, 0, 0, 0, 1⟩, zI⟩, ⟨1, 0, 1, 0, ⟨0, 0, 0, 0, 0, 0, 0, 0⟩, ⟨11, 0, 4, 5⟩⟩], [0], [(0, chO [⟨1, 0, 0⟩])], 1, [], 0, [], 0, 0, 5, 4, []⟩ d 1) (by simp [Lim]) (by simp) (by kernel_rfl) rfl rfl ⟨rfl, by simp, by simp⟩ rfl rfl ?_ rfl (by simp [timerS])) ?_
  ·have h1 : 0 ≤ d := by omega
   have h2 : d ≤ 1000000 := by omega
   simp [actF, actGo, actRecv, actMake, actClose, actTimer, RegOK, Reg.get, Reg.set, h1, h2]
  ·simp [timerS, putS, a1, delL, insL, chE]
 have h3 : exF [tbP 1 d, tbQ] ⟨0, [⟨0, 4, 0, 0, ⟨0, d, 0, 1, 0, 0, 0, 1⟩, zI⟩, ⟨1, 0, 1, 0, ⟨0, 0, 0, 0, 0, 0, 0, 0⟩, ⟨11, 0, 4, 5⟩⟩], [0], [(0, chO [⟨1, 0, 0⟩]), (1, chE [])], 1, [⟨1, 0, some 1⟩], 1, [⟨0, d, 1⟩], 1, 0, 5, 5, []⟩ (manyE 5 1) = some ([⟨5, 2, 0, 0, 0, 0⟩], ⟨0, [⟨0, 4, 1, 0, ⟨0, d, 0, 1, 0, 0, 0, 1⟩, ⟨11, 3, 4, 5⟩⟩, ⟨1, 0, 1, 0, ⟨0, 0, 0, 0, 0, 0, 0, 0⟩, ⟨11, 0, 4, 5⟩⟩], [], [(0, chO [⟨1, 0, 0⟩]), (1, chE [⟨0, 0, 0⟩])], 1, [⟨1, 0, some 1⟩], 1, [⟨0, d, 1⟩], 1, 0, 6, 6, [⟨5, 2, 0, 0, 0, 0⟩]⟩) := by kernel_rfl
 have h4 := stepF_idle (ps := [tbP 1 d, tbQ]) (s := ⟨0, [⟨0, 4, 1, 0, ⟨0, d, 0, 1, 0, 0, 0, 1⟩, ⟨11, 3, 4, 5⟩⟩, ⟨1, 0, 1, 0, ⟨0, 0, 0, 0, 0, 0, 0, 0⟩, ⟨11, 0, 4, 5⟩⟩], [], [(0, chO [⟨1, 0, 0⟩]), (1, chE [⟨0, 0, 0⟩])], 1, [⟨1, 0, some 1⟩], 1, [⟨0, d, 1⟩], 1, 0, 6, 6, [⟨5, 2, 0, 0, 0, 0⟩]⟩) (n := ((6 : Nat) : Int)) (by simp [Lim]) rfl
 have h5 := Ex.idle (ps := [tbP 1 d, tbQ]) (i := 7) (n := 53) (s := tbS 1 d [⟨1, 0, 0⟩] 7 7) (by simp [Lim, tbS]) rfl rfl (by simp [tbS]) (by simp [tbS])
 have h6 := Ex.append (exF_Ex h1) (Ex.cons h2 rfl (Ex.append (exF_Ex h3) (Ex.cons h4 rfl h5)))
 exact ⟨_, [⟨1, 0, 0⟩], h6, by simp, by simp, ⟨by simp, by simp, by decide, by simp⟩⟩
theorem tb_first2 {d : Int} (hd : 1 ≤ d ∧ d ≤ 100) : ∃ evs W, Ex [tbP 2 d, tbQ] initS (manyE 0 80) evs (tbS 2 d W 80 80) ∧ (∀ e ∈ evs, e.kind ≠ 1) ∧ evs.length ≤ 100 ∧ TbW 2 W := by
 have a1 : addZ 0 d = d := (addZ_small (by omega) (by omega) (by omega) (by omega)).trans (by omega)
 have h1 : exF [tbP 2 d, tbQ] initS (manyE 0 6) = some ([⟨1, 5, 1, 1, 0, 0⟩, ⟨2, 5, 2, 1, 0, 0⟩, ⟨4, 2, 1, 0, 0, 0⟩, ⟨5, 2, 2, 0, 0, 0⟩], ⟨0, [⟨0, 4, 0, 0, ⟨0, d, 0, 0, 0, 0, 0, 2⟩, zI⟩, ⟨1, 0, 1, 0, ⟨0, 0, 0, 0, 0, 0, 0, 0⟩, ⟨11, 0, 4, 5⟩⟩, ⟨1, 0, 1, 0, ⟨0, 0, 0, 0, 0, 0, 0, 1⟩, ⟨11, 0, 4, 5⟩⟩], [0], [(0, chO [⟨1, 0, 0⟩, ⟨2, 0, 0⟩])], 1, [], 0, [], 0, 0, 6, 6, [⟨5, 2, 2, 0, 0, 0⟩]⟩) := by kernel_rfl
 have h2 : stepF [tbP 2 d, tbQ] ⟨0, [⟨0, 4, 0, 0, ⟨0, d, 0, 0, 0, 0, 0, 2⟩, zI⟩, ⟨1, 0, 1, 0, ⟨0, 0, 0, 0, 0, 0, 0, 0⟩, ⟨11, 0, 4, 5⟩⟩, ⟨1, 0, 1, 0, ⟨0, 0, 0, 0, 0, 0, 0, 1⟩, ⟨11, 0, 4, 5⟩⟩], [0], [(0, chO [⟨1, 0, 0⟩, ⟨2, 0, 0⟩])], 1, [], 0, [], 0, 0, 6, 6, [⟨5, 2, 2, 0, 0, 0⟩]⟩ (.run 6) = some ⟨0, [⟨0, 5, 0, 0, ⟨0, d, 0, 1, 0, 0, 0, 2⟩, zI⟩, ⟨1, 0, 1, 0, ⟨0, 0, 0, 0, 0, 0, 0, 0⟩, ⟨11, 0, 4, 5⟩⟩, ⟨1, 0, 1, 0, ⟨0, 0, 0, 0, 0, 0, 0, 1⟩, ⟨11, 0, 4, 5⟩⟩], [0], [(0, chO [⟨1, 0, 0⟩, ⟨2, 0, 0⟩]), (1, chE [])], 1, [⟨1, 0, some 1⟩], 1, [⟨0, d, 1⟩], 1, 0, 7, 7, []⟩ := by
  refine Eq.trans (stepF_act (i := 0) (x := ⟨0, 4, 0, 0, ⟨0, d, 0, 0, 0, 0, 0, 2⟩, zI⟩) (p := tbP 2 d) (ins := ⟨17, 2, 1, 3⟩) (rr := some ⟨0, d, 0, 1, 0, 0, 0, 2⟩) (s2 := timerS ⟨0, [⟨0, 4, 0, 0, ⟨0, d, 0, 0, 0, 0, 0, 2⟩, zI⟩, ⟨1, 0, 1, 0, ⟨0, 0, 0, 0, 0, 0, 0, 0⟩, ⟨11, 0, 4, 5⟩⟩, ⟨1, 0, 1, 0, ⟨0, 0, 0, 0, 0, 0, 0, 1⟩, ⟨11, 0, 4, 5⟩⟩], [0], [(0, chO [⟨1, 0, 0⟩, ⟨2, 0, 0⟩])], 1, [], 0, [], 0, 0, 7, 6, []⟩ d 1) (by simp [Lim]) (by simp) (by kernel_rfl) rfl rfl ⟨rfl, by simp, by simp⟩ rfl rfl ?_ rfl (by simp [timerS])) ?_
  ·have h1 : 0 ≤ d := by omega
   have h2 : d ≤ 1000000 := by omega
   simp [actF, actGo, actRecv, actMake, actClose, actTimer, RegOK, Reg.get, Reg.set, h1, h2]
  ·simp [timerS, putS, a1, delL, insL, chE]
 have h3 : exF [tbP 2 d, tbQ] ⟨0, [⟨0, 5, 0, 0, ⟨0, d, 0, 1, 0, 0, 0, 2⟩, zI⟩, ⟨1, 0, 1, 0, ⟨0, 0, 0, 0, 0, 0, 0, 0⟩, ⟨11, 0, 4, 5⟩⟩, ⟨1, 0, 1, 0, ⟨0, 0, 0, 0, 0, 0, 0, 1⟩, ⟨11, 0, 4, 5⟩⟩], [0], [(0, chO [⟨1, 0, 0⟩, ⟨2, 0, 0⟩]), (1, chE [])], 1, [⟨1, 0, some 1⟩], 1, [⟨0, d, 1⟩], 1, 0, 7, 7, []⟩ (manyE 7 1) = some ([⟨7, 2, 0, 0, 0, 0⟩], ⟨0, [⟨0, 5, 1, 0, ⟨0, d, 0, 1, 0, 0, 0, 2⟩, ⟨11, 3, 4, 5⟩⟩, ⟨1, 0, 1, 0, ⟨0, 0, 0, 0, 0, 0, 0, 0⟩, ⟨11, 0, 4, 5⟩⟩, ⟨1, 0, 1, 0, ⟨0, 0, 0, 0, 0, 0, 0, 1⟩, ⟨11, 0, 4, 5⟩⟩], [], [(0, chO [⟨1, 0, 0⟩, ⟨2, 0, 0⟩]), (1, chE [⟨0, 0, 0⟩])], 1, [⟨1, 0, some 1⟩], 1, [⟨0, d, 1⟩], 1, 0, 8, 8, [⟨7, 2, 0, 0, 0, 0⟩]⟩) := by kernel_rfl
 have h4 := stepF_idle (ps := [tbP 2 d, tbQ]) (s := ⟨0, [⟨0, 5, 1, 0, ⟨0, d, 0, 1, 0, 0, 0, 2⟩, ⟨11, 3, 4, 5⟩⟩, ⟨1, 0, 1, 0, ⟨0, 0, 0, 0, 0, 0, 0, 0⟩, ⟨11, 0, 4, 5⟩⟩, ⟨1, 0, 1, 0, ⟨0, 0, 0, 0, 0, 0, 0, 1⟩, ⟨11, 0, 4, 5⟩⟩], [], [(0, chO [⟨1, 0, 0⟩, ⟨2, 0, 0⟩]), (1, chE [⟨0, 0, 0⟩])], 1, [⟨1, 0, some 1⟩], 1, [⟨0, d, 1⟩], 1, 0, 8, 8, [⟨7, 2, 0, 0, 0, 0⟩]⟩) (n := ((8 : Nat) : Int)) (by simp [Lim]) rfl
 have h5 := Ex.idle (ps := [tbP 2 d, tbQ]) (i := 9) (n := 71) (s := tbS 2 d [⟨1, 0, 0⟩, ⟨2, 0, 0⟩] 9 9) (by simp [Lim, tbS]) rfl rfl (by simp [tbS]) (by simp [tbS])
 have h6 := Ex.append (exF_Ex h1) (Ex.cons h2 rfl (Ex.append (exF_Ex h3) (Ex.cons h4 rfl h5)))
 exact ⟨_, [⟨1, 0, 0⟩, ⟨2, 0, 0⟩], h6, by simp, by simp, ⟨by simp, by simp, by decide, by simp⟩⟩
theorem tb_first3 {d : Int} (hd : 1 ≤ d ∧ d ≤ 100) : ∃ evs W, Ex [tbP 3 d, tbQ] initS (manyE 0 100) evs (tbS 3 d W 100 100) ∧ (∀ e ∈ evs, e.kind ≠ 1) ∧ evs.length ≤ 100 ∧ TbW 3 W := by
 have a1 : addZ 0 d = d := (addZ_small (by omega) (by omega) (by omega) (by omega)).trans (by omega)
 have h1 : exF [tbP 3 d, tbQ] initS (manyE 0 6) = some ([⟨1, 5, 1, 1, 0, 0⟩, ⟨2, 5, 2, 1, 0, 0⟩, ⟨3, 5, 3, 1, 0, 0⟩, ⟨5, 2, 1, 0, 0, 0⟩], ⟨0, [⟨0, 5, 0, 0, ⟨0, d, 0, 0, 0, 0, 0, 3⟩, zI⟩, ⟨1, 0, 1, 0, ⟨0, 0, 0, 0, 0, 0, 0, 0⟩, ⟨11, 0, 4, 5⟩⟩, ⟨1, 0, 0, 0, ⟨0, 0, 0, 0, 0, 0, 0, 1⟩, zI⟩, ⟨1, 0, 0, 0, ⟨0, 0, 0, 0, 0, 0, 0, 2⟩, zI⟩], [0, 2, 3], [(0, chO [⟨1, 0, 0⟩])], 1, [], 0, [], 0, 0, 6, 6, [⟨5, 2, 1, 0, 0, 0⟩]⟩) := by kernel_rfl
 have h2 : stepF [tbP 3 d, tbQ] ⟨0, [⟨0, 5, 0, 0, ⟨0, d, 0, 0, 0, 0, 0, 3⟩, zI⟩, ⟨1, 0, 1, 0, ⟨0, 0, 0, 0, 0, 0, 0, 0⟩, ⟨11, 0, 4, 5⟩⟩, ⟨1, 0, 0, 0, ⟨0, 0, 0, 0, 0, 0, 0, 1⟩, zI⟩, ⟨1, 0, 0, 0, ⟨0, 0, 0, 0, 0, 0, 0, 2⟩, zI⟩], [0, 2, 3], [(0, chO [⟨1, 0, 0⟩])], 1, [], 0, [], 0, 0, 6, 6, [⟨5, 2, 1, 0, 0, 0⟩]⟩ (.run 6) = some ⟨0, [⟨0, 6, 0, 0, ⟨0, d, 0, 1, 0, 0, 0, 3⟩, zI⟩, ⟨1, 0, 1, 0, ⟨0, 0, 0, 0, 0, 0, 0, 0⟩, ⟨11, 0, 4, 5⟩⟩, ⟨1, 0, 0, 0, ⟨0, 0, 0, 0, 0, 0, 0, 1⟩, zI⟩, ⟨1, 0, 0, 0, ⟨0, 0, 0, 0, 0, 0, 0, 2⟩, zI⟩], [0, 2, 3], [(0, chO [⟨1, 0, 0⟩]), (1, chE [])], 1, [⟨1, 0, some 1⟩], 1, [⟨0, d, 1⟩], 1, 0, 7, 7, []⟩ := by
  refine Eq.trans (stepF_act (i := 0) (x := ⟨0, 5, 0, 0, ⟨0, d, 0, 0, 0, 0, 0, 3⟩, zI⟩) (p := tbP 3 d) (ins := ⟨17, 2, 1, 3⟩) (rr := some ⟨0, d, 0, 1, 0, 0, 0, 3⟩) (s2 := timerS ⟨0, [⟨0, 5, 0, 0, ⟨0, d, 0, 0, 0, 0, 0, 3⟩, zI⟩, ⟨1, 0, 1, 0, ⟨0, 0, 0, 0, 0, 0, 0, 0⟩, ⟨11, 0, 4, 5⟩⟩, ⟨1, 0, 0, 0, ⟨0, 0, 0, 0, 0, 0, 0, 1⟩, zI⟩, ⟨1, 0, 0, 0, ⟨0, 0, 0, 0, 0, 0, 0, 2⟩, zI⟩], [0, 2, 3], [(0, chO [⟨1, 0, 0⟩])], 1, [], 0, [], 0, 0, 7, 6, []⟩ d 1) (by simp [Lim]) (by simp) (by kernel_rfl) rfl rfl ⟨rfl, by simp, by simp⟩ rfl rfl ?_ rfl (by simp [timerS])) ?_
  ·have h1 : 0 ≤ d := by omega
   have h2 : d ≤ 1000000 := by omega
   simp [actF, actGo, actRecv, actMake, actClose, actTimer, RegOK, Reg.get, Reg.set, h1, h2]
  ·simp [timerS, putS, a1, delL, insL, chE]
 have h3 : exF [tbP 3 d, tbQ] ⟨0, [⟨0, 6, 0, 0, ⟨0, d, 0, 1, 0, 0, 0, 3⟩, zI⟩, ⟨1, 0, 1, 0, ⟨0, 0, 0, 0, 0, 0, 0, 0⟩, ⟨11, 0, 4, 5⟩⟩, ⟨1, 0, 0, 0, ⟨0, 0, 0, 0, 0, 0, 0, 1⟩, zI⟩, ⟨1, 0, 0, 0, ⟨0, 0, 0, 0, 0, 0, 0, 2⟩, zI⟩], [0, 2, 3], [(0, chO [⟨1, 0, 0⟩]), (1, chE [])], 1, [⟨1, 0, some 1⟩], 1, [⟨0, d, 1⟩], 1, 0, 7, 7, []⟩ (manyE 7 3) = some ([⟨7, 2, 2, 0, 0, 0⟩, ⟨8, 2, 0, 0, 0, 0⟩, ⟨9, 2, 3, 0, 0, 0⟩], ⟨0, [⟨0, 6, 1, 0, ⟨0, d, 0, 1, 0, 0, 0, 3⟩, ⟨11, 3, 4, 5⟩⟩, ⟨1, 0, 1, 0, ⟨0, 0, 0, 0, 0, 0, 0, 0⟩, ⟨11, 0, 4, 5⟩⟩, ⟨1, 0, 1, 0, ⟨0, 0, 0, 0, 0, 0, 0, 1⟩, ⟨11, 0, 4, 5⟩⟩, ⟨1, 0, 1, 0, ⟨0, 0, 0, 0, 0, 0, 0, 2⟩, ⟨11, 0, 4, 5⟩⟩], [], [(0, chO [⟨1, 0, 0⟩, ⟨2, 0, 0⟩, ⟨3, 0, 0⟩]), (1, chE [⟨0, 0, 0⟩])], 1, [⟨1, 0, some 1⟩], 1, [⟨0, d, 1⟩], 1, 0, 10, 10, [⟨9, 2, 3, 0, 0, 0⟩]⟩) := by kernel_rfl
 have h4 := stepF_idle (ps := [tbP 3 d, tbQ]) (s := ⟨0, [⟨0, 6, 1, 0, ⟨0, d, 0, 1, 0, 0, 0, 3⟩, ⟨11, 3, 4, 5⟩⟩, ⟨1, 0, 1, 0, ⟨0, 0, 0, 0, 0, 0, 0, 0⟩, ⟨11, 0, 4, 5⟩⟩, ⟨1, 0, 1, 0, ⟨0, 0, 0, 0, 0, 0, 0, 1⟩, ⟨11, 0, 4, 5⟩⟩, ⟨1, 0, 1, 0, ⟨0, 0, 0, 0, 0, 0, 0, 2⟩, ⟨11, 0, 4, 5⟩⟩], [], [(0, chO [⟨1, 0, 0⟩, ⟨2, 0, 0⟩, ⟨3, 0, 0⟩]), (1, chE [⟨0, 0, 0⟩])], 1, [⟨1, 0, some 1⟩], 1, [⟨0, d, 1⟩], 1, 0, 10, 10, [⟨9, 2, 3, 0, 0, 0⟩]⟩) (n := ((10 : Nat) : Int)) (by simp [Lim]) rfl
 have h5 := Ex.idle (ps := [tbP 3 d, tbQ]) (i := 11) (n := 89) (s := tbS 3 d [⟨1, 0, 0⟩, ⟨2, 0, 0⟩, ⟨3, 0, 0⟩] 11 11) (by simp [Lim, tbS]) rfl rfl (by simp [tbS]) (by simp [tbS])
 have h6 := Ex.append (exF_Ex h1) (Ex.cons h2 rfl (Ex.append (exF_Ex h3) (Ex.cons h4 rfl h5)))
 exact ⟨_, [⟨1, 0, 0⟩, ⟨2, 0, 0⟩, ⟨3, 0, 0⟩], h6, by simp, by simp, ⟨by simp, by simp, by decide, by simp⟩⟩
theorem tb_first4 {d : Int} (hd : 1 ≤ d ∧ d ≤ 100) : ∃ evs W, Ex [tbP 4 d, tbQ] initS (manyE 0 120) evs (tbS 4 d W 120 120) ∧ (∀ e ∈ evs, e.kind ≠ 1) ∧ evs.length ≤ 100 ∧ TbW 4 W := by
 have a1 : addZ 0 d = d := (addZ_small (by omega) (by omega) (by omega) (by omega)).trans (by omega)
 have h1 : exF [tbP 4 d, tbQ] initS (manyE 0 10) = some ([⟨1, 5, 1, 1, 0, 0⟩, ⟨2, 5, 2, 1, 0, 0⟩, ⟨3, 5, 3, 1, 0, 0⟩, ⟨4, 5, 4, 1, 0, 0⟩, ⟨6, 2, 1, 0, 0, 0⟩, ⟨7, 2, 4, 0, 0, 0⟩, ⟨8, 2, 3, 0, 0, 0⟩, ⟨9, 2, 2, 0, 0, 0⟩], ⟨0, [⟨0, 6, 0, 0, ⟨0, d, 0, 0, 0, 0, 0, 4⟩, zI⟩, ⟨1, 0, 1, 0, ⟨0, 0, 0, 0, 0, 0, 0, 0⟩, ⟨11, 0, 4, 5⟩⟩, ⟨1, 0, 1, 0, ⟨0, 0, 0, 0, 0, 0, 0, 1⟩, ⟨11, 0, 4, 5⟩⟩, ⟨1, 0, 1, 0, ⟨0, 0, 0, 0, 0, 0, 0, 2⟩, ⟨11, 0, 4, 5⟩⟩, ⟨1, 0, 1, 0, ⟨0, 0, 0, 0, 0, 0, 0, 3⟩, ⟨11, 0, 4, 5⟩⟩], [0], [(0, chO [⟨1, 0, 0⟩, ⟨4, 0, 0⟩, ⟨3, 0, 0⟩, ⟨2, 0, 0⟩])], 1, [], 0, [], 0, 0, 10, 10, [⟨9, 2, 2, 0, 0, 0⟩]⟩) := by kernel_rfl
 have h2 : stepF [tbP 4 d, tbQ] ⟨0, [⟨0, 6, 0, 0, ⟨0, d, 0, 0, 0, 0, 0, 4⟩, zI⟩, ⟨1, 0, 1, 0, ⟨0, 0, 0, 0, 0, 0, 0, 0⟩, ⟨11, 0, 4, 5⟩⟩, ⟨1, 0, 1, 0, ⟨0, 0, 0, 0, 0, 0, 0, 1⟩, ⟨11, 0, 4, 5⟩⟩, ⟨1, 0, 1, 0, ⟨0, 0, 0, 0, 0, 0, 0, 2⟩, ⟨11, 0, 4, 5⟩⟩, ⟨1, 0, 1, 0, ⟨0, 0, 0, 0, 0, 0, 0, 3⟩, ⟨11, 0, 4, 5⟩⟩], [0], [(0, chO [⟨1, 0, 0⟩, ⟨4, 0, 0⟩, ⟨3, 0, 0⟩, ⟨2, 0, 0⟩])], 1, [], 0, [], 0, 0, 10, 10, [⟨9, 2, 2, 0, 0, 0⟩]⟩ (.run 10) = some ⟨0, [⟨0, 7, 0, 0, ⟨0, d, 0, 1, 0, 0, 0, 4⟩, zI⟩, ⟨1, 0, 1, 0, ⟨0, 0, 0, 0, 0, 0, 0, 0⟩, ⟨11, 0, 4, 5⟩⟩, ⟨1, 0, 1, 0, ⟨0, 0, 0, 0, 0, 0, 0, 1⟩, ⟨11, 0, 4, 5⟩⟩, ⟨1, 0, 1, 0, ⟨0, 0, 0, 0, 0, 0, 0, 2⟩, ⟨11, 0, 4, 5⟩⟩, ⟨1, 0, 1, 0, ⟨0, 0, 0, 0, 0, 0, 0, 3⟩, ⟨11, 0, 4, 5⟩⟩], [0], [(0, chO [⟨1, 0, 0⟩, ⟨4, 0, 0⟩, ⟨3, 0, 0⟩, ⟨2, 0, 0⟩]), (1, chE [])], 1, [⟨1, 0, some 1⟩], 1, [⟨0, d, 1⟩], 1, 0, 11, 11, []⟩ := by
  refine Eq.trans (stepF_act (i := 0) (x := ⟨0, 6, 0, 0, ⟨0, d, 0, 0, 0, 0, 0, 4⟩, zI⟩) (p := tbP 4 d) (ins := ⟨17, 2, 1, 3⟩) (rr := some ⟨0, d, 0, 1, 0, 0, 0, 4⟩) (s2 := timerS ⟨0, [⟨0, 6, 0, 0, ⟨0, d, 0, 0, 0, 0, 0, 4⟩, zI⟩, ⟨1, 0, 1, 0, ⟨0, 0, 0, 0, 0, 0, 0, 0⟩, ⟨11, 0, 4, 5⟩⟩, ⟨1, 0, 1, 0, ⟨0, 0, 0, 0, 0, 0, 0, 1⟩, ⟨11, 0, 4, 5⟩⟩, ⟨1, 0, 1, 0, ⟨0, 0, 0, 0, 0, 0, 0, 2⟩, ⟨11, 0, 4, 5⟩⟩, ⟨1, 0, 1, 0, ⟨0, 0, 0, 0, 0, 0, 0, 3⟩, ⟨11, 0, 4, 5⟩⟩], [0], [(0, chO [⟨1, 0, 0⟩, ⟨4, 0, 0⟩, ⟨3, 0, 0⟩, ⟨2, 0, 0⟩])], 1, [], 0, [], 0, 0, 11, 10, []⟩ d 1) (by simp [Lim]) (by simp) (by kernel_rfl) rfl rfl ⟨rfl, by simp, by simp⟩ rfl rfl ?_ rfl (by simp [timerS])) ?_
  ·have h1 : 0 ≤ d := by omega
   have h2 : d ≤ 1000000 := by omega
   simp [actF, actGo, actRecv, actMake, actClose, actTimer, RegOK, Reg.get, Reg.set, h1, h2]
  ·simp [timerS, putS, a1, delL, insL, chE]
 have h3 : exF [tbP 4 d, tbQ] ⟨0, [⟨0, 7, 0, 0, ⟨0, d, 0, 1, 0, 0, 0, 4⟩, zI⟩, ⟨1, 0, 1, 0, ⟨0, 0, 0, 0, 0, 0, 0, 0⟩, ⟨11, 0, 4, 5⟩⟩, ⟨1, 0, 1, 0, ⟨0, 0, 0, 0, 0, 0, 0, 1⟩, ⟨11, 0, 4, 5⟩⟩, ⟨1, 0, 1, 0, ⟨0, 0, 0, 0, 0, 0, 0, 2⟩, ⟨11, 0, 4, 5⟩⟩, ⟨1, 0, 1, 0, ⟨0, 0, 0, 0, 0, 0, 0, 3⟩, ⟨11, 0, 4, 5⟩⟩], [0], [(0, chO [⟨1, 0, 0⟩, ⟨4, 0, 0⟩, ⟨3, 0, 0⟩, ⟨2, 0, 0⟩]), (1, chE [])], 1, [⟨1, 0, some 1⟩], 1, [⟨0, d, 1⟩], 1, 0, 11, 11, []⟩ (manyE 11 1) = some ([⟨11, 2, 0, 0, 0, 0⟩], ⟨0, [⟨0, 7, 1, 0, ⟨0, d, 0, 1, 0, 0, 0, 4⟩, ⟨11, 3, 4, 5⟩⟩, ⟨1, 0, 1, 0, ⟨0, 0, 0, 0, 0, 0, 0, 0⟩, ⟨11, 0, 4, 5⟩⟩, ⟨1, 0, 1, 0, ⟨0, 0, 0, 0, 0, 0, 0, 1⟩, ⟨11, 0, 4, 5⟩⟩, ⟨1, 0, 1, 0, ⟨0, 0, 0, 0, 0, 0, 0, 2⟩, ⟨11, 0, 4, 5⟩⟩, ⟨1, 0, 1, 0, ⟨0, 0, 0, 0, 0, 0, 0, 3⟩, ⟨11, 0, 4, 5⟩⟩], [], [(0, chO [⟨1, 0, 0⟩, ⟨4, 0, 0⟩, ⟨3, 0, 0⟩, ⟨2, 0, 0⟩]), (1, chE [⟨0, 0, 0⟩])], 1, [⟨1, 0, some 1⟩], 1, [⟨0, d, 1⟩], 1, 0, 12, 12, [⟨11, 2, 0, 0, 0, 0⟩]⟩) := by kernel_rfl
 have h4 := stepF_idle (ps := [tbP 4 d, tbQ]) (s := ⟨0, [⟨0, 7, 1, 0, ⟨0, d, 0, 1, 0, 0, 0, 4⟩, ⟨11, 3, 4, 5⟩⟩, ⟨1, 0, 1, 0, ⟨0, 0, 0, 0, 0, 0, 0, 0⟩, ⟨11, 0, 4, 5⟩⟩, ⟨1, 0, 1, 0, ⟨0, 0, 0, 0, 0, 0, 0, 1⟩, ⟨11, 0, 4, 5⟩⟩, ⟨1, 0, 1, 0, ⟨0, 0, 0, 0, 0, 0, 0, 2⟩, ⟨11, 0, 4, 5⟩⟩, ⟨1, 0, 1, 0, ⟨0, 0, 0, 0, 0, 0, 0, 3⟩, ⟨11, 0, 4, 5⟩⟩], [], [(0, chO [⟨1, 0, 0⟩, ⟨4, 0, 0⟩, ⟨3, 0, 0⟩, ⟨2, 0, 0⟩]), (1, chE [⟨0, 0, 0⟩])], 1, [⟨1, 0, some 1⟩], 1, [⟨0, d, 1⟩], 1, 0, 12, 12, [⟨11, 2, 0, 0, 0, 0⟩]⟩) (n := ((12 : Nat) : Int)) (by simp [Lim]) rfl
 have h5 := Ex.idle (ps := [tbP 4 d, tbQ]) (i := 13) (n := 107) (s := tbS 4 d [⟨1, 0, 0⟩, ⟨4, 0, 0⟩, ⟨3, 0, 0⟩, ⟨2, 0, 0⟩] 13 13) (by simp [Lim, tbS]) rfl rfl (by simp [tbS]) (by simp [tbS])
 have h6 := Ex.append (exF_Ex h1) (Ex.cons h2 rfl (Ex.append (exF_Ex h3) (Ex.cons h4 rfl h5)))
 exact ⟨_, [⟨1, 0, 0⟩, ⟨4, 0, 0⟩, ⟨3, 0, 0⟩, ⟨2, 0, 0⟩], h6, by simp, by simp, ⟨by simp, by simp, by decide, by simp⟩⟩
theorem tb_first5 {d : Int} (hd : 1 ≤ d ∧ d ≤ 100) : ∃ evs W, Ex [tbP 5 d, tbQ] initS (manyE 0 140) evs (tbS 5 d W 140 140) ∧ (∀ e ∈ evs, e.kind ≠ 1) ∧ evs.length ≤ 100 ∧ TbW 5 W := by
 have a1 : addZ 0 d = d := (addZ_small (by omega) (by omega) (by omega) (by omega)).trans (by omega)
 have h1 : exF [tbP 5 d, tbQ] initS (manyE 0 12) = some ([⟨1, 5, 1, 1, 0, 0⟩, ⟨2, 5, 2, 1, 0, 0⟩, ⟨3, 5, 3, 1, 0, 0⟩, ⟨4, 5, 4, 1, 0, 0⟩, ⟨5, 5, 5, 1, 0, 0⟩, ⟨7, 2, 1, 0, 0, 0⟩, ⟨8, 2, 4, 0, 0, 0⟩, ⟨9, 2, 2, 0, 0, 0⟩, ⟨10, 2, 3, 0, 0, 0⟩, ⟨11, 2, 5, 0, 0, 0⟩], ⟨0, [⟨0, 7, 0, 0, ⟨0, d, 0, 0, 0, 0, 0, 5⟩, zI⟩, ⟨1, 0, 1, 0, ⟨0, 0, 0, 0, 0, 0, 0, 0⟩, ⟨11, 0, 4, 5⟩⟩, ⟨1, 0, 1, 0, ⟨0, 0, 0, 0, 0, 0, 0, 1⟩, ⟨11, 0, 4, 5⟩⟩, ⟨1, 0, 1, 0, ⟨0, 0, 0, 0, 0, 0, 0, 2⟩, ⟨11, 0, 4, 5⟩⟩, ⟨1, 0, 1, 0, ⟨0, 0, 0, 0, 0, 0, 0, 3⟩, ⟨11, 0, 4, 5⟩⟩, ⟨1, 0, 1, 0, ⟨0, 0, 0, 0, 0, 0, 0, 4⟩, ⟨11, 0, 4, 5⟩⟩], [0], [(0, chO [⟨1, 0, 0⟩, ⟨4, 0, 0⟩, ⟨2, 0, 0⟩, ⟨3, 0, 0⟩, ⟨5, 0, 0⟩])], 1, [], 0, [], 0, 0, 12, 12, [⟨11, 2, 5, 0, 0, 0⟩]⟩) := by kernel_rfl
 have h2 : stepF [tbP 5 d, tbQ] ⟨0, [⟨0, 7, 0, 0, ⟨0, d, 0, 0, 0, 0, 0, 5⟩, zI⟩, ⟨1, 0, 1, 0, ⟨0, 0, 0, 0, 0, 0, 0, 0⟩, ⟨11, 0, 4, 5⟩⟩, ⟨1, 0, 1, 0, ⟨0, 0, 0, 0, 0, 0, 0, 1⟩, ⟨11, 0, 4, 5⟩⟩, ⟨1, 0, 1, 0, ⟨0, 0, 0, 0, 0, 0, 0, 2⟩, ⟨11, 0, 4, 5⟩⟩, ⟨1, 0, 1, 0, ⟨0, 0, 0, 0, 0, 0, 0, 3⟩, ⟨11, 0, 4, 5⟩⟩, ⟨1, 0, 1, 0, ⟨0, 0, 0, 0, 0, 0, 0, 4⟩, ⟨11, 0, 4, 5⟩⟩], [0], [(0, chO [⟨1, 0, 0⟩, ⟨4, 0, 0⟩, ⟨2, 0, 0⟩, ⟨3, 0, 0⟩, ⟨5, 0, 0⟩])], 1, [], 0, [], 0, 0, 12, 12, [⟨11, 2, 5, 0, 0, 0⟩]⟩ (.run 12) = some ⟨0, [⟨0, 8, 0, 0, ⟨0, d, 0, 1, 0, 0, 0, 5⟩, zI⟩, ⟨1, 0, 1, 0, ⟨0, 0, 0, 0, 0, 0, 0, 0⟩, ⟨11, 0, 4, 5⟩⟩, ⟨1, 0, 1, 0, ⟨0, 0, 0, 0, 0, 0, 0, 1⟩, ⟨11, 0, 4, 5⟩⟩, ⟨1, 0, 1, 0, ⟨0, 0, 0, 0, 0, 0, 0, 2⟩, ⟨11, 0, 4, 5⟩⟩, ⟨1, 0, 1, 0, ⟨0, 0, 0, 0, 0, 0, 0, 3⟩, ⟨11, 0, 4, 5⟩⟩, ⟨1, 0, 1, 0, ⟨0, 0, 0, 0, 0, 0, 0, 4⟩, ⟨11, 0, 4, 5⟩⟩], [0], [(0, chO [⟨1, 0, 0⟩, ⟨4, 0, 0⟩, ⟨2, 0, 0⟩, ⟨3, 0, 0⟩, ⟨5, 0, 0⟩]), (1, chE [])], 1, [⟨1, 0, some 1⟩], 1, [⟨0, d, 1⟩], 1, 0, 13, 13, []⟩ := by
  refine Eq.trans (stepF_act (i := 0) (x := ⟨0, 7, 0, 0, ⟨0, d, 0, 0, 0, 0, 0, 5⟩, zI⟩) (p := tbP 5 d) (ins := ⟨17, 2, 1, 3⟩) (rr := some ⟨0, d, 0, 1, 0, 0, 0, 5⟩) (s2 := timerS ⟨0, [⟨0, 7, 0, 0, ⟨0, d, 0, 0, 0, 0, 0, 5⟩, zI⟩, ⟨1, 0, 1, 0, ⟨0, 0, 0, 0, 0, 0, 0, 0⟩, ⟨11, 0, 4, 5⟩⟩, ⟨1, 0, 1, 0, ⟨0, 0, 0, 0, 0, 0, 0, 1⟩, ⟨11, 0, 4, 5⟩⟩, ⟨1, 0, 1, 0, ⟨0, 0, 0, 0, 0, 0, 0, 2⟩, ⟨11, 0, 4, 5⟩⟩, ⟨1, 0, 1, 0, ⟨0, 0, 0, 0, 0, 0, 0, 3⟩, ⟨11, 0, 4, 5⟩⟩, ⟨1, 0, 1, 0, ⟨0, 0, 0, 0, 0, 0, 0, 4⟩, ⟨11, 0, 4, 5⟩⟩], [0], [(0, chO [⟨1, 0, 0⟩, ⟨4, 0, 0⟩, ⟨2, 0, 0⟩, ⟨3, 0, 0⟩, ⟨5, 0, 0⟩])], 1, [], 0, [], 0, 0, 13, 12, []⟩ d 1) (by simp [Lim]) (by simp) (by kernel_rfl) rfl rfl ⟨rfl, by simp, by simp⟩ rfl rfl ?_ rfl (by simp [timerS])) ?_
  ·have h1 : 0 ≤ d := by omega
   have h2 : d ≤ 1000000 := by omega
   simp [actF, actGo, actRecv, actMake, actClose, actTimer, RegOK, Reg.get, Reg.set, h1, h2]
  ·simp [timerS, putS, a1, delL, insL, chE]
 have h3 : exF [tbP 5 d, tbQ] ⟨0, [⟨0, 8, 0, 0, ⟨0, d, 0, 1, 0, 0, 0, 5⟩, zI⟩, ⟨1, 0, 1, 0, ⟨0, 0, 0, 0, 0, 0, 0, 0⟩, ⟨11, 0, 4, 5⟩⟩, ⟨1, 0, 1, 0, ⟨0, 0, 0, 0, 0, 0, 0, 1⟩, ⟨11, 0, 4, 5⟩⟩, ⟨1, 0, 1, 0, ⟨0, 0, 0, 0, 0, 0, 0, 2⟩, ⟨11, 0, 4, 5⟩⟩, ⟨1, 0, 1, 0, ⟨0, 0, 0, 0, 0, 0, 0, 3⟩, ⟨11, 0, 4, 5⟩⟩, ⟨1, 0, 1, 0, ⟨0, 0, 0, 0, 0, 0, 0, 4⟩, ⟨11, 0, 4, 5⟩⟩], [0], [(0, chO [⟨1, 0, 0⟩, ⟨4, 0, 0⟩, ⟨2, 0, 0⟩, ⟨3, 0, 0⟩, ⟨5, 0, 0⟩]), (1, chE [])], 1, [⟨1, 0, some 1⟩], 1, [⟨0, d, 1⟩], 1, 0, 13, 13, []⟩ (manyE 13 1) = some ([⟨13, 2, 0, 0, 0, 0⟩], ⟨0, [⟨0, 8, 1, 0, ⟨0, d, 0, 1, 0, 0, 0, 5⟩, ⟨11, 3, 4, 5⟩⟩, ⟨1, 0, 1, 0, ⟨0, 0, 0, 0, 0, 0, 0, 0⟩, ⟨11, 0, 4, 5⟩⟩, ⟨1, 0, 1, 0, ⟨0, 0, 0, 0, 0, 0, 0, 1⟩, ⟨11, 0, 4, 5⟩⟩, ⟨1, 0, 1, 0, ⟨0, 0, 0, 0, 0, 0, 0, 2⟩, ⟨11, 0, 4, 5⟩⟩, ⟨1, 0, 1, 0, ⟨0, 0, 0, 0, 0, 0, 0, 3⟩, ⟨11, 0, 4, 5⟩⟩, ⟨1, 0, 1, 0, ⟨0, 0, 0, 0, 0, 0, 0, 4⟩, ⟨11, 0, 4, 5⟩⟩], [], [(0, chO [⟨1, 0, 0⟩, ⟨4, 0, 0⟩, ⟨2, 0, 0⟩, ⟨3, 0, 0⟩, ⟨5, 0, 0⟩]), (1, chE [⟨0, 0, 0⟩])], 1, [⟨1, 0, some 1⟩], 1, [⟨0, d, 1⟩], 1, 0, 14, 14, [⟨13, 2, 0, 0, 0, 0⟩]⟩) := by kernel_rfl
 have h4 := stepF_idle (ps := [tbP 5 d, tbQ]) (s := ⟨0, [⟨0, 8, 1, 0, ⟨0, d, 0, 1, 0, 0, 0, 5⟩, ⟨11, 3, 4, 5⟩⟩, ⟨1, 0, 1, 0, ⟨0, 0, 0, 0, 0, 0, 0, 0⟩, ⟨11, 0, 4, 5⟩⟩, ⟨1, 0, 1, 0, ⟨0, 0, 0, 0, 0, 0, 0, 1⟩, ⟨11, 0, 4, 5⟩⟩, ⟨1, 0, 1, 0, ⟨0, 0, 0, 0, 0, 0, 0, 2⟩, ⟨11, 0, 4, 5⟩⟩, ⟨1, 0, 1, 0, ⟨0, 0, 0, 0, 0, 0, 0, 3⟩, ⟨11, 0, 4, 5⟩⟩, ⟨1, 0, 1, 0, ⟨0, 0, 0, 0, 0, 0, 0, 4⟩, ⟨11, 0, 4, 5⟩⟩], [], [(0, chO [⟨1, 0, 0⟩, ⟨4, 0, 0⟩, ⟨2, 0, 0⟩, ⟨3, 0, 0⟩, ⟨5, 0, 0⟩]), (1, chE [⟨0, 0, 0⟩])], 1, [⟨1, 0, some 1⟩], 1, [⟨0, d, 1⟩], 1, 0, 14, 14, [⟨13, 2, 0, 0, 0, 0⟩]⟩) (n := ((14 : Nat) : Int)) (by simp [Lim]) rfl
 have h5 := Ex.idle (ps := [tbP 5 d, tbQ]) (i := 15) (n := 125) (s := tbS 5 d [⟨1, 0, 0⟩, ⟨4, 0, 0⟩, ⟨2, 0, 0⟩, ⟨3, 0, 0⟩, ⟨5, 0, 0⟩] 15 15) (by simp [Lim, tbS]) rfl rfl (by simp [tbS]) (by simp [tbS])
 have h6 := Ex.append (exF_Ex h1) (Ex.cons h2 rfl (Ex.append (exF_Ex h3) (Ex.cons h4 rfl h5)))
 exact ⟨_, [⟨1, 0, 0⟩, ⟨4, 0, 0⟩, ⟨2, 0, 0⟩, ⟨3, 0, 0⟩, ⟨5, 0, 0⟩], h6, by simp, by simp, ⟨by simp, by simp, by decide, by simp⟩⟩
theorem tb_first6 {d : Int} (hd : 1 ≤ d ∧ d ≤ 100) : ∃ evs W, Ex [tbP 6 d, tbQ] initS (manyE 0 160) evs (tbS 6 d W 160 160) ∧ (∀ e ∈ evs, e.kind ≠ 1) ∧ evs.length ≤ 100 ∧ TbW 6 W := by
 have a1 : addZ 0 d = d := (addZ_small (by omega) (by omega) (by omega) (by omega)).trans (by omega)
 have h1 : exF [tbP 6 d, tbQ] initS (manyE 0 10) = some ([⟨1, 5, 1, 1, 0, 0⟩, ⟨2, 5, 2, 1, 0, 0⟩, ⟨3, 5, 3, 1, 0, 0⟩, ⟨4, 5, 4, 1, 0, 0⟩, ⟨5, 5, 5, 1, 0, 0⟩, ⟨6, 5, 6, 1, 0, 0⟩, ⟨8, 2, 1, 0, 0, 0⟩, ⟨9, 2, 4, 0, 0, 0⟩], ⟨0, [⟨0, 8, 0, 0, ⟨0, d, 0, 0, 0, 0, 0, 6⟩, zI⟩, ⟨1, 0, 1, 0, ⟨0, 0, 0, 0, 0, 0, 0, 0⟩, ⟨11, 0, 4, 5⟩⟩, ⟨1, 0, 0, 0, ⟨0, 0, 0, 0, 0, 0, 0, 1⟩, zI⟩, ⟨1, 0, 0, 0, ⟨0, 0, 0, 0, 0, 0, 0, 2⟩, zI⟩, ⟨1, 0, 1, 0, ⟨0, 0, 0, 0, 0, 0, 0, 3⟩, ⟨11, 0, 4, 5⟩⟩, ⟨1, 0, 0, 0, ⟨0, 0, 0, 0, 0, 0, 0, 4⟩, zI⟩, ⟨1, 0, 0, 0, ⟨0, 0, 0, 0, 0, 0, 0, 5⟩, zI⟩], [0, 2, 3, 5, 6], [(0, chO [⟨1, 0, 0⟩, ⟨4, 0, 0⟩])], 1, [], 0, [], 0, 0, 10, 10, [⟨9, 2, 4, 0, 0, 0⟩]⟩) := by kernel_rfl
 have h2 : stepF [tbP 6 d, tbQ] ⟨0, [⟨0, 8, 0, 0, ⟨0, d, 0, 0, 0, 0, 0, 6⟩, zI⟩, ⟨1, 0, 1, 0, ⟨0, 0, 0, 0, 0, 0, 0, 0⟩, ⟨11, 0, 4, 5⟩⟩, ⟨1, 0, 0, 0, ⟨0, 0, 0, 0, 0, 0, 0, 1⟩, zI⟩, ⟨1, 0, 0, 0, ⟨0, 0, 0, 0, 0, 0, 0, 2⟩, zI⟩, ⟨1, 0, 1, 0, ⟨0, 0, 0, 0, 0, 0, 0, 3⟩, ⟨11, 0, 4, 5⟩⟩, ⟨1, 0, 0, 0, ⟨0, 0, 0, 0, 0, 0, 0, 4⟩, zI⟩, ⟨1, 0, 0, 0, ⟨0, 0, 0, 0, 0, 0, 0, 5⟩, zI⟩], [0, 2, 3, 5, 6], [(0, chO [⟨1, 0, 0⟩, ⟨4, 0, 0⟩])], 1, [], 0, [], 0, 0, 10, 10, [⟨9, 2, 4, 0, 0, 0⟩]⟩ (.run 10) = some ⟨0, [⟨0, 9, 0, 0, ⟨0, d, 0, 1, 0, 0, 0, 6⟩, zI⟩, ⟨1, 0, 1, 0, ⟨0, 0, 0, 0, 0, 0, 0, 0⟩, ⟨11, 0, 4, 5⟩⟩, ⟨1, 0, 0, 0, ⟨0, 0, 0, 0, 0, 0, 0, 1⟩, zI⟩, ⟨1, 0, 0, 0, ⟨0, 0, 0, 0, 0, 0, 0, 2⟩, zI⟩, ⟨1, 0, 1, 0, ⟨0, 0, 0, 0, 0, 0, 0, 3⟩, ⟨11, 0, 4, 5⟩⟩, ⟨1, 0, 0, 0, ⟨0, 0, 0, 0, 0, 0, 0, 4⟩, zI⟩, ⟨1, 0, 0, 0, ⟨0, 0, 0, 0, 0, 0, 0, 5⟩, zI⟩], [0, 2, 3, 5, 6], [(0, chO [⟨1, 0, 0⟩, ⟨4, 0, 0⟩]), (1, chE [])], 1, [⟨1, 0, some 1⟩], 1, [⟨0, d, 1⟩], 1, 0, 11, 11, []⟩ := by
  refine Eq.trans (stepF_act (i := 0) (x := ⟨0, 8, 0, 0, ⟨0, d, 0, 0, 0, 0, 0, 6⟩, zI⟩) (p := tbP 6 d) (ins := ⟨17, 2, 1, 3⟩) (rr := some ⟨0, d, 0, 1, 0, 0, 0, 6⟩) (s2 := timerS ⟨0, [⟨0, 8, 0, 0, ⟨0, d, 0, 0, 0, 0, 0, 6⟩, zI⟩, ⟨1, 0, 1, 0, ⟨0, 0, 0, 0, 0, 0, 0, 0⟩, ⟨11, 0, 4, 5⟩⟩, ⟨1, 0, 0, 0, ⟨0, 0, 0, 0, 0, 0, 0, 1⟩, zI⟩, ⟨1, 0, 0, 0, ⟨0, 0, 0, 0, 0, 0, 0, 2⟩, zI⟩, ⟨1, 0, 1, 0, ⟨0, 0, 0, 0, 0, 0, 0, 3⟩, ⟨11, 0, 4, 5⟩⟩, ⟨1, 0, 0, 0, ⟨0, 0, 0, 0, 0, 0, 0, 4⟩, zI⟩, ⟨1, 0, 0, 0, ⟨0, 0, 0, 0, 0, 0, 0, 5⟩, zI⟩], [0, 2, 3, 5, 6], [(0, chO [⟨1, 0, 0⟩, ⟨4, 0, 0⟩])], 1, [], 0, [], 0, 0, 11, 10, []⟩ d 1) (by simp [Lim]) (by simp) (by kernel_rfl) rfl rfl ⟨rfl, by simp, by simp⟩ rfl rfl ?_ rfl (by simp [timerS])) ?_
  ·have h1 : 0 ≤ d := by omega
   have h2 : d ≤ 1000000 := by omega
   simp [actF, actGo, actRecv, actMake, actClose, actTimer, RegOK, Reg.get, Reg.set, h1, h2]
  ·simp [timerS, putS, a1, delL, insL, chE]
 have h3 : exF [tbP 6 d, tbQ] ⟨0, [⟨0, 9, 0, 0, ⟨0, d, 0, 1, 0, 0, 0, 6⟩, zI⟩, ⟨1, 0, 1, 0, ⟨0, 0, 0, 0, 0, 0, 0, 0⟩, ⟨11, 0, 4, 5⟩⟩, ⟨1, 0, 0, 0, ⟨0, 0, 0, 0, 0, 0, 0, 1⟩, zI⟩, ⟨1, 0, 0, 0, ⟨0, 0, 0, 0, 0, 0, 0, 2⟩, zI⟩, ⟨1, 0, 1, 0, ⟨0, 0, 0, 0, 0, 0, 0, 3⟩, ⟨11, 0, 4, 5⟩⟩, ⟨1, 0, 0, 0, ⟨0, 0, 0, 0, 0, 0, 0, 4⟩, zI⟩, ⟨1, 0, 0, 0, ⟨0, 0, 0, 0, 0, 0, 0, 5⟩, zI⟩], [0, 2, 3, 5, 6], [(0, chO [⟨1, 0, 0⟩, ⟨4, 0, 0⟩]), (1, chE [])], 1, [⟨1, 0, some 1⟩], 1, [⟨0, d, 1⟩], 1, 0, 11, 11, []⟩ (manyE 11 5) = some ([⟨11, 2, 2, 0, 0, 0⟩, ⟨12, 2, 0, 0, 0, 0⟩, ⟨13, 2, 5, 0, 0, 0⟩, ⟨14, 2, 3, 0, 0, 0⟩, ⟨15, 2, 6, 0, 0, 0⟩], ⟨0, [⟨0, 9, 1, 0, ⟨0, d, 0, 1, 0, 0, 0, 6⟩, ⟨11, 3, 4, 5⟩⟩, ⟨1, 0, 1, 0, ⟨0, 0, 0, 0, 0, 0, 0, 0⟩, ⟨11, 0, 4, 5⟩⟩, ⟨1, 0, 1, 0, ⟨0, 0, 0, 0, 0, 0, 0, 1⟩, ⟨11, 0, 4, 5⟩⟩, ⟨1, 0, 1, 0, ⟨0, 0, 0, 0, 0, 0, 0, 2⟩, ⟨11, 0, 4, 5⟩⟩, ⟨1, 0, 1, 0, ⟨0, 0, 0, 0, 0, 0, 0, 3⟩, ⟨11, 0, 4, 5⟩⟩, ⟨1, 0, 1, 0, ⟨0, 0, 0, 0, 0, 0, 0, 4⟩, ⟨11, 0, 4, 5⟩⟩, ⟨1, 0, 1, 0, ⟨0, 0, 0, 0, 0, 0, 0, 5⟩, ⟨11, 0, 4, 5⟩⟩], [], [(0, chO [⟨1, 0, 0⟩, ⟨4, 0, 0⟩, ⟨2, 0, 0⟩, ⟨5, 0, 0⟩, ⟨3, 0, 0⟩, ⟨6, 0, 0⟩]), (1, chE [⟨0, 0, 0⟩])], 1, [⟨1, 0, some 1⟩], 1, [⟨0, d, 1⟩], 1, 0, 16, 16, [⟨15, 2, 6, 0, 0, 0⟩]⟩) := by kernel_rfl
 have h4 := stepF_idle (ps := [tbP 6 d, tbQ]) (s := ⟨0, [⟨0, 9, 1, 0, ⟨0, d, 0, 1, 0, 0, 0, 6⟩, ⟨11, 3, 4, 5⟩⟩, ⟨1, 0, 1, 0, ⟨0, 0, 0, 0, 0, 0, 0, 0⟩, ⟨11, 0, 4, 5⟩⟩, ⟨1, 0, 1, 0, ⟨0, 0, 0, 0, 0, 0, 0, 1⟩, ⟨11, 0, 4, 5⟩⟩, ⟨1, 0, 1, 0, ⟨0, 0, 0, 0, 0, 0, 0, 2⟩, ⟨11, 0, 4, 5⟩⟩, ⟨1, 0, 1, 0, ⟨0, 0, 0, 0, 0, 0, 0, 3⟩, ⟨11, 0, 4, 5⟩⟩, ⟨1, 0, 1, 0, ⟨0, 0, 0, 0, 0, 0, 0, 4⟩, ⟨11, 0, 4, 5⟩⟩, ⟨1, 0, 1, 0, ⟨0, 0, 0, 0, 0, 0, 0, 5⟩, ⟨11, 0, 4, 5⟩⟩], [], [(0, chO [⟨1, 0, 0⟩, ⟨4, 0, 0⟩, ⟨2, 0, 0⟩, ⟨5, 0, 0⟩, ⟨3, 0, 0⟩, ⟨6, 0, 0⟩]), (1, chE [⟨0, 0, 0⟩])], 1, [⟨1, 0, some 1⟩], 1, [⟨0, d, 1⟩], 1, 0, 16, 16, [⟨15, 2, 6, 0, 0, 0⟩]⟩) (n := ((16 : Nat) : Int)) (by simp [Lim]) rfl
 have h5 := Ex.idle (ps := [tbP 6 d, tbQ]) (i := 17) (n := 143) (s := tbS 6 d [⟨1, 0, 0⟩, ⟨4, 0, 0⟩, ⟨2, 0, 0⟩, ⟨5, 0, 0⟩, ⟨3, 0, 0⟩, ⟨6, 0, 0⟩] 17 17) (by simp [Lim, tbS]) rfl rfl (by simp [tbS]) (by simp [tbS])
 have h6 := Ex.append (exF_Ex h1) (Ex.cons h2 rfl (Ex.append (exF_Ex h3) (Ex.cons h4 rfl h5)))
 exact ⟨_, [⟨1, 0, 0⟩, ⟨4, 0, 0⟩, ⟨2, 0, 0⟩, ⟨5, 0, 0⟩, ⟨3, 0, 0⟩, ⟨6, 0, 0⟩], h6, by simp, by simp, ⟨by simp, by simp, by decide, by simp⟩⟩
theorem tb_first7 {d : Int} (hd : 1 ≤ d ∧ d ≤ 100) : ∃ evs W, Ex [tbP 7 d, tbQ] initS (manyE 0 180) evs (tbS 7 d W 180 180) ∧ (∀ e ∈ evs, e.kind ≠ 1) ∧ evs.length ≤ 100 ∧ TbW 7 W := by
 have a1 : addZ 0 d = d := (addZ_small (by omega) (by omega) (by omega) (by omega)).trans (by omega)
 have h1 : exF [tbP 7 d, tbQ] initS (manyE 0 16) = some ([⟨1, 5, 1, 1, 0, 0⟩, ⟨2, 5, 2, 1, 0, 0⟩, ⟨3, 5, 3, 1, 0, 0⟩, ⟨4, 5, 4, 1, 0, 0⟩, ⟨5, 5, 5, 1, 0, 0⟩, ⟨6, 5, 6, 1, 0, 0⟩, ⟨7, 5, 7, 1, 0, 0⟩, ⟨9, 2, 1, 0, 0, 0⟩, ⟨10, 2, 4, 0, 0, 0⟩, ⟨11, 2, 7, 0, 0, 0⟩, ⟨12, 2, 3, 0, 0, 0⟩, ⟨13, 2, 2, 0, 0, 0⟩, ⟨14, 2, 6, 0, 0, 0⟩, ⟨15, 2, 5, 0, 0, 0⟩], ⟨0, [⟨0, 9, 0, 0, ⟨0, d, 0, 0, 0, 0, 0, 7⟩, zI⟩, ⟨1, 0, 1, 0, ⟨0, 0, 0, 0, 0, 0, 0, 0⟩, ⟨11, 0, 4, 5⟩⟩, ⟨1, 0, 1, 0, ⟨0, 0, 0, 0, 0, 0, 0, 1⟩, ⟨11, 0, 4, 5⟩⟩, ⟨1, 0, 1, 0, ⟨0, 0, 0, 0, 0, 0, 0, 2⟩, ⟨11, 0, 4, 5⟩⟩, ⟨1, 0, 1, 0, ⟨0, 0, 0, 0, 0, 0, 0, 3⟩, ⟨11, 0, 4, 5⟩⟩, ⟨1, 0, 1, 0, ⟨0, 0, 0, 0, 0, 0, 0, 4⟩, ⟨11, 0, 4, 5⟩⟩, ⟨1, 0, 1, 0, ⟨0, 0, 0, 0, 0, 0, 0, 5⟩, ⟨11, 0, 4, 5⟩⟩, ⟨1, 0, 1, 0, ⟨0, 0, 0, 0, 0, 0, 0, 6⟩, ⟨11, 0, 4, 5⟩⟩], [0], [(0, chO [⟨1, 0, 0⟩, ⟨4, 0, 0⟩, ⟨7, 0, 0⟩, ⟨3, 0, 0⟩, ⟨2, 0, 0⟩, ⟨6, 0, 0⟩, ⟨5, 0, 0⟩])], 1, [], 0, [], 0, 0, 16, 16, [⟨15, 2, 5, 0, 0, 0⟩]⟩) := by kernel_rfl
 have h2 : stepF [tbP 7 d, tbQ] ⟨0, [⟨0, 9, 0, 0, ⟨0, d, 0, 0, 0, 0, 0, 7⟩, zI⟩, ⟨1, 0, 1, 0, ⟨0, 0, 0, 0, 0, 0, 0, 0⟩, ⟨11, 0, 4, 5⟩⟩, ⟨1, 0, 1, 0, ⟨0, 0, 0, 0, 0, 0, 0, 1⟩, ⟨11, 0, 4, 5⟩⟩, ⟨1, 0, 1, 0, ⟨0, 0, 0, 0, 0, 0, 0, 2⟩, ⟨11, 0, 4, 5⟩⟩, ⟨1, 0, 1, 0, ⟨0, 0, 0, 0, 0, 0, 0, 3⟩, ⟨11, 0, 4, 5⟩⟩, ⟨1, 0, 1, 0, ⟨0, 0, 0, 0, 0, 0, 0, 4⟩, ⟨11, 0, 4, 5⟩⟩, ⟨1, 0, 1, 0, ⟨0, 0, 0, 0, 0, 0, 0, 5⟩, ⟨11, 0, 4, 5⟩⟩, ⟨1, 0, 1, 0, ⟨0, 0, 0, 0, 0, 0, 0, 6⟩, ⟨11, 0, 4, 5⟩⟩], [0], [(0, chO [⟨1, 0, 0⟩, ⟨4, 0, 0⟩, ⟨7, 0, 0⟩, ⟨3, 0, 0⟩, ⟨2, 0, 0⟩, ⟨6, 0, 0⟩, ⟨5, 0, 0⟩])], 1, [], 0, [], 0, 0, 16, 16, [⟨15, 2, 5, 0, 0, 0⟩]⟩ (.run 16) = some ⟨0, [⟨0, 10, 0, 0, ⟨0, d, 0, 1, 0, 0, 0, 7⟩, zI⟩, ⟨1, 0, 1, 0, ⟨0, 0, 0, 0, 0, 0, 0, 0⟩, ⟨11, 0, 4, 5⟩⟩, ⟨1, 0, 1, 0, ⟨0, 0, 0, 0, 0, 0, 0, 1⟩, ⟨11, 0, 4, 5⟩⟩, ⟨1, 0, 1, 0, ⟨0, 0, 0, 0, 0, 0, 0, 2⟩, ⟨11, 0, 4, 5⟩⟩, ⟨1, 0, 1, 0, ⟨0, 0, 0, 0, 0, 0, 0, 3⟩, ⟨11, 0, 4, 5⟩⟩, ⟨1, 0, 1, 0, ⟨0, 0, 0, 0, 0, 0, 0, 4⟩, ⟨11, 0, 4, 5⟩⟩, ⟨1, 0, 1, 0, ⟨0, 0, 0, 0, 0, 0, 0, 5⟩, ⟨11, 0, 4, 5⟩⟩, ⟨1, 0, 1, 0, ⟨0, 0, 0, 0, 0, 0, 0, 6⟩, ⟨11, 0, 4, 5⟩⟩], [0], [(0, chO [⟨1, 0, 0⟩, ⟨4, 0, 0⟩, ⟨7, 0, 0⟩, ⟨3, 0, 0⟩, ⟨2, 0, 0⟩, ⟨6, 0, 0⟩, ⟨5, 0, 0⟩]), (1, chE [])], 1, [⟨1, 0, some 1⟩], 1, [⟨0, d, 1⟩], 1, 0, 17, 17, []⟩ := by
  refine Eq.trans (stepF_act (i := 0) (x := ⟨0, 9, 0, 0, ⟨0, d, 0, 0, 0, 0, 0, 7⟩, zI⟩) (p := tbP 7 d) (ins := ⟨17, 2, 1, 3⟩) (rr := some ⟨0, d, 0, 1, 0, 0, 0, 7⟩) (s2 := timerS ⟨0, [⟨0, 9, 0, 0, ⟨0, d, 0, 0, 0, 0, 0, 7⟩, zI⟩, ⟨1, 0, 1, 0, ⟨0, 0, 0, 0, 0, 0, 0, 0⟩, ⟨11, 0, 4, 5⟩⟩, ⟨1, 0, 1, 0, ⟨0, 0, 0, 0, 0, 0, 0, 1⟩, ⟨11, 0, 4, 5⟩⟩, ⟨1, 0, 1, 0, ⟨0, 0, 0, 0, 0, 0, 0, 2⟩, ⟨11, 0, 4, 5⟩⟩, ⟨1, 0, 1, 0, ⟨0, 0, 0, 0, 0, 0, 0, 3⟩, ⟨11, 0, 4, 5⟩⟩, ⟨1, 0, 1, 0, ⟨0, 0, 0, 0, 0, 0, 0, 4⟩, ⟨11, 0, 4, 5⟩⟩, ⟨1, 0, 1, 0, ⟨0, 0, 0, 0, 0, 0, 0, 5⟩, ⟨11, 0, 4, 5⟩⟩, ⟨1, 0, 1, 0, ⟨0, 0, 0, 0, 0, 0, 0, 6⟩, ⟨11, 0, 4, 5⟩⟩], [0], [(0, chO [⟨1, 0, 0⟩, ⟨4, 0, 0⟩, ⟨7, 0, 0⟩, ⟨3, 0, 0⟩, ⟨2, 0, 0⟩, ⟨6, 0, 0⟩, ⟨5, 0, 0⟩])], 1, [], 0, [], 0, 0, 17, 16, []⟩ d 1) (by simp [Lim]) (by simp) (by kernel_rfl) rfl rfl ⟨rfl, by simp, by simp⟩ rfl rfl ?_ rfl (by simp [timerS])) ?_
  ·have h1 : 0 ≤ d := by omega
   have h2 : d ≤ 1000000 := by omega
   simp [actF, actGo, actRecv, actMake, actClose, actTimer, RegOK, Reg.get, Reg.set, h1, h2]
  ·simp [timerS, putS, a1, delL, insL, chE]
 have h3 : exF [tbP 7 d, tbQ] ⟨0, [⟨0, 10, 0, 0, ⟨0, d, 0, 1, 0, 0, 0, 7⟩, zI⟩, ⟨1, 0, 1, 0, ⟨0, 0, 0, 0, 0, 0, 0, 0⟩, ⟨11, 0, 4, 5⟩⟩, ⟨1, 0, 1, 0, ⟨0, 0, 0, 0, 0, 0, 0, 1⟩, ⟨11, 0, 4, 5⟩⟩, ⟨1, 0, 1, 0, ⟨0, 0, 0, 0, 0, 0, 0, 2⟩, ⟨11, 0, 4, 5⟩⟩, ⟨1, 0, 1, 0, ⟨0, 0, 0, 0, 0, 0, 0, 3⟩, ⟨11, 0, 4, 5⟩⟩, ⟨1, 0, 1, 0, ⟨0, 0, 0, 0, 0, 0, 0, 4⟩, ⟨11, 0, 4, 5⟩⟩, ⟨1, 0, 1, 0, ⟨0, 0, 0, 0, 0, 0, 0, 5⟩, ⟨11, 0, 4, 5⟩⟩, ⟨1, 0, 1, 0, ⟨0, 0, 0, 0, 0, 0, 0, 6⟩, ⟨11, 0, 4, 5⟩⟩], [0], [(0, chO [⟨1, 0, 0⟩, ⟨4, 0, 0⟩, ⟨7, 0, 0⟩, ⟨3, 0, 0⟩, ⟨2, 0, 0⟩, ⟨6, 0, 0⟩, ⟨5, 0, 0⟩]), (1, chE [])], 1, [⟨1, 0, some 1⟩], 1, [⟨0, d, 1⟩], 1, 0, 17, 17, []⟩ (manyE 17 1) = some ([⟨17, 2, 0, 0, 0, 0⟩], ⟨0, [⟨0, 10, 1, 0, ⟨0, d, 0, 1, 0, 0, 0, 7⟩, ⟨11, 3, 4, 5⟩⟩, ⟨1, 0, 1, 0, ⟨0, 0, 0, 0, 0, 0, 0, 0⟩, ⟨11, 0, 4, 5⟩⟩, ⟨1, 0, 1, 0, ⟨0, 0, 0, 0, 0, 0, 0, 1⟩, ⟨11, 0, 4, 5⟩⟩, ⟨1, 0, 1, 0, ⟨0, 0, 0, 0, 0, 0, 0, 2⟩, ⟨11, 0, 4, 5⟩⟩, ⟨1, 0, 1, 0, ⟨0, 0, 0, 0, 0, 0, 0, 3⟩, ⟨11, 0, 4, 5⟩⟩, ⟨1, 0, 1, 0, ⟨0, 0, 0, 0, 0, 0, 0, 4⟩, ⟨11, 0, 4, 5⟩⟩, ⟨1, 0, 1, 0, ⟨0, 0, 0, 0, 0, 0, 0, 5⟩, ⟨11, 0, 4, 5⟩⟩, ⟨1, 0, 1, 0, ⟨0, 0, 0, 0, 0, 0, 0, 6⟩, ⟨11, 0, 4, 5⟩⟩], [], [(0, chO [⟨1, 0, 0⟩, ⟨4, 0, 0⟩, ⟨7, 0, 0⟩, ⟨3, 0, 0⟩, ⟨2, 0, 0⟩, ⟨6, 0, 0⟩, ⟨5, 0, 0⟩]), (1, chE [⟨0, 0, 0⟩])], 1, [⟨1, 0, some 1⟩], 1, [⟨0, d, 1⟩], 1, 0, 18, 18, [⟨17, 2, 0, 0, 0, 0⟩]⟩) := by kernel_rfl
 have h4 := stepF_idle (ps := [tbP 7 d, tbQ]) (s := ⟨0, [⟨0, 10, 1, 0, ⟨0, d, 0, 1, 0, 0, 0, 7⟩, ⟨11, 3, 4, 5⟩⟩, ⟨1, 0, 1, 0, ⟨0, 0, 0, 0, 0, 0, 0, 0⟩, ⟨11, 0, 4, 5⟩⟩, ⟨1, 0, 1, 0, ⟨0, 0, 0, 0, 0, 0, 0, 1⟩, ⟨11, 0, 4, 5⟩⟩, ⟨1, 0, 1, 0, ⟨0, 0, 0, 0, 0, 0, 0, 2⟩, ⟨11, 0, 4, 5⟩⟩, ⟨1, 0, 1, 0, ⟨0, 0, 0, 0, 0, 0, 0, 3⟩, ⟨11, 0, 4, 5⟩⟩, ⟨1, 0, 1, 0, ⟨0, 0, 0, 0, 0, 0, 0, 4⟩, ⟨11, 0, 4, 5⟩⟩, ⟨1, 0, 1, 0, ⟨0, 0, 0, 0, 0, 0, 0, 5⟩, ⟨11, 0, 4, 5⟩⟩, ⟨1, 0, 1, 0, ⟨0, 0, 0, 0, 0, 0, 0, 6⟩, ⟨11, 0, 4, 5⟩⟩], [], [(0, chO [⟨1, 0, 0⟩, ⟨4, 0, 0⟩, ⟨7, 0, 0⟩, ⟨3, 0, 0⟩, ⟨2, 0, 0⟩, ⟨6, 0, 0⟩, ⟨5, 0, 0⟩]), (1, chE [⟨0, 0, 0⟩])], 1, [⟨1, 0, some 1⟩], 1, [⟨0, d, 1⟩], 1, 0, 18, 18, [⟨17, 2, 0, 0, 0, 0⟩]⟩) (n := ((18 : Nat) : Int)) (by simp [Lim]) rfl
 have h5 := Ex.idle (ps := [tbP 7 d, tbQ]) (i := 19) (n := 161) (s := tbS 7 d [⟨1, 0, 0⟩, ⟨4, 0, 0⟩, ⟨7, 0, 0⟩, ⟨3, 0, 0⟩, ⟨2, 0, 0⟩, ⟨6, 0, 0⟩, ⟨5, 0, 0⟩] 19 19) (by simp [Lim, tbS]) rfl rfl (by simp [tbS]) (by simp [tbS])
 have h6 := Ex.append (exF_Ex h1) (Ex.cons h2 rfl (Ex.append (exF_Ex h3) (Ex.cons h4 rfl h5)))
 exact ⟨_, [⟨1, 0, 0⟩, ⟨4, 0, 0⟩, ⟨7, 0, 0⟩, ⟨3, 0, 0⟩, ⟨2, 0, 0⟩, ⟨6, 0, 0⟩, ⟨5, 0, 0⟩], h6, by simp, by simp, ⟨by simp, by simp, by decide, by simp⟩⟩
theorem tb_first8 {d : Int} (hd : 1 ≤ d ∧ d ≤ 100) : ∃ evs W, Ex [tbP 8 d, tbQ] initS (manyE 0 200) evs (tbS 8 d W 200 200) ∧ (∀ e ∈ evs, e.kind ≠ 1) ∧ evs.length ≤ 100 ∧ TbW 8 W := by
 have a1 : addZ 0 d = d := (addZ_small (by omega) (by omega) (by omega) (by omega)).trans (by omega)
 have h1 : exF [tbP 8 d, tbQ] initS (manyE 0 18) = some ([⟨1, 5, 1, 1, 0, 0⟩, ⟨2, 5, 2, 1, 0, 0⟩, ⟨3, 5, 3, 1, 0, 0⟩, ⟨4, 5, 4, 1, 0, 0⟩, ⟨5, 5, 5, 1, 0, 0⟩, ⟨6, 5, 6, 1, 0, 0⟩, ⟨7, 5, 7, 1, 0, 0⟩, ⟨8, 5, 8, 1, 0, 0⟩, ⟨10, 2, 1, 0, 0, 0⟩, ⟨11, 2, 4, 0, 0, 0⟩, ⟨12, 2, 7, 0, 0, 0⟩, ⟨13, 2, 2, 0, 0, 0⟩, ⟨14, 2, 8, 0, 0, 0⟩, ⟨15, 2, 6, 0, 0, 0⟩, ⟨16, 2, 3, 0, 0, 0⟩, ⟨17, 2, 5, 0, 0, 0⟩], ⟨0, [⟨0, 10, 0, 0, ⟨0, d, 0, 0, 0, 0, 0, 8⟩, zI⟩, ⟨1, 0, 1, 0, ⟨0, 0, 0, 0, 0, 0, 0, 0⟩, ⟨11, 0, 4, 5⟩⟩, ⟨1, 0, 1, 0, ⟨0, 0, 0, 0, 0, 0, 0, 1⟩, ⟨11, 0, 4, 5⟩⟩, ⟨1, 0, 1, 0, ⟨0, 0, 0, 0, 0, 0, 0, 2⟩, ⟨11, 0, 4, 5⟩⟩, ⟨1, 0, 1, 0, ⟨0, 0, 0, 0, 0, 0, 0, 3⟩, ⟨11, 0, 4, 5⟩⟩, ⟨1, 0, 1, 0, ⟨0, 0, 0, 0, 0, 0, 0, 4⟩, ⟨11, 0, 4, 5⟩⟩, ⟨1, 0, 1, 0, ⟨0, 0, 0, 0, 0, 0, 0, 5⟩, ⟨11, 0, 4, 5⟩⟩, ⟨1, 0, 1, 0, ⟨0, 0, 0, 0, 0, 0, 0, 6⟩, ⟨11, 0, 4, 5⟩⟩, ⟨1, 0, 1, 0, ⟨0, 0, 0, 0, 0, 0, 0, 7⟩, ⟨11, 0, 4, 5⟩⟩], [0], [(0, chO [⟨1, 0, 0⟩, ⟨4, 0, 0⟩, ⟨7, 0, 0⟩, ⟨2, 0, 0⟩, ⟨8, 0, 0⟩, ⟨6, 0, 0⟩, ⟨3, 0, 0⟩, ⟨5, 0, 0⟩])], 1, [], 0, [], 0, 0, 18, 18, [⟨17, 2, 5, 0, 0, 0⟩]⟩) := by kernel_rfl
 have h2 : stepF [tbP 8 d, tbQ] ⟨0, [⟨0, 10, 0, 0, ⟨0, d, 0, 0, 0, 0, 0, 8⟩, zI⟩, ⟨1, 0, 1, 0, ⟨0, 0, 0, 0, 0, 0, 0, 0⟩, ⟨11, 0, 4, 5⟩⟩, ⟨1, 0, 1, 0, ⟨0, 0, 0, 0, 0, 0, 0, 1⟩, ⟨11, 0, 4, 5⟩⟩, ⟨1, 0, 1, 0, ⟨0, 0, 0, 0, 0, 0, 0, 2⟩, ⟨11, 0, 4, 5⟩⟩, ⟨1, 0, 1, 0, ⟨0, 0, 0, 0, 0, 0, 0, 3⟩, ⟨11, 0, 4, 5⟩⟩, ⟨1, 0, 1, 0, ⟨0, 0, 0, 0, 0, 0, 0, 4⟩, ⟨11, 0, 4, 5⟩⟩, ⟨1, 0, 1, 0, ⟨0, 0, 0, 0, 0, 0, 0, 5⟩, ⟨11, 0, 4, 5⟩⟩, ⟨1, 0, 1, 0, ⟨0, 0, 0, 0, 0, 0, 0, 6⟩, ⟨11, 0, 4, 5⟩⟩, ⟨1, 0, 1, 0, ⟨0, 0, 0, 0, 0, 0, 0, 7⟩, ⟨11, 0, 4, 5⟩⟩], [0], [(0, chO [⟨1, 0, 0⟩, ⟨4, 0, 0⟩, ⟨7, 0, 0⟩, ⟨2, 0, 0⟩, ⟨8, 0, 0⟩, ⟨6, 0, 0⟩, ⟨3, 0, 0⟩, ⟨5, 0, 0⟩])], 1, [], 0, [], 0, 0, 18, 18, [⟨17, 2, 5, 0, 0, 0⟩]⟩ (.run 18) = some ⟨0, [⟨0, 11, 0, 0, ⟨0, d, 0, 1, 0, 0, 0, 8⟩, zI⟩, ⟨1, 0, 1, 0, ⟨0, 0, 0, 0, 0, 0, 0, 0⟩, ⟨11, 0, 4, 5⟩⟩, ⟨1, 0, 1, 0, ⟨0, 0, 0, 0, 0, 0, 0, 1⟩, ⟨11, 0, 4, 5⟩⟩, ⟨1, 0, 1, 0, ⟨0, 0, 0, 0, 0, 0, 0, 2⟩, ⟨11, 0, 4, 5⟩⟩, ⟨1, 0, 1, 0, ⟨0, 0, 0, 0, 0, 0, 0, 3⟩, ⟨11, 0, 4, 5⟩⟩, ⟨1, 0, 1, 0, ⟨0, 0, 0, 0, 0, 0, 0, 4⟩, ⟨11, 0, 4, 5⟩⟩, ⟨1, 0, 1, 0, ⟨0, 0, 0, 0, 0, 0, 0, 5⟩, ⟨11, 0, 4, 5⟩⟩, ⟨1, 0, 1, 0, ⟨0, 0, 0, 0, 0, 0, 0, 6⟩, ⟨11, 0, 4, 5⟩⟩, ⟨1, 0, 1, 0, ⟨0, 0, 0, 0, 0, 0, 0, 7⟩, ⟨11, 0, 4, 5⟩⟩], [0], [(0, chO [⟨1, 0, 0⟩, ⟨4, 0, 0⟩, ⟨7, 0, 0⟩, ⟨2, 0, 0⟩, ⟨8, 0, 0⟩, ⟨6, 0, 0⟩, ⟨3, 0, 0⟩, ⟨5, 0, 0⟩]), (1, chE [])], 1, [⟨1, 0, some 1⟩], 1, [⟨0, d, 1⟩], 1, 0, 19, 19, []⟩ := by
  refine Eq.trans (stepF_act (i := 0) (x := ⟨0, 10, 0, 0, ⟨0, d, 0, 0, 0, 0, 0, 8⟩, zI⟩) (p := tbP 8 d) (ins := ⟨17, 2, 1, 3⟩) (rr := some ⟨0, d, 0, 1, 0, 0, 0, 8⟩) (s2 := timerS ⟨0, [⟨0, 10, 0, 0, ⟨0, d, 0, 0, 0, 0, 0, 8⟩, zI⟩, ⟨1, 0, 1, 0, ⟨0, 0, 0, 0, 0, 0, 0, 0⟩, ⟨11, 0, 4, 5⟩⟩, ⟨1, 0, 1, 0, ⟨0, 0, 0, 0, 0, 0, 0, 1⟩, ⟨11, 0, 4, 5⟩⟩, ⟨1, 0, 1, 0, ⟨0, 0, 0, 0, 0, 0, 0, 2⟩, ⟨11, 0, 4, 5⟩⟩, ⟨1, 0, 1, 0, ⟨0, 0, 0, 0, 0, 0, 0, 3⟩, ⟨11, 0, 4, 5⟩⟩, ⟨1, 0, 1, 0, ⟨0, 0, 0, 0, 0, 0, 0, 4⟩, ⟨11, 0, 4, 5⟩⟩, ⟨1, 0, 1, 0, ⟨0, 0, 0, 0, 0, 0, 0, 5⟩, ⟨11, 0, 4, 5⟩⟩, ⟨1, 0, 1, 0, ⟨0, 0, 0, 0, 0, 0, 0, 6⟩, ⟨11, 0, 4, 5⟩⟩, ⟨1, 0, 1, 0, ⟨0, 0, 0, 0, 0, 0, 0, 7⟩, ⟨11, 0, 4, 5⟩⟩], [0], [(0, chO [⟨1, 0, 0⟩, ⟨4, 0, 0⟩, ⟨7, 0, 0⟩, ⟨2, 0, 0⟩, ⟨8, 0, 0⟩, ⟨6, 0, 0⟩, ⟨3, 0, 0⟩, ⟨5, 0, 0⟩])], 1, [], 0, [], 0, 0, 19, 18, []⟩ d 1) (by simp [Lim]) (by simp) (by kernel_rfl) rfl rfl ⟨rfl, by simp, by simp⟩ rfl rfl ?_ rfl (by simp [timerS])) ?_
  ·have h1 : 0 ≤ d := by omega
   have h2 : d ≤ 1000000 := by omega
   simp [actF, actGo, actRecv, actMake, actClose, actTimer, RegOK, Reg.get, Reg.set, h1, h2]
  ·simp [timerS, putS, a1, delL, insL, chE]
 have h3 : exF [tbP 8 d, tbQ] ⟨0, [⟨0, 11, 0, 0, ⟨0, d, 0, 1, 0, 0, 0, 8⟩, zI⟩, ⟨1, 0, 1, 0, ⟨0, 0, 0, 0, 0, 0, 0, 0⟩, ⟨11, 0, 4, 5⟩⟩, ⟨1, 0, 1, 0, ⟨0, 0, 0, 0, 0, 0, 0, 1⟩, ⟨11, 0, 4, 5⟩⟩, ⟨1, 0, 1, 0, ⟨0, 0, 0, 0, 0, 0, 0, 2⟩, ⟨11, 0, 4, 5⟩⟩, ⟨1, 0, 1, 0, ⟨0, 0, 0, 0, 0, 0, 0, 3⟩, ⟨11, 0, 4, 5⟩⟩, ⟨1, 0, 1, 0, ⟨0, 0, 0, 0, 0, 0, 0, 4⟩, ⟨11, 0, 4, 5⟩⟩, ⟨1, 0, 1, 0, ⟨0, 0, 0, 0, 0, 0, 0, 5⟩, ⟨11, 0, 4, 5⟩⟩, ⟨1, 0, 1, 0, ⟨0, 0, 0, 0, 0, 0, 0, 6⟩, ⟨11, 0, 4, 5⟩⟩, ⟨1, 0, 1, 0, ⟨0, 0, 0, 0, 0, 0, 0, 7⟩, ⟨11, 0, 4, 5⟩⟩], [0], [(0, chO [⟨1, 0, 0⟩, ⟨4, 0, 0⟩, ⟨7, 0, 0⟩, ⟨2, 0, 0⟩, ⟨8, 0, 0⟩, ⟨6, 0, 0⟩, ⟨3, 0, 0⟩, ⟨5, 0, 0⟩]), (1, chE [])], 1, [⟨1, 0, some 1⟩], 1, [⟨0, d, 1⟩], 1, 0, 19, 19, []⟩ (manyE 19 1) = some ([⟨19, 2, 0, 0, 0, 0⟩], ⟨0, [⟨0, 11, 1, 0, ⟨0, d, 0, 1, 0, 0, 0, 8⟩, ⟨11, 3, 4, 5⟩⟩, ⟨1, 0, 1, 0, ⟨0, 0, 0, 0, 0, 0, 0, 0⟩, ⟨11, 0, 4, 5⟩⟩, ⟨1, 0, 1, 0, ⟨0, 0, 0, 0, 0, 0, 0, 1⟩, ⟨11, 0, 4, 5⟩⟩, ⟨1, 0, 1, 0, ⟨0, 0, 0, 0, 0, 0, 0, 2⟩, ⟨11, 0, 4, 5⟩⟩, ⟨1, 0, 1, 0, ⟨0, 0, 0, 0, 0, 0, 0, 3⟩, ⟨11, 0, 4, 5⟩⟩, ⟨1, 0, 1, 0, ⟨0, 0, 0, 0, 0, 0, 0, 4⟩, ⟨11, 0, 4, 5⟩⟩, ⟨1, 0, 1, 0, ⟨0, 0, 0, 0, 0, 0, 0, 5⟩, ⟨11, 0, 4, 5⟩⟩, ⟨1, 0, 1, 0, ⟨0, 0, 0, 0, 0, 0, 0, 6⟩, ⟨11, 0, 4, 5⟩⟩, ⟨1, 0, 1, 0, ⟨0, 0, 0, 0, 0, 0, 0, 7⟩, ⟨11, 0, 4, 5⟩⟩], [], [(0, chO [⟨1, 0, 0⟩, ⟨4, 0, 0⟩, ⟨7, 0, 0⟩, ⟨2, 0, 0⟩, ⟨8, 0, 0⟩, ⟨6, 0, 0⟩, ⟨3, 0, 0⟩, ⟨5, 0, 0⟩]), (1, chE [⟨0, 0, 0⟩])], 1, [⟨1, 0, some 1⟩], 1, [⟨0, d, 1⟩], 1, 0, 20, 20, [⟨19, 2, 0, 0, 0, 0⟩]⟩) := by kernel_rfl
 have h4 := stepF_idle (ps := [tbP 8 d, tbQ]) (s := ⟨0, [⟨0, 11, 1, 0, ⟨0, d, 0, 1, 0, 0, 0, 8⟩, ⟨11, 3, 4, 5⟩⟩, ⟨1, 0, 1, 0, ⟨0, 0, 0, 0, 0, 0, 0, 0⟩, ⟨11, 0, 4, 5⟩⟩, ⟨1, 0, 1, 0, ⟨0, 0, 0, 0, 0, 0, 0, 1⟩, ⟨11, 0, 4, 5⟩⟩, ⟨1, 0, 1, 0, ⟨0, 0, 0, 0, 0, 0, 0, 2⟩, ⟨11, 0, 4, 5⟩⟩, ⟨1, 0, 1, 0, ⟨0, 0, 0, 0, 0, 0, 0, 3⟩, ⟨11, 0, 4, 5⟩⟩, ⟨1, 0, 1, 0, ⟨0, 0, 0, 0, 0, 0, 0, 4⟩, ⟨11, 0, 4, 5⟩⟩, ⟨1, 0, 1, 0, ⟨0, 0, 0, 0, 0, 0, 0, 5⟩, ⟨11, 0, 4, 5⟩⟩, ⟨1, 0, 1, 0, ⟨0, 0, 0, 0, 0, 0, 0, 6⟩, ⟨11, 0, 4, 5⟩⟩, ⟨1, 0, 1, 0, ⟨0, 0, 0, 0, 0, 0, 0, 7⟩, ⟨11, 0, 4, 5⟩⟩], [], [(0, chO [⟨1, 0, 0⟩, ⟨4, 0, 0⟩, ⟨7, 0, 0⟩, ⟨2, 0, 0⟩, ⟨8, 0, 0⟩, ⟨6, 0, 0⟩, ⟨3, 0, 0⟩, ⟨5, 0, 0⟩]), (1, chE [⟨0, 0, 0⟩])], 1, [⟨1, 0, some 1⟩], 1, [⟨0, d, 1⟩], 1, 0, 20, 20, [⟨19, 2, 0, 0, 0, 0⟩]⟩) (n := ((20 : Nat) : Int)) (by simp [Lim]) rfl
 have h5 := Ex.idle (ps := [tbP 8 d, tbQ]) (i := 21) (n := 179) (s := tbS 8 d [⟨1, 0, 0⟩, ⟨4, 0, 0⟩, ⟨7, 0, 0⟩, ⟨2, 0, 0⟩, ⟨8, 0, 0⟩, ⟨6, 0, 0⟩, ⟨3, 0, 0⟩, ⟨5, 0, 0⟩] 21 21) (by simp [Lim, tbS]) rfl rfl (by simp [tbS]) (by simp [tbS])
 have h6 := Ex.append (exF_Ex h1) (Ex.cons h2 rfl (Ex.append (exF_Ex h3) (Ex.cons h4 rfl h5)))
 exact ⟨_, [⟨1, 0, 0⟩, ⟨4, 0, 0⟩, ⟨7, 0, 0⟩, ⟨2, 0, 0⟩, ⟨8, 0, 0⟩, ⟨6, 0, 0⟩, ⟨3, 0, 0⟩, ⟨5, 0, 0⟩], h6, by simp, by simp, ⟨by simp, by simp, by decide, by simp⟩⟩
end Go.Proofs.YtjnkphhlkoapbaaGreat
namespace Go.Proofs.YtjnkphhlkoapbaaGreat
open Go.RowKit
set_option linter.unusedVariables false
set_option linter.unusedSimpArgs false
theorem tb_first {n : Nat} {d : Int} (hn : 1 ≤ n ∧ n ≤ 8) (hd : 1 ≤ d ∧ d ≤ 100) : ∃ evs W, Ex [tbP n d, tbQ] initS (manyE 0 (20 * (n + 2))) evs (tbS n d W (20 * (n + 2)) (20 * (n + 2))) ∧ (∀ e ∈ evs, e.kind ≠ 1) ∧ evs.length ≤ 100 ∧ TbW n W := by
 obtain ⟨h1, h2⟩ := hn
 have h3 : n = 1 ∨ n = 2 ∨ n = 3 ∨ n = 4 ∨ n = 5 ∨ n = 6 ∨ n = 7 ∨ n = 8 := by omega
 rcases h3 with rfl | rfl | rfl | rfl | rfl | rfl | rfl | rfl
 ·exact tb_first1 hd
 ·exact tb_first2 hd
 ·exact tb_first3 hd
 ·exact tb_first4 hd
 ·exact tb_first5 hd
 ·exact tb_first6 hd
 ·exact tb_first7 hd
 ·exact tb_first8 hd
theorem erase_idx (l : List Int) (a : Int) : l.eraseIdx (l.idxOf a) = l.erase a := (List.erase_eq_eraseIdx_of_idxOf rfl).symm
theorem tbP_len (n : Nat) (d : Int) : (tbP n d).length = n + 5 := by simp [tbP]
theorem tbP_close (n : Nat) (d : Int) : (tbP n d)[n + 4]? = some ⟨12, 0, 0, 0⟩ := by
 unfold tbP
 rw [show n + 4 = (n + 3) + 1 from rfl, List.getElem?_cons_succ, List.getElem?_append_right (by simp)]
 simp
def tbU (j : Nat) : Tsk := ⟨1, 1, 0, 0, ⟨0, 0, 0, 0, 0, 0, 0, j⟩, zI⟩
structure WkI (n : Nat) (x0 : Tsk) (s : Wst) (rem : List Int) : Prop where
 len : s.ts.length = n + 1
 main : s.ts[0]? = some x0
 yes : ∀ j, j < n → ((j : Int) + 1) ∈ rem → s.ts[j + 1]? = some (tbT j)
 no : ∀ j, j < n → ((j : Int) + 1) ∉ rem → s.ts[j + 1]? = some (tbU j)
 nd : rem.Nodup
 few : ∀ a ∈ rem, 1 ≤ a ∧ a ≤ n
 rd : ∀ a ∈ rem, a ∉ s.rd
structure SameW (s s' : Wst) : Prop where
 now : s'.now = s.now
 chs : s'.chs = s.chs
 made : s'.made = s.made
 tms : s'.tms = s.tms
 named : s'.named = s.named
 L : s'.L = s.L
 sq : s'.sq = s.sq
 nd : s'.nd = s.nd
 nl : s'.nl = s.nl
 steps : s'.steps = s.steps
theorem SameW.refl (s : Wst) : SameW s s := ⟨rfl, rfl, rfl, rfl, rfl, rfl, rfl, rfl, rfl, rfl⟩
theorem SameW.trans {s s' s'' : Wst} (h : SameW s s') (k : SameW s' s'') : SameW s s'' := ⟨k.now.trans h.now, k.chs.trans h.chs, k.made.trans h.made, k.tms.trans h.tms, k.named.trans h.named, k.L.trans h.L, k.sq.trans h.sq, k.nd.trans h.nd, k.nl.trans h.nl, k.steps.trans h.steps⟩
theorem wk_one {n : Nat} {x0 : Tsk} {s : Wst} {x : Wt} {rem : List Int} (h : WkI n x0 s (x.task :: rem)) : wakeB s (clW x) ∧ WkI n x0 (wakeS s (clW x)) rem ∧ (wakeS s (clW x)).rd = s.rd ++ [x.task] ∧ (wakeS s (clW x)).ev = s.ev ++ [⟨s.steps, 3, x.task, x.kase, 0, 0⟩] ∧ SameW s (wakeS s (clW x)) := by
 have hx := h.few x.task (List.mem_cons_self)
 obtain ⟨i, hi⟩ := Int.eq_ofNat_of_zero_le (show 0 ≤ x.task - 1 by omega)
 have hi1 : x.task = (i : Int) + 1 := by omega
 have hin : i < n := by omega
 have ht := h.yes i hin (by rw [← hi1]; exact List.mem_cons_self)
 have hnat : x.task.toNat = i + 1 := by omega
 have hnd := List.nodup_cons.1 h.nd
 have hw : wakeS s (clW x) = { s with ts := s.ts.set (i + 1) (tbU i), rd := s.rd ++ [x.task], ev := s.ev ++ [⟨s.steps, 3, x.task, x.kase, 0, 0⟩] } := by
  unfold wakeS
  show (match s.ts[x.task.toNat]? with | some t => { s with ts := s.ts.set x.task.toNat (wokeT t (clW x)), rd := s.rd ++ [x.task], nd := s.nd, ev := s.ev ++ [⟨s.steps, 3, x.task, x.kase, 0, 0⟩] } | none => s : Wst) = _
  rw [hnat, ht]
  rfl
 refine ⟨⟨by show 0 ≤ x.task; omega, rfl, h.rd _ List.mem_cons_self, ?_⟩, ?_, by rw [hw], by rw [hw], by rw [hw]; exact ⟨rfl, rfl, rfl, rfl, rfl, rfl, rfl, rfl, rfl, rfl⟩⟩
 ·show (match s.ts[x.task.toNat]? with | none => False | some t => _)
  rw [hnat, ht]
  exact ⟨rfl, rfl, by simp [tbT, RegOK], by simp [tbT, RegOK], by simp [tbT, RegOK], by simp [tbT, Reg.get], by simp [tbT], by simp [tbT]⟩
 ·rw [hw]
  refine ⟨by show (s.ts.set _ _).length = _; rw [List.length_set]; exact h.len, ?_, fun j hj hm => ?_, fun j hj hm => ?_, hnd.2, fun a ha => h.few a (List.mem_cons_of_mem _ ha), fun a ha => ?_⟩
  ·show (s.ts.set (i + 1) _)[0]? = _
   rw [List.getElem?_set_ne (by omega)]
   exact h.main
  ·show (s.ts.set (i + 1) _)[j + 1]? = _
   have hne : i ≠ j := fun e => hnd.1 (by rw [hi1, e]; exact hm)
   rw [List.getElem?_set_ne (by omega)]
   exact h.yes j hj (List.mem_cons_of_mem _ hm)
  ·show (s.ts.set (i + 1) _)[j + 1]? = _
   by_cases hij : i = j
   ·subst hij
    rw [List.getElem?_set_self (by rw [h.len]; omega)]
   ·rw [List.getElem?_set_ne (by omega)]
    exact h.no j hj (fun hm2 => by
     rcases List.mem_cons.1 hm2 with e | e
     ·exact hij (by omega)
     ·exact hm e)
  ·show a ∉ s.rd ++ [x.task]
   intro hm
   rcases List.mem_append.1 hm with e | e
   ·exact h.rd a (List.mem_cons_of_mem _ ha) e
   ·simp only [List.mem_singleton] at e
    exact hnd.1 (e ▸ ha)
theorem wk_all {n : Nat} {x0 : Tsk} : ∀ {W : List Wt} {s : Wst}, WkI n x0 s (W.map Wt.task) → WakesB s (W.map clW) ∧ WkI n x0 (wakesS s (W.map clW)) [] ∧ (wakesS s (W.map clW)).rd = s.rd ++ W.map Wt.task ∧ (wakesS s (W.map clW)).ev = s.ev ++ W.map (fun x => ⟨s.steps, 3, x.task, x.kase, 0, 0⟩) ∧ SameW s (wakesS s (W.map clW))
 | [], s, h => ⟨trivial, h, by simp [wakesS], by simp [wakesS], SameW.refl s⟩
 | x :: W, s, h => by
  obtain ⟨h1, h2, h3, h4, h5⟩ := wk_one h
  obtain ⟨k1, k2, k3, k4, k5⟩ := wk_all (W := W) h2
  have hst : (wakeS s (clW x)).steps = s.steps := h5.steps
  refine ⟨⟨h1, k1⟩, k2, ?_, ?_, ?_⟩
  ·show (wakesS (wakeS s (clW x)) (W.map clW)).rd = _
   rw [k3, h3]; simp
  ·show (wakesS (wakeS s (clW x)) (W.map clW)).ev = _
   rw [k4, h4, hst]; simp
  ·exact h5.trans k5
def tbR (n : Nat) (d : Int) : Reg := ⟨0, d, 0, 1, d, 1, 0, n⟩
def tbA (n : Nat) (d : Int) (W : List Wt) (nl : Nat) (st : Int) (ev : List Ev) : Wst := ⟨d, ⟨0, n + 4, 0, 0, tbR n d, zI⟩ :: (List.range n).map tbT, [0], [(0, chO W), (1, chE [])], 1, [⟨1, 0, some 1⟩], 1, [], 1, 2, nl, st, ev⟩
theorem tb_adv {n : Nat} {d : Int} {W : List Wt} {nl : Nat} {st : Int} (hn : 1 ≤ n ∧ n ≤ 8) (hd : 1 ≤ d ∧ d ≤ 100) (hnl : nl < 50000) (hst : 0 ≤ st ∧ st < 50000) : stepF [tbP n d, tbQ] (tbS n d W nl st) (.adv d) = some (tbA n d W nl (st + 1) [⟨st, 6, -1, 0, d, 0⟩, ⟨st, 3, 0, 0, d, 1⟩]) := by
 refine stepF_adv (s2 := tbA n d W nl st [⟨st, 6, -1, 0, d, 0⟩, ⟨st, 3, 0, 0, d, 1⟩]) (by simp [Lim, tbS]; omega) ⟨by omega, by show 0 + d ≤ 1000000; omega⟩ ?_ rfl (by simp [tbA])
 show firesF 100 ⟨0 + d, ⟨0, n + 3, 1, 0, ⟨0, d, 0, 1, 0, 0, 0, n⟩, ⟨11, 3, 4, 5⟩⟩ :: (List.range n).map tbT, [], [(0, chO W), (1, chE [⟨0, 0, 0⟩])], 1, [⟨1, 0, some 1⟩], 1, [⟨0, d, 1⟩], 1, 0, nl, st, []⟩ = _
 rw [Int.zero_add]
 refine (firesF_wake (k := 99) (i := 0) (ci := 1) (dt := 0) (sg := false) (cl := false) (v := none) (x := ⟨0, 0, 0⟩) (lw := []) (q := 1) (by simp [Lim]; omega) rfl (Int.le_refl _) rfl rfl (by simp [wakeB, RegOK, Reg.get]; omega) (by simp)).trans ?_
 refine (congrArg (firesF 99) (wakeS_one (s := fireB ⟨d, ⟨0, n + 3, 1, 0, ⟨0, d, 0, 1, 0, 0, 0, n⟩, ⟨11, 3, 4, 5⟩⟩ :: (List.range n).map tbT, [], [(0, chO W), (1, chE [])], 1, [⟨1, 0, some 1⟩], 1, [], 1, 0, nl, st, []⟩ 0 d) (i := 0) (a := 3) (j := 4) (k := 5) (pg := 0) (pc := n + 3) (how := 0) (v := d) (r := ⟨0, d, 0, 1, 0, 0, 0, n⟩) rfl)).trans ?_
 refine (firesF_none (k := 98) (fun it hit => by cases hit)).trans ?_
 show some (Wst.mk d (Tsk.mk 0 ((n : Int) + 3 + 1) 0 0 _ _ :: _) _ _ _ _ _ _ _ _ _ _ _) = _
 rw [show (n : Int) + 3 + 1 = n + 4 from by omega]
 rfl
structure I3 (n : Nat) (d : Int) (s : Wst) (evs : List Ev) : Prop where
 now : s.now = d
 len : s.ts.length = n + 1
 main : ∃ r, s.ts[0]? = some ⟨0, n + 5, 0, 0, r, zI⟩ ∨ s.ts[0]? = some ⟨0, n + 5, 2, 0, r, zI⟩
 tsk : ∀ j : Nat, j < n → ∃ r, (s.ts[j + 1]? = some ⟨1, 1, 0, 0, r, zI⟩ ∧ toldM evs (j + 1) = []) ∨ (s.ts[j + 1]? = some ⟨1, 2, 0, 0, r, zI⟩ ∧ r.r6 = d ∧ toldM evs (j + 1) = []) ∨ (s.ts[j + 1]? = some ⟨1, 3, 0, 0, r, zI⟩ ∧ toldM evs (j + 1) = [d]) ∨ (s.ts[j + 1]? = some ⟨1, 3, 2, 0, r, zI⟩ ∧ toldM evs (j + 1) = [d])
 nd : s.rd.Nodup
 rdi : ∀ i : Nat, (i : Int) ∈ s.rd ↔ ∃ x, s.ts[i]? = some x ∧ x.st = 0
 pos : ∀ a ∈ s.rd, 0 ≤ a
 rl : s.rd.length ≤ n + 1
 oth : s.chs.length ≤ 10 ∧ s.tms.length ≤ 10 ∧ 0 ≤ s.sq ∧ s.sq ≤ 10 ∧ s.nd ≤ 10 ∧ 0 ≤ s.named ∧ s.named ≤ 10
theorem I3.lim {n : Nat} {d : Int} {s : Wst} {evs : List Ev} (h : I3 n d s evs) (hn : n ≤ 8) (hd : 1 ≤ d ∧ d ≤ 100) (he : s.ev.length ≤ 100) (h1 : s.nl < 90000) (h2 : 0 ≤ s.steps ∧ s.steps < 90000) : Lim s := by
 obtain ⟨o1, o2, o3, o4, o5, o6, o7⟩ := h.oth
 have h3 := h.rl
 have h4 := h.len
 have h5 := h.now
 exact ⟨by omega, by omega, by omega, by omega, by omega, o3, by omega, by omega, by omega, h2.1, by omega, by omega, by omega, o6, by omega⟩
set_option maxHeartbeats 1000000 in
theorem tb_close {n : Nat} {d : Int} {W : List Wt} {nl : Nat} {st : Int} {ev : List Ev} {m : Int} (hn : 1 ≤ n ∧ n ≤ 8) (hd : 1 ≤ d ∧ d ≤ 100) (hW : TbW n W) (hnl : nl < 50000) (hst : 0 ≤ st ∧ st < 50000) (hev : ev.length ≤ 100) {evs : List Ev} (hevs : ∀ j : Int, toldM evs j = []) :
  ∃ s', stepF [tbP n d, tbQ] (tbA n d W nl st ev) (.run m) = some s' ∧ I3 n d s' (evs ++ s'.ev) ∧ s'.nl = nl + 1 ∧ s'.steps = st + 1 ∧ s'.ev.length ≤ 10 := by
 have hl : Lim (tbA n d W nl st ev) := by simp [Lim, tbA]; omega
 have hI : WkI n ⟨0, n + 4, 0, 0, tbR n d, zI⟩ { tbA n d W (nl + 1) st [] with chs := [(0, ⟨false, false, true, false, none, []⟩), (1, chE [])] } (W.map Wt.task) := by
  refine ⟨by simp [tbA], rfl, fun j hj _ => ?_, fun j hj hm => absurd (hW.all j hj) hm, hW.nd, fun a ha => ?_, fun a ha hm => ?_⟩
  ·show (_ :: (List.range n).map tbT)[j + 1]? = _
   rw [List.getElem?_cons_succ, List.getElem?_map, List.getElem?_range hj]
   rfl
  ·obtain ⟨x, hx, rfl⟩ := List.mem_map.1 ha
   exact hW.few x hx
  ·obtain ⟨x, hx, rfl⟩ := List.mem_map.1 ha
   have h1 := hW.few x hx
   have h2 : x.task ∈ ([0] : List Int) := hm
   simp only [List.mem_singleton] at h2
   omega
 obtain ⟨k1, k2, k3, k4, k5⟩ := wk_all hI
 have hwl := hW.len
 have hact : actF { tbA n d W nl st ev with ev := [], nl := nl + 1 } 0 ⟨12, 0, 0, 0⟩ (tbR n d) = some (wakesS { tbA n d W (nl + 1) st [] with chs := [(0, ⟨false, false, true, false, none, []⟩), (1, chE [])] } (W.map clW), some (tbR n d)) := by
  unfold actF
  rw [if_neg (by decide), if_neg (by decide), if_neg (by decide), if_pos rfl]
  unfold actClose
  rw [if_pos ⟨by simp [RegOK], by simp [tbR, Reg.get]⟩]
  show (if false = false ∧ false = false ∧ false = false ∧ (W.map Wt.task).Nodup ∧ W.length ≤ 50 ∧ WakesB { tbA n d W (nl + 1) st [] with chs := [(0, ⟨false, false, true, false, none, []⟩), (1, chE [])] } (W.map clW) then _ else none) = _
  rw [if_pos ⟨rfl, rfl, rfl, hW.nd, by omega, k1⟩]
  rfl
 have hs := stepF_act (ps := [tbP n d, tbQ]) (s := tbA n d W nl st ev) (n := m) (i := 0) (x := ⟨0, n + 4, 0, 0, tbR n d, zI⟩) (p := tbP n d) (ins := ⟨12, 0, 0, 0⟩) hl (by show nl < 99999; omega) (pick_one m 0) rfl rfl ⟨rfl, by simp, by show (0 : Int) ≤ n + 4; omega⟩ (by
  show (tbP n d)[((n : Int) + 4).toNat]? = _
  rw [show ((n : Int) + 4).toNat = n + 4 from by omega]
  exact tbP_close n d) rfl hact k5.steps (by rw [k4]; simp [tbA]; omega)
 refine ⟨_, hs, ?_, k5.nl, rfl, by show (wakesS _ (W.map clW)).ev.length ≤ 10; rw [k4]; simp [tbA]; omega⟩
 have hW0 : (0 : Int) ∉ W.map Wt.task := fun h0 => by
  obtain ⟨x, hx, h1⟩ := List.mem_map.1 h0
  have := hW.few x hx
  omega
 have hrd : (wakesS { tbA n d W (nl + 1) st [] with chs := [(0, ⟨false, false, true, false, none, []⟩), (1, chE [])] } (W.map clW)).rd = 0 :: W.map Wt.task := k3
 refine ⟨k5.now, by show (List.set _ _ _).length = _; rw [List.length_set]; exact k2.len, ⟨tbR n d, .inl ?_⟩, fun j hj => ⟨⟨0, 0, 0, 0, 0, 0, 0, j⟩, .inl ⟨?_, ?_⟩⟩, ?_, fun i => ?_, fun a ha => ?_, ?_, ?_⟩
 ·show (List.set _ 0 _)[0]? = _
  rw [List.getElem?_set_self (by rw [k2.len]; omega)]
  show some (Tsk.mk 0 ((n : Int) + 4 + 1) 0 0 (tbR n d) zI) = _
  rw [show (n : Int) + 4 + 1 = n + 5 from by omega]
 ·show (List.set _ 0 _)[j + 1]? = _
  rw [List.getElem?_set_ne (by omega)]
  exact k2.no j hj (by simp)
 ·show toldM (evs ++ (wakesS _ (W.map clW)).ev) _ = []
  rw [toldM_append, hevs, k4]
  simp [toldM, tbA]
 ·show (wakesS _ (W.map clW)).rd.Nodup
  rw [hrd]
  exact List.nodup_cons.2 ⟨hW0, hW.nd⟩
 ·show (i : Int) ∈ (wakesS _ (W.map clW)).rd ↔ ∃ x : Tsk, (List.set _ 0 _)[i]? = some x ∧ x.st = 0
  rw [hrd]
  cases i with
  | zero => exact ⟨fun _ => ⟨_, List.getElem?_set_self (by rw [k2.len]; omega), rfl⟩, fun _ => List.mem_cons_self⟩
  | succ j =>
   rw [List.getElem?_set_ne (by omega)]
   by_cases hj : j < n
   ·refine ⟨fun _ => ⟨_, k2.no j hj (by simp), rfl⟩, fun _ => List.mem_cons_of_mem _ ?_⟩
    have := hW.all j hj
    simpa using this
   ·refine ⟨fun hm => ?_, fun ⟨x, hx, _⟩ => ?_⟩
    ·rcases List.mem_cons.1 hm with h1 | h1
     ·omega
     ·obtain ⟨x, hx, h2⟩ := List.mem_map.1 h1
      have := hW.few x hx
      omega
    ·have h1 := (List.getElem?_eq_some_iff.1 hx).1
     rw [k2.len] at h1
     omega
 ·have ha : a ∈ (wakesS { tbA n d W (nl + 1) st [] with chs := [(0, ⟨false, false, true, false, none, []⟩), (1, chE [])] } (W.map clW)).rd := ha
  rw [hrd] at ha
  rcases List.mem_cons.1 ha with h1 | h1
  ·omega
  ·obtain ⟨x, hx, h2⟩ := List.mem_map.1 h1
   have := hW.few x hx
   omega
 ·show (wakesS _ (W.map clW)).rd.length ≤ n + 1
  rw [hrd]
  simp; omega
 ·show (wakesS _ (W.map clW)).chs.length ≤ 10 ∧ (wakesS _ (W.map clW)).tms.length ≤ 10 ∧ 0 ≤ (wakesS _ (W.map clW)).sq ∧ (wakesS _ (W.map clW)).sq ≤ 10 ∧ (wakesS _ (W.map clW)).nd ≤ 10 ∧ 0 ≤ (wakesS _ (W.map clW)).named ∧ (wakesS _ (W.map clW)).named ≤ 10
  rw [k5.chs, k5.tms, k5.sq, k5.nd, k5.named]
  simp [tbA]
def wtT (x : Tsk) : Nat := if x.st = 0 then (if x.prog = 0 then 1 else (4 - x.pc).toNat) else 0
def muT (l : List Tsk) : Nat := (l.map wtT).sum
theorem muT_set {l : List Tsk} {i : Nat} {x y : Tsk} (h : l[i]? = some x) : muT (l.set i y) + wtT x = muT l + wtT y := by
 induction l generalizing i with
 | nil => simp at h
 | cons z l ih =>
  cases i with
  | zero =>
   simp only [List.getElem?_cons_zero, Option.some.injEq] at h
   subst h
   simp only [muT, List.set_cons_zero, List.map_cons, List.sum_cons]
   omega
  | succ i =>
   simp only [List.getElem?_cons_succ] at h
   have := ih h
   simp only [muT, List.set_cons_succ, List.map_cons, List.sum_cons] at this ⊢
   omega
theorem toldM_one (evs : List Ev) (e : Ev) (j : Int) : toldM (evs ++ [e]) j = toldM evs j ++ (if e.kind = 1 ∧ e.task = j then [e.a] else []) := by
 rw [toldM_append]
 congr 1
 by_cases h : e.kind = 1 ∧ e.task = j <;> simp [toldM, h]
theorem I3.put {n : Nat} {d : Int} {s s' : Wst} {evs : List Ev} {i : Nat} {x y : Tsk} (h : I3 n d s evs) (hx : s.ts[i + 1]? = some x) (hx0 : x.st = 0) (hy0 : y.st = 0) (hts : s'.ts = s.ts.set (i + 1) y) (hrd : s'.rd = s.rd) (hsm : s'.now = s.now ∧ s'.chs = s.chs ∧ s'.tms = s.tms ∧ s'.sq = s.sq ∧ s'.nd = s.nd ∧ s'.named = s.named)
  (hy : ∃ r, (y = ⟨1, 1, 0, 0, r, zI⟩ ∧ toldM (evs ++ s'.ev) (i + 1) = []) ∨ (y = ⟨1, 2, 0, 0, r, zI⟩ ∧ r.r6 = d ∧ toldM (evs ++ s'.ev) (i + 1) = []) ∨ (y = ⟨1, 3, 0, 0, r, zI⟩ ∧ toldM (evs ++ s'.ev) (i + 1) = [d]) ∨ (y = ⟨1, 3, 2, 0, r, zI⟩ ∧ toldM (evs ++ s'.ev) (i + 1) = [d]))
  (ho : ∀ j : Nat, j ≠ i → toldM (evs ++ s'.ev) ((j : Int) + 1) = toldM evs ((j : Int) + 1)) : I3 n d s' (evs ++ s'.ev) := by
 have hil := (List.getElem?_eq_some_iff.1 hx).1
 obtain ⟨m1, m2, m3, m4, m5, m6⟩ := hsm
 refine ⟨m1.trans h.now, by rw [hts, List.length_set]; exact h.len, ?_, fun j hj => ?_, by rw [hrd]; exact h.nd, fun k => ?_, by rw [hrd]; exact h.pos, by rw [hrd]; exact h.rl, by rw [m2, m3, m4, m5, m6]; exact h.oth⟩
 ·rw [hts, List.getElem?_set_ne (by omega)]
  exact h.main
 ·by_cases hji : j = i
  ·subst hji
   obtain ⟨r, h1⟩ := hy
   refine ⟨r, ?_⟩
   rw [hts, List.getElem?_set_self hil]
   rcases h1 with ⟨e, k⟩ | ⟨e, k, k2⟩ | ⟨e, k⟩ | ⟨e, k⟩
   ·exact .inl ⟨by rw [e], k⟩
   ·exact .inr (.inl ⟨by rw [e], k, k2⟩)
   ·exact .inr (.inr (.inl ⟨by rw [e], k⟩))
   ·exact .inr (.inr (.inr ⟨by rw [e], k⟩))
  ·rw [hts, List.getElem?_set_ne (by omega), ho j hji]
   exact h.tsk j hj
 ·rw [hrd, h.rdi k, hts]
  by_cases hk : k = i + 1
  ·subst hk
   rw [List.getElem?_set_self hil, hx]
   exact ⟨fun _ => ⟨y, rfl, hy0⟩, fun _ => ⟨x, rfl, hx0⟩⟩
  ·rw [List.getElem?_set_ne (by omega)]
theorem I3.ends {n : Nat} {d : Int} {s s' : Wst} {evs : List Ev} {i : Nat} {x y : Tsk} (h : I3 n d s evs) (hx : s.ts[i]? = some x) (hx0 : x.st = 0) (hy0 : y.st ≠ 0) (hts : s'.ts = s.ts.set i y) (hrd : s'.rd = s.rd.erase (i : Int)) (hsm : s'.now = s.now ∧ s'.chs = s.chs ∧ s'.tms = s.tms ∧ s'.sq = s.sq ∧ s'.nd = s.nd ∧ s'.named = s.named)
  (hmain : ∃ r, s'.ts[0]? = some ⟨0, n + 5, 0, 0, r, zI⟩ ∨ s'.ts[0]? = some ⟨0, n + 5, 2, 0, r, zI⟩)
  (hy : ∀ j : Nat, i = j + 1 → ∃ r, y = ⟨1, 3, 2, 0, r, zI⟩ ∧ toldM (evs ++ s'.ev) (j + 1) = [d])
  (ho : ∀ j : Nat, i ≠ j + 1 → toldM (evs ++ s'.ev) ((j : Int) + 1) = toldM evs ((j : Int) + 1)) : I3 n d s' (evs ++ s'.ev) := by
 have hil := (List.getElem?_eq_some_iff.1 hx).1
 obtain ⟨m1, m2, m3, m4, m5, m6⟩ := hsm
 refine ⟨m1.trans h.now, by rw [hts, List.length_set]; exact h.len, hmain, fun j hj => ?_, by rw [hrd]; exact h.nd.erase _, fun k => ?_, fun a ha => h.pos a (by rw [hrd] at ha; exact List.mem_of_mem_erase ha), ?_, by rw [m2, m3, m4, m5, m6]; exact h.oth⟩
 ·by_cases hji : i = j + 1
  ·obtain ⟨r, h1, h2⟩ := hy j hji
   refine ⟨r, .inr (.inr (.inr ⟨?_, h2⟩))⟩
   rw [hts, ← hji, List.getElem?_set_self hil, h1]
  ·rw [hts, List.getElem?_set_ne hji, ho j hji]
   exact h.tsk j hj
 ·rw [hrd, h.nd.mem_erase_iff, h.rdi k, hts]
  by_cases hk : i = k
  ·subst hk
   rw [List.getElem?_set_self hil]
   exact ⟨fun h1 => absurd rfl h1.1, fun ⟨z, hz, hz0⟩ => by cases hz; exact absurd hz0 hy0⟩
  ·rw [List.getElem?_set_ne hk]
   exact ⟨fun h1 => h1.2, fun h1 => ⟨by omega, h1⟩⟩
 ·rw [hrd]
  exact Nat.le_trans (List.length_erase_le ..) h.rl
end Go.Proofs.YtjnkphhlkoapbaaGreat
namespace Go.Proofs.YtjnkphhlkoapbaaGreat
open Go.RowKit
set_option linter.unusedVariables false
set_option linter.unusedSimpArgs false
theorem pick_in {l : List Int} (h : l ≠ []) (m : Int) : ∃ a, l[(pickZ m l.length).toNat]? = some a ∧ a ∈ l := by
 have hl : 0 < l.length := List.length_pos_iff.2 h
 have h1 : 0 ≤ pickZ m l.length := Int.emod_nonneg _ (by omega)
 have h2 : pickZ m l.length < l.length := Int.emod_lt_of_pos _ (by omega)
 have h3 : (pickZ m l.length).toNat < l.length := by omega
 exact ⟨_, List.getElem?_eq_getElem h3, List.getElem_mem _⟩
set_option maxHeartbeats 1000000 in
theorem I3.step {n : Nat} {d : Int} {s : Wst} {evs : List Ev} (h : I3 n d s evs) (hn : n ≤ 8) (hd : 1 ≤ d ∧ d ≤ 100) (he : s.ev.length ≤ 100) (h1 : s.nl < 90000) (h2 : 0 ≤ s.steps ∧ s.steps < 90000) (hne : s.rd ≠ []) (m : Int) :
  ∃ s', stepF [tbP n d, tbQ] s (.run m) = some s' ∧ I3 n d s' (evs ++ s'.ev) ∧ muT s'.ts + 1 = muT s.ts ∧ s'.nl = s.nl + 1 ∧ s'.steps = s.steps + 1 ∧ s'.ev.length ≤ 1 := by
 have hl := h.lim hn hd he h1 h2
 obtain ⟨a, hpk, ham⟩ := pick_in hne m
 obtain ⟨i, rfl⟩ := Int.eq_ofNat_of_zero_le (h.pos a ham)
 obtain ⟨x, hx, hx0⟩ := (h.rdi i).1 ham
 have hil := (List.getElem?_eq_some_iff.1 hx).1
 rw [h.len] at hil
 have hnl : s.nl < 99999 := by omega
 cases i with
 | zero =>
  obtain ⟨r, hm | hm⟩ := h.main
  ·rw [hm] at hx
   cases hx
   have hs := stepF_loc (ps := [tbP n d, tbQ]) (s := s) (n := m) (i := 0) (x := ⟨0, n + 5, 0, 0, r, zI⟩) (p := tbP n d) (O := ⟨((n + 5 : Nat) : Int), r, false, 0, true⟩) hl hnl hpk hm rfl ⟨rfl, by simp, by show (0 : Int) ≤ n + 5; omega⟩ (by
    show locF (tbP n d) ((n : Int) + 5).toNat r s.now = _
    rw [show ((n : Int) + 5).toNat = n + 5 from by omega]
    unfold locF
    rw [if_pos (tbP_len n d).symm])
   refine ⟨_, hs, h.ends (i := 0) (y := ⟨0, ((n + 5 : Nat) : Int), 2, 0, r, ⟨0, 0, 0, 0⟩⟩) hm rfl (by simp) rfl (erase_idx s.rd 0) ⟨rfl, rfl, rfl, rfl, rfl, rfl⟩ ⟨r, .inr ?_⟩ (fun j e => by omega) (fun j _ => ?_), ?_, rfl, rfl, Nat.le_refl _⟩
   ·show (s.ts.set 0 _)[0]? = _
    rw [List.getElem?_set_self (by rw [h.len]; omega)]
    rfl
   ·show toldM (evs ++ [⟨s.steps, 4, ((0 : Nat) : Int), 0, 0, 0⟩]) _ = _
    rw [toldM_one]; simp
   ·have h3 := muT_set (y := (⟨0, ((n + 5 : Nat) : Int), 2, 0, r, ⟨0, 0, 0, 0⟩⟩ : Tsk)) hm
    have e1 : wtT ⟨0, n + 5, 0, 0, r, zI⟩ = 1 := by simp [wtT]
    have e2 : wtT ⟨0, ((n + 5 : Nat) : Int), 2, 0, r, ⟨0, 0, 0, 0⟩⟩ = 0 := by simp [wtT]
    rw [e1, e2] at h3
    exact h3
  ·rw [hm] at hx
   cases hx
   simp at hx0
 | succ i =>
  obtain ⟨r, ht⟩ := h.tsk i (by omega)
  rcases ht with ⟨ht, htl⟩ | ⟨ht, hr6, htl⟩ | ⟨ht, htl⟩ | ⟨ht, htl⟩
  ·rw [ht] at hx
   cases hx
   have hs := stepF_loc (ps := [tbP n d, tbQ]) (s := s) (n := m) (i := i + 1) (x := ⟨1, 1, 0, 0, r, zI⟩) (p := tbQ) (O := ⟨2, r.set 6 s.now, false, 0, false⟩) hl hnl hpk ht rfl ⟨rfl, by simp, by simp⟩ (by simp [locF, tbQ, RegOK])
   refine ⟨_, hs, h.put (i := i) (y := ⟨1, 2, 0, 0, r.set 6 s.now, zI⟩) ht rfl rfl rfl rfl ⟨rfl, rfl, rfl, rfl, rfl, rfl⟩ ⟨r.set 6 s.now, .inr (.inl ⟨rfl, ?_, ?_⟩)⟩ (fun j _ => ?_), ?_, rfl, rfl, Nat.zero_le _⟩
   ·simp [Reg.set, h.now]
   ·show toldM (evs ++ []) _ = _
    rw [List.append_nil]; exact htl
   ·show toldM (evs ++ []) _ = _
    rw [List.append_nil]
   ·have h3 := muT_set (y := (⟨1, 2, 0, 0, r.set 6 s.now, zI⟩ : Tsk)) ht
    have e1 : wtT ⟨1, 1, 0, 0, r, zI⟩ = 3 := by simp [wtT]
    have e2 : wtT ⟨1, 2, 0, 0, r.set 6 s.now, zI⟩ = 2 := by simp [wtT]
    rw [e1, e2] at h3
    exact Nat.add_right_cancel (m := 2) h3
  ·rw [ht] at hx
   cases hx
   have hs := stepF_loc (ps := [tbP n d, tbQ]) (s := s) (n := m) (i := i + 1) (x := ⟨1, 2, 0, 0, r, zI⟩) (p := tbQ) (O := ⟨3, r, true, d, false⟩) hl hnl hpk ht rfl ⟨rfl, by simp, by simp⟩ (by simp [locF, tbQ, RegOK, Reg.get, hr6])
   refine ⟨_, hs, h.put (i := i) (y := ⟨1, 3, 0, 0, r, zI⟩) ht rfl rfl rfl rfl ⟨rfl, rfl, rfl, rfl, rfl, rfl⟩ ⟨r, .inr (.inr (.inl ⟨rfl, ?_⟩))⟩ (fun j hj => ?_), ?_, rfl, rfl, Nat.le_refl _⟩
   ·show toldM (evs ++ [⟨s.steps, 1, ((i + 1 : Nat) : Int), d, 0, 0⟩]) _ = _
    rw [toldM_one, htl, if_pos ⟨rfl, by show ((i + 1 : Nat) : Int) = _; omega⟩]
    rfl
   ·show toldM (evs ++ [⟨s.steps, 1, ((i + 1 : Nat) : Int), d, 0, 0⟩]) _ = _
    rw [toldM_one, if_neg (fun e => hj (by have e2 : ((i + 1 : Nat) : Int) = (j : Int) + 1 := e.2; omega)), List.append_nil]
   ·have h3 := muT_set (y := (⟨1, 3, 0, 0, r, zI⟩ : Tsk)) ht
    have e1 : wtT ⟨1, 2, 0, 0, r, zI⟩ = 2 := by simp [wtT]
    have e2 : wtT ⟨1, 3, 0, 0, r, zI⟩ = 1 := by simp [wtT]
    rw [e1, e2] at h3
    exact Nat.add_right_cancel (m := 1) h3
  ·rw [ht] at hx
   cases hx
   have hs := stepF_loc (ps := [tbP n d, tbQ]) (s := s) (n := m) (i := i + 1) (x := ⟨1, 3, 0, 0, r, zI⟩) (p := tbQ) (O := ⟨3, r, false, 0, true⟩) hl hnl hpk ht rfl ⟨rfl, by simp, by simp⟩ (by simp [locF, tbQ])
   refine ⟨_, hs, h.ends (i := i + 1) (y := ⟨1, 3, 2, 0, r, ⟨0, 0, 0, 0⟩⟩) ht rfl (by simp) rfl (erase_idx s.rd _) ⟨rfl, rfl, rfl, rfl, rfl, rfl⟩ ?_ (fun j e => ⟨r, rfl, ?_⟩) (fun j _ => ?_), ?_, rfl, rfl, Nat.le_refl _⟩
   ·obtain ⟨r0, hm⟩ := h.main
    refine ⟨r0, ?_⟩
    show (s.ts.set (i + 1) _)[0]? = _ ∨ (s.ts.set (i + 1) _)[0]? = _
    rw [List.getElem?_set_ne (by omega)]
    exact hm
   ·show toldM (evs ++ [⟨s.steps, 4, ((i + 1 : Nat) : Int), 0, 0, 0⟩]) _ = _
    rw [toldM_one, if_neg (by simp), List.append_nil]
    have : i = j := by omega
    subst this
    exact htl
   ·show toldM (evs ++ [⟨s.steps, 4, ((i + 1 : Nat) : Int), 0, 0, 0⟩]) _ = _
    rw [toldM_one, if_neg (by simp), List.append_nil]
   ·have h3 := muT_set (y := (⟨1, 3, 2, 0, r, ⟨0, 0, 0, 0⟩⟩ : Tsk)) ht
    have e1 : wtT ⟨1, 3, 0, 0, r, zI⟩ = 1 := by simp [wtT]
    have e2 : wtT ⟨1, 3, 2, 0, r, ⟨0, 0, 0, 0⟩⟩ = 0 := by simp [wtT]
    rw [e1, e2] at h3
    exact h3
  ·rw [ht] at hx
   cases hx
   simp at hx0
theorem I3.idle {n : Nat} {d : Int} {s : Wst} {evs : List Ev} (h : I3 n d s evs) (hn : n ≤ 8) (hd : 1 ≤ d ∧ d ≤ 100) (he : s.ev.length ≤ 100) (h1 : s.nl < 90000) (h2 : 0 ≤ s.steps ∧ s.steps < 90000) (hr : s.rd = []) (m : Int) :
  ∃ s', stepF [tbP n d, tbQ] s (.run m) = some s' ∧ I3 n d s' (evs ++ s'.ev) ∧ s'.rd = [] ∧ s'.nl = s.nl + 1 ∧ s'.steps = s.steps + 1 ∧ s'.ev.length ≤ 1 := by
 refine ⟨_, stepF_idle (h.lim hn hd he h1 h2) hr, ?_, hr, rfl, rfl, by simp⟩
 show I3 n d { s with ev := [], nl := s.nl + 1, steps := s.steps + 1 } (evs ++ [])
 rw [List.append_nil]
 exact ⟨h.now, h.len, h.main, h.tsk, h.nd, h.rdi, h.pos, h.rl, h.oth⟩
def Runs (l : List Ent) : Prop := ∀ e ∈ l, ∃ m, e = .run m
theorem ex_idle_rd {ps : List (List Ins)} : ∀ {l : List Ent} {s s' : Wst} {e2 : List Ev}, Runs l → Ex ps s l e2 s' → s.rd = [] → s'.rd = []
 | [], s, s', e2, hr, h, h0 => by
  obtain ⟨_, rfl⟩ := h
  exact h0
 | e :: l, s, s', e2, hr, h, h0 => by
  obtain ⟨m, rfl⟩ := hr e List.mem_cons_self
  obtain ⟨s1, e3, h1, h2, _⟩ := h
  refine ex_idle_rd (fun e he => hr e (List.mem_cons_of_mem _ he)) h2 ?_
  by_cases hl : Lim s
  ·have h3 := stepF_idle (ps := ps) (n := m) hl h0
   rw [h3] at h1
   cases h1
   exact h0
  ·unfold stepF at h1
   rw [if_neg hl] at h1
   cases h1
theorem I3.runs {n : Nat} {d : Int} (hn : n ≤ 8) (hd : 1 ≤ d ∧ d ≤ 100) : ∀ {l : List Ent} {s : Wst} {evs : List Ev}, Runs l → I3 n d s evs → s.ev.length ≤ 100 → s.nl + l.length < 90000 → 0 ≤ s.steps ∧ s.steps + l.length < 90000 →
  ∃ e2 s', Ex [tbP n d, tbQ] s l e2 s' ∧ I3 n d s' (evs ++ e2) ∧ (s'.rd = [] ∨ muT s'.ts + l.length ≤ muT s.ts) ∧ e2.length ≤ l.length
 | [], s, evs, hr, h, he, h1, h2 => ⟨[], s, ⟨rfl, rfl⟩, by rw [List.append_nil]; exact h, .inr (Nat.le_refl _), Nat.le_refl _⟩
 | e :: l, s, evs, hr, h, he, h1, h2 => by
  obtain ⟨m, rfl⟩ := hr e List.mem_cons_self
  have hr2 : Runs l := fun e he => hr e (List.mem_cons_of_mem _ he)
  simp only [List.length_cons] at h1 h2
  by_cases hrd : s.rd = []
  ·obtain ⟨s1, k1, k2, k3, k4, k5, k6⟩ := h.idle hn hd he (by omega) ⟨h2.1, by omega⟩ hrd m
   obtain ⟨e2, s', j1, j2, j3, j4⟩ := I3.runs hn hd hr2 k2 (by omega) (by omega) ⟨by omega, by omega⟩
   refine ⟨s1.ev ++ e2, s', ⟨s1, e2, k1, j1, rfl⟩, by rw [← List.append_assoc]; exact j2, ?_, by simp only [List.length_append, List.length_cons]; omega⟩
   rcases j3 with j3 | j3
   ·exact .inl j3
   ·exact .inl (ex_idle_rd hr2 j1 k3)
  ·obtain ⟨s1, k1, k2, k3, k4, k5, k6⟩ := h.step hn hd he (by omega) ⟨h2.1, by omega⟩ hrd m
   obtain ⟨e2, s', j1, j2, j3, j4⟩ := I3.runs hn hd hr2 k2 (by omega) (by omega) ⟨by omega, by omega⟩
   refine ⟨s1.ev ++ e2, s', ⟨s1, e2, k1, j1, rfl⟩, by rw [← List.append_assoc]; exact j2, ?_, by simp only [List.length_append, List.length_cons]; omega⟩
   rcases j3 with j3 | j3
   ·exact .inl j3
   ·exact .inr (by simp only [List.length_cons]; omega)
end Go.Proofs.YtjnkphhlkoapbaaGreat
namespace Go.Proofs.YtjnkphhlkoapbaaGreat
open Go.RowKit
set_option linter.unusedVariables false
set_option linter.unusedSimpArgs false
theorem toldM_none {evs : List Ev} (h : ∀ e ∈ evs, e.kind ≠ 1) (j : Int) : toldM evs j = [] := by
 unfold toldM
 rw [List.filterMap_eq_nil_iff]
 intro e he
 rw [if_neg (fun hc => h e he hc.1)]
theorem runs_many : ∀ (k i : Nat), Runs (manyE i k)
 | 0, i => fun e he => by cases he
 | k + 1, i => fun e he => by
  rcases List.mem_cons.1 he with rfl | he
  ·exact ⟨_, rfl⟩
  ·exact runs_many k (i + 1) e he
theorem many_len : ∀ (k i : Nat), (manyE i k).length = k
 | 0, i => rfl
 | k + 1, i => by simp [manyE, many_len k (i + 1)]
def pickE (l : List Int) : List Ent := l.map .run
theorem runs_pick (l : List Int) : Runs (pickE l) := fun e he => by
 obtain ⟨m, _, rfl⟩ := List.mem_map.1 he
 exact ⟨m, rfl⟩
theorem Runs.append {l m : List Ent} (h : Runs l) (k : Runs m) : Runs (l ++ m) := fun e he => (List.mem_append.1 he).elim (h e) (k e)
theorem Ex.idleR {ps : List (List Ins)} : ∀ {l : List Ent} {s : Wst}, Runs l → Lim s → s.rd = [] → s.ev = [] → s.nl + l.length < 100000 → s.steps + l.length < 100000 → Ex ps s l [] { s with nl := s.nl + l.length, steps := s.steps + l.length }
 | [], s, hr, hl, hrd, he, h1, h2 => ⟨rfl, by simp⟩
 | e :: l, s, hr, hl, hrd, he, h1, h2 => by
  obtain ⟨m, rfl⟩ := hr e List.mem_cons_self
  simp only [List.length_cons] at h1 h2
  have hs := stepF_idle (ps := ps) (n := m) hl hrd
  have hl2 : Lim { s with ev := [], nl := s.nl + 1, steps := s.steps + 1 } := by
   obtain ⟨l1, l2, l3, l4, l5, l6, l7, l8, l9, l10, l11, l12, l13, l14, l15⟩ := hl
   exact ⟨by simp, l2, l3, l4, l5, l6, l7, l8, by show s.nl + 1 < 100000; omega, by show 0 ≤ s.steps + 1; omega, by show s.steps + 1 < 100000; omega, l12, l13, l14, l15⟩
  have ih := Ex.idleR (ps := ps) (l := l) (s := { s with ev := [], nl := s.nl + 1, steps := s.steps + 1 }) (fun e he => hr e (List.mem_cons_of_mem _ he)) hl2 hrd rfl (by show s.nl + 1 + l.length < 100000; omega) (by show s.steps + 1 + l.length < 100000; omega)
  have h3 := Ex.cons hs rfl ih
  have e1 : s.nl + 1 + l.length = s.nl + (l.length + 1) := by omega
  have e2 : s.steps + 1 + (l.length : Int) = s.steps + ((l.length + 1 : Nat) : Int) := by omega
  simp only [e1, e2, List.nil_append] at h3
  refine cast (congrArg (Ex ps s (.run m :: l) []) ?_) h3
  cases s
  simp only at he
  subst he
  rfl
theorem muT_le : ∀ {l : List Tsk}, (∀ x ∈ l, wtT x ≤ 3) → muT l ≤ 3 * l.length
 | [], h => Nat.le_refl _
 | x :: l, h => by
  have h1 := h x List.mem_cons_self
  have h2 := muT_le (l := l) (fun y hy => h y (List.mem_cons_of_mem _ hy))
  simp only [muT, List.map_cons, List.sum_cons, List.length_cons] at h2 ⊢
  omega
theorem I3.mu {n : Nat} {d : Int} {s : Wst} {evs : List Ev} (h : I3 n d s evs) : muT s.ts ≤ 3 * (n + 1) := by
 rw [← h.len]
 refine muT_le fun x hx => ?_
 obtain ⟨i, hi⟩ := List.getElem?_of_mem hx
 have hil := (List.getElem?_eq_some_iff.1 hi).1
 rw [h.len] at hil
 cases i with
 | zero =>
  obtain ⟨r, hm | hm⟩ := h.main
  ·rw [hm] at hi; cases hi; simp [wtT]
  ·rw [hm] at hi; cases hi; simp [wtT]
 | succ i =>
  obtain ⟨r, ht | ht | ht | ht⟩ := h.tsk i (by omega)
  ·rw [ht.1] at hi; cases hi; simp [wtT]
  ·rw [ht.1] at hi; cases hi; simp [wtT]
  ·rw [ht.1] at hi; cases hi; simp [wtT]
  ·rw [ht.1] at hi; cases hi; simp [wtT]
theorem I3.done {n : Nat} {d : Int} {s : Wst} {evs : List Ev} (h : I3 n d s evs) (hr : s.rd = []) (j : Nat) (hj : j < n) : toldM evs ((j : Int) + 1) = [d] := by
 have hno : ∀ x, s.ts[j + 1]? = some x → x.st ≠ 0 := fun x hx h0 => by
  have := (h.rdi (j + 1)).2 ⟨x, hx, h0⟩
  rw [hr] at this
  cases this
 obtain ⟨r, ht | ht | ht | ht⟩ := h.tsk j hj
 ·exact absurd rfl (hno _ ht.1)
 ·exact absurd rfl (hno _ ht.1)
 ·exact absurd rfl (hno _ ht.1)
 ·exact ht.2
theorem tb_all {n : Nat} {d : Int} {picks : List Int} (hn : 1 ≤ n ∧ n ≤ 8) (hd : 1 ≤ d ∧ d ≤ 100) (hp : picks.length ≤ 200) :
  ∃ e1 s1 e2 s2 s3 e3 s4 e4 s5, Ex [tbP n d, tbQ] initS (manyE 0 (20 * (n + 2))) e1 s1 ∧ Ex [tbP n d, tbQ] s1 (pickE picks) e2 s2 ∧ stepF [tbP n d, tbQ] s2 (.adv d) = some s3 ∧ Ex [tbP n d, tbQ] s3 (pickE picks) e3 s4 ∧ Ex [tbP n d, tbQ] s4 (manyE 0 (20 * (n + 2))) e4 s5 ∧ (∀ e ∈ e1 ++ e2, e.kind ≠ 1) ∧ e1.length + e2.length + e3.length + e4.length ≤ 1000 ∧ ∀ j : Nat, j < n → toldM (e1 ++ e2 ++ e3 ++ e4) ((j : Int) + 1) = [d] := by
 obtain ⟨e1, W, x1, hk, hle, hW⟩ := tb_first hn hd
 have hpl : (pickE picks).length = picks.length := List.length_map ..
 have x2 : Ex [tbP n d, tbQ] (tbS n d W (20 * (n + 2)) (20 * (n + 2))) (pickE picks) [] (tbS n d W (20 * (n + 2) + (pickE picks).length) (20 * (n + 2) + (pickE picks).length)) := Ex.idleR (runs_pick picks) (by simp [Lim, tbS]; omega) rfl rfl (by show 20 * (n + 2) + (pickE picks).length < 100000; omega) (by show (20 : Int) * (n + 2) + (pickE picks).length < 100000; omega)
 have x3 := tb_adv (W := W) (nl := 20 * (n + 2) + (pickE picks).length) (st := 20 * (n + 2) + (pickE picks).length) hn hd (by omega) ⟨by omega, by omega⟩
 have hall : Runs (pickE picks ++ manyE 0 (20 * (n + 2))) := (runs_pick picks).append (runs_many _ _)
 have hlen : (pickE picks ++ manyE 0 (20 * (n + 2))).length = picks.length + 20 * (n + 2) := by rw [List.length_append, hpl, many_len]
 cases hL : pickE picks ++ manyE 0 (20 * (n + 2)) with
 | nil => rw [hL] at hlen; simp only [List.length_nil] at hlen; omega
 | cons e l =>
  rw [hL] at hall hlen
  simp only [List.length_cons] at hlen
  obtain ⟨m, rfl⟩ := hall e List.mem_cons_self
  obtain ⟨s', h1, h2, h3, h4, h5⟩ := tb_close (m := m) (nl := 20 * (n + 2) + (pickE picks).length) (st := 20 * (n + 2) + (pickE picks).length + 1) (ev := [⟨20 * (n + 2) + (pickE picks).length, 6, -1, 0, d, 0⟩, ⟨20 * (n + 2) + (pickE picks).length, 3, 0, 0, d, 1⟩]) hn hd hW (by omega) ⟨by omega, by omega⟩ (by simp) (evs := e1 ++ []) (toldM_none (by simpa using hk))
  obtain ⟨e5, s5, k1, k2, k3, k4⟩ := I3.runs hn.2 hd (l := l) (fun e he => hall e (List.mem_cons_of_mem _ he)) h2 (by omega) (by omega) ⟨by omega, by omega⟩
  have hmu := h2.mu
  have hend : s5.rd = [] := by
   rcases k3 with k3 | k3
   ·exact k3
   ·omega
  have x4 : Ex [tbP n d, tbQ] (tbA n d W (20 * (n + 2) + (pickE picks).length) (20 * (n + 2) + (pickE picks).length + 1) [⟨20 * (n + 2) + (pickE picks).length, 6, -1, 0, d, 0⟩, ⟨20 * (n + 2) + (pickE picks).length, 3, 0, 0, d, 1⟩]) (pickE picks ++ manyE 0 (20 * (n + 2))) (s'.ev ++ e5) s5 := by
   rw [hL]
   exact ⟨s', e5, h1, k1, rfl⟩
  obtain ⟨e3, e4, s4, y1, y2, y3⟩ := Ex.split x4
  refine ⟨e1, _, [], _, _, e3, s4, e4, s5, x1, x2, x3, y1, y2, by simpa using hk, ?_, fun j hj => ?_⟩
  ·have hl2 : e3.length + e4.length = s'.ev.length + e5.length := by rw [← List.length_append, ← List.length_append, y3]
   simp only [List.length_nil]
   omega
  ·have hd2 := k2.done hend j hj
   rw [List.append_assoc, ← y3, ← List.append_assoc]
   exact hd2
end Go.Proofs.YtjnkphhlkoapbaaGreat
