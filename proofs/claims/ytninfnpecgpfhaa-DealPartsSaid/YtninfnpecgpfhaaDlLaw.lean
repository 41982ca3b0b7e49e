/-
  The walk of DealSound.
-/
import Derived.Test.YtninfnpecgpfhaaDlP
import Derived.Test.YtninfnpecgpfhaaDlAw
import Derived.Deep.LoopGhost
namespace Go.Proofs.Ytninfnpecgpfhaa
open Go.RowKit
set_option linter.unusedVariables false
set_option linter.unusedSimpArgs false

theorem awake_at {w0 : World} (w : World) (hb : Made w0 w) : Calls Try.prog 6 #[] w fun e w' => e = .returned (.bool true) ∧ Made w0 w' :=
  (awake_c w).mono fun _ _ h => ⟨h.1, Turns.trans hb h.2⟩

/-- Rows of different kinds lie apart. -/
theorem apart_q {w : World} {B : Nat} {vq vd : Value} {q : List Int} {ds : List DealT} (h1 : OwnQ w B vq q) (h2 : Owns encD 27 5 w vd ds) : ∀ k, vq.ownBlock = some k → vd.ownBlock ≠ some k := by
  intro k hk hk2
  rcases h1 with ⟨rfl, _⟩ | ⟨g, off, cap, cur, rfl, hb, hg, _⟩
  · simp [Value.ownBlock] at hk
  · simp only [Value.ownBlock, Option.some.injEq] at hk
    subst hk
    rcases h2.2 with ⟨rfl, _⟩ | ⟨g', cap', cur', rfl, _, hg', _⟩
    · simp [Value.ownBlock] at hk2
    · simp only [Value.ownBlock, Option.some.injEq] at hk2
      subst hk2
      rw [hg] at hg'
      injection hg' with hg'
      injection hg' with _ ht
      revert ht
      decide

/-- The row with so many more received. -/
def moreL (ds : List DealT) (j : Nat) : List DealT := ds ++ (List.range j).map (fun i : Nat => gotD (900 + (i : Int)))

theorem own_empty (w : World) (B : Nat) (hB : B ≤ w.heap.size) : (w.alloc (.cells #[] 27)).ownsRow B 27 5 (.slice (some ⟨w.heap.size, 0, none⟩) 0 0) 0 [] := World.ownsRow_made w #[] 0 hB (Nat.zero_le _) rfl

theorem any_next {ds : List DealT} {K j : Nat} {e : DealT} (f : DealT → Bool) (hj : K ≤ j) (he : ds[j]? = some e) : ((ds.drop K).take (j + 1 - K)).any f = (((ds.drop K).take (j - K)).any f || f e) := by
  rw [show j + 1 - K = j - K + 1 from by omega, take_snoc (x := e) (by rw [List.getElem?_drop, show K + (j - K) = j from by omega]; exact he)]
  simp

set_option maxHeartbeats 8000000 in
set_option maxRecDepth 100000 in
theorem dealSound_w (room : Int) (a1 : Option Addr) (len cap : Nat) (bs : List Bool) (at_ : Int) (w : World) (w1 : RowIn (fun z => [Value.bool z]) 1 w a1 len bs) :
    Calls Try.prog 3 #[.int .i64 room, .slice a1 len cap, .int .i64 at_] w fun e w' => e = .returned (.bool true) ∧ Made w w' := by
  have HA := Lib.hid (fun w1 => @awake_at w w1)
  obtain ⟨hlen, hrow⟩ := w1
  have HL := Lib.hid hlen
  clear hlen
  by_cases g1 : room < 1
  · go_enter Try.func3, Try.ntmps3
    go_wp2_with fail
    refine (HA.out _ (Turns.refl _ _)).mono ?_
    rintro e w' ⟨rfl, hb⟩
    go_wp2_with fail
    go_ret
    exact ⟨rfl, hb⟩
  by_cases g2 : 20 < room
  · go_enter Try.func3, Try.ntmps3
    go_wp2_with fail
    refine (HA.out _ (Turns.refl _ _)).mono ?_
    rintro e w' ⟨rfl, hb⟩
    go_wp2_with fail
    go_ret
    exact ⟨rfl, hb⟩
  by_cases g3 : 60 < len
  · go_enter Try.func3, Try.ntmps3
    go_wp2_with fail
    refine (HA.out _ (Turns.refl _ _)).mono ?_
    rintro e w' ⟨rfl, hb⟩
    go_wp2_with fail
    go_ret
    exact ⟨rfl, hb⟩
  have g3' : len ≤ 60 := by omega
  clear g3
  obtain ⟨i0, hi0, hz0, hz1, hz2⟩ := info_parts Try.infoI
  obtain ⟨j0, hj0, hy0, hy1, hy2⟩ := info_parts Try.infoD
  have HROW := Lib.hid hrow
  clear hrow
  go_enter Try.func3, Try.ntmps3
  go_wp2_with fail
  go_loopw [7, 8, 9, 10] (fun v7 v8 v9 v10 wr => ∃ k : Nat, k ≤ len ∧ v10 = .int .i64 k ∧ v9 = .int .i64 (mk room (bs.take k)).2.2 ∧ OwnQ wr w.heap.size v8 (mk room (bs.take k)).2.1 ∧ Owns encD 27 5 wr v7 (mk room (bs.take k)).1 ∧ (∀ b, v7.ownBlock = some b → w.heap.size ≤ b) ∧ Made w wr) (fun _ _ _ v10 _ => len - (intOf v10).toNat)
  case atStart => exact ⟨0, Nat.zero_le _, rfl, rfl, OwnQ.none_ _ _, World.ownsRow_nil _ _ _ _, fun b hb => by simp [Value.ownBlock] at hb, Turns.refl _ _⟩
  case round =>
    obtain ⟨k, hk, rfl, rfl, hq, hd, hdb, hm⟩ := hrel
    have hlen := mk_len room (bs.take k)
    rw [List.length_take] at hlen
    have hfine := fine_made (room := room) (by omega) (bs.take k)
    by_cases hlt : k < len
    · rcases HROW.out with hz | ⟨b, off, hae, hblt, hlies⟩
      · omega
      · subst hae
        clear HROW
        obtain ⟨x, hx⟩ := get_of_lt (xs := bs) (k := k) (by rw [HL.out]; exact hlt)
        have hcx : wr.cell? ⟨b, off + k, none⟩ = some (.bool x) := (hm.cell (p := ⟨b, off + k, none⟩) hblt (fun h => h)).trans (Lies.one (f := Value.bool) hlies hx)
        have hs := mk_snoc room (bs.take k) x
        rw [← take_snoc hx] at hs
        generalize mk room (bs.take k) = s at *
        obtain ⟨ds, q, n⟩ := s
        simp only at *
        generalize hB : mk room (bs.take (k + 1)) = s' at *
        have HB := Lib.hid hB
        have HS := Lib.hid hs
        have HQ := Lib.hid hq
        have HD := Lib.hid hd
        have HDB := Lib.hid hdb
        have HM := Lib.hid hm
        have HF := Lib.hid hfine
        obtain ⟨l1, l2, l3⟩ := hlen
        have n0 := hfine.nn
        have ql := hfine.ql
        simp only at n0 ql
        have q1 : ds.length ≤ 60 := by omega
        have q2 : n ≤ 60 := by omega
        have q3 : q.length ≤ 60 := by omega
        clear hB hs hq hd hdb hm hfine hx l1 l2 l3
        cases x with
        | true =>
          obtain ⟨aq, cq, rfl, hlq, hcq, -, -⟩ := HQ.out.form
          by_cases hl : (q.length : Int) < room
          · have hst : s' = (ds ++ [sendD (n + 1)], q ++ [n + 1], n + 1) := by rw [HS.out]; unfold mkStep; simp [hl]
            have HT := Lib.hid hst
            clear hst
            go_wp2_with (at_builtin; refine wpList_push _ rfl (.tmp 49) (.tmp 51) 25 rfl w.heap.size i0 Try.underlying25 hi0 hz0 hz1 hz2 _ q rfl (HQ.out.alloc _) ⟨wr.heap.size, 0, none⟩ 1 (n + 1) rfl ?c1 ?c2 ?c3 ?_)
            case c1 => exact (Blk.new wr 3 _).cell 0
            case c2 => omega
            case c3 => have := HM.out.size; simp; omega
            intro v8 w2 hq2 hg2 hl2
            have hm2 : Made w w2 := (HM.out.alloc _).grown hg2 (fun b' hb' hlt' => by have := (HQ.out.lt b' hb').1; omega)
            have hd2 : Owns encD 27 5 w2 u7 ds := (HD.out.turns ((Turns.refl (fun _ => False) wr).alloc _) (fun _ _ h => h)).turns (S := fun b' => (Value.slice aq q.length cq).ownBlock = some b') ((Turns.refl _ _).grown hg2 (fun b' hb' _ => hb')) (fun b' hb' hs' => apart_q HQ.out HD.out b' hs' hb')
            have HQ2 := Lib.hid hq2
            have HM2 := Lib.hid hm2
            have HD2 := Lib.hid hd2
            clear hq2 hg2 hl2 hm2 hd2
            obtain ⟨aq2, cq2, rfl, hlq2, hcq2, -, -⟩ := HQ2.out.form
            rw [List.length_append, List.length_singleton] at *
            go_wp2_with (at_builtin; refine wpList_append_own _ rfl (.tmp 53) (.tmp 56) 24 rfl w.heap.size 27 j0 _ 5 40 Try.underlying24 hj0 hy0 hy1 hy2 rfl (by decide) _ ds.length (flat encD ds) rfl (own_from _ HDB.out (World.ownsRow.alloc HD2.out _)) ⟨w2.heap.size, 0, none⟩ 1 1 (encD (sendD (n + 1))) rfl rfl ?c4 ?c5 ?c6 ?c7 ?c8 ?_)
            case c4 => exact World.news_of_block (cs := (encD (sendD (n + 1))).toArray) (t := 27) (fr := (0, 0)) (heap_alloc_new w2 _)
            case c5 => intro u hu; exact encD_one [sendD (n + 1)] u (by simpa [flat] using hu)
            case c6 => unfold maxLen; omega
            case c7 => omega
            case c8 => have := HM2.out.size; simp; omega
            intro vd w3 hd3 hg3 _
            have hm3 : Made w w3 := (HM2.out.alloc _).grown hg3 (fun b' hb' hlt' => by have := HDB.out b' hb'; omega)
            have hq3 : OwnQ w3 w.heap.size (Value.slice aq2 (q.length + 1) cq2) (q ++ [n + 1]) := (HQ2.out.alloc _).turns (S := fun b' => u7.ownBlock = some b') ((Turns.refl _ _).grown hg3 (fun b' hb' _ => hb')) (fun b' hb' hs' => apart_q HQ2.out HD2.out b' hb' hs')
            have hd3' : Owns encD 27 5 w3 vd (ds ++ [sendD (n + 1)]) := by
              unfold Owns
              rw [flat_append, List.length_append]
              simpa [flat] using owns_zero hd3
            have hb3 : ∀ b', vd.ownBlock = some b' → w.heap.size ≤ b' := fun b' hb' => (World.ownsRow.lt hd3 b' hb').1
            have HX := Lib.hid hq3
            clear hd3 hg3 hq3
            go_wp2_with fail
            go_roundw
            case rel => exact ⟨k + 1, by omega, by go_num, by rw [HB.out, HT.out], by rw [HB.out, HT.out]; exact HX.out, by rw [HB.out, HT.out]; exact hd3', hb3, hm3⟩
            case measure => simp [intOf]; omega
          · have hst : s' = (ds, q, n) := by rw [HS.out]; unfold mkStep; simp [hl]
            have HT := Lib.hid hst
            clear hst
            go_wp2_with fail
            go_roundw
            case rel => exact ⟨k + 1, by omega, by go_num, by rw [HB.out, HT.out], by rw [HB.out, HT.out]; exact HQ.out, by rw [HB.out, HT.out]; exact HD.out, HDB.out, HM.out⟩
            case measure => simp [intOf]; omega
        | false =>
          cases q with
          | nil =>
            obtain ⟨aq, cq, rfl, hlq, hcq, -, -⟩ := HQ.out.form
            have hst : s' = (ds, [], n) := by rw [HS.out]; unfold mkStep; simp
            have HT := Lib.hid hst
            clear hst
            simp only [List.length_nil] at *
            go_wp2_with fail
            go_roundw
            case rel => exact ⟨k + 1, by omega, by go_num, by rw [HB.out, HT.out], by rw [HB.out, HT.out]; exact HQ.out, by rw [HB.out, HT.out]; exact HD.out, HDB.out, HM.out⟩
            case measure => simp [intOf]; omega
          | cons y q =>
            have hst : s' = (ds ++ [gotD y], q, n) := by rw [HS.out]; unfold mkStep; simp
            have HT := Lib.hid hst
            clear hst
            simp only [List.length_cons] at *
            obtain ⟨gq, oq, cq, hve, hlq, hcq, hcell, hglt, hgB⟩ := HQ.out.head
            subst hve
            go_wp2_with (at_builtin; refine wpList_append_own _ rfl (.tmp 69) (.tmp 74) 24 rfl w.heap.size 27 j0 _ 5 40 Try.underlying24 hj0 hy0 hy1 hy2 rfl (by decide) _ ds.length (flat encD ds) rfl (own_from _ HDB.out (World.ownsRow.alloc HD.out _)) ⟨wr.heap.size, 0, none⟩ 1 1 (encD (gotD y)) rfl rfl ?c4 ?c5 ?c6 ?c7 ?c8 ?_)
            case c4 => exact World.news_of_block (cs := (encD (gotD y)).toArray) (t := 27) (fr := (0, 0)) (heap_alloc_new wr _)
            case c5 => intro u hu; exact encD_one [gotD y] u (by simpa [flat] using hu)
            case c6 => unfold maxLen; omega
            case c7 => omega
            case c8 => have := HM.out.size; simp; omega
            intro vd w3 hd3 hg3 _
            have hm3 : Made w w3 := (HM.out.alloc _).grown hg3 (fun b' hb' hlt' => by have := HDB.out b' hb'; omega)
            have hq3 : OwnQ w3 w.heap.size (Value.slice (some ⟨gq, oq, none⟩) (q.length + 1) cq) (y :: q) := (HQ.out.alloc _).turns (S := fun b' => u7.ownBlock = some b') ((Turns.refl _ _).grown hg3 (fun b' hb' _ => hb')) (fun b' hb' hs' => apart_q HQ.out HD.out b' hb' hs')
            have hd3' : Owns encD 27 5 w3 vd (ds ++ [gotD y]) := by
              unfold Owns
              rw [flat_append, List.length_append]
              simpa [flat] using owns_zero hd3
            have hb3 : ∀ b', vd.ownBlock = some b' → w.heap.size ≤ b' := fun b' hb' => (World.ownsRow.lt hd3 b' hb').1
            have HX := Lib.hid hq3
            have HM3 := Lib.hid hm3
            have HD3 := Lib.hid hd3'
            have HB3 := Lib.hid hb3
            clear hd3 hg3 hq3 hm3 hd3' hb3
            by_cases hc : cq = 1
            · obtain rfl : q = [] := List.eq_nil_of_length_eq_zero (by omega)
              subst hc
              simp only [List.length_nil] at *
              go_wp2_with fail
              go_roundw
              case rel => exact ⟨k + 1, by omega, by go_num, by rw [HB.out, HT.out], by rw [HB.out, HT.out]; exact OwnQ.tail_end (l := []) HX.out rfl, by rw [HB.out, HT.out]; exact HD3.out, HB3.out, HM3.out⟩
              case measure => simp [intOf]; omega
            · unfold maxLen at hcq
              go_wp2_with fail
              go_roundw
              case rel => exact ⟨k + 1, by omega, by go_num, by rw [HB.out, HT.out], by rw [HB.out, HT.out]; exact HX.out.tail, by rw [HB.out, HT.out]; exact HD3.out, HB3.out, HM3.out⟩
              case measure => simp [intOf]; omega
    · have hke : k = len := by omega
      have e : bs.take k = bs := by rw [hke, ← HL.out, List.take_length]
      rw [e] at hlen hfine hq hd
      clear e hke
      rw [HL.out] at hlen
      generalize mk room bs = s at *
      obtain ⟨ds, q, n⟩ := s
      simp only at *
      have HF := Lib.hid hfine
      have HQ := Lib.hid hq
      have HD := Lib.hid hd
      have HDB := Lib.hid hdb
      have HM := Lib.hid hm
      obtain ⟨l1, l2, l3⟩ := hlen
      have q1 : ds.length ≤ 60 := by omega
      have q2 : n ≤ 60 := by omega
      have q3 : q.length ≤ 60 := by omega
      clear hfine hq hd hdb hm l1 l2 l3
      have hmm := @run_makeMap Try.prog
      obtain ⟨wm, hrun, hmap, htm, -⟩ := (MapI.new wr).store (P := Try.prog) Try.underlying28 Try.underlying3 3 (.int .i64 room)
      have hmade : Made wr wm := Turns.then ((Turns.refl (fun _ => False) wr).alloc _) htm (fun b h1 h2 => by omega)
      have HP := Lib.hid hmap
      have HDm := Lib.hid (HD.out.turns hmade (fun _ _ h => h))
      have HQm := Lib.hid (HQ.out.turns hmade (fun _ _ h => h))
      have HMm := Lib.hid (Turns.trans HM.out hmade)
      clear hmap htm hmade
      have hr := HDm.out.rowIn encD_len
      obtain ⟨ad, cd, hvd, hrd, hld, hmd, -, -⟩ := hr
      subst hvd
      have HR := Lib.hid hrd
      clear hrd
      have hs1 : soundF room ds = true := by unfold soundF; rw [HF.out.run]; rfl
      go_wp2_with fail
      refine (sound_c ad _ cd _ _ 3 room wm HR.out (by omega) HF.out.ch (by omega) (by omega) (capIs_map HP.out (c := 3) (cap := room) (by simp))).mono ?_
      rintro e w4 ⟨rfl, m4⟩
      clear hrun hmm
      rw [hs1]
      clear hs1
      have HD4 := Lib.hid (HDm.out.turns m4 (fun _ _ h => h))
      have HQ4 := Lib.hid (HQm.out.turns m4 (fun _ _ h => h))
      have HR4 := Lib.hid (HR.out.made m4)
      have HM4 := Lib.hid (Turns.trans HMm.out m4)
      have HP4 := Lib.hid (HP.out.turns m4 (fun h => h))
      clear m4
      by_cases h0 : ds.length = 0
      · have h0' : ((ds.length : Int) == 0) = true := by rw [beq_iff_eq]; omega
        have h0b := Lib.hid h0
        clear h0
        go_wp2_with fail
        refine (HA.out _ HM4.out).mono ?_
        rintro e w' ⟨rfl, hb⟩
        go_wp2_with fail
        go_ret
        exact ⟨rfl, hb⟩
      · have h0' : ((ds.length : Int) == 0) = false := beq_eq_false_iff_ne.mpr (by omega)
        have hpos : 0 < ds.length := by omega
        clear h0
        go_wp2_with fail
        refine (round_c at_ _ _ (by omega) (by omega)).mono ?_
        rintro e w5 ⟨rfl, hw⟩
        subst hw
        obtain ⟨K, hK⟩ : ∃ K : Nat, at_ % (ds.length : Int) = K := ⟨(at_ % (ds.length : Int)).toNat, (Int.toNat_of_nonneg (Int.emod_nonneg _ (by omega))).symm⟩
        have hKlt : K < ds.length := by have := Int.emod_lt_of_pos at_ (show (0 : Int) < ds.length by omega); omega
        rw [hK]
        clear hK
        rcases HD4.out.form with ⟨_, h0⟩ | ⟨gd, cd', hvd, hgd, -, -⟩
        · subst h0; simp at hpos
        simp only [Value.slice.injEq, true_and] at hvd
        obtain ⟨rfl, rfl⟩ := hvd
        have hne5 : 0 < ds.length * 5 := by omega
        go_wp2_with (at_builtin; refine wpList_append_own _ rfl (.tmp 93) (.tmp 94) 24 rfl w4.heap.size 27 j0 _ 5 40 Try.underlying24 hj0 hy0 hy1 hy2 rfl (by omega) _ 0 [] rfl ?own ⟨gd, 0, none⟩ ds.length cd (flat encD ds) rfl ?len ?cells ?one ?b1 ?b2 ?b3 ?_)
        case own => exact World.ownsRow_made w4 #[] 0 (Nat.le_refl _) (Nat.zero_le _) rfl
        case len => exact flat_length encD_len ds
        case cells =>
          intro j u hu
          rw [Addr.add_lit]
          have h0 := World.ownsRow.cells (g := gd) HD4.out rfl j u hu
          rw [Addr.add_lit] at h0
          exact ((Below.refl w4.heap.size w4).alloc (Nat.le_refl _) _).cell (p := ⟨gd, 0 + j, none⟩) hgd |>.trans h0
        case one => exact encD_one ds
        case b1 => unfold maxLen; omega
        case b2 => omega
        case b3 => simp
        intro vo w5 hown5 hg5 _
        have m5 : Made w4 w5 := ((Turns.refl _ _).alloc _).grown hg5 (fun b' hb' hlt' => by simp [Value.ownBlock] at hb'; omega)
        have hob : ∀ b', vo.ownBlock = some b' → w4.heap.size ≤ b' := fun b' hb' => (World.ownsRow.lt hown5 b' hb').1
        have ho5 : Owns encD 27 5 w5 vo ds := by unfold Owns; simpa using owns_zero hown5
        have HD5 := Lib.hid (HD4.out.turns m5 (fun _ _ h => h))
        have HQ5 := Lib.hid (HQ4.out.turns m5 (fun _ _ h => h))
        have HM5 := Lib.hid (Turns.trans HM4.out m5)
        have HP5 := Lib.hid (HP4.out.turns m5 (fun h => h))
        have HO5 := Lib.hid ho5
        have HOB := Lib.hid hob
        clear hown5 hg5 m5 hob ho5
        obtain ⟨dk, hdk⟩ := get_of_lt (xs := ds) (k := K) hKlt
        have HK := Lib.hid hdk
        clear hdk
        rcases HO5.out.form with ⟨_, h0⟩ | ⟨go, co, hvo, hgo, -, -⟩
        · subst h0; simp at hpos
        subst hvo
        have hgne : ¬ gd = go := by have := HOB.out go rfl; omega
        go_wp2_with fail
        go_loopw [14, 15] (fun v14 v15 wr => ∃ j : Nat, K ≤ j ∧ j ≤ ds.length ∧ v15 = .int .i64 j ∧ v14 = .bool (((ds.drop K).take (j - K)).any fun e => (e.got && !dk.got) && e.value == dk.value) ∧ Made w5 wr) (fun _ v15 _ => ds.length - (intOf v15).toNat)
        case atStart => exact ⟨K, Nat.le_refl _, by omega, rfl, by simp, Turns.refl _ _⟩
        case round =>
          obtain ⟨j, hKj, hj, rfl, rfl, hm⟩ := hrel
          have hD := HD5.out.turns hm (fun _ _ h => h)
          have HM := Lib.hid hm
          clear hm
          by_cases hjl : j < ds.length
          · obtain ⟨e, he⟩ := get_of_lt (xs := ds) (k := j) hjl
            have hn := any_next (fun e => (e.got && !dk.got) && e.value == dk.value) hKj he
            have hcg : wr.cell? ⟨gd, j * 5 + 3, none⟩ = some (.bool e.got) := Owns.cell encD_len hD he (j := 3) rfl
            have hcv : wr.cell? ⟨gd, j * 5 + 2, none⟩ = some (.int .i64 e.value) := Owns.cell encD_len hD he (j := 2) rfl
            have hkg : wr.cell? ⟨gd, K * 5 + 3, none⟩ = some (.bool dk.got) := Owns.cell encD_len hD HK.out (j := 3) rfl
            have hkv : wr.cell? ⟨gd, K * 5 + 2, none⟩ = some (.int .i64 dk.value) := Owns.cell encD_len hD HK.out (j := 2) rfl
            clear hD he
            generalize hacc : ((ds.drop K).take (j - K)).any (fun e => (e.got && !dk.got) && e.value == dk.value) = acc at *
            generalize hacc' : ((ds.drop K).take (j + 1 - K)).any (fun e => (e.got && !dk.got) && e.value == dk.value) = acc' at *
            have HN := Lib.hid hacc'
            have HE := Lib.hid hn
            clear hacc hacc' hn
            have i1 : (0 : Int) ≤ (j : Int) := Int.natCast_nonneg _
            have i2 : (j : Int) < (ds.length : Int) := by omega
            have i3 : (0 : Int) ≤ (K : Int) := Int.natCast_nonneg _
            have i4 : (K : Int) < (ds.length : Int) := by omega
            cases acc with
            | true =>
              have ha : acc' = true := by rw [HE.out]; rfl
              subst ha
              go_wp2_with fail
              go_quiet (fail)
              go_wp2_with fail
              go_roundw
              case rel => exact ⟨j + 1, by omega, by omega, by go_num, by rw [HN.out], HM.out.drewN _⟩
              case measure => simp [intOf]; omega
            | false =>
              cases hge : e.got with
              | false =>
                have ha : acc' = false := by rw [HE.out]; simp [hge]
                subst ha
                rw [hge] at hcg
                clear hge
                go_wp2_with fail
                go_quiet (fail)
                go_wp2_with fail
                go_roundw
                case rel => exact ⟨j + 1, by omega, by omega, by go_num, by rw [HN.out], HM.out.drewN _⟩
                case measure => simp [intOf]; omega
              | true =>
                cases hgk : dk.got with
                | true =>
                  have ha : acc' = false := by rw [HE.out]; simp [hgk]
                  subst ha
                  rw [hge] at hcg
                  rw [hgk] at hkg
                  rw [hgk] at HN
                  clear hge
                  have HGK := Lib.hid hgk
                  clear hgk
                  go_wp2_with fail
                  go_quiet (fail)
                  go_wp2_with fail
                  go_roundw
                  case rel => exact ⟨j + 1, by omega, by omega, by go_num, by rw [HN.out], HM.out.drewN _⟩
                  case measure => simp [intOf]; omega
                | false =>
                  rw [hge] at hcg
                  rw [hgk] at hkg
                  rw [hgk] at HN
                  have HGK := Lib.hid hgk
                  have ha : acc' = (e.value == dk.value) := by rw [HE.out]; simp [hge, hgk]
                  clear hge hgk
                  subst ha
                  go_wp2_with fail
                  go_quiet (fail)
                  go_wp2_with fail
                  go_roundw
                  case rel => exact ⟨j + 1, by omega, by omega, by go_num, by rw [HN.out], HM.out.drewN _⟩
                  case measure => simp [intOf]; omega
          · have hje : j = ds.length := by omega
            have hall : (ds.drop K).take (j - K) = ds.drop K := List.take_of_length_le (by rw [List.length_drop]; omega)
            rw [hall]
            clear hall hje
            have hD6 := Lib.hid hD
            have hO6 := HO5.out.turns HM.out (fun _ _ h => h)
            have hcv : wr.cell? ⟨go, K * 5 + 2, none⟩ = some (.int .i64 dk.value) := Owns.cell encD_len hO6 HK.out (j := 2) rfl
            have hfr : wr.frozen? ⟨go, K * 5 + 2, none⟩ = false := hO6.free _
            have hodd := Owns.put encD_len hO6 (i := K) (x := dk) (x' := { dk with value := -5 }) (j := 2) (u := .int .i64 (-5)) HK.out rfl (by decide)
            have HODD := Lib.hid hodd
            have i3 : (0 : Int) ≤ (K : Int) := Int.natCast_nonneg _
            have i4 : (K : Int) < (ds.length : Int) := by omega
            clear hD hO6 hodd
            have tput : Turns (fun b' => b' = go) wr (wr.setCell ⟨go, K * 5 + 2, none⟩ (.int .i64 (-5))) := (Turns.refl (fun b' => b' = go) wr).setCell (p := ⟨go, K * 5 + 2, none⟩) (fun _ => rfl) _
            have hD7 : Owns encD 27 5 (wr.setCell ⟨go, K * 5 + 2, none⟩ (.int .i64 (-5))) _ ds := hD6.out.turns tput (fun b' hb' hs' => by simp [Value.ownBlock] at hb'; omega)
            have hM7 : Made w (wr.setCell ⟨go, K * 5 + 2, none⟩ (.int .i64 (-5))) := Turns.then (Turns.trans HM5.out HM.out) tput (fun b' h1 h2 => by have := HOB.out go rfl; have := HM4.out.size; omega)
            have hP7 := MapI.turns (HP5.out.turns HM.out (fun h => h)) tput (fun e => by have := HOB.out go rfl; have := HP4.out.lt; omega)
            have hQ7 := OwnQ.turns (HQ5.out.turns HM.out (fun _ _ h => h)) tput (fun b' hb' e => by have := HOB.out go rfl; have := (HQ4.out.lt b' hb').2; omega)
            have HT := Lib.hid tput
            clear tput
            have HD7 := Lib.hid hD7
            have HM7 := Lib.hid hM7
            have HP7 := Lib.hid hP7
            have HQ7 := Lib.hid hQ7
            clear hD7 hM7 hP7 hQ7 hD6
            go_wp2_with (at_builtin; refine wpList_append_own _ rfl (.tmp 136) (.tmp 137) 24 rfl wr.heap.size 27 j0 _ 5 40 Try.underlying24 hj0 hy0 hy1 hy2 rfl (by omega) _ 0 [] rfl ?own ⟨gd, 0, none⟩ ds.length cd (flat encD ds) rfl ?len ?cells ?one ?b1 ?b2 ?b3 ?_)
            case own =>
              have hsz : (wr.setCell ⟨go, K * 5 + 2, none⟩ (.int .i64 (-5))).heap.size = wr.heap.size := by simp [World.setCell]
              have h := own_empty (wr.setCell ⟨go, K * 5 + 2, none⟩ (.int .i64 (-5))) wr.heap.size (by rw [hsz]; exact Nat.le_refl _)
              rw [hsz] at h
              exact h
            case len => exact flat_length encD_len ds
            case cells =>
              intro j' u hu
              rw [Addr.add_lit]
              have h0 := World.ownsRow.cells (g := gd) HD7.out rfl j' u hu
              rw [Addr.add_lit] at h0
              exact ((Turns.refl (fun _ => False) _).alloc _).cell (p := ⟨gd, 0 + j', none⟩) (HD7.out.lt rfl) (fun h => h) |>.trans h0
            case one => exact encD_one ds
            case b1 => unfold maxLen; omega
            case b2 => omega
            case b3 => simp
            intro vm w8 hown8 hg8 _
            have m8 : Made (wr.setCell ⟨go, K * 5 + 2, none⟩ (.int .i64 (-5))) w8 := ((Turns.refl _ _).alloc _).grown hg8 (fun b' hb' hlt' => by simp [Value.ownBlock] at hb'; subst hb'; simp at hlt')
            have hob8 : ∀ b', vm.ownBlock = some b' → (wr.setCell ⟨go, K * 5 + 2, none⟩ (.int .i64 (-5))).heap.size ≤ b' := fun b' hb' => by have := (World.ownsRow.lt hown8 b' hb').1; simpa using this
            have ho8 : Owns encD 27 5 w8 vm ds := by unfold Owns; simpa using owns_zero hown8
            obtain ⟨aq, cq, hvq, hlq, hcq, -, -⟩ := HQ7.out.form
            subst hvq
            have HODD' := HODD
            have HP' := HP7
            have HD' := HD7
            have HM' := HM7
            generalize wr.setCell ⟨go, K * 5 + 2, none⟩ (.int .i64 (-5)) = w7 at m8 hob8 HODD' HP' HD' HM'
            have HM8 := Lib.hid m8
            have HO8 := Lib.hid ho8
            have HB8 := Lib.hid hob8
            clear hown8 hg8 m8 ho8 hob8 HODD HP7 HD7 HM7 HQ7
            go_wp2_with fail
            go_loopw [16, 17] (fun v16 v17 wx => ∃ j : Nat, j ≤ q.length + 1 ∧ v17 = .int .i64 j ∧ Owns encD 27 5 wx v16 (moreL ds j) ∧ (∀ b', v16.ownBlock = some b' → w7.heap.size ≤ b') ∧ Made w7 wx) (fun _ v17 _ => q.length + 1 - (intOf v17).toNat)
            case atStart => exact ⟨0, Nat.zero_le _, rfl, by simpa [moreL] using HO8.out, HB8.out, HM8.out⟩
            case round =>
              obtain ⟨j', hj', rfl, hmore, hmb, hmm⟩ := hrel
              by_cases hjl' : j' < q.length + 1
              · have hll : (moreL ds j').length ≤ 200 := by unfold moreL; rw [List.length_append, List.length_map, List.length_range]; omega
                have hnx : (moreL ds (j' + 1)) = (moreL ds j') ++ [gotD (900 + (j' : Int))] := by unfold moreL; rw [List.range_succ, List.map_append, List.append_assoc]; rfl
                generalize moreL ds j' = L at *
                have HNX := Lib.hid hnx
                have HL3 := Lib.hid hmore
                have HB3 := Lib.hid hmb
                have HM3 := Lib.hid hmm
                clear hnx hmore hmb hmm
                have i5 : (j' : Int) ≤ (q.length : Int) := by omega
                go_wp2_with (at_builtin; refine wpList_append_own _ rfl (.tmp 145) (.tmp 149) 24 rfl w7.heap.size 27 j0 _ 5 40 Try.underlying24 hj0 hy0 hy1 hy2 rfl (by omega) _ L.length (flat encD L) rfl (own_from _ HB3.out (World.ownsRow.alloc HL3.out _)) ⟨wr.heap.size, 0, none⟩ 1 1 (encD (gotD (900 + (j' : Int)))) rfl rfl ?m4 ?m5 ?m6 ?m7 ?m8 ?_)
                case m4 => exact World.news_of_block (cs := (encD (gotD (900 + (j' : Int)))).toArray) (t := 27) (fr := (0, 0)) (heap_alloc_new wr _)
                case m5 => intro u hu; exact encD_one [gotD (900 + (j' : Int))] u (by simpa [flat] using hu)
                case m6 => unfold maxLen; omega
                case m7 => omega
                case m8 => have := HM3.out.size; simp; omega
                intro vd w3 hd3 hg3 _
                have hm3 : Made w7 w3 := (HM3.out.alloc _).grown hg3 (fun b' hb' hlt' => by have := HB3.out b' hb'; omega)
                have hd3' : Owns encD 27 5 w3 vd (L ++ [gotD (900 + (j' : Int))]) := by
                  unfold Owns
                  rw [flat_append, List.length_append]
                  simpa [flat] using owns_zero hd3
                have hb3 : ∀ b', vd.ownBlock = some b' → w7.heap.size ≤ b' := fun b' hb' => (World.ownsRow.lt hd3 b' hb').1
                have HM9 := Lib.hid hm3
                have HD9 := Lib.hid hd3'
                have HB9 := Lib.hid hb3
                clear hd3 hg3 hm3 hd3' hb3
                go_wp2_with fail
                go_roundw
                case rel => exact ⟨j' + 1, by omega, by go_num, by rw [HNX.out]; exact HD9.out, HB9.out, HM9.out⟩
                case measure => simp [intOf]; omega
              · have hje' : j' = q.length + 1 := by omega
                subst hje'
                have hfalls := more_falls HF.out (by simp only; omega) ((List.range q.length).map (fun i : Nat => gotD (901 + (i : Int))))
                have hml : moreL ds (q.length + 1) = ds ++ gotD 900 :: (List.range q.length).map (fun i : Nat => gotD (901 + (i : Int))) := by
                  unfold moreL
                  rw [List.range_succ_eq_map, List.map_cons, List.map_map]
                  congr 2
                  refine List.map_congr_left fun i _ => ?_
                  simp only [Function.comp, Nat.succ_eq_add_one]
                  congr 1
                  omega
                simp only at hfalls
                rw [← hml] at hfalls
                have hmc : ∀ d ∈ moreL ds (q.length + 1), d.ch = 3 := by
                  intro d hd
                  unfold moreL at hd
                  rw [List.mem_append, List.mem_map] at hd
                  rcases hd with hd | ⟨i, _, rfl⟩
                  · exact HF.out.ch d hd
                  · rfl
                have hmlen : (moreL ds (q.length + 1)).length ≤ 1000 := by unfold moreL; rw [List.length_append, List.length_map, List.length_range]; omega
                clear hml
                generalize moreL ds (q.length + 1) = L at *
                have hodd := odd_tells HF.out HK.out
                simp only at hodd
                have hoc : ∀ d ∈ ds.set K { dk with value := -5 }, d.ch = 3 := by
                  intro d hd
                  rcases List.mem_or_eq_of_mem_set hd with hd | rfl
                  · exact HF.out.ch d hd
                  · exact HF.out.ch dk (List.mem_of_getElem? HK.out)
                have hol : (ds.set K { dk with value := -5 }).length = ds.length := List.length_set
                generalize ds.set K { dk with value := -5 } = O at *
                have hO8 := Owns.turns (HODD'.out) hmm (fun _ _ h => h)
                rw [← hol] at hO8
                have hroO : RowIn encD 5 wr (some ⟨go, 0, none⟩) ds.length O := ⟨hol, .inr ⟨go, 0, rfl, hO8.lt rfl, fun i x hx j v hv => by rw [Nat.zero_add]; exact Owns.cell encD_len hO8 hx hv⟩⟩
                have hD8 := Owns.turns (HD'.out) hmm (fun _ _ h => h)
                have hP8 := MapI.turns (HP'.out) hmm (fun h => h)
                have hM8 := Turns.trans HM'.out hmm
                obtain ⟨aL, cL, hvL, hroL, hlL, hmL, -, -⟩ := hmore.rowIn encD_len
                subst hvL
                have hcap8 := capIs_map hP8 (c := 3) (cap := room) (by simp)
                have Hodd := Lib.hid (fun (w' : World) (hw : Made wr w') => sound_c (some ⟨go, 0, none⟩) _ co _ _ 3 room w' (hroO.made hw) (by omega) hoc (by omega) (by omega) (hcap8.made hw))
                have Hmore := Lib.hid (fun (w' : World) (hw : Made wr w') => sound_c aL _ cL _ _ 3 room w' (hroL.made hw) hmlen hmc (by omega) (by omega) (hcap8.made hw))
                have Haw := Lib.hid (fun (w' : World) (hw : Made wr w') => awake_c w')
                have hck : wr.cell? ⟨gd, K * 5 + 3, none⟩ = some (.bool dk.got) := Owns.cell encD_len hD8 HK.out (j := 3) rfl
                have hgdl := hD8.lt rfl
                rw [hodd, hfalls] at *
                have HM9 := Lib.hid hM8
                clear hO8 hroO hD8 hP8 hM8 hroL hcap8 hodd hfalls hmc hmlen hoc hmore hmb hmm hol
                generalize ((ds.drop K).any fun e => (e.got && !dk.got) && e.value == dk.value) = ga at *
                generalize dk.got = gk at *
                go_wp2_with fail
                have hmr : Made wr wr.drew := (Turns.refl _ _).drew
                cases gk with
                | false =>
                  cases ga
                  all_goals
                    go_region_held3 (fun w' => w'.cell? ⟨gd, K * 5 + 3, none⟩ = some (.bool false) ∧ Made wr w')
                      (first
                        | go_keep
                        | (go_split_ands; exact ⟨(hm'.cell (p := ⟨gd, K * 5 + 3, none⟩) (Nat.lt_of_lt_of_le hgdl (Turns.size (by assumption : Made wr _))) (fun h => h)).trans (by assumption), Turns.trans (by assumption) hm'⟩)
                        | (exact ⟨(hm'.cell (p := ⟨gd, K * 5 + 3, none⟩) (Nat.lt_of_lt_of_le hgdl (Turns.size (And.right (by assumption) : Made wr _))) (fun h => h)).trans (And.left (by assumption)), Turns.trans (And.right (by assumption)) hm'⟩))
                      (first
                        | (go_at_call 7; (with_reducible refine (Hodd.out _ (by first | assumption | exact And.right (by assumption))).mono ?_); rintro e w' ⟨rfl, hm'⟩)
                        | (go_at_call 7; (with_reducible refine (Hmore.out _ (by first | assumption | exact And.right (by assumption))).mono ?_); rintro e w' ⟨rfl, hm'⟩)
                        | (go_at_call 6; (with_reducible refine (Haw.out _ (by first | assumption | exact And.right (by assumption))).mono ?_); rintro e w' ⟨rfl, hm'⟩))
                    go_wp2_with fail
                    go_ret
                    exact ⟨rfl, Turns.trans HM9.out (by first | assumption | exact And.right (by assumption))⟩
                | true =>
                  cases ga
                  all_goals
                    first
                    | (go_region_held (fun w' => w'.cell? ⟨gd, K * 5 + 3, none⟩ = some (.bool true) ∧ Made wr w')
                          (first
                            | go_keep
                            | (go_split_ands; exact ⟨(hm'.cell (p := ⟨gd, K * 5 + 3, none⟩) (Nat.lt_of_lt_of_le hgdl (Turns.size (by assumption : Made wr _))) (fun h => h)).trans (by assumption), Turns.trans (by assumption) hm'⟩)
                            | (exact ⟨(hm'.cell (p := ⟨gd, K * 5 + 3, none⟩) (Nat.lt_of_lt_of_le hgdl (Turns.size (And.right (by assumption) : Made wr _))) (fun h => h)).trans (And.left (by assumption)), Turns.trans (And.right (by assumption)) hm'⟩))
                          (first
                            | (go_at_call 7; (with_reducible refine (Hodd.out _ (by first | assumption | exact And.right (by assumption))).mono ?_); rintro e w' ⟨rfl, hm'⟩)
                            | (go_at_call 7; (with_reducible refine (Hmore.out _ (by first | assumption | exact And.right (by assumption))).mono ?_); rintro e w' ⟨rfl, hm'⟩)
                            | (go_at_call 6; (with_reducible refine (Haw.out _ (by first | assumption | exact And.right (by assumption))).mono ?_); rintro e w' ⟨rfl, hm'⟩)))
                    | fail
                    go_wp2_with fail
                    go_ret
                    exact ⟨rfl, Turns.trans HM9.out (by first | assumption | exact And.right (by assumption))⟩
end Go.Proofs.Ytninfnpecgpfhaa
