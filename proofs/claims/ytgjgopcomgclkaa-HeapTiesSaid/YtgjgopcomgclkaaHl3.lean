/-
  tarpaulinlaw11.HeapTies: its walk.
-/
import Derived.Test.YtgjgopcomgclkaaHl3a
namespace Go.Proofs.Ytgjgopcomgclkaa
open Go.RowKit
set_option linter.unusedVariables false
set_option linter.unusedSimpArgs false

set_option maxHeartbeats 8000000 in
set_option maxRecDepth 100000 in
theorem ties_w (n : Int) (a : Option Addr) (len cap : Nat) (ws : List Int) (when : Int) (w : World) (hw : RowIn (fun z => [Value.int .i64 z]) 1 w a len ws) (hc : len ≤ cap) :
    Calls Try.prog 4 #[.int .i64 n, .slice a len cap, .int .i64 when] w fun e w' => e = .returned (.bool true) ∧ Made w w' := by
  have HW := Lib.hid hw
  clear hw
  obtain ⟨i0, hi0, hz0, hz1, hz2⟩ := info_parts Try.infoI
  by_cases hout : n < 1 ∨ 40 < n ∨ 60 < len
  · by_cases h1 : n < 1
    · clear hout
      go_enter Try.func4, Try.ntmps4
      go_wp2_with fail
      refine (awake_c w).mono ?_
      rintro e w' ⟨rfl, hm⟩
      have HM := Lib.hid hm
      clear hm
      go_wp2_with fail
      go_ret
      exact ⟨rfl, HM.out⟩
    · by_cases h2 : 40 < n
      · clear hout
        go_enter Try.func4, Try.ntmps4
        go_wp2_with fail
        refine (awake_c w).mono ?_
        rintro e w' ⟨rfl, hm⟩
        have HM := Lib.hid hm
        clear hm
        go_wp2_with fail
        go_ret
        exact ⟨rfl, HM.out⟩
      · have h3 : (60 : Int) < (len : Int) := by omega
        clear hout
        go_enter Try.func4, Try.ntmps4
        go_wp2_with fail
        refine (awake_c w).mono ?_
        rintro e w' ⟨rfl, hm⟩
        have HM := Lib.hid hm
        clear hm
        go_wp2_with fail
        go_ret
        exact ⟨rfl, HM.out⟩
  have h1 : ¬ n < 1 := by omega
  have h2 : ¬ 40 < n := by omega
  have h3 : ¬ (60 : Int) < (len : Int) := by omega
  clear hout
  obtain ⟨nn, rfl⟩ : ∃ nn : Nat, n = (nn : Int) := ⟨n.toNat, by omega⟩
  go_enter Try.func4, Try.ntmps4
  go_wp2_with fail
  refine (hnew_c w).mono ?_
  rintro e w1 ⟨p, F, rfl, hh, hm, hf⟩
  have HH := Lib.hid hh
  have HS := Lib.hid (Since.mk hm hf)
  clear hh hm hf
  go_wp2_with fail
  go_loopw [8, 9] (fun v8 v9 wr => ∃ (k : Nat) (F : Nat → Prop) (L : List It) (W : List Int), k ≤ nn ∧ v9 = .int .i64 k ∧ HeapAt wr p F L k ∧ Since w wr F ∧ IntsAt w wr F v8 W ∧ L.map It.id = W ∧ (∀ x ∈ L, x.when = when) ∧ (∀ id : Int, id ∈ W ↔ 0 ≤ id ∧ id < k) ∧ W.length = k) (fun _ v9 _ => nn - (intOf v9).toNat)
  case atStart => exact ⟨0, F, [], [], Nat.zero_le _, rfl, HH.out, HS.out, IntsAt.nil _ _ _, rfl, fun x hx => (by cases hx), fun id => ⟨fun h => (by cases h), fun h => (by omega)⟩, rfl⟩
  case round =>
    obtain ⟨k, F, L, W, hk, rfl, hh, hs, hi, hmap, hall, hids, hwl⟩ := hrel
    by_cases hkl : k < nn
    · have i1 : (0 : Int) ≤ (k : Int) := Int.natCast_nonneg _
      have i2 : (k : Int) < (nn : Int) := by omega
      have hfn : findL (k : Int) L = none := (findL_none _).2 (fun x hx e => by
        have := (hids x.id).1 (by rw [← hmap]; exact List.mem_map_of_mem hx)
        omega)
      have hins := tie_last (id := k) hall hh.seqs
      have HA := Lib.hid (hadd_c k when wr hh hfn (by omega))
      rw [hins] at HA
      have HMAP := Lib.hid hmap
      have HALL := Lib.hid hall
      have HIDS := Lib.hid hids
      have HWL := Lib.hid hwl
      have HS := Lib.hid hs
      have HI := Lib.hid hi
      clear hh hs hi hmap hall hids hwl hins hfn
      go_wp2_with fail
      refine HA.out.mono ?_
      rintro e w2 ⟨rfl, F2, hh2, hs2⟩
      have HH2 := Lib.hid hh2
      have HS2 := Lib.hid (HS.out.step hs2)
      have HI2 := Lib.hid (HI.out.step hs2)
      clear hh2 hs2 HA HS HI
      have hwb : W.length ≤ 1000000 := by have := HWL.out; omega
      go_wp2_with (at_builtin; refine wpList_append_own_at _ rfl (.tmp 42) (.tmp 44) 22 rfl 0 3 i0 (.int .i64 0) 1 8 Try.underlying22 hi0 hz0 hz1 hz2 rfl (by decide) _ W.length (flat encI W) rfl (World.ownsRow.alloc HI2.out.own _) ⟨w2.heap.size, 0, none⟩ 1 1 [.int .i64 k] rfl rfl (cell_one_new _ _ _) ?c2 ?b1 ?b2 (Nat.zero_le _) ?_)
      case c2 => first | rfl | (intro u hu; simp only [List.mem_singleton] at hu; subst hu; rfl)
      case b1 => unfold maxLen; omega
      case b2 => omega
      intro v' w3 hown3 hgrow3 _ hat3
      obtain ⟨hp1, hp2, -⟩ := HI2.out.pushed HH2.out.fb HS2.out.m.size hown3 hgrow3 hat3
      have HH3 := Lib.hid (HH2.out.turns hp2 (fun b hf hb => (HI2.out.far b hb).2 hf))
      have HS3 := Lib.hid (HS2.out.turns hp2 (fun b hb hf => by have := (HI2.out.far b hf).1; omega))
      have HI3 := Lib.hid hp1
      clear hown3 hgrow3 hat3 hp1 hp2 HH2 HS2 HI2
      go_wp2_with fail
      go_roundw
      case rel =>
        refine ⟨k + 1, F2, _, W ++ [(k : Int)], by omega, by go_num, HH3.out, HS3.out, HI3.out, ?_, ?_, ?_, ?_⟩
        · rw [List.map_append, HMAP.out]; rfl
        · intro x hx
          rcases List.mem_append.1 hx with h | h
          · exact HALL.out x h
          · rw [List.mem_singleton] at h; rw [h]
        · intro id
          rw [List.mem_append, List.mem_singleton, HIDS.out id]
          omega
        · rw [List.length_append, HWL.out]; rfl
      case measure => simp [intOf]; omega
    · obtain rfl : k = nn := by omega
      have i2 : ¬ (k : Int) < (k : Int) := by omega
      have HH := Lib.hid hh
      have HS := Lib.hid hs
      have HI := Lib.hid hi
      have HMAP := Lib.hid hmap
      have HALL := Lib.hid hall
      have HIDS := Lib.hid (fun id (h0 : 0 ≤ id) (h1 : id < (k : Int)) => (hids id).2 ⟨h0, h1⟩)
      have HWL := Lib.hid hwl
      clear hh hs hi hmap hall hids hwl
      go_wp2_with fail
      go_loopw [8, 10] (fun v8 v10 wx => ∃ (i : Nat) (F : Nat → Prop) (L : List It) (W : List Int), i ≤ len ∧ v10 = .int .i64 i ∧ HeapAt wx p F L ((k : Int) + i) ∧ Since w wx F ∧ IntsAt w wx F v8 W ∧ L.map It.id = W ∧ (∀ x ∈ L, x.when = when) ∧ (∀ id : Int, 0 ≤ id → id < k → id ∈ W) ∧ W.length = k) (fun _ v10 _ => len - (intOf v10).toNat)
      case atStart => exact ⟨0, F, L, W, Nat.zero_le _, rfl, by simpa using HH.out, HS.out, HI.out, HMAP.out, HALL.out, HIDS.out, HWL.out⟩
      case round =>
        clear HH HS HI HMAP HALL HIDS HWL
        obtain ⟨i, F', L', W', hi, rfl, hh, hs, hv, hmap, hall, hids, hwl⟩ := hrel
        rcases hv.own.form with ⟨rfl, h0⟩ | ⟨g8, c8, rfl, hg8, hlc8, hcm8⟩
        · rw [h0] at hwl; simp at hwl; omega
        by_cases hil : i < len
        · obtain ⟨hlen, h0 | ⟨b, off, rfl, hb, hlies⟩⟩ := HW.out.made hs.m
          · omega
          obtain ⟨z, hz⟩ := get_of_lt (xs := ws) (k := i) (by omega)
          have e0 := hlies.one' hz
          have i3 : (0 : Int) ≤ (i : Int) := Int.natCast_nonneg _
          have i4 : (i : Int) < (len : Int) := by omega
          have hr0 : 0 ≤ z % (k : Int) := Int.emod_nonneg _ (by omega)
          have hr1 : z % (k : Int) < (k : Int) := Int.emod_lt_of_pos _ (by omega)
          have HRC := Lib.hid (round_c z (k : Int) wr (by omega) (by omega))
          obtain ⟨q, hq⟩ : ∃ q, z % (k : Int) = q := ⟨_, rfl⟩
          rw [hq] at HRC hr0 hr1
          obtain ⟨xq, hxq⟩ := find_of_id hh.uniq (id := q) (by rw [hmap]; exact hids q hr0 hr1)
          have HMV := Lib.hid (hmove_c q when wr hh (by omega) hxq)
          have hins := tie_last (L := delL q L') (id := q) (when := when) (sq := (k : Int) + i) (fun y hy => hall y (delL_mem.1 hy).1) (fun y hy => hh.seqs y (delL_mem.1 hy).1)
          rw [hins] at HMV
          have hdl := delL_ids q L'
          rw [hmap] at hdl
          have hlq : (W'.filter (fun z => z != q)).length + 1 = k := by
            have h1 := delL_perm hh.uniq ((findL_some hh.uniq _ _).1 hxq).1
            rw [((findL_some hh.uniq _ _).1 hxq).2] at h1
            have h2 := h1.length_eq
            rw [List.length_cons] at h2
            have h3 : (L'.map It.id).length = L'.length := List.length_map ..
            have h4 : ((delL q L').map It.id).length = (delL q L').length := List.length_map ..
            rw [hmap] at h3
            rw [hdl] at h4
            omega
          have HDL := Lib.hid hdl
          have HLQ := Lib.hid hlq
          have HALL := Lib.hid hall
          have HIDS := Lib.hid hids
          have HWL := Lib.hid hwl
          have HSS := Lib.hid hs
          have HV := Lib.hid hv
          clear hh hs hv hmap hall hids hwl hins hdl hlq hxq hq hz hlies hb hg8
          go_wp2_with fail
          refine HRC.out.mono ?_
          rintro e w2 ⟨rfl, rfl⟩
          clear HRC
          go_wp2_with fail
          refine HMV.out.mono ?_
          rintro e w3 ⟨rfl, F3, hh3, hs3⟩
          have HH3 := Lib.hid hh3
          have HS3 := Lib.hid (HSS.out.step hs3)
          have HV3 := Lib.hid (HV.out.step hs3)
          clear hh3 hs3 HMV HSS HV e0
          go_wp2_with fail
          go_loopw [12, 13] (fun v12 v13 wy => ∃ m : Nat, m ≤ k ∧ v13 = .int .i64 m ∧ HeapAt wy p F3 (delL q L' ++ [⟨q, when, (k : Int) + i + 1⟩]) ((k : Int) + i + 1) ∧ Since w wy F3 ∧ IntsAt w wy F3 (.slice (some ⟨g8, 0, none⟩) W'.length c8) W' ∧ IntsAt w wy (fun b => F3 b ∨ b = g8) v12 ((W'.take m).filter (fun z => z != q))) (fun _ v13 _ => k - (intOf v13).toNat)
          case atStart => exact ⟨0, Nat.zero_le _, rfl, HH3.out, HS3.out, HV3.out, IntsAt.nil _ _ _⟩
          case round =>
            clear HH3 HS3 HV3
            obtain ⟨m, hm, rfl, hh, hs, hv, hl⟩ := hrel
            by_cases hmk : m < k
            · obtain ⟨y, hy⟩ := get_of_lt (xs := W') (k := m) (by have := HWL.out; omega)
              have hfs := filter_snoc W' m q y hy
              have e0 := Owns.cell encI_len hv.own hy (j := 0) rfl
              simp only [Nat.mul_one, Nat.add_zero] at e0
              have m1 : (0 : Int) ≤ (m : Int) := Int.natCast_nonneg _
              have m2 : (m : Int) < (W'.length : Int) := by have := HWL.out; omega
              have HH := Lib.hid hh
              have HSS := Lib.hid hs
              have HV := Lib.hid hv
              have HL := Lib.hid hl
              clear hh hs hv hl hy
              by_cases hyq : y = q
              · rw [if_pos hyq] at hfs
                have HFS := Lib.hid hfs
                have hyb : (y != q) = false := by simp [hyq]
                clear hfs
                subst hyq
                go_wp2_with fail
                go_roundw
                case rel => exact ⟨m + 1, by omega, by go_num, HH.out, HSS.out, HV.out, by rw [HFS.out]; exact HL.out⟩
                case measure => simp [intOf]; omega
              · rw [if_neg hyq] at hfs
                have HFS := Lib.hid hfs
                have hyb : (y != q) = true := by simp [hyq]
                clear hfs
                have hfl : ((W'.take m).filter (fun z => z != q)).length ≤ 1000000 := by
                  have h1 := List.length_filter_le (fun z => z != q) (W'.take m)
                  rw [List.length_take] at h1
                  omega
                generalize (W'.take m).filter (fun z => z != q) = A at *
                go_wp2_with (at_builtin; refine wpList_append_own_at _ rfl (.tmp 75) (.tmp 80) 22 rfl 0 3 i0 (.int .i64 0) 1 8 Try.underlying22 hi0 hz0 hz1 hz2 rfl (by decide) _ A.length (flat encI A) rfl (World.ownsRow.alloc HL.out.own _) ⟨wr.heap.size, 0, none⟩ 1 1 [.int .i64 y] rfl rfl (cell_one_new _ _ _) ?c2 ?b1 ?b2 (Nat.zero_le _) ?_)
                case c2 => first | rfl | (intro u hu; simp only [List.mem_singleton] at hu; subst hu; rfl)
                case b1 => unfold maxLen; omega
                case b2 => omega
                intro v' w4 hown4 hgrow4 _ hat4
                obtain ⟨hp1, hp2, -⟩ := HL.out.pushed (fun b hb => hb.elim (HH.out.fb b) (fun e => by subst e; exact HV.out.own.lt rfl)) HSS.out.m.size hown4 hgrow4 hat4
                have HH4 := Lib.hid (HH.out.turns hp2 (fun b hf hb => (HL.out.far b hb).2 (.inl hf)))
                have HS4 := Lib.hid (HSS.out.turns hp2 (fun b hb hf => by have := (HL.out.far b hf).1; omega))
                have HV4 := Lib.hid (HV.out.turns hp2 (fun b hb hf => (HL.out.far b hf).2 (.inr (by simp only [Value.ownBlock, Option.some.injEq] at hb; exact hb.symm))))
                have HL4 := Lib.hid hp1
                clear hown4 hgrow4 hat4 hp1 hp2 HH HSS HV HL
                go_wp2_with fail
                go_roundw
                case rel => exact ⟨m + 1, by omega, by go_num, HH4.out, HS4.out, HV4.out, by rw [HFS.out]; exact HL4.out⟩
                case measure => simp [intOf]; omega
            · obtain rfl : m = k := by omega
              have m2 : ¬ (m : Int) < (W'.length : Int) := by have := HWL.out; omega
              rw [← HWL.out, List.take_length] at hl
              have HH := Lib.hid hh
              have HSS := Lib.hid hs
              have HL := Lib.hid hl
              clear hh hs hv hl
              have hfl : (W'.filter (fun z => z != q)).length ≤ 1000000 := by have := HLQ.out; omega
              go_wp2_with (at_builtin; refine wpList_append_own_at _ rfl (.tmp 82) (.tmp 84) 22 rfl 0 3 i0 (.int .i64 0) 1 8 Try.underlying22 hi0 hz0 hz1 hz2 rfl (by decide) _ (W'.filter (fun z => z != q)).length (flat encI (W'.filter (fun z => z != q))) rfl (World.ownsRow.alloc HL.out.own _) ⟨wr.heap.size, 0, none⟩ 1 1 [.int .i64 q] rfl rfl (cell_one_new _ _ _) ?c2 ?b1 ?b2 (Nat.zero_le _) ?_)
              case c2 => first | rfl | (intro u hu; simp only [List.mem_singleton] at hu; subst hu; rfl)
              case b1 => unfold maxLen; omega
              case b2 => omega
              intro v' w4 hown4 hgrow4 _ hat4
              have HL2 : IntsAt w wr F3 _ _ := ⟨HL.out.own, fun b hb => ⟨(HL.out.far b hb).1, fun hf => (HL.out.far b hb).2 (.inl hf)⟩⟩
              obtain ⟨hp1, hp2, -⟩ := HL2.pushed HH.out.fb HSS.out.m.size hown4 hgrow4 hat4
              have HH4 := Lib.hid (HH.out.turns hp2 (fun b hf hb => (HL.out.far b hb).2 (.inl hf)))
              have HS4 := Lib.hid (HSS.out.turns hp2 (fun b hb hf => by have := (HL.out.far b hf).1; omega))
              have HL4 := Lib.hid hp1
              clear hown4 hgrow4 hat4 hp1 hp2 HH HSS HL HL2
              go_wp2_with fail
              go_roundw
              case rel =>
                refine ⟨i + 1, F3, _, _, by omega, by go_num, by rw [show (m : Int) + ((i + 1 : Nat) : Int) = (m : Int) + i + 1 from by omega]; exact HH4.out, HS4.out, HL4.out, ?_, ?_, ?_, ?_⟩
                · rw [List.map_append, HDL.out]; rfl
                · intro x hx
                  rcases List.mem_append.1 hx with h | h
                  · exact HALL.out x (delL_mem.1 h).1
                  · rw [List.mem_singleton] at h; rw [h]
                · intro id g0 g1
                  rw [List.mem_append, List.mem_singleton, List.mem_filter]
                  by_cases hid : id = q
                  · exact .inr hid
                  · exact .inl ⟨HIDS.out id g0 g1, by simpa using hid⟩
                · rw [List.length_append]; exact HLQ.out
              case measure => simp [intOf]; omega
        · have i4 : ¬ (i : Int) < (len : Int) := by omega
          have HH := Lib.hid hh
          have HSS := Lib.hid hs
          have HV := Lib.hid hv
          have HMAP := Lib.hid hmap
          have HALL := Lib.hid hall
          have HWL := Lib.hid hwl
          clear hh hs hv hmap hall hwl hids
          go_wp2_with fail
          go_loopw [14] (fun v14 wy => ∃ (j : Nat) (L : List It), v14 = .int .i64 j ∧ HeapAt wy p F' L ((k : Int) + i) ∧ Since w wy F' ∧ IntsAt w wy F' (.slice (some ⟨g8, 0, none⟩) W'.length c8) W' ∧ L.map It.id = W'.drop j ∧ (∀ x ∈ L, x.when = when)) (fun v14 _ => k - (intOf v14).toNat)
          case atStart => exact ⟨0, L', rfl, HH.out, HSS.out, HV.out, by rw [HMAP.out]; rfl, HALL.out⟩
          case round =>
            clear HH HSS HV HMAP HALL
            obtain ⟨j, L, rfl, hh, hs, hv, hmap, hall⟩ := hrel
            by_cases hj : j < k
            · obtain ⟨y, hy⟩ := get_of_lt (xs := W') (k := j) (by have := HWL.out; omega)
              have hdr : W'.drop j = y :: W'.drop (j + 1) := by
                obtain ⟨hl, rfl⟩ := List.getElem?_eq_some_iff.1 hy
                exact List.drop_eq_getElem_cons hl
              rw [hdr] at hmap
              obtain ⟨x, l, rfl⟩ : ∃ x l, L = x :: l := by
                cases L with
                | nil => cases hmap
                | cons x l => exact ⟨x, l, rfl⟩
              rw [List.map_cons, List.cons.injEq] at hmap
              obtain ⟨hxid, hmap⟩ := hmap
              have hxw := hall x (List.mem_cons_self ..)
              have hall' := fun z hz => hall z (List.mem_cons_of_mem _ hz)
              obtain ⟨xi, xw, xs⟩ := x
              simp only at hxid hxw
              subst hxid
              subst hxw
              have j1 : (0 : Int) ≤ (j : Int) := Int.natCast_nonneg _
              have j2 : (j : Int) < (k : Int) := by omega
              have j3 : (j : Int) < (W'.length : Int) := by have := HWL.out; omega
              have HPO := Lib.hid (hpop_c wr hh (by omega))
              have HSS := Lib.hid hs
              have HV := Lib.hid hv
              have HMAP := Lib.hid hmap
              have HALL := Lib.hid hall'
              have HY := Lib.hid hy
              clear hh hs hv hmap hall hall' hy hdr
              unfold aggT at HPO
              simp only at HPO
              go_wp2_with fail
              refine HPO.out.mono ?_
              rintro e w3 ⟨rfl, hh3, hs3⟩
              have HH3 := Lib.hid (hh3.made (alloc_made _ (.cells #[.int .i64 xi, .int .i64 xw, .int .i64 xs] 30)))
              have HS3 := Lib.hid ((HSS.out.step hs3).made (alloc_made _ (.cells #[.int .i64 xi, .int .i64 xw, .int .i64 xs] 30)))
              have HV3 := Lib.hid ((HV.out.step hs3).made (alloc_made _ (.cells #[.int .i64 xi, .int .i64 xw, .int .i64 xs] 30)))
              have HX3 := Lib.hid (Blk.new w3 30 #[.int .i64 xi, .int .i64 xw, .int .i64 xs])
              clear hh3 hs3 HPO HSS HV
              go_wp2_with fail
              generalize hbx : w3.heap.size = bx at *
              generalize w3.alloc (.cells #[.int .i64 xi, .int .i64 xw, .int .i64 xs] 30) = W3 at *
              clear hbx w3
              refine wp_region_held_drew (S := (fun w' => Made W3 w')) (by kernel_rfl) ?_ (fun hHeld => ?_)
              · exact (Turns.refl _ _).drew
              refine takeH (i := 0) (d := some 96) (v := ?_) rfl rfl (by kernel_rfl) (by kernel_rfl) (by kernel_rfl) (fun _ _ _ h => h) (Or.inl ⟨by rfl, ?_⟩) (by assumption) ?_
              rotate_left
              · intro w hSw
                try dsimp only at hSw
                go_simp
                try with_reducible rfl
              try simp only [Act.put, List.setIfInBounds_toArray, List.set_cons_zero, List.set_cons_succ]
              refine takeH (i := 1) (d := some 97) (v := ?_) rfl rfl (by kernel_rfl) (by kernel_rfl) (by kernel_rfl) (fun _ _ _ h => h) (Or.inl ⟨by rfl, ?_⟩) (by assumption) ?_
              rotate_left
              · intro w hSw
                try dsimp only at hSw
                go_simp
                try with_reducible rfl
              try simp only [Act.put, List.setIfInBounds_toArray, List.set_cons_zero, List.set_cons_succ]
              refine takeH (i := 2) (d := some 98) (v := ?_) rfl rfl (by kernel_rfl) (by kernel_rfl) (by kernel_rfl) (fun _ _ _ h => h) (Or.inl ⟨by rfl, ?_⟩) (by assumption) ?_
              rotate_left
              · intro w hSw
                try dsimp only at hSw
                go_simp
                try with_reducible rfl
              try simp only [Act.put, List.setIfInBounds_toArray, List.set_cons_zero, List.set_cons_succ]
              refine takeH (i := 3) (d := some 99) (v := ?_) rfl rfl (by kernel_rfl) (by kernel_rfl) (by kernel_rfl) (fun _ _ _ h => h) (Or.inl ⟨by rfl, ?_⟩) (by assumption) ?_
              rotate_left
              · intro w hSw
                try dsimp only at hSw
                go_simp
                try with_reducible rfl
              try simp only [Act.put, List.setIfInBounds_toArray, List.set_cons_zero, List.set_cons_succ]
              refine takeH (i := 4) (d := some 100) (v := ?_) rfl rfl (by kernel_rfl) (by kernel_rfl) (by kernel_rfl) (fun _ _ _ h => h) (Or.inl ⟨by rfl, ?_⟩) (by assumption) ?_
              rotate_left
              · intro w hSw
                try dsimp only at hSw
                have hb2 := HX3.out.made hSw
                have d0 := hb2.cell 0
                simp only [List.getElem?_toArray, List.getElem?_cons_zero, List.getElem?_cons_succ] at d0
                clear hb2
                go_simp
                try with_reducible rfl
              try simp only [Act.put, List.setIfInBounds_toArray, List.set_cons_zero, List.set_cons_succ]
              refine takeH (i := 5) (d := some 101) (v := ?_) rfl rfl (by kernel_rfl) (by kernel_rfl) (by kernel_rfl) (fun _ _ _ h => h) (Or.inl ⟨by rfl, ?_⟩) (by assumption) ?_
              rotate_left
              · intro w hSw
                try dsimp only at hSw
                go_simp
                try with_reducible rfl
              try simp only [Act.put, List.setIfInBounds_toArray, List.set_cons_zero, List.set_cons_succ]
              refine takeH (i := 6) (d := some 102) (v := ?_) rfl rfl (by kernel_rfl) (by kernel_rfl) (by kernel_rfl) (fun _ _ _ h => h) (Or.inl ⟨by rfl, ?_⟩) (by assumption) ?_
              rotate_left
              · intro w hSw
                try dsimp only at hSw
                go_simp
                try with_reducible rfl
              try simp only [Act.put, List.setIfInBounds_toArray, List.set_cons_zero, List.set_cons_succ]
              refine takeH (i := 7) (d := some 103) (v := ?_) rfl rfl (by kernel_rfl) (by kernel_rfl) (by kernel_rfl) (fun _ _ _ h => h) (Or.inl ⟨by rfl, ?_⟩) (by assumption) ?_
              rotate_left
              · intro w hSw
                try dsimp only at hSw
                go_simp
                try with_reducible rfl
              try simp only [Act.put, List.setIfInBounds_toArray, List.set_cons_zero, List.set_cons_succ]
              refine takeH (i := 8) (d := some 104) (v := ?_) rfl rfl (by kernel_rfl) (by kernel_rfl) (by kernel_rfl) (fun _ _ _ h => h) (Or.inl ⟨by rfl, ?_⟩) (by assumption) ?_
              rotate_left
              · intro w hSw
                try dsimp only at hSw
                have d0 := Owns.cell encI_len (HV3.out.made hSw).own HY.out (j := 0) rfl
                simp only [Nat.mul_one, Nat.add_zero] at d0
                go_simp
                try with_reducible rfl
              try simp only [Act.put, List.setIfInBounds_toArray, List.set_cons_zero, List.set_cons_succ]
              refine takeH (i := 9) (d := some 105) (v := ?_) rfl rfl (by kernel_rfl) (by kernel_rfl) (by kernel_rfl) (fun _ _ _ h => h) (Or.inl ⟨by rfl, ?_⟩) (by assumption) ?_
              rotate_left
              · intro w hSw
                try dsimp only at hSw
                go_simp
                try with_reducible rfl
              try simp only [Act.put, List.setIfInBounds_toArray, List.set_cons_zero, List.set_cons_succ]
              refine takeH (i := 10) (d := some 106) (v := ?_) rfl rfl (by kernel_rfl) (by kernel_rfl) (by kernel_rfl) (fun _ _ _ h => h) (Or.inl ⟨by rfl, ?_⟩) (by assumption) ?_
              rotate_left
              · intro w hSw
                try dsimp only at hSw
                go_simp
                try with_reducible rfl
              try simp only [Act.put, List.setIfInBounds_toArray, List.set_cons_zero, List.set_cons_succ]
              refine takeH (i := 11) (d := some 107) (v := ?_) rfl rfl (by kernel_rfl) (by kernel_rfl) (by kernel_rfl) (fun _ _ _ h => h) (Or.inl ⟨by rfl, ?_⟩) (by assumption) ?_
              rotate_left
              · intro w hSw
                try dsimp only at hSw
                go_simp
                try with_reducible rfl
              try simp only [Act.put, List.setIfInBounds_toArray, List.set_cons_zero, List.set_cons_succ]
              refine takeH (i := 12) (d := some 108) (v := ?_) rfl rfl (by kernel_rfl) (by kernel_rfl) (by kernel_rfl) (fun _ _ _ h => h) (Or.inl ⟨by rfl, ?_⟩) (by assumption) ?_
              rotate_left
              · intro w hSw
                try dsimp only at hSw
                go_simp
                try with_reducible rfl
              try simp only [Act.put, List.setIfInBounds_toArray, List.set_cons_zero, List.set_cons_succ]
              refine takeH (i := 13) (d := some 109) (v := ?_) rfl rfl (by kernel_rfl) (by kernel_rfl) (by kernel_rfl) (fun _ _ _ h => h) (Or.inl ⟨by rfl, ?_⟩) (by assumption) ?_
              rotate_left
              · intro w hSw
                try dsimp only at hSw
                have hb2 := HX3.out.made hSw
                have d0 := hb2.cell 1
                simp only [List.getElem?_toArray, List.getElem?_cons_zero, List.getElem?_cons_succ] at d0
                clear hb2
                go_simp
                try with_reducible rfl
              try simp only [Act.put, List.setIfInBounds_toArray, List.set_cons_zero, List.set_cons_succ]
              refine takeH (i := 14) (d := some 110) (v := ?_) rfl rfl (by kernel_rfl) (by kernel_rfl) (by kernel_rfl) (fun _ _ _ h => h) (Or.inl ⟨by rfl, ?_⟩) (by assumption) ?_
              rotate_left
              · intro w hSw
                try dsimp only at hSw
                go_simp
                try with_reducible rfl
              try simp only [Act.put, List.setIfInBounds_toArray, List.set_cons_zero, List.set_cons_succ]
              refine takeH (i := 15) (d := some 111) (v := ?_) rfl rfl (by kernel_rfl) (by kernel_rfl) (by kernel_rfl) (fun _ _ _ h => h) (Or.inl ⟨by rfl, ?_⟩) (by assumption) ?_
              rotate_left
              · intro w hSw
                try dsimp only at hSw
                go_simp
                try with_reducible rfl
              try simp only [Act.put, List.setIfInBounds_toArray, List.set_cons_zero, List.set_cons_succ]
              refine takeH (i := 16) (d := some 112) (v := ?_) rfl rfl (by kernel_rfl) (by kernel_rfl) (by kernel_rfl) (fun _ _ _ h => h) (Or.inl ⟨by rfl, ?_⟩) (by assumption) ?_
              rotate_left
              · intro w hSw
                try dsimp only at hSw
                go_simp
                try with_reducible rfl
              try simp only [Act.put, List.setIfInBounds_toArray, List.set_cons_zero, List.set_cons_succ]
              refine wpAnyH_done (by kernel_rfl) ?_ _
              have HH4 := Lib.hid (HH3.out.made hHeld)
              have HS4 := Lib.hid (HS3.out.made hHeld)
              have HV4 := Lib.hid (HV3.out.made hHeld)
              clear hHeld HH3 HS3 HV3 HX3
              try clear hHeld
              go_wp2_with fail
              go_roundw
              case rel => exact ⟨j + 1, l, by go_num, HH4.out, HS4.out, HV4.out, HMAP.out, HALL.out⟩
              case measure => simp [intOf]; omega
            · have j2 : ¬ (j : Int) < (k : Int) := by omega
              have HS := Lib.hid hs
              clear hh hs hv hmap hall
              go_wp2_with fail
              refine (awake_c _).mono ?_
              rintro e w5 ⟨rfl, hm⟩
              have HM5 := Lib.hid (HS.out.m.trans hm)
              clear hm
              go_wp2_with fail
              go_ret
              exact ⟨rfl, HM5.out⟩
end Go.Proofs.Ytgjgopcomgclkaa
