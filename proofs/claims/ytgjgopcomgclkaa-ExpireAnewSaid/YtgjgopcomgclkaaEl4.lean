/-
  tarpaulinlaw12.ExpireAnew: its walk.
-/
import Derived.Test.YtgjgopcomgclkaaEl3
import Derived.Test.YtgjgopcomgclkaaHl3a
namespace Go.Proofs.Ytgjgopcomgclkaa
open Go.RowKit
set_option linter.unusedVariables false
set_option linter.unusedSimpArgs false

def rng (k : Nat) : List Int := (List.range k).map fun (i : Nat) => (i : Int)
theorem rng_succ (k : Nat) : rng (k + 1) = rng k ++ [(k : Int)] := by unfold rng; rw [List.range_succ, List.map_append]; rfl
theorem rng_mem {k : Nat} {id : Int} : id ∈ rng k ↔ 0 ≤ id ∧ id < k := by
  unfold rng
  rw [List.mem_map]
  constructor
  · rintro ⟨i, hi, rfl⟩
    rw [List.mem_range] at hi
    omega
  · rintro ⟨h0, h1⟩
    exact ⟨id.toNat, by rw [List.mem_range]; omega, by omega⟩
theorem rng_len (k : Nat) : (rng k).length = k := by unfold rng; simp
theorem rng_filter (m : Nat) (K : Int) : (rng (m + 1)).filter (fun z => z != K) = if (m : Int) = K then (rng m).filter (fun z => z != K) else (rng m).filter (fun z => z != K) ++ [(m : Int)] := by
  rw [rng_succ, List.filter_append]
  by_cases h : (m : Int) = K
  · simp [h]
  · simp [h]
theorem insL_head {x : It} {L : List It} (h : ∀ y ∈ L, lt x y) : insL x L = x :: L := by
  cases L with
  | nil => rfl
  | cons y l => unfold insL; rw [if_pos (h y (List.mem_cons_self ..))]

set_option maxHeartbeats 8000000 in
set_option maxRecDepth 100000 in
theorem anew_w (n at_ when again : Int) (w : World) :
    Calls Try.prog 9 #[.int .i64 n, .int .i64 at_, .int .i64 when, .int .i64 again] w fun e w' => e = .returned (.bool true) ∧ Made w w' := by
  obtain ⟨i0, hi0, hz0, hz1, hz2⟩ := info_parts Try.infoI
  by_cases hout : n < 1 ∨ 20 < n ∨ when < 0 ∨ 1000 < when ∨ again < 0 ∨ 1000 < again
  · by_cases h0 : n < 1
    · clear hout
      go_enter Try.func9, Try.ntmps9
      go_wp2_with fail
      refine (awake12_c w).mono ?_
      rintro e w' ⟨rfl, hm⟩
      have HM := Lib.hid hm
      clear hm
      go_wp2_with fail
      go_ret
      exact ⟨rfl, HM.out⟩
    by_cases h1 : 20 < n
    · clear hout
      go_enter Try.func9, Try.ntmps9
      go_wp2_with fail
      refine (awake12_c w).mono ?_
      rintro e w' ⟨rfl, hm⟩
      have HM := Lib.hid hm
      clear hm
      go_wp2_with fail
      go_ret
      exact ⟨rfl, HM.out⟩
    by_cases h2 : when < 0
    · clear hout
      go_enter Try.func9, Try.ntmps9
      go_wp2_with fail
      refine (awake12_c w).mono ?_
      rintro e w' ⟨rfl, hm⟩
      have HM := Lib.hid hm
      clear hm
      go_wp2_with fail
      go_ret
      exact ⟨rfl, HM.out⟩
    by_cases h3 : 1000 < when
    · clear hout
      go_enter Try.func9, Try.ntmps9
      go_wp2_with fail
      refine (awake12_c w).mono ?_
      rintro e w' ⟨rfl, hm⟩
      have HM := Lib.hid hm
      clear hm
      go_wp2_with fail
      go_ret
      exact ⟨rfl, HM.out⟩
    by_cases h4 : again < 0
    · clear hout
      go_enter Try.func9, Try.ntmps9
      go_wp2_with fail
      refine (awake12_c w).mono ?_
      rintro e w' ⟨rfl, hm⟩
      have HM := Lib.hid hm
      clear hm
      go_wp2_with fail
      go_ret
      exact ⟨rfl, HM.out⟩
    have h5 : 1000 < again := by omega
    clear hout
    go_enter Try.func9, Try.ntmps9
    go_wp2_with fail
    refine (awake12_c w).mono ?_
    rintro e w' ⟨rfl, hm⟩
    have HM := Lib.hid hm
    clear hm
    go_wp2_with fail
    go_ret
    exact ⟨rfl, HM.out⟩
  have h0 : ¬ n < 1 := by omega
  have h1 : ¬ 20 < n := by omega
  have h2 : ¬ when < 0 := by omega
  have h3 : ¬ 1000 < when := by omega
  have h4 : ¬ again < 0 := by omega
  have h5 : ¬ 1000 < again := by omega
  clear hout
  obtain ⟨nn, rfl⟩ : ∃ nn : Nat, n = (nn : Int) := ⟨n.toNat, by omega⟩
  go_enter Try.func9, Try.ntmps9
  go_wp2_with fail
  refine (tnew_c _).mono ?_
  rintro e w1 ⟨q, G, rfl, hh, hm, hf⟩
  have HH0 := Lib.hid hh
  have HS0 := Lib.hid (Since.mk hm hf)
  clear hh hm hf
  go_wp2_with fail
  go_loopw [10] (fun v10 wr => ∃ (k : Nat) (G : Nat → Prop) (L : List It) (pf : Int → Option Int), k ≤ nn ∧ v10 = .int .i64 k ∧ TimAt wr q G L k pf ∧ Since w wr G ∧ L.map It.id = rng k ∧ (∀ x ∈ L, x.when = when) ∧ (∀ x ∈ L, pf x.id = some 0)) (fun v10 _ => nn - (intOf v10).toNat)
  case atStart => exact ⟨0, G, [], _, Nat.zero_le _, rfl, HH0.out, HS0.out, rfl, fun x hx => (by cases hx), fun x hx => (by cases hx)⟩
  case round =>
    obtain ⟨k, G, L, pf, hk, rfl, hh, hs, hmap, hall, hpf⟩ := hrel
    by_cases hkl : k < nn
    · have i1 : (0 : Int) ≤ (k : Int) := Int.natCast_nonneg _
      have i2 : (k : Int) < (nn : Int) := by omega
      have hne : ∀ x ∈ L, x.id ≠ (k : Int) := fun x hx e => by
        have h1 : x.id ∈ rng k := by rw [← hmap]; exact List.mem_map_of_mem hx
        rw [rng_mem] at h1
        omega
      have hdn : delL (k : Int) L = L := delL_none ((findL_none _).2 hne)
      have hins := tie_last (id := (k : Int)) hall hh.seqs
      have hAR := tarm_c (k : Int) when 0 wr hh (by omega) (by omega) (by omega) (by omega) (by omega)
      rw [hdn, hins] at hAR
      have HAR := Lib.hid hAR
      have HMAP := Lib.hid hmap
      have HALL := Lib.hid hall
      have HPF := Lib.hid hpf
      have HNE := Lib.hid hne
      have HS := Lib.hid hs
      clear hh hs hmap hall hpf hne hdn hins hAR
      go_wp2_with fail
      refine HAR.out.mono ?_
      rintro e w2 ⟨rfl, G2, hh2, hs2⟩
      have HH2 := Lib.hid hh2
      have HS2 := Lib.hid (HS.out.step hs2)
      clear hh2 hs2 HAR HS
      go_wp2_with fail
      go_roundw
      case rel =>
        refine ⟨k + 1, G2, _, _, by omega, by go_num, HH2.out, HS2.out, ?_, ?_, ?_⟩
        · rw [List.map_append, HMAP.out, rng_succ]; rfl
        · intro x hx
          rcases List.mem_append.1 hx with h | h
          · exact HALL.out x h
          · rw [List.mem_singleton] at h; rw [h]
        · intro x hx
          rcases List.mem_append.1 hx with h | h
          · unfold pset
            rw [if_neg (HNE.out x h)]
            exact HPF.out x h
          · rw [List.mem_singleton] at h
            rw [h]
            simp [pset]
      case measure => simp [intOf]; omega
    · obtain rfl : k = nn := by omega
      have i2 : ¬ (k : Int) < (k : Int) := by omega
      have hr0 : 0 ≤ at_ % (k : Int) := Int.emod_nonneg _ (by omega)
      have hr1 : at_ % (k : Int) < (k : Int) := Int.emod_lt_of_pos _ (by omega)
      have HRC := Lib.hid (round_c at_ (k : Int) wr (by omega) (by omega))
      generalize at_ % (k : Int) = K at *
      have hlen : L.length = k := by
        have := congrArg List.length hmap
        rwa [List.length_map, rng_len] at this
      obtain ⟨xK, hxK⟩ := find_of_id hh.uniq (id := K) (by rw [hmap, rng_mem]; omega)
      have hdl := delL_ids K L
      rw [hmap] at hdl
      have hdlen : (delL K L).length + 1 = k := by
        have h1 := delL_perm hh.uniq ((findL_some hh.uniq _ _).1 hxK).1
        rw [((findL_some hh.uniq _ _).1 hxK).2] at h1
        have h2 := h1.length_eq
        rw [List.length_cons] at h2
        omega
      have hAR := tarm_c K again 0 wr hh (by omega) (by omega) (by omega) (by omega) (by omega)
      have hdall : ∀ x ∈ delL K L, x.id ≠ K ∧ x.when = when := fun x hx => ⟨(delL_mem.1 hx).2, hall x (delL_mem.1 hx).1⟩
      have hdseq : ∀ x ∈ delL K L, 1 ≤ x.seq ∧ x.seq ≤ (k : Int) := fun x hx => hh.seqs x (delL_mem.1 hx).1
      have hdpf : ∀ x ∈ delL K L, pset pf K 0 x.id = some 0 := fun x hx => by
        unfold pset
        rw [if_neg (hdall x hx).1]
        exact hpf x (delL_mem.1 hx).1
      have HS := Lib.hid hs
      have HDALL := Lib.hid hdall
      have HDPF := Lib.hid hdpf
      have HDL := Lib.hid hdl
      have HDS := Lib.hid hdseq
      clear hh hs hmap hall hpf hlen hxK hdl hdall hdpf hdseq
      generalize delL K L = D at *
      by_cases hag : again < when
      · have hins : insL ⟨K, again, (k : Int) + 1⟩ D = ⟨K, again, (k : Int) + 1⟩ :: D := insL_head (fun y hy => .inl (by rw [(HDALL.out y hy).2]; exact hag))
        rw [hins] at hAR
        have HAR := Lib.hid hAR
        clear hins hAR
        go_wp2_with fail
        refine HRC.out.mono ?_
        rintro e w2 ⟨rfl, rfl⟩
        go_wp2_with fail
        refine HAR.out.mono ?_
        rintro e w3 ⟨rfl, G3, hh, hs⟩
        have HLE := Lib.hid (tlen_c w3 hh)
        have HH3 := Lib.hid hh
        have HS3 := Lib.hid (HS.out.step hs)
        have hll : (⟨K, again, (k : Int) + 1⟩ :: D).length = k := by rw [List.length_cons]; omega
        rw [hll] at HLE
        clear hh hs HAR HRC hll
        go_wp2_with fail
        refine HLE.out.mono ?_
        rintro e w4 ⟨rfl, rfl⟩
        clear HLE
        have HI3 := Lib.hid (IntsAt.nil w w3 G3)
        go_wp2_with (at_builtin; refine wpList_append_own_at _ rfl (.tmp 72) (.tmp 74) 22 rfl 0 3 i0 (.int .i64 0) 1 8 Try.underlying22 hi0 hz0 hz1 hz2 rfl (by decide) _ ([]).length (flat encI ([])) rfl (World.ownsRow.alloc HI3.out.own _) ⟨w3.heap.size, 0, none⟩ 1 1 [.int .i64 K] rfl rfl (cell_one_new _ _ _) ?c2 ?b1 ?b2 (Nat.zero_le _) ?_)
        case c2 => first | rfl | (intro u hu; simp only [List.mem_singleton] at hu; subst hu; rfl)
        case b1 => unfold maxLen; first | (simp; done) | omega
        case b2 => first | (simp; done) | omega
        intro v5 w5 hown hgrow _ hat
        obtain ⟨hp1, hp2, -⟩ := HI3.out.pushed HH3.out.gb HS3.out.m.size hown hgrow hat
        have HH5 := Lib.hid (HH3.out.turns hp2 (fun b hf hb => (HI3.out.far b hb).2 hf))
        have HS5 := Lib.hid (HS3.out.turns hp2 (fun b hb hf => by have := (HI3.out.far b hf).1; omega))
        have HI5 := Lib.hid hp1
        clear hown hgrow hat hp1 hp2
        go_wp2_with fail
        go_loopw [12, 13] (fun v12 v13 wy => ∃ m : Nat, m ≤ k ∧ v13 = .int .i64 m ∧ TimAt wy q G3 (⟨K, again, (k : Int) + 1⟩ :: D) ((k : Int) + 1) (pset pf K 0) ∧ Since w wy G3 ∧ IntsAt w wy G3 v12 ([K] ++ (rng m).filter (fun z => z != K))) (fun _ v13 _ => k - (intOf v13).toNat)
        case atStart => exact ⟨0, Nat.zero_le _, rfl, HH5.out, HS5.out, by simpa [rng] using HI5.out⟩
        case round =>
          clear HH3 HS3 HI5 HH5 HS5
          obtain ⟨m, hm, rfl, hh, hs, hv⟩ := hrel
          have HH := Lib.hid hh
          have HSS := Lib.hid hs
          have HV := Lib.hid hv
          clear hh hs hv
          by_cases hmk : m < k
          · have hfs := rng_filter m K
            have m1 : (0 : Int) ≤ (m : Int) := Int.natCast_nonneg _
            have m2 : (m : Int) < (k : Int) := by omega
            by_cases hmK : (m : Int) = K
            · rw [if_pos hmK] at hfs
              have HFS := Lib.hid hfs
              have hyb : ((m : Int) != K) = false := by simp [hmK]
              have HMK := Lib.hid hmK
              clear hfs hmK
              go_wp2_with fail
              go_roundw
              case rel => exact ⟨m + 1, by omega, by go_num, HH.out, HSS.out, by rw [HFS.out]; exact HV.out⟩
              case measure => simp [intOf]; omega
            · rw [if_neg hmK] at hfs
              have HFS := Lib.hid hfs
              have hyb : ((m : Int) != K) = true := by simp [hmK]
              clear hfs hmK
              have hfl : ([K] ++ (rng m).filter (fun z => z != K)).length ≤ 1000000 := by
                have h1 := List.length_filter_le (fun z => z != K) (rng m)
                rw [rng_len] at h1
                rw [List.length_append]
                simp only [List.length_cons, List.length_nil]
                omega
              have hasc : [K] ++ (rng (m + 1)).filter (fun z => z != K) = ([K] ++ (rng m).filter (fun z => z != K)) ++ [(m : Int)] := by rw [HFS.out, List.append_assoc]
              have HASC := Lib.hid hasc
              clear hasc
              generalize [K] ++ (rng m).filter (fun z => z != K) = A at *
              go_wp2_with (at_builtin; refine wpList_append_own_at _ rfl (.tmp 84) (.tmp 86) 22 rfl 0 3 i0 (.int .i64 0) 1 8 Try.underlying22 hi0 hz0 hz1 hz2 rfl (by decide) _ (A).length (flat encI (A)) rfl (World.ownsRow.alloc HV.out.own _) ⟨wr.heap.size, 0, none⟩ 1 1 [.int .i64 (m : Int)] rfl rfl (cell_one_new _ _ _) ?c2 ?b1 ?b2 (Nat.zero_le _) ?_)
              case c2 => first | rfl | (intro u hu; simp only [List.mem_singleton] at hu; subst hu; rfl)
              case b1 => unfold maxLen; first | (simp; done) | omega
              case b2 => first | (simp; done) | omega
              intro v6 w6 hown hgrow _ hat
              obtain ⟨hp1, hp2, -⟩ := HV.out.pushed HH.out.gb HSS.out.m.size hown hgrow hat
              have HH6 := Lib.hid (HH.out.turns hp2 (fun b hf hb => (HV.out.far b hb).2 hf))
              have HS6 := Lib.hid (HSS.out.turns hp2 (fun b hb hf => by have := (HV.out.far b hf).1; omega))
              have HI6 := Lib.hid hp1
              clear hown hgrow hat hp1 hp2
              go_wp2_with fail
              go_roundw
              case rel => exact ⟨m + 1, by omega, by go_num, HH6.out, HS6.out, by rw [HASC.out]; exact HI6.out⟩
              case measure => simp [intOf]; omega
          · obtain rfl : m = k := by omega
            have m2 : ¬ (m : Int) < (m : Int) := by omega
            have hWm : [K] ++ (rng m).filter (fun z => z != K) = (⟨K, again, (m : Int) + 1⟩ :: D).map It.id := by rw [List.map_cons, HDL.out]; rfl
            rw [hWm] at HV
            clear hWm
            have hall7 : ∀ x ∈ (⟨K, again, (m : Int) + 1⟩ :: D), (x.id = K ∧ x.when = again) ∨ (x.id ≠ K ∧ x.when = when) := fun x hx => by
              rcases List.mem_cons.1 hx with rfl | hx
              · exact .inl ⟨rfl, rfl⟩
              · exact .inr (HDALL.out x hx)
            have hpf7 : ∀ x ∈ (⟨K, again, (m : Int) + 1⟩ :: D), pset pf K 0 x.id = some 0 := fun x hx => by
              rcases List.mem_cons.1 hx with rfl | hx
              · simp [pset]
              · exact HDPF.out x hx
            have HALL7 := Lib.hid hall7
            have HPF7 := Lib.hid hpf7
            have HL7 := Lib.hid (show (⟨K, again, (m : Int) + 1⟩ :: D).length = m by rw [List.length_cons]; omega)
            clear hall7 hpf7
            generalize (⟨K, again, (m : Int) + 1⟩ :: D) = Z at *
            go_wp2_with fail
            have HWL := Lib.hid (show (Z.map It.id).length = m by rw [List.length_map]; exact HL7.out)
            have hz0 := Lib.hid (List.drop_zero (l := Z.map It.id)).symm
            generalize hWW : Z.map It.id = WW at *
            rcases HV.out.own.form with ⟨hv, h0⟩ | ⟨g8, c8, hv, hg8, hlc8, hcm8⟩
            · have := HWL.out; rw [h0] at this; simp at this; omega
            subst hv
            clear hg8
            go_loopw [14] (fun v14 wy => ∃ (j : Nat) (G : Nat → Prop) (l : List It) (pf : Int → Option Int), v14 = .int .i64 j ∧ TimAt wy q G l ((m : Int) + 1) pf ∧ Since w wy G ∧ IntsAt w wy G (.slice (some ⟨g8, 0, none⟩) WW.length c8) WW ∧ l.map It.id = WW.drop j ∧ (∀ x ∈ l, (x.id = K ∧ x.when = again) ∨ (x.id ≠ K ∧ x.when = when)) ∧ (∀ x ∈ l, pf x.id = some 0)) (fun v14 _ => m - (intOf v14).toNat)
            case atStart => exact ⟨0, G3, Z, _, rfl, HH.out, HSS.out, HV.out, by rw [← hz0.out]; exact hWW, HALL7.out, HPF7.out⟩
            case round =>
              clear HH HSS HV HALL7 HPF7
              obtain ⟨j, G4, l, pf4, rfl, hh, hs, hv, hmap, hall, hpf⟩ := hrel
              by_cases hj : j < m
              · obtain ⟨y, hy⟩ := get_of_lt (xs := WW) (k := j) (by have := HWL.out; omega)
                have hdr : WW.drop j = y :: WW.drop (j + 1) := by
                  obtain ⟨hl, rfl⟩ := List.getElem?_eq_some_iff.1 hy
                  exact List.drop_eq_getElem_cons hl
                rw [hdr] at hmap
                obtain ⟨x, l', rfl⟩ : ∃ x l', l = x :: l' := by
                  cases l with
                  | nil => cases hmap
                  | cons x l => exact ⟨x, l, rfl⟩
                rw [List.map_cons, List.cons.injEq] at hmap
                obtain ⟨hxid, hmap⟩ := hmap
                have hxc := hall x (List.mem_cons_self ..)
                have hpx := hpf x (List.mem_cons_self ..)
                have hun := hh.uniq
                have hx1000 : x.when ≤ 1000 := by rcases hxc with h | h <;> omega
                have HTK := Lib.hid (ttake_once 1000 0 wr hh (by omega) (by decide) hx1000 hpx (not_again_zero x 1000))
                have HALL := Lib.hid (fun z hz => hall z (List.mem_cons_of_mem _ hz))
                have HPF := Lib.hid (show ∀ z ∈ l', pdel pf4 x.id z.id = some 0 from fun z hz => by
                  have hn := (Uniq.iff _).1 hun
                  rw [List.map_cons, List.nodup_cons] at hn
                  have hne : z.id ≠ x.id := fun e => hn.1 (by rw [← e]; exact List.mem_map_of_mem hz)
                  unfold pdel
                  rw [if_neg hne]
                  exact hpf z (List.mem_cons_of_mem _ hz))
                obtain ⟨xi, xw, xs⟩ := x
                simp only at hxid hxc hx1000 HTK HPF
                subst hxid
                have j1 : (0 : Int) ≤ (j : Int) := Int.natCast_nonneg _
                have j2 : (j : Int) < (m : Int) := by omega
                have j3 : (j : Int) < (WW.length : Int) := by have := HWL.out; omega
                have HSS := Lib.hid hs
                have HV := Lib.hid hv
                have HMAP := Lib.hid hmap
                have HY := Lib.hid hy
                clear hh hs hv hmap hall hpf hy hdr hpx hun
                go_wp2_with fail
                refine HTK.out.mono ?_
                rintro e w5 ⟨rfl, G5, hh, hs⟩
                simp only [dueV]
                have HH5 := Lib.hid (hh.made (alloc_made _ (.cells #[.int .i64 xi, .int .i64 xw, .int .i64 1000] 58)))
                have HS5 := Lib.hid ((HSS.out.step hs).made (alloc_made _ (.cells #[.int .i64 xi, .int .i64 xw, .int .i64 1000] 58)))
                have HV5 := Lib.hid ((HV.out.step hs).made (alloc_made _ (.cells #[.int .i64 xi, .int .i64 xw, .int .i64 1000] 58)))
                have HX5 := Lib.hid (Blk.new w5 58 #[.int .i64 xi, .int .i64 xw, .int .i64 1000])
                clear hh hs HTK HSS HV
                go_wp2_with fail
                generalize hbx : w5.heap.size = bx at *
                generalize w5.alloc (.cells #[.int .i64 xi, .int .i64 xw, .int .i64 1000] 58) = W5 at *
                clear hbx w5
                rcases hxc with ⟨rfl, rfl⟩ | ⟨hxne, rfl⟩
                · skip
                  refine wp_region_held_drew (S := (fun w' => Made W5 w')) (by kernel_rfl) ?_ (fun hHeld => ?_)
                  · exact (Turns.refl _ _).drew
                  refine takeH (i := 0) (d := some 105) (v := ?_) rfl rfl (by kernel_rfl) (by kernel_rfl) (by kernel_rfl) (fun _ _ _ h => h) (Or.inl ⟨by rfl, ?_⟩) (by assumption) ?_
                  rotate_left
                  · intro w hSw
                    try dsimp only at hSw
                    go_simp
                    try with_reducible rfl
                  try simp only [Act.put, List.setIfInBounds_toArray, List.set_cons_zero, List.set_cons_succ]
                  refine takeH (i := 1) (d := some 106) (v := ?_) rfl rfl (by kernel_rfl) (by kernel_rfl) (by kernel_rfl) (fun _ _ _ h => h) (Or.inl ⟨by rfl, ?_⟩) (by assumption) ?_
                  rotate_left
                  · intro w hSw
                    try dsimp only at hSw
                    go_simp
                    try with_reducible rfl
                  try simp only [Act.put, List.setIfInBounds_toArray, List.set_cons_zero, List.set_cons_succ]
                  refine takeH (i := 2) (d := some 107) (v := ?_) rfl rfl (by kernel_rfl) (by kernel_rfl) (by kernel_rfl) (fun _ _ _ h => h) (Or.inl ⟨by rfl, ?_⟩) (by assumption) ?_
                  rotate_left
                  · intro w hSw
                    try dsimp only at hSw
                    go_simp
                    try with_reducible rfl
                  try simp only [Act.put, List.setIfInBounds_toArray, List.set_cons_zero, List.set_cons_succ]
                  refine takeH (i := 3) (d := some 108) (v := ?_) rfl rfl (by kernel_rfl) (by kernel_rfl) (by kernel_rfl) (fun _ _ _ h => h) (Or.inl ⟨by rfl, ?_⟩) (by assumption) ?_
                  rotate_left
                  · intro w hSw
                    try dsimp only at hSw
                    go_simp
                    try with_reducible rfl
                  try simp only [Act.put, List.setIfInBounds_toArray, List.set_cons_zero, List.set_cons_succ]
                  refine takeH (i := 4) (d := some 109) (v := ?_) rfl rfl (by kernel_rfl) (by kernel_rfl) (by kernel_rfl) (fun _ _ _ h => h) (Or.inl ⟨by rfl, ?_⟩) (by assumption) ?_
                  rotate_left
                  · intro w hSw
                    try dsimp only at hSw
                    have hb2 := HX5.out.made hSw
                    have d0 := hb2.cell 0
                    have d1 := hb2.cell 1
                    simp only [List.getElem?_toArray, List.getElem?_cons_zero, List.getElem?_cons_succ] at d0 d1
                    clear hb2
                    go_simp
                    try with_reducible rfl
                  try simp only [Act.put, List.setIfInBounds_toArray, List.set_cons_zero, List.set_cons_succ]
                  refine takeH (i := 5) (d := some 110) (v := ?_) rfl rfl (by kernel_rfl) (by kernel_rfl) (by kernel_rfl) (fun _ _ _ h => h) (Or.inl ⟨by rfl, ?_⟩) (by assumption) ?_
                  rotate_left
                  · intro w hSw
                    try dsimp only at hSw
                    go_simp
                    try with_reducible rfl
                  try simp only [Act.put, List.setIfInBounds_toArray, List.set_cons_zero, List.set_cons_succ]
                  refine takeH (i := 6) (d := some 111) (v := ?_) rfl rfl (by kernel_rfl) (by kernel_rfl) (by kernel_rfl) (fun _ _ _ h => h) (Or.inl ⟨by rfl, ?_⟩) (by assumption) ?_
                  rotate_left
                  · intro w hSw
                    try dsimp only at hSw
                    go_simp
                    try with_reducible rfl
                  try simp only [Act.put, List.setIfInBounds_toArray, List.set_cons_zero, List.set_cons_succ]
                  refine takeH (i := 7) (d := some 112) (v := ?_) rfl rfl (by kernel_rfl) (by kernel_rfl) (by kernel_rfl) (fun _ _ _ h => h) (Or.inl ⟨by rfl, ?_⟩) (by assumption) ?_
                  rotate_left
                  · intro w hSw
                    try dsimp only at hSw
                    go_simp
                    try with_reducible rfl
                  try simp only [Act.put, List.setIfInBounds_toArray, List.set_cons_zero, List.set_cons_succ]
                  refine takeH (i := 8) (d := some 113) (v := ?_) rfl rfl (by kernel_rfl) (by kernel_rfl) (by kernel_rfl) (fun _ _ _ h => h) (Or.inl ⟨by rfl, ?_⟩) (by assumption) ?_
                  rotate_left
                  · intro w hSw
                    try dsimp only at hSw
                    have d0 := Owns.cell encI_len (HV5.out.made hSw).own HY.out (j := 0) rfl
                    simp only [Nat.mul_one, Nat.add_zero] at d0
                    go_simp
                    try with_reducible rfl
                  try simp only [Act.put, List.setIfInBounds_toArray, List.set_cons_zero, List.set_cons_succ]
                  refine takeH (i := 9) (d := some 114) (v := ?_) rfl rfl (by kernel_rfl) (by kernel_rfl) (by kernel_rfl) (fun _ _ _ h => h) (Or.inl ⟨by rfl, ?_⟩) (by assumption) ?_
                  rotate_left
                  · intro w hSw
                    try dsimp only at hSw
                    go_simp
                    try with_reducible rfl
                  try simp only [Act.put, List.setIfInBounds_toArray, List.set_cons_zero, List.set_cons_succ]
                  refine takeH (i := 10) (d := some 115) (v := ?_) rfl rfl (by kernel_rfl) (by kernel_rfl) (by kernel_rfl) (fun _ _ _ h => h) (Or.inl ⟨by rfl, ?_⟩) (by assumption) ?_
                  rotate_left
                  · intro w hSw
                    try dsimp only at hSw
                    go_simp
                    try with_reducible rfl
                  try simp only [Act.put, List.setIfInBounds_toArray, List.set_cons_zero, List.set_cons_succ]
                  refine takeH (i := 11) (d := some 116) (v := ?_) rfl rfl (by kernel_rfl) (by kernel_rfl) (by kernel_rfl) (fun _ _ _ h => h) (Or.inl ⟨by rfl, ?_⟩) (by assumption) ?_
                  rotate_left
                  · intro w hSw
                    try dsimp only at hSw
                    go_simp
                    try with_reducible rfl
                  try simp only [Act.put, List.setIfInBounds_toArray, List.set_cons_zero, List.set_cons_succ]
                  refine takeH (i := 12) (d := some 117) (v := ?_) rfl rfl (by kernel_rfl) (by kernel_rfl) (by kernel_rfl) (fun _ _ _ h => h) (Or.inl ⟨by rfl, ?_⟩) (by assumption) ?_
                  rotate_left
                  · intro w hSw
                    try dsimp only at hSw
                    go_simp
                    try with_reducible rfl
                  try simp only [Act.put, List.setIfInBounds_toArray, List.set_cons_zero, List.set_cons_succ]
                  refine takeH (i := 13) (d := some 118) (v := ?_) rfl rfl (by kernel_rfl) (by kernel_rfl) (by kernel_rfl) (fun _ _ _ h => h) (Or.inl ⟨by rfl, ?_⟩) (by assumption) ?_
                  rotate_left
                  · intro w hSw
                    try dsimp only at hSw
                    have hb2 := HX5.out.made hSw
                    have d0 := hb2.cell 0
                    have d1 := hb2.cell 1
                    simp only [List.getElem?_toArray, List.getElem?_cons_zero, List.getElem?_cons_succ] at d0 d1
                    clear hb2
                    go_simp
                    try with_reducible rfl
                  try simp only [Act.put, List.setIfInBounds_toArray, List.set_cons_zero, List.set_cons_succ]
                  refine takeH (i := 14) (d := some 119) (v := ?_) rfl rfl (by kernel_rfl) (by kernel_rfl) (by kernel_rfl) (fun _ _ _ h => h) (Or.inl ⟨by rfl, ?_⟩) (by assumption) ?_
                  rotate_left
                  · intro w hSw
                    try dsimp only at hSw
                    go_simp
                    try with_reducible rfl
                  try simp only [Act.put, List.setIfInBounds_toArray, List.set_cons_zero, List.set_cons_succ]
                  refine takeH (i := 15) (d := some 120) (v := ?_) rfl rfl (by kernel_rfl) (by kernel_rfl) (by kernel_rfl) (fun _ _ _ h => h) (Or.inl ⟨by rfl, ?_⟩) (by assumption) ?_
                  rotate_left
                  · intro w hSw
                    try dsimp only at hSw
                    go_simp
                    try with_reducible rfl
                  try simp only [Act.put, List.setIfInBounds_toArray, List.set_cons_zero, List.set_cons_succ]
                  refine takeH (i := 16) (d := some 121) (v := ?_) rfl rfl (by kernel_rfl) (by kernel_rfl) (by kernel_rfl) (fun _ _ _ h => h) (Or.inl ⟨by rfl, ?_⟩) (by assumption) ?_
                  rotate_left
                  · intro w hSw
                    try dsimp only at hSw
                    go_simp
                    try with_reducible rfl
                  try simp only [Act.put, List.setIfInBounds_toArray, List.set_cons_zero, List.set_cons_succ]
                  refine takeH (i := 17) (d := some 122) (v := ?_) rfl rfl (by kernel_rfl) (by kernel_rfl) (by kernel_rfl) (fun _ _ _ h => h) (Or.inl ⟨by rfl, ?_⟩) (by assumption) ?_
                  rotate_left
                  · intro w hSw
                    try dsimp only at hSw
                    go_simp
                    try with_reducible rfl
                  try simp only [Act.put, List.setIfInBounds_toArray, List.set_cons_zero, List.set_cons_succ]
                  refine takeH (i := 18) (d := some 123) (v := ?_) rfl rfl (by kernel_rfl) (by kernel_rfl) (by kernel_rfl) (fun _ _ _ h => h) (Or.inl ⟨by rfl, ?_⟩) (by assumption) ?_
                  rotate_left
                  · intro w hSw
                    try dsimp only at hSw
                    have hb2 := HX5.out.made hSw
                    have d0 := hb2.cell 0
                    have d1 := hb2.cell 1
                    simp only [List.getElem?_toArray, List.getElem?_cons_zero, List.getElem?_cons_succ] at d0 d1
                    clear hb2
                    go_simp
                    try with_reducible rfl
                  try simp only [Act.put, List.setIfInBounds_toArray, List.set_cons_zero, List.set_cons_succ]
                  refine takeH (i := 19) (d := some 124) (v := ?_) rfl rfl (by kernel_rfl) (by kernel_rfl) (by kernel_rfl) (fun _ _ _ h => h) (Or.inl ⟨by rfl, ?_⟩) (by assumption) ?_
                  rotate_left
                  · intro w hSw
                    try dsimp only at hSw
                    go_simp
                    try with_reducible rfl
                  try simp only [Act.put, List.setIfInBounds_toArray, List.set_cons_zero, List.set_cons_succ]
                  refine takeH (i := 20) (d := some 125) (v := ?_) rfl rfl (by kernel_rfl) (by kernel_rfl) (by kernel_rfl) (fun _ _ _ h => h) (Or.inl ⟨by rfl, ?_⟩) (by assumption) ?_
                  rotate_left
                  · intro w hSw
                    try dsimp only at hSw
                    go_simp
                    try with_reducible rfl
                  try simp only [Act.put, List.setIfInBounds_toArray, List.set_cons_zero, List.set_cons_succ]
                  refine takeH (i := 21) (d := some 126) (v := ?_) rfl rfl (by kernel_rfl) (by kernel_rfl) (by kernel_rfl) (fun _ _ _ h => h) (Or.inl ⟨by rfl, ?_⟩) (by assumption) ?_
                  rotate_left
                  · intro w hSw
                    try dsimp only at hSw
                    go_simp
                    try with_reducible rfl
                  try simp only [Act.put, List.setIfInBounds_toArray, List.set_cons_zero, List.set_cons_succ]
                  refine takeH (i := 22) (d := some 127) (v := ?_) rfl rfl (by kernel_rfl) (by kernel_rfl) (by kernel_rfl) (fun _ _ _ h => h) (Or.inl ⟨by rfl, ?_⟩) (by assumption) ?_
                  rotate_left
                  · intro w hSw
                    try dsimp only at hSw
                    go_simp
                    try with_reducible rfl
                  try simp only [Act.put, List.setIfInBounds_toArray, List.set_cons_zero, List.set_cons_succ]
                  refine takeH (i := 23) (d := some 128) (v := ?_) rfl rfl (by kernel_rfl) (by kernel_rfl) (by kernel_rfl) (fun _ _ _ h => h) (Or.inl ⟨by rfl, ?_⟩) (by assumption) ?_
                  rotate_left
                  · intro w hSw
                    try dsimp only at hSw
                    go_simp
                    try with_reducible rfl
                  try simp only [Act.put, List.setIfInBounds_toArray, List.set_cons_zero, List.set_cons_succ]
                  refine takeH (i := 24) (d := some 129) (v := ?_) rfl rfl (by kernel_rfl) (by kernel_rfl) (by kernel_rfl) (fun _ _ _ h => h) (Or.inl ⟨by rfl, ?_⟩) (by assumption) ?_
                  rotate_left
                  · intro w hSw
                    try dsimp only at hSw
                    go_simp
                    try with_reducible rfl
                  try simp only [Act.put, List.setIfInBounds_toArray, List.set_cons_zero, List.set_cons_succ]
                  refine takeH (i := 25) (d := some 130) (v := ?_) rfl rfl (by kernel_rfl) (by kernel_rfl) (by kernel_rfl) (fun _ _ _ h => h) (Or.inl ⟨by rfl, ?_⟩) (by assumption) ?_
                  rotate_left
                  · intro w hSw
                    try dsimp only at hSw
                    have hb2 := HX5.out.made hSw
                    have d0 := hb2.cell 0
                    have d1 := hb2.cell 1
                    simp only [List.getElem?_toArray, List.getElem?_cons_zero, List.getElem?_cons_succ] at d0 d1
                    clear hb2
                    go_simp
                    try with_reducible rfl
                  try simp only [Act.put, List.setIfInBounds_toArray, List.set_cons_zero, List.set_cons_succ]
                  refine takeH (i := 26) (d := some 131) (v := ?_) rfl rfl (by kernel_rfl) (by kernel_rfl) (by kernel_rfl) (fun _ _ _ h => h) (Or.inl ⟨by rfl, ?_⟩) (by assumption) ?_
                  rotate_left
                  · intro w hSw
                    try dsimp only at hSw
                    go_simp
                    try with_reducible rfl
                  try simp only [Act.put, List.setIfInBounds_toArray, List.set_cons_zero, List.set_cons_succ]
                  refine takeH (i := 27) (d := some 132) (v := ?_) rfl rfl (by kernel_rfl) (by kernel_rfl) (by kernel_rfl) (fun _ _ _ h => h) (Or.inl ⟨by rfl, ?_⟩) (by assumption) ?_
                  rotate_left
                  · intro w hSw
                    try dsimp only at hSw
                    go_simp
                    try with_reducible rfl
                  try simp only [Act.put, List.setIfInBounds_toArray, List.set_cons_zero, List.set_cons_succ]
                  refine takeH (i := 28) (d := some 133) (v := ?_) rfl rfl (by kernel_rfl) (by kernel_rfl) (by kernel_rfl) (fun _ _ _ h => h) (Or.inl ⟨by rfl, ?_⟩) (by assumption) ?_
                  rotate_left
                  · intro w hSw
                    try dsimp only at hSw
                    go_simp
                    try with_reducible rfl
                  try simp only [Act.put, List.setIfInBounds_toArray, List.set_cons_zero, List.set_cons_succ]
                  refine takeH (i := 29) (d := some 134) (v := undef) rfl rfl (by kernel_rfl) (by kernel_rfl) (by kernel_rfl) (fun _ _ _ h => h) (Or.inr ⟨by rfl, rfl⟩) (by assumption) ?_
                  try simp only [Act.put, List.setIfInBounds_toArray, List.set_cons_zero, List.set_cons_succ]
                  refine takeH (i := 30) (d := some 135) (v := undef) rfl rfl (by kernel_rfl) (by kernel_rfl) (by kernel_rfl) (fun _ _ _ h => h) (Or.inr ⟨by rfl, rfl⟩) (by assumption) ?_
                  try simp only [Act.put, List.setIfInBounds_toArray, List.set_cons_zero, List.set_cons_succ]
                  refine takeH (i := 31) (d := some 136) (v := undef) rfl rfl (by kernel_rfl) (by kernel_rfl) (by kernel_rfl) (fun _ _ _ h => h) (Or.inr ⟨by rfl, rfl⟩) (by assumption) ?_
                  try simp only [Act.put, List.setIfInBounds_toArray, List.set_cons_zero, List.set_cons_succ]
                  refine takeH (i := 32) (d := some 137) (v := undef) rfl rfl (by kernel_rfl) (by kernel_rfl) (by kernel_rfl) (fun _ _ _ h => h) (Or.inr ⟨by rfl, rfl⟩) (by assumption) ?_
                  try simp only [Act.put, List.setIfInBounds_toArray, List.set_cons_zero, List.set_cons_succ]
                  refine takeH (i := 33) (d := some 138) (v := ?_) rfl rfl (by kernel_rfl) (by kernel_rfl) (by kernel_rfl) (fun _ _ _ h => h) (Or.inl ⟨by rfl, ?_⟩) (by assumption) ?_
                  rotate_left
                  · intro w hSw
                    try dsimp only at hSw
                    go_simp
                    try with_reducible rfl
                  try simp only [Act.put, List.setIfInBounds_toArray, List.set_cons_zero, List.set_cons_succ]
                  refine takeH (i := 34) (d := some 139) (v := ?_) rfl rfl (by kernel_rfl) (by kernel_rfl) (by kernel_rfl) (fun _ _ _ h => h) (Or.inl ⟨by rfl, ?_⟩) (by assumption) ?_
                  rotate_left
                  · intro w hSw
                    try dsimp only at hSw
                    go_simp
                    try with_reducible rfl
                  try simp only [Act.put, List.setIfInBounds_toArray, List.set_cons_zero, List.set_cons_succ]
                  refine wpAnyH_done (by kernel_rfl) ?_ _
                  have HH6 := Lib.hid (HH5.out.made hHeld)
                  have HS6 := Lib.hid (HS5.out.made hHeld)
                  have HV6 := Lib.hid (HV5.out.made hHeld)
                  clear hHeld HH5 HS5 HV5 HX5
                  try clear hHeld
                  go_wp2_with fail
                  go_roundw
                  case rel => exact ⟨j + 1, G5, l', _, by go_num, HH6.out, HS6.out, HV6.out, HMAP.out, HALL.out, HPF.out⟩
                  case measure => simp [intOf]; omega
                · have hxb : (xi == K) = false := beq_eq_false_iff_ne.mpr hxne
                  have hxb2 : (xi != K) = true := by simp [hxne]
                  have HXNE := Lib.hid hxne
                  clear hxne
                  refine wp_region_held_drew (S := (fun w' => Made W5 w')) (by kernel_rfl) ?_ (fun hHeld => ?_)
                  · exact (Turns.refl _ _).drew
                  refine takeH (i := 0) (d := some 105) (v := ?_) rfl rfl (by kernel_rfl) (by kernel_rfl) (by kernel_rfl) (fun _ _ _ h => h) (Or.inl ⟨by rfl, ?_⟩) (by assumption) ?_
                  rotate_left
                  · intro w hSw
                    try dsimp only at hSw
                    go_simp
                    try with_reducible rfl
                  try simp only [Act.put, List.setIfInBounds_toArray, List.set_cons_zero, List.set_cons_succ]
                  refine takeH (i := 1) (d := some 106) (v := ?_) rfl rfl (by kernel_rfl) (by kernel_rfl) (by kernel_rfl) (fun _ _ _ h => h) (Or.inl ⟨by rfl, ?_⟩) (by assumption) ?_
                  rotate_left
                  · intro w hSw
                    try dsimp only at hSw
                    go_simp
                    try with_reducible rfl
                  try simp only [Act.put, List.setIfInBounds_toArray, List.set_cons_zero, List.set_cons_succ]
                  refine takeH (i := 2) (d := some 107) (v := ?_) rfl rfl (by kernel_rfl) (by kernel_rfl) (by kernel_rfl) (fun _ _ _ h => h) (Or.inl ⟨by rfl, ?_⟩) (by assumption) ?_
                  rotate_left
                  · intro w hSw
                    try dsimp only at hSw
                    go_simp
                    try with_reducible rfl
                  try simp only [Act.put, List.setIfInBounds_toArray, List.set_cons_zero, List.set_cons_succ]
                  refine takeH (i := 3) (d := some 108) (v := ?_) rfl rfl (by kernel_rfl) (by kernel_rfl) (by kernel_rfl) (fun _ _ _ h => h) (Or.inl ⟨by rfl, ?_⟩) (by assumption) ?_
                  rotate_left
                  · intro w hSw
                    try dsimp only at hSw
                    go_simp
                    try with_reducible rfl
                  try simp only [Act.put, List.setIfInBounds_toArray, List.set_cons_zero, List.set_cons_succ]
                  refine takeH (i := 4) (d := some 109) (v := ?_) rfl rfl (by kernel_rfl) (by kernel_rfl) (by kernel_rfl) (fun _ _ _ h => h) (Or.inl ⟨by rfl, ?_⟩) (by assumption) ?_
                  rotate_left
                  · intro w hSw
                    try dsimp only at hSw
                    have hb2 := HX5.out.made hSw
                    have d0 := hb2.cell 0
                    have d1 := hb2.cell 1
                    simp only [List.getElem?_toArray, List.getElem?_cons_zero, List.getElem?_cons_succ] at d0 d1
                    clear hb2
                    go_simp
                    try with_reducible rfl
                  try simp only [Act.put, List.setIfInBounds_toArray, List.set_cons_zero, List.set_cons_succ]
                  refine takeH (i := 5) (d := some 110) (v := ?_) rfl rfl (by kernel_rfl) (by kernel_rfl) (by kernel_rfl) (fun _ _ _ h => h) (Or.inl ⟨by rfl, ?_⟩) (by assumption) ?_
                  rotate_left
                  · intro w hSw
                    try dsimp only at hSw
                    go_simp
                    try with_reducible rfl
                  try simp only [Act.put, List.setIfInBounds_toArray, List.set_cons_zero, List.set_cons_succ]
                  refine takeH (i := 6) (d := some 111) (v := ?_) rfl rfl (by kernel_rfl) (by kernel_rfl) (by kernel_rfl) (fun _ _ _ h => h) (Or.inl ⟨by rfl, ?_⟩) (by assumption) ?_
                  rotate_left
                  · intro w hSw
                    try dsimp only at hSw
                    go_simp
                    try with_reducible rfl
                  try simp only [Act.put, List.setIfInBounds_toArray, List.set_cons_zero, List.set_cons_succ]
                  refine takeH (i := 7) (d := some 112) (v := ?_) rfl rfl (by kernel_rfl) (by kernel_rfl) (by kernel_rfl) (fun _ _ _ h => h) (Or.inl ⟨by rfl, ?_⟩) (by assumption) ?_
                  rotate_left
                  · intro w hSw
                    try dsimp only at hSw
                    go_simp
                    try with_reducible rfl
                  try simp only [Act.put, List.setIfInBounds_toArray, List.set_cons_zero, List.set_cons_succ]
                  refine takeH (i := 8) (d := some 113) (v := ?_) rfl rfl (by kernel_rfl) (by kernel_rfl) (by kernel_rfl) (fun _ _ _ h => h) (Or.inl ⟨by rfl, ?_⟩) (by assumption) ?_
                  rotate_left
                  · intro w hSw
                    try dsimp only at hSw
                    have d0 := Owns.cell encI_len (HV5.out.made hSw).own HY.out (j := 0) rfl
                    simp only [Nat.mul_one, Nat.add_zero] at d0
                    go_simp
                    try with_reducible rfl
                  try simp only [Act.put, List.setIfInBounds_toArray, List.set_cons_zero, List.set_cons_succ]
                  refine takeH (i := 9) (d := some 114) (v := ?_) rfl rfl (by kernel_rfl) (by kernel_rfl) (by kernel_rfl) (fun _ _ _ h => h) (Or.inl ⟨by rfl, ?_⟩) (by assumption) ?_
                  rotate_left
                  · intro w hSw
                    try dsimp only at hSw
                    go_simp
                    try with_reducible rfl
                  try simp only [Act.put, List.setIfInBounds_toArray, List.set_cons_zero, List.set_cons_succ]
                  refine takeH (i := 10) (d := some 115) (v := ?_) rfl rfl (by kernel_rfl) (by kernel_rfl) (by kernel_rfl) (fun _ _ _ h => h) (Or.inl ⟨by rfl, ?_⟩) (by assumption) ?_
                  rotate_left
                  · intro w hSw
                    try dsimp only at hSw
                    go_simp
                    try with_reducible rfl
                  try simp only [Act.put, List.setIfInBounds_toArray, List.set_cons_zero, List.set_cons_succ]
                  refine takeH (i := 11) (d := some 116) (v := ?_) rfl rfl (by kernel_rfl) (by kernel_rfl) (by kernel_rfl) (fun _ _ _ h => h) (Or.inl ⟨by rfl, ?_⟩) (by assumption) ?_
                  rotate_left
                  · intro w hSw
                    try dsimp only at hSw
                    go_simp
                    try with_reducible rfl
                  try simp only [Act.put, List.setIfInBounds_toArray, List.set_cons_zero, List.set_cons_succ]
                  refine takeH (i := 12) (d := some 117) (v := ?_) rfl rfl (by kernel_rfl) (by kernel_rfl) (by kernel_rfl) (fun _ _ _ h => h) (Or.inl ⟨by rfl, ?_⟩) (by assumption) ?_
                  rotate_left
                  · intro w hSw
                    try dsimp only at hSw
                    go_simp
                    try with_reducible rfl
                  try simp only [Act.put, List.setIfInBounds_toArray, List.set_cons_zero, List.set_cons_succ]
                  refine takeH (i := 13) (d := some 118) (v := ?_) rfl rfl (by kernel_rfl) (by kernel_rfl) (by kernel_rfl) (fun _ _ _ h => h) (Or.inl ⟨by rfl, ?_⟩) (by assumption) ?_
                  rotate_left
                  · intro w hSw
                    try dsimp only at hSw
                    have hb2 := HX5.out.made hSw
                    have d0 := hb2.cell 0
                    have d1 := hb2.cell 1
                    simp only [List.getElem?_toArray, List.getElem?_cons_zero, List.getElem?_cons_succ] at d0 d1
                    clear hb2
                    go_simp
                    try with_reducible rfl
                  try simp only [Act.put, List.setIfInBounds_toArray, List.set_cons_zero, List.set_cons_succ]
                  refine takeH (i := 14) (d := some 119) (v := ?_) rfl rfl (by kernel_rfl) (by kernel_rfl) (by kernel_rfl) (fun _ _ _ h => h) (Or.inl ⟨by rfl, ?_⟩) (by assumption) ?_
                  rotate_left
                  · intro w hSw
                    try dsimp only at hSw
                    go_simp
                    try with_reducible rfl
                  try simp only [Act.put, List.setIfInBounds_toArray, List.set_cons_zero, List.set_cons_succ]
                  refine takeH (i := 15) (d := some 120) (v := ?_) rfl rfl (by kernel_rfl) (by kernel_rfl) (by kernel_rfl) (fun _ _ _ h => h) (Or.inl ⟨by rfl, ?_⟩) (by assumption) ?_
                  rotate_left
                  · intro w hSw
                    try dsimp only at hSw
                    go_simp
                    try with_reducible rfl
                  try simp only [Act.put, List.setIfInBounds_toArray, List.set_cons_zero, List.set_cons_succ]
                  refine takeH (i := 16) (d := some 121) (v := ?_) rfl rfl (by kernel_rfl) (by kernel_rfl) (by kernel_rfl) (fun _ _ _ h => h) (Or.inl ⟨by rfl, ?_⟩) (by assumption) ?_
                  rotate_left
                  · intro w hSw
                    try dsimp only at hSw
                    go_simp
                    try with_reducible rfl
                  try simp only [Act.put, List.setIfInBounds_toArray, List.set_cons_zero, List.set_cons_succ]
                  refine takeH (i := 17) (d := some 122) (v := undef) rfl rfl (by kernel_rfl) (by kernel_rfl) (by kernel_rfl) (fun _ _ _ h => h) (Or.inr ⟨by rfl, rfl⟩) (by assumption) ?_
                  try simp only [Act.put, List.setIfInBounds_toArray, List.set_cons_zero, List.set_cons_succ]
                  refine takeH (i := 18) (d := some 123) (v := undef) rfl rfl (by kernel_rfl) (by kernel_rfl) (by kernel_rfl) (fun _ _ _ h => h) (Or.inr ⟨by rfl, rfl⟩) (by assumption) ?_
                  try simp only [Act.put, List.setIfInBounds_toArray, List.set_cons_zero, List.set_cons_succ]
                  refine takeH (i := 19) (d := some 124) (v := undef) rfl rfl (by kernel_rfl) (by kernel_rfl) (by kernel_rfl) (fun _ _ _ h => h) (Or.inr ⟨by rfl, rfl⟩) (by assumption) ?_
                  try simp only [Act.put, List.setIfInBounds_toArray, List.set_cons_zero, List.set_cons_succ]
                  refine takeH (i := 20) (d := some 125) (v := undef) rfl rfl (by kernel_rfl) (by kernel_rfl) (by kernel_rfl) (fun _ _ _ h => h) (Or.inr ⟨by rfl, rfl⟩) (by assumption) ?_
                  try simp only [Act.put, List.setIfInBounds_toArray, List.set_cons_zero, List.set_cons_succ]
                  refine takeH (i := 21) (d := some 126) (v := ?_) rfl rfl (by kernel_rfl) (by kernel_rfl) (by kernel_rfl) (fun _ _ _ h => h) (Or.inl ⟨by rfl, ?_⟩) (by assumption) ?_
                  rotate_left
                  · intro w hSw
                    try dsimp only at hSw
                    go_simp
                    try with_reducible rfl
                  try simp only [Act.put, List.setIfInBounds_toArray, List.set_cons_zero, List.set_cons_succ]
                  refine takeH (i := 22) (d := some 127) (v := ?_) rfl rfl (by kernel_rfl) (by kernel_rfl) (by kernel_rfl) (fun _ _ _ h => h) (Or.inl ⟨by rfl, ?_⟩) (by assumption) ?_
                  rotate_left
                  · intro w hSw
                    try dsimp only at hSw
                    go_simp
                    try with_reducible rfl
                  try simp only [Act.put, List.setIfInBounds_toArray, List.set_cons_zero, List.set_cons_succ]
                  refine takeH (i := 23) (d := some 128) (v := ?_) rfl rfl (by kernel_rfl) (by kernel_rfl) (by kernel_rfl) (fun _ _ _ h => h) (Or.inl ⟨by rfl, ?_⟩) (by assumption) ?_
                  rotate_left
                  · intro w hSw
                    try dsimp only at hSw
                    go_simp
                    try with_reducible rfl
                  try simp only [Act.put, List.setIfInBounds_toArray, List.set_cons_zero, List.set_cons_succ]
                  refine takeH (i := 24) (d := some 129) (v := ?_) rfl rfl (by kernel_rfl) (by kernel_rfl) (by kernel_rfl) (fun _ _ _ h => h) (Or.inl ⟨by rfl, ?_⟩) (by assumption) ?_
                  rotate_left
                  · intro w hSw
                    try dsimp only at hSw
                    go_simp
                    try with_reducible rfl
                  try simp only [Act.put, List.setIfInBounds_toArray, List.set_cons_zero, List.set_cons_succ]
                  refine takeH (i := 25) (d := some 130) (v := ?_) rfl rfl (by kernel_rfl) (by kernel_rfl) (by kernel_rfl) (fun _ _ _ h => h) (Or.inl ⟨by rfl, ?_⟩) (by assumption) ?_
                  rotate_left
                  · intro w hSw
                    try dsimp only at hSw
                    have hb2 := HX5.out.made hSw
                    have d0 := hb2.cell 0
                    have d1 := hb2.cell 1
                    simp only [List.getElem?_toArray, List.getElem?_cons_zero, List.getElem?_cons_succ] at d0 d1
                    clear hb2
                    go_simp
                    try with_reducible rfl
                  try simp only [Act.put, List.setIfInBounds_toArray, List.set_cons_zero, List.set_cons_succ]
                  refine takeH (i := 26) (d := some 131) (v := ?_) rfl rfl (by kernel_rfl) (by kernel_rfl) (by kernel_rfl) (fun _ _ _ h => h) (Or.inl ⟨by rfl, ?_⟩) (by assumption) ?_
                  rotate_left
                  · intro w hSw
                    try dsimp only at hSw
                    go_simp
                    try with_reducible rfl
                  try simp only [Act.put, List.setIfInBounds_toArray, List.set_cons_zero, List.set_cons_succ]
                  refine takeH (i := 27) (d := some 132) (v := ?_) rfl rfl (by kernel_rfl) (by kernel_rfl) (by kernel_rfl) (fun _ _ _ h => h) (Or.inl ⟨by rfl, ?_⟩) (by assumption) ?_
                  rotate_left
                  · intro w hSw
                    try dsimp only at hSw
                    go_simp
                    try with_reducible rfl
                  try simp only [Act.put, List.setIfInBounds_toArray, List.set_cons_zero, List.set_cons_succ]
                  refine takeH (i := 28) (d := some 133) (v := ?_) rfl rfl (by kernel_rfl) (by kernel_rfl) (by kernel_rfl) (fun _ _ _ h => h) (Or.inl ⟨by rfl, ?_⟩) (by assumption) ?_
                  rotate_left
                  · intro w hSw
                    try dsimp only at hSw
                    go_simp
                    try with_reducible rfl
                  try simp only [Act.put, List.setIfInBounds_toArray, List.set_cons_zero, List.set_cons_succ]
                  refine takeH (i := 29) (d := some 134) (v := ?_) rfl rfl (by kernel_rfl) (by kernel_rfl) (by kernel_rfl) (fun _ _ _ h => h) (Or.inl ⟨by rfl, ?_⟩) (by assumption) ?_
                  rotate_left
                  · intro w hSw
                    try dsimp only at hSw
                    go_simp
                    try with_reducible rfl
                  try simp only [Act.put, List.setIfInBounds_toArray, List.set_cons_zero, List.set_cons_succ]
                  refine takeH (i := 30) (d := some 135) (v := ?_) rfl rfl (by kernel_rfl) (by kernel_rfl) (by kernel_rfl) (fun _ _ _ h => h) (Or.inl ⟨by rfl, ?_⟩) (by assumption) ?_
                  rotate_left
                  · intro w hSw
                    try dsimp only at hSw
                    have hb2 := HX5.out.made hSw
                    have d0 := hb2.cell 0
                    have d1 := hb2.cell 1
                    simp only [List.getElem?_toArray, List.getElem?_cons_zero, List.getElem?_cons_succ] at d0 d1
                    clear hb2
                    go_simp
                    try with_reducible rfl
                  try simp only [Act.put, List.setIfInBounds_toArray, List.set_cons_zero, List.set_cons_succ]
                  refine takeH (i := 31) (d := some 136) (v := ?_) rfl rfl (by kernel_rfl) (by kernel_rfl) (by kernel_rfl) (fun _ _ _ h => h) (Or.inl ⟨by rfl, ?_⟩) (by assumption) ?_
                  rotate_left
                  · intro w hSw
                    try dsimp only at hSw
                    go_simp
                    try with_reducible rfl
                  try simp only [Act.put, List.setIfInBounds_toArray, List.set_cons_zero, List.set_cons_succ]
                  refine takeH (i := 32) (d := some 137) (v := ?_) rfl rfl (by kernel_rfl) (by kernel_rfl) (by kernel_rfl) (fun _ _ _ h => h) (Or.inl ⟨by rfl, ?_⟩) (by assumption) ?_
                  rotate_left
                  · intro w hSw
                    try dsimp only at hSw
                    go_simp
                    try with_reducible rfl
                  try simp only [Act.put, List.setIfInBounds_toArray, List.set_cons_zero, List.set_cons_succ]
                  refine takeH (i := 33) (d := some 138) (v := ?_) rfl rfl (by kernel_rfl) (by kernel_rfl) (by kernel_rfl) (fun _ _ _ h => h) (Or.inl ⟨by rfl, ?_⟩) (by assumption) ?_
                  rotate_left
                  · intro w hSw
                    try dsimp only at hSw
                    go_simp
                    try with_reducible rfl
                  try simp only [Act.put, List.setIfInBounds_toArray, List.set_cons_zero, List.set_cons_succ]
                  refine takeH (i := 34) (d := some 139) (v := ?_) rfl rfl (by kernel_rfl) (by kernel_rfl) (by kernel_rfl) (fun _ _ _ h => h) (Or.inl ⟨by rfl, ?_⟩) (by assumption) ?_
                  rotate_left
                  · intro w hSw
                    try dsimp only at hSw
                    go_simp
                    try with_reducible rfl
                  try simp only [Act.put, List.setIfInBounds_toArray, List.set_cons_zero, List.set_cons_succ]
                  refine wpAnyH_done (by kernel_rfl) ?_ _
                  have HH6 := Lib.hid (HH5.out.made hHeld)
                  have HS6 := Lib.hid (HS5.out.made hHeld)
                  have HV6 := Lib.hid (HV5.out.made hHeld)
                  clear hHeld HH5 HS5 HV5 HX5
                  try clear hHeld
                  go_wp2_with fail
                  go_roundw
                  case rel => exact ⟨j + 1, G5, l', _, by go_num, HH6.out, HS6.out, HV6.out, HMAP.out, HALL.out, HPF.out⟩
                  case measure => simp [intOf]; omega
              · have j2 : ¬ (j : Int) < (m : Int) := by omega
                obtain rfl : l = [] := by
                  rw [List.drop_of_length_le (by have := HWL.out; omega)] at hmap
                  cases l with
                  | nil => rfl
                  | cons x l => cases hmap
                have HTK := Lib.hid (ttake_none 1000 wr hh (fun x hx => by cases hx))
                have HLE := Lib.hid (fun (w' : World) (hm : Made wr w') => tlen_c w' (hh.made hm))
                have HSS := Lib.hid hs
                clear hh hs hv hmap hall hpf
                go_wp2_with fail
                refine HTK.out.mono ?_
                rintro e w5 ⟨rfl, hm⟩
                simp only [dueV]
                have HM5 := Lib.hid (hm.alloc (.cells #[.int .i64 0, .int .i64 0, .int .i64 0] 58))
                clear hm
                go_wp2_with fail
                refine (HLE.out _ HM5.out).mono ?_
                rintro e w6 ⟨rfl, rfl⟩
                go_wp2_with fail
                refine (awake12_c _).mono ?_
                rintro e w8 ⟨rfl, hm⟩
                have HM := Lib.hid ((HSS.out.m.trans HM5.out).trans hm)
                clear hm
                go_wp2_with fail
                go_ret
                exact ⟨rfl, HM.out⟩
      · have hins : insL ⟨K, again, (k : Int) + 1⟩ D = D ++ [⟨K, again, (k : Int) + 1⟩] := insL_last (fun y hy hc => by
          have h1 := (HDALL.out y hy).2
          have h2 := HDS.out y hy
          unfold lt at hc
          simp only at hc
          omega)
        rw [hins] at hAR
        have HAR := Lib.hid hAR
        clear hins hAR
        go_wp2_with fail
        refine HRC.out.mono ?_
        rintro e w2 ⟨rfl, rfl⟩
        go_wp2_with fail
        refine HAR.out.mono ?_
        rintro e w3 ⟨rfl, G3, hh, hs⟩
        have HLE := Lib.hid (tlen_c w3 hh)
        have HH3 := Lib.hid hh
        have HS3 := Lib.hid (HS.out.step hs)
        have hll : (D ++ ([⟨K, again, (k : Int) + 1⟩] : List It)).length = k := by rw [List.length_append, List.length_singleton]; omega
        rw [hll] at HLE
        clear hh hs HAR HRC hll
        go_wp2_with fail
        refine HLE.out.mono ?_
        rintro e w4 ⟨rfl, rfl⟩
        clear HLE
        have HI5 := Lib.hid (IntsAt.nil w w3 G3)
        have HH5 := HH3
        have HS5 := HS3
        go_wp2_with fail
        go_loopw [12, 13] (fun v12 v13 wy => ∃ m : Nat, m ≤ k ∧ v13 = .int .i64 m ∧ TimAt wy q G3 (D ++ ([⟨K, again, (k : Int) + 1⟩] : List It)) ((k : Int) + 1) (pset pf K 0) ∧ Since w wy G3 ∧ IntsAt w wy G3 v12 ([] ++ (rng m).filter (fun z => z != K))) (fun _ v13 _ => k - (intOf v13).toNat)
        case atStart => exact ⟨0, Nat.zero_le _, rfl, HH5.out, HS5.out, HI5.out⟩
        case round =>
          clear HH3 HS3 HI5 HH5 HS5
          obtain ⟨m, hm, rfl, hh, hs, hv⟩ := hrel
          rw [List.nil_append] at hv
          have HH := Lib.hid hh
          have HSS := Lib.hid hs
          have HV := Lib.hid hv
          clear hh hs hv
          by_cases hmk : m < k
          · have hfs := rng_filter m K
            have m1 : (0 : Int) ≤ (m : Int) := Int.natCast_nonneg _
            have m2 : (m : Int) < (k : Int) := by omega
            by_cases hmK : (m : Int) = K
            · rw [if_pos hmK] at hfs
              have HFS := Lib.hid hfs
              have hyb : ((m : Int) != K) = false := by simp [hmK]
              have HMK := Lib.hid hmK
              clear hfs hmK
              go_wp2_with fail
              go_roundw
              case rel => exact ⟨m + 1, by omega, by go_num, HH.out, HSS.out, by rw [HFS.out, List.nil_append]; exact HV.out⟩
              case measure => simp [intOf]; omega
            · rw [if_neg hmK] at hfs
              have hyb : ((m : Int) != K) = true := by simp [hmK]
              clear hmK
              have hfl : ((rng m).filter (fun z => z != K)).length ≤ 1000000 := by
                have h1 := List.length_filter_le (fun z => z != K) (rng m)
                rw [rng_len] at h1
                omega
              have HASC := Lib.hid (show [] ++ (rng (m + 1)).filter (fun z => z != K) = (rng m).filter (fun z => z != K) ++ [(m : Int)] by rw [hfs, List.nil_append])
              clear hfs
              generalize (rng m).filter (fun z => z != K) = A at *
              go_wp2_with (at_builtin; refine wpList_append_own_at _ rfl (.tmp 84) (.tmp 86) 22 rfl 0 3 i0 (.int .i64 0) 1 8 Try.underlying22 hi0 hz0 hz1 hz2 rfl (by decide) _ (A).length (flat encI (A)) rfl (World.ownsRow.alloc HV.out.own _) ⟨wr.heap.size, 0, none⟩ 1 1 [.int .i64 (m : Int)] rfl rfl (cell_one_new _ _ _) ?c2 ?b1 ?b2 (Nat.zero_le _) ?_)
              case c2 => first | rfl | (intro u hu; simp only [List.mem_singleton] at hu; subst hu; rfl)
              case b1 => unfold maxLen; first | (simp; done) | omega
              case b2 => first | (simp; done) | omega
              intro v6 w6 hown hgrow _ hat
              obtain ⟨hp1, hp2, -⟩ := HV.out.pushed HH.out.gb HSS.out.m.size hown hgrow hat
              have HH6 := Lib.hid (HH.out.turns hp2 (fun b hf hb => (HV.out.far b hb).2 hf))
              have HS6 := Lib.hid (HSS.out.turns hp2 (fun b hb hf => by have := (HV.out.far b hf).1; omega))
              have HI6 := Lib.hid hp1
              clear hown hgrow hat hp1 hp2
              go_wp2_with fail
              go_roundw
              case rel => exact ⟨m + 1, by omega, by go_num, HH6.out, HS6.out, by rw [HASC.out]; exact HI6.out⟩
              case measure => simp [intOf]; omega
          · obtain rfl : m = k := by omega
            have m2 : ¬ (m : Int) < (m : Int) := by omega
            have hfl : ((rng m).filter (fun z => z != K)).length ≤ 1000000 := by
              have h1 := List.length_filter_le (fun z => z != K) (rng m)
              rw [rng_len] at h1
              omega
            go_wp2_with (at_builtin; refine wpList_append_own_at _ rfl (.tmp 91) (.tmp 93) 22 rfl 0 3 i0 (.int .i64 0) 1 8 Try.underlying22 hi0 hz0 hz1 hz2 rfl (by decide) _ ((rng m).filter (fun z => z != K)).length (flat encI ((rng m).filter (fun z => z != K))) rfl (World.ownsRow.alloc HV.out.own _) ⟨wr.heap.size, 0, none⟩ 1 1 [.int .i64 K] rfl rfl (cell_one_new _ _ _) ?c2 ?b1 ?b2 (Nat.zero_le _) ?_)
            case c2 => first | rfl | (intro u hu; simp only [List.mem_singleton] at hu; subst hu; rfl)
            case b1 => unfold maxLen; first | (simp; done) | omega
            case b2 => first | (simp; done) | omega
            intro v6 w6 hown hgrow _ hat
            obtain ⟨hp1, hp2, -⟩ := HV.out.pushed HH.out.gb HSS.out.m.size hown hgrow hat
            have HH6 := Lib.hid (HH.out.turns hp2 (fun b hf hb => (HV.out.far b hb).2 hf))
            have HS6 := Lib.hid (HSS.out.turns hp2 (fun b hb hf => by have := (HV.out.far b hf).1; omega))
            have HI6 := Lib.hid hp1
            clear hown hgrow hat hp1 hp2
            have hWm : (rng m).filter (fun z => z != K) ++ [K] = (D ++ ([⟨K, again, (m : Int) + 1⟩] : List It)).map It.id := by rw [List.map_append, HDL.out]; rfl
            rw [hWm] at HI6
            clear hWm
            have hall7 : ∀ x ∈ (D ++ ([⟨K, again, (m : Int) + 1⟩] : List It)), (x.id = K ∧ x.when = again) ∨ (x.id ≠ K ∧ x.when = when) := fun x hx => by
              rcases List.mem_append.1 hx with hx | hx
              · exact .inr (HDALL.out x hx)
              · rw [List.mem_singleton] at hx; rw [hx]; exact .inl ⟨rfl, rfl⟩
            have hpf7 : ∀ x ∈ (D ++ ([⟨K, again, (m : Int) + 1⟩] : List It)), pset pf K 0 x.id = some 0 := fun x hx => by
              rcases List.mem_append.1 hx with hx | hx
              · exact HDPF.out x hx
              · rw [List.mem_singleton] at hx; rw [hx]; simp [pset]
            have HALL7 := Lib.hid hall7
            have HPF7 := Lib.hid hpf7
            have HL7 := Lib.hid (show (D ++ ([⟨K, again, (m : Int) + 1⟩] : List It)).length = m by rw [List.length_append, List.length_singleton]; omega)
            clear hall7 hpf7
            generalize (D ++ ([⟨K, again, (m : Int) + 1⟩] : List It)) = Z at *
            go_wp2_with fail
            have HWL := Lib.hid (show (Z.map It.id).length = m by rw [List.length_map]; exact HL7.out)
            have hz0 := Lib.hid (List.drop_zero (l := Z.map It.id)).symm
            generalize hWW : Z.map It.id = WW at *
            rcases HI6.out.own.form with ⟨hv, h0⟩ | ⟨g8, c8, hv, hg8, hlc8, hcm8⟩
            · have := HWL.out; rw [h0] at this; simp at this; omega
            subst hv
            clear hg8
            go_loopw [14] (fun v14 wy => ∃ (j : Nat) (G : Nat → Prop) (l : List It) (pf : Int → Option Int), v14 = .int .i64 j ∧ TimAt wy q G l ((m : Int) + 1) pf ∧ Since w wy G ∧ IntsAt w wy G (.slice (some ⟨g8, 0, none⟩) WW.length c8) WW ∧ l.map It.id = WW.drop j ∧ (∀ x ∈ l, (x.id = K ∧ x.when = again) ∨ (x.id ≠ K ∧ x.when = when)) ∧ (∀ x ∈ l, pf x.id = some 0)) (fun v14 _ => m - (intOf v14).toNat)
            case atStart => exact ⟨0, G3, Z, _, rfl, HH6.out, HS6.out, HI6.out, by rw [← hz0.out]; exact hWW, HALL7.out, HPF7.out⟩
            case round =>
              clear HH6 HS6 HI6 HALL7 HPF7
              obtain ⟨j, G4, l, pf4, rfl, hh, hs, hv, hmap, hall, hpf⟩ := hrel
              by_cases hj : j < m
              · obtain ⟨y, hy⟩ := get_of_lt (xs := WW) (k := j) (by have := HWL.out; omega)
                have hdr : WW.drop j = y :: WW.drop (j + 1) := by
                  obtain ⟨hl, rfl⟩ := List.getElem?_eq_some_iff.1 hy
                  exact List.drop_eq_getElem_cons hl
                rw [hdr] at hmap
                obtain ⟨x, l', rfl⟩ : ∃ x l', l = x :: l' := by
                  cases l with
                  | nil => cases hmap
                  | cons x l => exact ⟨x, l, rfl⟩
                rw [List.map_cons, List.cons.injEq] at hmap
                obtain ⟨hxid, hmap⟩ := hmap
                have hxc := hall x (List.mem_cons_self ..)
                have hpx := hpf x (List.mem_cons_self ..)
                have hun := hh.uniq
                have hx1000 : x.when ≤ 1000 := by rcases hxc with h | h <;> omega
                have HTK := Lib.hid (ttake_once 1000 0 wr hh (by omega) (by decide) hx1000 hpx (not_again_zero x 1000))
                have HALL := Lib.hid (fun z hz => hall z (List.mem_cons_of_mem _ hz))
                have HPF := Lib.hid (show ∀ z ∈ l', pdel pf4 x.id z.id = some 0 from fun z hz => by
                  have hn := (Uniq.iff _).1 hun
                  rw [List.map_cons, List.nodup_cons] at hn
                  have hne : z.id ≠ x.id := fun e => hn.1 (by rw [← e]; exact List.mem_map_of_mem hz)
                  unfold pdel
                  rw [if_neg hne]
                  exact hpf z (List.mem_cons_of_mem _ hz))
                obtain ⟨xi, xw, xs⟩ := x
                simp only at hxid hxc hx1000 HTK HPF
                subst hxid
                have j1 : (0 : Int) ≤ (j : Int) := Int.natCast_nonneg _
                have j2 : (j : Int) < (m : Int) := by omega
                have j3 : (j : Int) < (WW.length : Int) := by have := HWL.out; omega
                have HSS := Lib.hid hs
                have HV := Lib.hid hv
                have HMAP := Lib.hid hmap
                have HY := Lib.hid hy
                clear hh hs hv hmap hall hpf hy hdr hpx hun
                go_wp2_with fail
                refine HTK.out.mono ?_
                rintro e w5 ⟨rfl, G5, hh, hs⟩
                simp only [dueV]
                have HH5 := Lib.hid (hh.made (alloc_made _ (.cells #[.int .i64 xi, .int .i64 xw, .int .i64 1000] 58)))
                have HS5 := Lib.hid ((HSS.out.step hs).made (alloc_made _ (.cells #[.int .i64 xi, .int .i64 xw, .int .i64 1000] 58)))
                have HV5 := Lib.hid ((HV.out.step hs).made (alloc_made _ (.cells #[.int .i64 xi, .int .i64 xw, .int .i64 1000] 58)))
                have HX5 := Lib.hid (Blk.new w5 58 #[.int .i64 xi, .int .i64 xw, .int .i64 1000])
                clear hh hs HTK HSS HV
                go_wp2_with fail
                generalize hbx : w5.heap.size = bx at *
                generalize w5.alloc (.cells #[.int .i64 xi, .int .i64 xw, .int .i64 1000] 58) = W5 at *
                clear hbx w5
                rcases hxc with ⟨rfl, rfl⟩ | ⟨hxne, rfl⟩
                · skip
                  refine wp_region_held_drew (S := (fun w' => Made W5 w')) (by kernel_rfl) ?_ (fun hHeld => ?_)
                  · exact (Turns.refl _ _).drew
                  refine takeH (i := 0) (d := some 105) (v := ?_) rfl rfl (by kernel_rfl) (by kernel_rfl) (by kernel_rfl) (fun _ _ _ h => h) (Or.inl ⟨by rfl, ?_⟩) (by assumption) ?_
                  rotate_left
                  · intro w hSw
                    try dsimp only at hSw
                    go_simp
                    try with_reducible rfl
                  try simp only [Act.put, List.setIfInBounds_toArray, List.set_cons_zero, List.set_cons_succ]
                  refine takeH (i := 1) (d := some 106) (v := ?_) rfl rfl (by kernel_rfl) (by kernel_rfl) (by kernel_rfl) (fun _ _ _ h => h) (Or.inl ⟨by rfl, ?_⟩) (by assumption) ?_
                  rotate_left
                  · intro w hSw
                    try dsimp only at hSw
                    go_simp
                    try with_reducible rfl
                  try simp only [Act.put, List.setIfInBounds_toArray, List.set_cons_zero, List.set_cons_succ]
                  refine takeH (i := 2) (d := some 107) (v := ?_) rfl rfl (by kernel_rfl) (by kernel_rfl) (by kernel_rfl) (fun _ _ _ h => h) (Or.inl ⟨by rfl, ?_⟩) (by assumption) ?_
                  rotate_left
                  · intro w hSw
                    try dsimp only at hSw
                    go_simp
                    try with_reducible rfl
                  try simp only [Act.put, List.setIfInBounds_toArray, List.set_cons_zero, List.set_cons_succ]
                  refine takeH (i := 3) (d := some 108) (v := ?_) rfl rfl (by kernel_rfl) (by kernel_rfl) (by kernel_rfl) (fun _ _ _ h => h) (Or.inl ⟨by rfl, ?_⟩) (by assumption) ?_
                  rotate_left
                  · intro w hSw
                    try dsimp only at hSw
                    go_simp
                    try with_reducible rfl
                  try simp only [Act.put, List.setIfInBounds_toArray, List.set_cons_zero, List.set_cons_succ]
                  refine takeH (i := 4) (d := some 109) (v := ?_) rfl rfl (by kernel_rfl) (by kernel_rfl) (by kernel_rfl) (fun _ _ _ h => h) (Or.inl ⟨by rfl, ?_⟩) (by assumption) ?_
                  rotate_left
                  · intro w hSw
                    try dsimp only at hSw
                    have hb2 := HX5.out.made hSw
                    have d0 := hb2.cell 0
                    have d1 := hb2.cell 1
                    simp only [List.getElem?_toArray, List.getElem?_cons_zero, List.getElem?_cons_succ] at d0 d1
                    clear hb2
                    go_simp
                    try with_reducible rfl
                  try simp only [Act.put, List.setIfInBounds_toArray, List.set_cons_zero, List.set_cons_succ]
                  refine takeH (i := 5) (d := some 110) (v := ?_) rfl rfl (by kernel_rfl) (by kernel_rfl) (by kernel_rfl) (fun _ _ _ h => h) (Or.inl ⟨by rfl, ?_⟩) (by assumption) ?_
                  rotate_left
                  · intro w hSw
                    try dsimp only at hSw
                    go_simp
                    try with_reducible rfl
                  try simp only [Act.put, List.setIfInBounds_toArray, List.set_cons_zero, List.set_cons_succ]
                  refine takeH (i := 6) (d := some 111) (v := ?_) rfl rfl (by kernel_rfl) (by kernel_rfl) (by kernel_rfl) (fun _ _ _ h => h) (Or.inl ⟨by rfl, ?_⟩) (by assumption) ?_
                  rotate_left
                  · intro w hSw
                    try dsimp only at hSw
                    go_simp
                    try with_reducible rfl
                  try simp only [Act.put, List.setIfInBounds_toArray, List.set_cons_zero, List.set_cons_succ]
                  refine takeH (i := 7) (d := some 112) (v := ?_) rfl rfl (by kernel_rfl) (by kernel_rfl) (by kernel_rfl) (fun _ _ _ h => h) (Or.inl ⟨by rfl, ?_⟩) (by assumption) ?_
                  rotate_left
                  · intro w hSw
                    try dsimp only at hSw
                    go_simp
                    try with_reducible rfl
                  try simp only [Act.put, List.setIfInBounds_toArray, List.set_cons_zero, List.set_cons_succ]
                  refine takeH (i := 8) (d := some 113) (v := ?_) rfl rfl (by kernel_rfl) (by kernel_rfl) (by kernel_rfl) (fun _ _ _ h => h) (Or.inl ⟨by rfl, ?_⟩) (by assumption) ?_
                  rotate_left
                  · intro w hSw
                    try dsimp only at hSw
                    have d0 := Owns.cell encI_len (HV5.out.made hSw).own HY.out (j := 0) rfl
                    simp only [Nat.mul_one, Nat.add_zero] at d0
                    go_simp
                    try with_reducible rfl
                  try simp only [Act.put, List.setIfInBounds_toArray, List.set_cons_zero, List.set_cons_succ]
                  refine takeH (i := 9) (d := some 114) (v := ?_) rfl rfl (by kernel_rfl) (by kernel_rfl) (by kernel_rfl) (fun _ _ _ h => h) (Or.inl ⟨by rfl, ?_⟩) (by assumption) ?_
                  rotate_left
                  · intro w hSw
                    try dsimp only at hSw
                    go_simp
                    try with_reducible rfl
                  try simp only [Act.put, List.setIfInBounds_toArray, List.set_cons_zero, List.set_cons_succ]
                  refine takeH (i := 10) (d := some 115) (v := ?_) rfl rfl (by kernel_rfl) (by kernel_rfl) (by kernel_rfl) (fun _ _ _ h => h) (Or.inl ⟨by rfl, ?_⟩) (by assumption) ?_
                  rotate_left
                  · intro w hSw
                    try dsimp only at hSw
                    go_simp
                    try with_reducible rfl
                  try simp only [Act.put, List.setIfInBounds_toArray, List.set_cons_zero, List.set_cons_succ]
                  refine takeH (i := 11) (d := some 116) (v := ?_) rfl rfl (by kernel_rfl) (by kernel_rfl) (by kernel_rfl) (fun _ _ _ h => h) (Or.inl ⟨by rfl, ?_⟩) (by assumption) ?_
                  rotate_left
                  · intro w hSw
                    try dsimp only at hSw
                    go_simp
                    try with_reducible rfl
                  try simp only [Act.put, List.setIfInBounds_toArray, List.set_cons_zero, List.set_cons_succ]
                  refine takeH (i := 12) (d := some 117) (v := ?_) rfl rfl (by kernel_rfl) (by kernel_rfl) (by kernel_rfl) (fun _ _ _ h => h) (Or.inl ⟨by rfl, ?_⟩) (by assumption) ?_
                  rotate_left
                  · intro w hSw
                    try dsimp only at hSw
                    go_simp
                    try with_reducible rfl
                  try simp only [Act.put, List.setIfInBounds_toArray, List.set_cons_zero, List.set_cons_succ]
                  refine takeH (i := 13) (d := some 118) (v := ?_) rfl rfl (by kernel_rfl) (by kernel_rfl) (by kernel_rfl) (fun _ _ _ h => h) (Or.inl ⟨by rfl, ?_⟩) (by assumption) ?_
                  rotate_left
                  · intro w hSw
                    try dsimp only at hSw
                    have hb2 := HX5.out.made hSw
                    have d0 := hb2.cell 0
                    have d1 := hb2.cell 1
                    simp only [List.getElem?_toArray, List.getElem?_cons_zero, List.getElem?_cons_succ] at d0 d1
                    clear hb2
                    go_simp
                    try with_reducible rfl
                  try simp only [Act.put, List.setIfInBounds_toArray, List.set_cons_zero, List.set_cons_succ]
                  refine takeH (i := 14) (d := some 119) (v := ?_) rfl rfl (by kernel_rfl) (by kernel_rfl) (by kernel_rfl) (fun _ _ _ h => h) (Or.inl ⟨by rfl, ?_⟩) (by assumption) ?_
                  rotate_left
                  · intro w hSw
                    try dsimp only at hSw
                    go_simp
                    try with_reducible rfl
                  try simp only [Act.put, List.setIfInBounds_toArray, List.set_cons_zero, List.set_cons_succ]
                  refine takeH (i := 15) (d := some 120) (v := ?_) rfl rfl (by kernel_rfl) (by kernel_rfl) (by kernel_rfl) (fun _ _ _ h => h) (Or.inl ⟨by rfl, ?_⟩) (by assumption) ?_
                  rotate_left
                  · intro w hSw
                    try dsimp only at hSw
                    go_simp
                    try with_reducible rfl
                  try simp only [Act.put, List.setIfInBounds_toArray, List.set_cons_zero, List.set_cons_succ]
                  refine takeH (i := 16) (d := some 121) (v := ?_) rfl rfl (by kernel_rfl) (by kernel_rfl) (by kernel_rfl) (fun _ _ _ h => h) (Or.inl ⟨by rfl, ?_⟩) (by assumption) ?_
                  rotate_left
                  · intro w hSw
                    try dsimp only at hSw
                    go_simp
                    try with_reducible rfl
                  try simp only [Act.put, List.setIfInBounds_toArray, List.set_cons_zero, List.set_cons_succ]
                  refine takeH (i := 17) (d := some 122) (v := ?_) rfl rfl (by kernel_rfl) (by kernel_rfl) (by kernel_rfl) (fun _ _ _ h => h) (Or.inl ⟨by rfl, ?_⟩) (by assumption) ?_
                  rotate_left
                  · intro w hSw
                    try dsimp only at hSw
                    go_simp
                    try with_reducible rfl
                  try simp only [Act.put, List.setIfInBounds_toArray, List.set_cons_zero, List.set_cons_succ]
                  refine takeH (i := 18) (d := some 123) (v := ?_) rfl rfl (by kernel_rfl) (by kernel_rfl) (by kernel_rfl) (fun _ _ _ h => h) (Or.inl ⟨by rfl, ?_⟩) (by assumption) ?_
                  rotate_left
                  · intro w hSw
                    try dsimp only at hSw
                    have hb2 := HX5.out.made hSw
                    have d0 := hb2.cell 0
                    have d1 := hb2.cell 1
                    simp only [List.getElem?_toArray, List.getElem?_cons_zero, List.getElem?_cons_succ] at d0 d1
                    clear hb2
                    go_simp
                    try with_reducible rfl
                  try simp only [Act.put, List.setIfInBounds_toArray, List.set_cons_zero, List.set_cons_succ]
                  refine takeH (i := 19) (d := some 124) (v := ?_) rfl rfl (by kernel_rfl) (by kernel_rfl) (by kernel_rfl) (fun _ _ _ h => h) (Or.inl ⟨by rfl, ?_⟩) (by assumption) ?_
                  rotate_left
                  · intro w hSw
                    try dsimp only at hSw
                    go_simp
                    try with_reducible rfl
                  try simp only [Act.put, List.setIfInBounds_toArray, List.set_cons_zero, List.set_cons_succ]
                  refine takeH (i := 20) (d := some 125) (v := ?_) rfl rfl (by kernel_rfl) (by kernel_rfl) (by kernel_rfl) (fun _ _ _ h => h) (Or.inl ⟨by rfl, ?_⟩) (by assumption) ?_
                  rotate_left
                  · intro w hSw
                    try dsimp only at hSw
                    go_simp
                    try with_reducible rfl
                  try simp only [Act.put, List.setIfInBounds_toArray, List.set_cons_zero, List.set_cons_succ]
                  refine takeH (i := 21) (d := some 126) (v := ?_) rfl rfl (by kernel_rfl) (by kernel_rfl) (by kernel_rfl) (fun _ _ _ h => h) (Or.inl ⟨by rfl, ?_⟩) (by assumption) ?_
                  rotate_left
                  · intro w hSw
                    try dsimp only at hSw
                    go_simp
                    try with_reducible rfl
                  try simp only [Act.put, List.setIfInBounds_toArray, List.set_cons_zero, List.set_cons_succ]
                  refine takeH (i := 22) (d := some 127) (v := ?_) rfl rfl (by kernel_rfl) (by kernel_rfl) (by kernel_rfl) (fun _ _ _ h => h) (Or.inl ⟨by rfl, ?_⟩) (by assumption) ?_
                  rotate_left
                  · intro w hSw
                    try dsimp only at hSw
                    go_simp
                    try with_reducible rfl
                  try simp only [Act.put, List.setIfInBounds_toArray, List.set_cons_zero, List.set_cons_succ]
                  refine takeH (i := 23) (d := some 128) (v := ?_) rfl rfl (by kernel_rfl) (by kernel_rfl) (by kernel_rfl) (fun _ _ _ h => h) (Or.inl ⟨by rfl, ?_⟩) (by assumption) ?_
                  rotate_left
                  · intro w hSw
                    try dsimp only at hSw
                    go_simp
                    try with_reducible rfl
                  try simp only [Act.put, List.setIfInBounds_toArray, List.set_cons_zero, List.set_cons_succ]
                  refine takeH (i := 24) (d := some 129) (v := ?_) rfl rfl (by kernel_rfl) (by kernel_rfl) (by kernel_rfl) (fun _ _ _ h => h) (Or.inl ⟨by rfl, ?_⟩) (by assumption) ?_
                  rotate_left
                  · intro w hSw
                    try dsimp only at hSw
                    go_simp
                    try with_reducible rfl
                  try simp only [Act.put, List.setIfInBounds_toArray, List.set_cons_zero, List.set_cons_succ]
                  refine takeH (i := 25) (d := some 130) (v := ?_) rfl rfl (by kernel_rfl) (by kernel_rfl) (by kernel_rfl) (fun _ _ _ h => h) (Or.inl ⟨by rfl, ?_⟩) (by assumption) ?_
                  rotate_left
                  · intro w hSw
                    try dsimp only at hSw
                    have hb2 := HX5.out.made hSw
                    have d0 := hb2.cell 0
                    have d1 := hb2.cell 1
                    simp only [List.getElem?_toArray, List.getElem?_cons_zero, List.getElem?_cons_succ] at d0 d1
                    clear hb2
                    go_simp
                    try with_reducible rfl
                  try simp only [Act.put, List.setIfInBounds_toArray, List.set_cons_zero, List.set_cons_succ]
                  refine takeH (i := 26) (d := some 131) (v := ?_) rfl rfl (by kernel_rfl) (by kernel_rfl) (by kernel_rfl) (fun _ _ _ h => h) (Or.inl ⟨by rfl, ?_⟩) (by assumption) ?_
                  rotate_left
                  · intro w hSw
                    try dsimp only at hSw
                    go_simp
                    try with_reducible rfl
                  try simp only [Act.put, List.setIfInBounds_toArray, List.set_cons_zero, List.set_cons_succ]
                  refine takeH (i := 27) (d := some 132) (v := ?_) rfl rfl (by kernel_rfl) (by kernel_rfl) (by kernel_rfl) (fun _ _ _ h => h) (Or.inl ⟨by rfl, ?_⟩) (by assumption) ?_
                  rotate_left
                  · intro w hSw
                    try dsimp only at hSw
                    go_simp
                    try with_reducible rfl
                  try simp only [Act.put, List.setIfInBounds_toArray, List.set_cons_zero, List.set_cons_succ]
                  refine takeH (i := 28) (d := some 133) (v := ?_) rfl rfl (by kernel_rfl) (by kernel_rfl) (by kernel_rfl) (fun _ _ _ h => h) (Or.inl ⟨by rfl, ?_⟩) (by assumption) ?_
                  rotate_left
                  · intro w hSw
                    try dsimp only at hSw
                    go_simp
                    try with_reducible rfl
                  try simp only [Act.put, List.setIfInBounds_toArray, List.set_cons_zero, List.set_cons_succ]
                  refine takeH (i := 29) (d := some 134) (v := undef) rfl rfl (by kernel_rfl) (by kernel_rfl) (by kernel_rfl) (fun _ _ _ h => h) (Or.inr ⟨by rfl, rfl⟩) (by assumption) ?_
                  try simp only [Act.put, List.setIfInBounds_toArray, List.set_cons_zero, List.set_cons_succ]
                  refine takeH (i := 30) (d := some 135) (v := undef) rfl rfl (by kernel_rfl) (by kernel_rfl) (by kernel_rfl) (fun _ _ _ h => h) (Or.inr ⟨by rfl, rfl⟩) (by assumption) ?_
                  try simp only [Act.put, List.setIfInBounds_toArray, List.set_cons_zero, List.set_cons_succ]
                  refine takeH (i := 31) (d := some 136) (v := undef) rfl rfl (by kernel_rfl) (by kernel_rfl) (by kernel_rfl) (fun _ _ _ h => h) (Or.inr ⟨by rfl, rfl⟩) (by assumption) ?_
                  try simp only [Act.put, List.setIfInBounds_toArray, List.set_cons_zero, List.set_cons_succ]
                  refine takeH (i := 32) (d := some 137) (v := undef) rfl rfl (by kernel_rfl) (by kernel_rfl) (by kernel_rfl) (fun _ _ _ h => h) (Or.inr ⟨by rfl, rfl⟩) (by assumption) ?_
                  try simp only [Act.put, List.setIfInBounds_toArray, List.set_cons_zero, List.set_cons_succ]
                  refine takeH (i := 33) (d := some 138) (v := ?_) rfl rfl (by kernel_rfl) (by kernel_rfl) (by kernel_rfl) (fun _ _ _ h => h) (Or.inl ⟨by rfl, ?_⟩) (by assumption) ?_
                  rotate_left
                  · intro w hSw
                    try dsimp only at hSw
                    go_simp
                    try with_reducible rfl
                  try simp only [Act.put, List.setIfInBounds_toArray, List.set_cons_zero, List.set_cons_succ]
                  refine takeH (i := 34) (d := some 139) (v := ?_) rfl rfl (by kernel_rfl) (by kernel_rfl) (by kernel_rfl) (fun _ _ _ h => h) (Or.inl ⟨by rfl, ?_⟩) (by assumption) ?_
                  rotate_left
                  · intro w hSw
                    try dsimp only at hSw
                    go_simp
                    try with_reducible rfl
                  try simp only [Act.put, List.setIfInBounds_toArray, List.set_cons_zero, List.set_cons_succ]
                  refine wpAnyH_done (by kernel_rfl) ?_ _
                  have HH6 := Lib.hid (HH5.out.made hHeld)
                  have HS6 := Lib.hid (HS5.out.made hHeld)
                  have HV6 := Lib.hid (HV5.out.made hHeld)
                  clear hHeld HH5 HS5 HV5 HX5
                  try clear hHeld
                  go_wp2_with fail
                  go_roundw
                  case rel => exact ⟨j + 1, G5, l', _, by go_num, HH6.out, HS6.out, HV6.out, HMAP.out, HALL.out, HPF.out⟩
                  case measure => simp [intOf]; omega
                · have hxb : (xi == K) = false := beq_eq_false_iff_ne.mpr hxne
                  have hxb2 : (xi != K) = true := by simp [hxne]
                  have HXNE := Lib.hid hxne
                  clear hxne
                  refine wp_region_held_drew (S := (fun w' => Made W5 w')) (by kernel_rfl) ?_ (fun hHeld => ?_)
                  · exact (Turns.refl _ _).drew
                  refine takeH (i := 0) (d := some 105) (v := ?_) rfl rfl (by kernel_rfl) (by kernel_rfl) (by kernel_rfl) (fun _ _ _ h => h) (Or.inl ⟨by rfl, ?_⟩) (by assumption) ?_
                  rotate_left
                  · intro w hSw
                    try dsimp only at hSw
                    go_simp
                    try with_reducible rfl
                  try simp only [Act.put, List.setIfInBounds_toArray, List.set_cons_zero, List.set_cons_succ]
                  refine takeH (i := 1) (d := some 106) (v := ?_) rfl rfl (by kernel_rfl) (by kernel_rfl) (by kernel_rfl) (fun _ _ _ h => h) (Or.inl ⟨by rfl, ?_⟩) (by assumption) ?_
                  rotate_left
                  · intro w hSw
                    try dsimp only at hSw
                    go_simp
                    try with_reducible rfl
                  try simp only [Act.put, List.setIfInBounds_toArray, List.set_cons_zero, List.set_cons_succ]
                  refine takeH (i := 2) (d := some 107) (v := ?_) rfl rfl (by kernel_rfl) (by kernel_rfl) (by kernel_rfl) (fun _ _ _ h => h) (Or.inl ⟨by rfl, ?_⟩) (by assumption) ?_
                  rotate_left
                  · intro w hSw
                    try dsimp only at hSw
                    go_simp
                    try with_reducible rfl
                  try simp only [Act.put, List.setIfInBounds_toArray, List.set_cons_zero, List.set_cons_succ]
                  refine takeH (i := 3) (d := some 108) (v := ?_) rfl rfl (by kernel_rfl) (by kernel_rfl) (by kernel_rfl) (fun _ _ _ h => h) (Or.inl ⟨by rfl, ?_⟩) (by assumption) ?_
                  rotate_left
                  · intro w hSw
                    try dsimp only at hSw
                    go_simp
                    try with_reducible rfl
                  try simp only [Act.put, List.setIfInBounds_toArray, List.set_cons_zero, List.set_cons_succ]
                  refine takeH (i := 4) (d := some 109) (v := ?_) rfl rfl (by kernel_rfl) (by kernel_rfl) (by kernel_rfl) (fun _ _ _ h => h) (Or.inl ⟨by rfl, ?_⟩) (by assumption) ?_
                  rotate_left
                  · intro w hSw
                    try dsimp only at hSw
                    have hb2 := HX5.out.made hSw
                    have d0 := hb2.cell 0
                    have d1 := hb2.cell 1
                    simp only [List.getElem?_toArray, List.getElem?_cons_zero, List.getElem?_cons_succ] at d0 d1
                    clear hb2
                    go_simp
                    try with_reducible rfl
                  try simp only [Act.put, List.setIfInBounds_toArray, List.set_cons_zero, List.set_cons_succ]
                  refine takeH (i := 5) (d := some 110) (v := ?_) rfl rfl (by kernel_rfl) (by kernel_rfl) (by kernel_rfl) (fun _ _ _ h => h) (Or.inl ⟨by rfl, ?_⟩) (by assumption) ?_
                  rotate_left
                  · intro w hSw
                    try dsimp only at hSw
                    go_simp
                    try with_reducible rfl
                  try simp only [Act.put, List.setIfInBounds_toArray, List.set_cons_zero, List.set_cons_succ]
                  refine takeH (i := 6) (d := some 111) (v := ?_) rfl rfl (by kernel_rfl) (by kernel_rfl) (by kernel_rfl) (fun _ _ _ h => h) (Or.inl ⟨by rfl, ?_⟩) (by assumption) ?_
                  rotate_left
                  · intro w hSw
                    try dsimp only at hSw
                    go_simp
                    try with_reducible rfl
                  try simp only [Act.put, List.setIfInBounds_toArray, List.set_cons_zero, List.set_cons_succ]
                  refine takeH (i := 7) (d := some 112) (v := ?_) rfl rfl (by kernel_rfl) (by kernel_rfl) (by kernel_rfl) (fun _ _ _ h => h) (Or.inl ⟨by rfl, ?_⟩) (by assumption) ?_
                  rotate_left
                  · intro w hSw
                    try dsimp only at hSw
                    go_simp
                    try with_reducible rfl
                  try simp only [Act.put, List.setIfInBounds_toArray, List.set_cons_zero, List.set_cons_succ]
                  refine takeH (i := 8) (d := some 113) (v := ?_) rfl rfl (by kernel_rfl) (by kernel_rfl) (by kernel_rfl) (fun _ _ _ h => h) (Or.inl ⟨by rfl, ?_⟩) (by assumption) ?_
                  rotate_left
                  · intro w hSw
                    try dsimp only at hSw
                    have d0 := Owns.cell encI_len (HV5.out.made hSw).own HY.out (j := 0) rfl
                    simp only [Nat.mul_one, Nat.add_zero] at d0
                    go_simp
                    try with_reducible rfl
                  try simp only [Act.put, List.setIfInBounds_toArray, List.set_cons_zero, List.set_cons_succ]
                  refine takeH (i := 9) (d := some 114) (v := ?_) rfl rfl (by kernel_rfl) (by kernel_rfl) (by kernel_rfl) (fun _ _ _ h => h) (Or.inl ⟨by rfl, ?_⟩) (by assumption) ?_
                  rotate_left
                  · intro w hSw
                    try dsimp only at hSw
                    go_simp
                    try with_reducible rfl
                  try simp only [Act.put, List.setIfInBounds_toArray, List.set_cons_zero, List.set_cons_succ]
                  refine takeH (i := 10) (d := some 115) (v := ?_) rfl rfl (by kernel_rfl) (by kernel_rfl) (by kernel_rfl) (fun _ _ _ h => h) (Or.inl ⟨by rfl, ?_⟩) (by assumption) ?_
                  rotate_left
                  · intro w hSw
                    try dsimp only at hSw
                    go_simp
                    try with_reducible rfl
                  try simp only [Act.put, List.setIfInBounds_toArray, List.set_cons_zero, List.set_cons_succ]
                  refine takeH (i := 11) (d := some 116) (v := ?_) rfl rfl (by kernel_rfl) (by kernel_rfl) (by kernel_rfl) (fun _ _ _ h => h) (Or.inl ⟨by rfl, ?_⟩) (by assumption) ?_
                  rotate_left
                  · intro w hSw
                    try dsimp only at hSw
                    go_simp
                    try with_reducible rfl
                  try simp only [Act.put, List.setIfInBounds_toArray, List.set_cons_zero, List.set_cons_succ]
                  refine takeH (i := 12) (d := some 117) (v := ?_) rfl rfl (by kernel_rfl) (by kernel_rfl) (by kernel_rfl) (fun _ _ _ h => h) (Or.inl ⟨by rfl, ?_⟩) (by assumption) ?_
                  rotate_left
                  · intro w hSw
                    try dsimp only at hSw
                    go_simp
                    try with_reducible rfl
                  try simp only [Act.put, List.setIfInBounds_toArray, List.set_cons_zero, List.set_cons_succ]
                  refine takeH (i := 13) (d := some 118) (v := ?_) rfl rfl (by kernel_rfl) (by kernel_rfl) (by kernel_rfl) (fun _ _ _ h => h) (Or.inl ⟨by rfl, ?_⟩) (by assumption) ?_
                  rotate_left
                  · intro w hSw
                    try dsimp only at hSw
                    have hb2 := HX5.out.made hSw
                    have d0 := hb2.cell 0
                    have d1 := hb2.cell 1
                    simp only [List.getElem?_toArray, List.getElem?_cons_zero, List.getElem?_cons_succ] at d0 d1
                    clear hb2
                    go_simp
                    try with_reducible rfl
                  try simp only [Act.put, List.setIfInBounds_toArray, List.set_cons_zero, List.set_cons_succ]
                  refine takeH (i := 14) (d := some 119) (v := ?_) rfl rfl (by kernel_rfl) (by kernel_rfl) (by kernel_rfl) (fun _ _ _ h => h) (Or.inl ⟨by rfl, ?_⟩) (by assumption) ?_
                  rotate_left
                  · intro w hSw
                    try dsimp only at hSw
                    go_simp
                    try with_reducible rfl
                  try simp only [Act.put, List.setIfInBounds_toArray, List.set_cons_zero, List.set_cons_succ]
                  refine takeH (i := 15) (d := some 120) (v := ?_) rfl rfl (by kernel_rfl) (by kernel_rfl) (by kernel_rfl) (fun _ _ _ h => h) (Or.inl ⟨by rfl, ?_⟩) (by assumption) ?_
                  rotate_left
                  · intro w hSw
                    try dsimp only at hSw
                    go_simp
                    try with_reducible rfl
                  try simp only [Act.put, List.setIfInBounds_toArray, List.set_cons_zero, List.set_cons_succ]
                  refine takeH (i := 16) (d := some 121) (v := ?_) rfl rfl (by kernel_rfl) (by kernel_rfl) (by kernel_rfl) (fun _ _ _ h => h) (Or.inl ⟨by rfl, ?_⟩) (by assumption) ?_
                  rotate_left
                  · intro w hSw
                    try dsimp only at hSw
                    go_simp
                    try with_reducible rfl
                  try simp only [Act.put, List.setIfInBounds_toArray, List.set_cons_zero, List.set_cons_succ]
                  refine takeH (i := 17) (d := some 122) (v := undef) rfl rfl (by kernel_rfl) (by kernel_rfl) (by kernel_rfl) (fun _ _ _ h => h) (Or.inr ⟨by rfl, rfl⟩) (by assumption) ?_
                  try simp only [Act.put, List.setIfInBounds_toArray, List.set_cons_zero, List.set_cons_succ]
                  refine takeH (i := 18) (d := some 123) (v := undef) rfl rfl (by kernel_rfl) (by kernel_rfl) (by kernel_rfl) (fun _ _ _ h => h) (Or.inr ⟨by rfl, rfl⟩) (by assumption) ?_
                  try simp only [Act.put, List.setIfInBounds_toArray, List.set_cons_zero, List.set_cons_succ]
                  refine takeH (i := 19) (d := some 124) (v := undef) rfl rfl (by kernel_rfl) (by kernel_rfl) (by kernel_rfl) (fun _ _ _ h => h) (Or.inr ⟨by rfl, rfl⟩) (by assumption) ?_
                  try simp only [Act.put, List.setIfInBounds_toArray, List.set_cons_zero, List.set_cons_succ]
                  refine takeH (i := 20) (d := some 125) (v := undef) rfl rfl (by kernel_rfl) (by kernel_rfl) (by kernel_rfl) (fun _ _ _ h => h) (Or.inr ⟨by rfl, rfl⟩) (by assumption) ?_
                  try simp only [Act.put, List.setIfInBounds_toArray, List.set_cons_zero, List.set_cons_succ]
                  refine takeH (i := 21) (d := some 126) (v := ?_) rfl rfl (by kernel_rfl) (by kernel_rfl) (by kernel_rfl) (fun _ _ _ h => h) (Or.inl ⟨by rfl, ?_⟩) (by assumption) ?_
                  rotate_left
                  · intro w hSw
                    try dsimp only at hSw
                    go_simp
                    try with_reducible rfl
                  try simp only [Act.put, List.setIfInBounds_toArray, List.set_cons_zero, List.set_cons_succ]
                  refine takeH (i := 22) (d := some 127) (v := ?_) rfl rfl (by kernel_rfl) (by kernel_rfl) (by kernel_rfl) (fun _ _ _ h => h) (Or.inl ⟨by rfl, ?_⟩) (by assumption) ?_
                  rotate_left
                  · intro w hSw
                    try dsimp only at hSw
                    go_simp
                    try with_reducible rfl
                  try simp only [Act.put, List.setIfInBounds_toArray, List.set_cons_zero, List.set_cons_succ]
                  refine takeH (i := 23) (d := some 128) (v := ?_) rfl rfl (by kernel_rfl) (by kernel_rfl) (by kernel_rfl) (fun _ _ _ h => h) (Or.inl ⟨by rfl, ?_⟩) (by assumption) ?_
                  rotate_left
                  · intro w hSw
                    try dsimp only at hSw
                    go_simp
                    try with_reducible rfl
                  try simp only [Act.put, List.setIfInBounds_toArray, List.set_cons_zero, List.set_cons_succ]
                  refine takeH (i := 24) (d := some 129) (v := ?_) rfl rfl (by kernel_rfl) (by kernel_rfl) (by kernel_rfl) (fun _ _ _ h => h) (Or.inl ⟨by rfl, ?_⟩) (by assumption) ?_
                  rotate_left
                  · intro w hSw
                    try dsimp only at hSw
                    go_simp
                    try with_reducible rfl
                  try simp only [Act.put, List.setIfInBounds_toArray, List.set_cons_zero, List.set_cons_succ]
                  refine takeH (i := 25) (d := some 130) (v := ?_) rfl rfl (by kernel_rfl) (by kernel_rfl) (by kernel_rfl) (fun _ _ _ h => h) (Or.inl ⟨by rfl, ?_⟩) (by assumption) ?_
                  rotate_left
                  · intro w hSw
                    try dsimp only at hSw
                    have hb2 := HX5.out.made hSw
                    have d0 := hb2.cell 0
                    have d1 := hb2.cell 1
                    simp only [List.getElem?_toArray, List.getElem?_cons_zero, List.getElem?_cons_succ] at d0 d1
                    clear hb2
                    go_simp
                    try with_reducible rfl
                  try simp only [Act.put, List.setIfInBounds_toArray, List.set_cons_zero, List.set_cons_succ]
                  refine takeH (i := 26) (d := some 131) (v := ?_) rfl rfl (by kernel_rfl) (by kernel_rfl) (by kernel_rfl) (fun _ _ _ h => h) (Or.inl ⟨by rfl, ?_⟩) (by assumption) ?_
                  rotate_left
                  · intro w hSw
                    try dsimp only at hSw
                    go_simp
                    try with_reducible rfl
                  try simp only [Act.put, List.setIfInBounds_toArray, List.set_cons_zero, List.set_cons_succ]
                  refine takeH (i := 27) (d := some 132) (v := ?_) rfl rfl (by kernel_rfl) (by kernel_rfl) (by kernel_rfl) (fun _ _ _ h => h) (Or.inl ⟨by rfl, ?_⟩) (by assumption) ?_
                  rotate_left
                  · intro w hSw
                    try dsimp only at hSw
                    go_simp
                    try with_reducible rfl
                  try simp only [Act.put, List.setIfInBounds_toArray, List.set_cons_zero, List.set_cons_succ]
                  refine takeH (i := 28) (d := some 133) (v := ?_) rfl rfl (by kernel_rfl) (by kernel_rfl) (by kernel_rfl) (fun _ _ _ h => h) (Or.inl ⟨by rfl, ?_⟩) (by assumption) ?_
                  rotate_left
                  · intro w hSw
                    try dsimp only at hSw
                    go_simp
                    try with_reducible rfl
                  try simp only [Act.put, List.setIfInBounds_toArray, List.set_cons_zero, List.set_cons_succ]
                  refine takeH (i := 29) (d := some 134) (v := ?_) rfl rfl (by kernel_rfl) (by kernel_rfl) (by kernel_rfl) (fun _ _ _ h => h) (Or.inl ⟨by rfl, ?_⟩) (by assumption) ?_
                  rotate_left
                  · intro w hSw
                    try dsimp only at hSw
                    go_simp
                    try with_reducible rfl
                  try simp only [Act.put, List.setIfInBounds_toArray, List.set_cons_zero, List.set_cons_succ]
                  refine takeH (i := 30) (d := some 135) (v := ?_) rfl rfl (by kernel_rfl) (by kernel_rfl) (by kernel_rfl) (fun _ _ _ h => h) (Or.inl ⟨by rfl, ?_⟩) (by assumption) ?_
                  rotate_left
                  · intro w hSw
                    try dsimp only at hSw
                    have hb2 := HX5.out.made hSw
                    have d0 := hb2.cell 0
                    have d1 := hb2.cell 1
                    simp only [List.getElem?_toArray, List.getElem?_cons_zero, List.getElem?_cons_succ] at d0 d1
                    clear hb2
                    go_simp
                    try with_reducible rfl
                  try simp only [Act.put, List.setIfInBounds_toArray, List.set_cons_zero, List.set_cons_succ]
                  refine takeH (i := 31) (d := some 136) (v := ?_) rfl rfl (by kernel_rfl) (by kernel_rfl) (by kernel_rfl) (fun _ _ _ h => h) (Or.inl ⟨by rfl, ?_⟩) (by assumption) ?_
                  rotate_left
                  · intro w hSw
                    try dsimp only at hSw
                    go_simp
                    try with_reducible rfl
                  try simp only [Act.put, List.setIfInBounds_toArray, List.set_cons_zero, List.set_cons_succ]
                  refine takeH (i := 32) (d := some 137) (v := ?_) rfl rfl (by kernel_rfl) (by kernel_rfl) (by kernel_rfl) (fun _ _ _ h => h) (Or.inl ⟨by rfl, ?_⟩) (by assumption) ?_
                  rotate_left
                  · intro w hSw
                    try dsimp only at hSw
                    go_simp
                    try with_reducible rfl
                  try simp only [Act.put, List.setIfInBounds_toArray, List.set_cons_zero, List.set_cons_succ]
                  refine takeH (i := 33) (d := some 138) (v := ?_) rfl rfl (by kernel_rfl) (by kernel_rfl) (by kernel_rfl) (fun _ _ _ h => h) (Or.inl ⟨by rfl, ?_⟩) (by assumption) ?_
                  rotate_left
                  · intro w hSw
                    try dsimp only at hSw
                    go_simp
                    try with_reducible rfl
                  try simp only [Act.put, List.setIfInBounds_toArray, List.set_cons_zero, List.set_cons_succ]
                  refine takeH (i := 34) (d := some 139) (v := ?_) rfl rfl (by kernel_rfl) (by kernel_rfl) (by kernel_rfl) (fun _ _ _ h => h) (Or.inl ⟨by rfl, ?_⟩) (by assumption) ?_
                  rotate_left
                  · intro w hSw
                    try dsimp only at hSw
                    go_simp
                    try with_reducible rfl
                  try simp only [Act.put, List.setIfInBounds_toArray, List.set_cons_zero, List.set_cons_succ]
                  refine wpAnyH_done (by kernel_rfl) ?_ _
                  have HH6 := Lib.hid (HH5.out.made hHeld)
                  have HS6 := Lib.hid (HS5.out.made hHeld)
                  have HV6 := Lib.hid (HV5.out.made hHeld)
                  clear hHeld HH5 HS5 HV5 HX5
                  try clear hHeld
                  go_wp2_with fail
                  go_roundw
                  case rel => exact ⟨j + 1, G5, l', _, by go_num, HH6.out, HS6.out, HV6.out, HMAP.out, HALL.out, HPF.out⟩
                  case measure => simp [intOf]; omega
              · have j2 : ¬ (j : Int) < (m : Int) := by omega
                obtain rfl : l = [] := by
                  rw [List.drop_of_length_le (by have := HWL.out; omega)] at hmap
                  cases l with
                  | nil => rfl
                  | cons x l => cases hmap
                have HTK := Lib.hid (ttake_none 1000 wr hh (fun x hx => by cases hx))
                have HLE := Lib.hid (fun (w' : World) (hm : Made wr w') => tlen_c w' (hh.made hm))
                have HSS := Lib.hid hs
                clear hh hs hv hmap hall hpf
                go_wp2_with fail
                refine HTK.out.mono ?_
                rintro e w5 ⟨rfl, hm⟩
                simp only [dueV]
                have HM5 := Lib.hid (hm.alloc (.cells #[.int .i64 0, .int .i64 0, .int .i64 0] 58))
                clear hm
                go_wp2_with fail
                refine (HLE.out _ HM5.out).mono ?_
                rintro e w6 ⟨rfl, rfl⟩
                go_wp2_with fail
                refine (awake12_c _).mono ?_
                rintro e w8 ⟨rfl, hm⟩
                have HM := Lib.hid ((HSS.out.m.trans HM5.out).trans hm)
                clear hm
                go_wp2_with fail
                go_ret
                exact ⟨rfl, HM.out⟩
end Go.Proofs.Ytgjgopcomgclkaa
