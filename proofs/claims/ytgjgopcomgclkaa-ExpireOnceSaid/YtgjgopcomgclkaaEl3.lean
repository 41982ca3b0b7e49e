/-
  tarpaulinlaw12.ExpireNever: its walk.
-/
import Derived.Test.YtgjgopcomgclkaaEl2
namespace Go.Proofs.Ytgjgopcomgclkaa
open Go.RowKit
set_option linter.unusedVariables false
set_option linter.unusedSimpArgs false

theorem delL_ins {id when sq : Int} {L : List It} (h : ∀ x ∈ L, x.id ≠ id) : delL id (insL ⟨id, when, sq⟩ L) = L := by
  induction L with
  | nil => simp [insL, delL]
  | cons y l ih =>
    have hy := h y (List.mem_cons_self ..)
    have hl : delL id l = l := delL_none ((findL_none id).2 (fun x hx => h x (List.mem_cons_of_mem _ hx)))
    unfold insL
    split
    · unfold delL at hl ⊢
      rw [List.filter_cons, List.filter_cons]
      simp [hy, hl]
    · have := ih (fun x hx => h x (List.mem_cons_of_mem _ hx))
      unfold delL at this ⊢
      rw [List.filter_cons]
      simp [hy, this]
def leastW (L : List It) : Int := match L with | [] => -1 | x :: _ => x.when
theorem leastW_ins {id when sq : Int} {L : List It} (hs : ∀ x ∈ L, 1 ≤ x.seq ∧ x.seq ≤ sq) (hw : ∀ x ∈ L, 0 ≤ x.when) : leastW (insL ⟨id, when, sq + 1⟩ L) = if leastW L < 0 ∨ when < leastW L then when else leastW L := by
  cases L with
  | nil => simp [insL, leastW]
  | cons y l =>
    have h1 := hs y (List.mem_cons_self ..)
    have h2 := hw y (List.mem_cons_self ..)
    unfold insL
    by_cases hl : lt ⟨id, when, sq + 1⟩ y
    · rw [if_pos hl]
      unfold lt at hl
      simp only at hl
      exact (if_pos (show y.when < 0 ∨ when < y.when by omega)).symm
    · rw [if_neg hl]
      unfold lt at hl
      simp only at hl
      exact (if_neg (show ¬ (y.when < 0 ∨ when < y.when) by omega)).symm

theorem not_again_zero (x : It) (now : Int) : ¬ again x 0 now := fun h => by
  have h1 := h.1
  unfold nextZ at h1
  rw [if_pos (.inl (by decide))] at h1
  cases h1

/-- What is armed: of those that were not stopped, each by its own time. -/
def armedOf (ws : List Int) (st : List Bool) (k : Nat) (x : It) : Prop := ∃ (i : Nat) (z : Int), i < k ∧ ws[i]? = some z ∧ st[i]? = some false ∧ x.id = i ∧ x.when = z % 1000

set_option maxHeartbeats 8000000 in
set_option maxRecDepth 100000 in
theorem never_w (a : Option Addr) (len cap : Nat) (ws : List Int) (a2 : Option Addr) (len2 cap2 : Nat) (st : List Bool) (now : Int) (w : World) (hw : RowIn (fun z => [Value.int .i64 z]) 1 w a len ws) (hw2 : RowIn (fun z => [Value.bool z]) 1 w a2 len2 st) (hc : len ≤ cap) (hc2 : len2 ≤ cap2) :
    Calls Try.prog 10 #[.slice a len cap, .slice a2 len2 cap2, .int .i64 now] w fun e w' => e = .returned (.bool true) ∧ Made w w' := by
  have HW := Lib.hid hw
  have HW2 := Lib.hid hw2
  clear hw hw2
  by_cases hout : 40 < len ∨ len2 < len ∨ 60 < len2
  · by_cases h1 : 40 < len
    · have h1' : (40 : Int) < (len : Int) := by omega
      clear hout
      go_enter Try.func10, Try.ntmps10
      go_wp2_with fail
      refine (awake12_c w).mono ?_
      rintro e w' ⟨rfl, hm⟩
      have HM := Lib.hid hm
      clear hm
      go_wp2_with fail
      go_ret
      exact ⟨rfl, HM.out⟩
    have h1' : ¬ (40 : Int) < (len : Int) := by omega
    by_cases h2 : len2 < len
    · have h2' : (len2 : Int) < (len : Int) := by omega
      clear hout
      go_enter Try.func10, Try.ntmps10
      go_wp2_with fail
      refine (awake12_c w).mono ?_
      rintro e w' ⟨rfl, hm⟩
      have HM := Lib.hid hm
      clear hm
      go_wp2_with fail
      go_ret
      exact ⟨rfl, HM.out⟩
    have h2' : ¬ (len2 : Int) < (len : Int) := by omega
    have h3' : (60 : Int) < (len2 : Int) := by omega
    clear hout
    go_enter Try.func10, Try.ntmps10
    go_wp2_with fail
    refine (awake12_c w).mono ?_
    rintro e w' ⟨rfl, hm⟩
    have HM := Lib.hid hm
    clear hm
    go_wp2_with fail
    go_ret
    exact ⟨rfl, HM.out⟩
  have h1' : ¬ (40 : Int) < (len : Int) := by omega
  have h2' : ¬ (len2 : Int) < (len : Int) := by omega
  have h3' : ¬ (60 : Int) < (len2 : Int) := by omega
  clear hout
  go_enter Try.func10, Try.ntmps10
  go_wp2_with fail
  refine (tnew_c _).mono ?_
  rintro e w1 ⟨q, G, rfl, hh, hm, hf⟩
  have HH0 := Lib.hid hh
  have HS0 := Lib.hid (Since.mk hm hf)
  clear hh hm hf
  go_wp2_with fail
  go_loopw [8, 9, 10] (fun v8 v9 v10 wr => ∃ (k : Nat) (G : Nat → Prop) (L : List It) (sq : Int) (pf : Int → Option Int), k ≤ len ∧ v8 = .int .i64 (leastW L) ∧ v9 = .int .i64 (L.length : Int) ∧ v10 = .int .i64 k ∧ TimAt wr q G L sq pf ∧ Since w wr G ∧ sq ≤ k ∧ (∀ x ∈ L, armedOf ws st k x) ∧ (∀ x ∈ L, pf x.id = some 0)) (fun _ _ v10 _ => len - (intOf v10).toNat)
  case atStart => exact ⟨0, G, [], 0, _, Nat.zero_le _, rfl, rfl, rfl, HH0.out, HS0.out, by omega, fun x hx => (by cases hx), fun x hx => (by cases hx)⟩
  case round =>
    obtain ⟨k, G, L, sq, pf, hk, rfl, rfl, rfl, hh, hs, hsq, har, hpf⟩ := hrel
    have hww : ∀ x ∈ L, 0 ≤ x.when ∧ x.when < 1000 := fun x hx => by
      obtain ⟨i, z, _, _, _, _, e⟩ := har x hx
      rw [e]
      exact ⟨Int.emod_nonneg _ (by omega), Int.emod_lt_of_pos _ (by omega)⟩
    have hll := hh.len
    by_cases hkl : k < len
    · obtain ⟨hlen, h0 | ⟨b, off, rfl, hb, hlies⟩⟩ := HW.out.made hs.m
      · omega
      obtain ⟨hlen2, h0 | ⟨b2, off2, rfl, hb2, hlies2⟩⟩ := HW2.out.made hs.m
      · omega
      obtain ⟨z, hz⟩ := get_of_lt (xs := ws) (k := k) (by omega)
      obtain ⟨sb, hsb⟩ := get_of_lt (xs := st) (k := k) (by omega)
      have e0 := hlies.one' hz
      have i1 : (0 : Int) ≤ (k : Int) := Int.natCast_nonneg _
      have i2 : (k : Int) < (len : Int) := by omega
      have i3 : (k : Int) < (len2 : Int) := by omega
      have hr0 : 0 ≤ z % 1000 := Int.emod_nonneg _ (by omega)
      have hr1 : z % 1000 < 1000 := Int.emod_lt_of_pos _ (by omega)
      have HRC := Lib.hid (round_c z 1000 wr (by omega) (by omega))
      have hne : ∀ x ∈ L, x.id ≠ (k : Int) := fun x hx e => by
        obtain ⟨i, z, hi, _, _, hid, _⟩ := har x hx
        omega
      have hdn : delL (k : Int) L = L := delL_none ((findL_none _).2 hne)
      have hAR := tarm_c (k : Int) (z % 1000) 0 wr hh (by omega) (by omega) (by omega) (by omega) (by omega)
      rw [hdn] at hAR
      have hlw := leastW_ins (id := (k : Int)) (when := z % 1000) hh.seqs (fun x hx => (hww x hx).1)
      generalize hzr : z % 1000 = r at *
      have HAR := Lib.hid hAR
      have HZ := Lib.hid hz
      have HSB := Lib.hid hsb
      have HZR := Lib.hid hzr
      have HS := Lib.hid hs
      have HARM := Lib.hid har
      have HPF := Lib.hid hpf
      have HNE := Lib.hid hne
      have HLI2 := Lib.hid (HW2.out)
      have HLW := Lib.hid hlw
      clear hAR hh hs har hpf hne hdn hlies hlies2 hb hb2 hz hsb hzr hlw hww
      go_wp2_with fail
      refine HRC.out.mono ?_
      rintro e w3 ⟨rfl, rfl⟩
      clear HRC
      go_wp2_with fail
      refine HAR.out.mono ?_
      rintro e w4 ⟨rfl, G4, hh, hs⟩
      have HS4 := Lib.hid (HS.out.step hs)
      have hst : w4.cell? ⟨b2, off2 + k, none⟩ = some (.bool sb) := by
        obtain ⟨_, h0 | ⟨b3, off3, e3, hb3, hl3⟩⟩ := HLI2.out.made HS4.out.m
        · omega
        · simp only [Option.some.injEq, Addr.mk.injEq, and_true] at e3
          obtain ⟨rfl, rfl⟩ := e3
          exact Lies.one (f := Value.bool) hl3 HSB.out
      have HH4 := Lib.hid hh
      clear hh hs HAR HS
      cases sb with
      | true =>
        have HST := Lib.hid (tstop_c (k : Int) w4 HH4.out (by omega))
        rw [delL_ins HNE.out, show findL (k : Int) (insL ⟨(k : Int), r, sq + 1⟩ L) = some ⟨(k : Int), r, sq + 1⟩ from (findL_some HH4.out.uniq _ _).2 ⟨(insL_mem _ _ _).2 (.inl rfl), rfl⟩, Option.isSome_some] at HST
        go_wp2_with fail
        refine HST.out.mono ?_
        rintro e w5 ⟨rfl, hh, hs⟩
        have HST2 := Lib.hid (tstop_c (k : Int) w5 hh (by omega))
        rw [delL_none ((findL_none _).2 HNE.out), (findL_none _).2 HNE.out, Option.isSome_none] at HST2
        have HS5 := Lib.hid (HS4.out.step hs)
        clear hh hs HST
        go_wp2_with fail
        refine HST2.out.mono ?_
        rintro e w6 ⟨rfl, hh, hs⟩
        have HH6 := Lib.hid hh
        have HS6 := Lib.hid (HS5.out.step hs)
        clear hh hs HST2
        go_wp2_with fail
        go_roundw
        case rel =>
          refine ⟨k + 1, G4, L, sq + 1, _, by omega, rfl, rfl, by go_num, HH6.out, HS6.out, by omega, fun x hx => ?_, fun x hx => ?_⟩
          · obtain ⟨i, z, h1, h2⟩ := HARM.out x hx
            exact ⟨i, z, by omega, h2⟩
          · have hne := HNE.out x hx
            unfold pdel pset
            simp only [if_neg hne]
            exact HPF.out x hx
        case measure => simp [intOf]; omega
      | false =>
        have hnb : IntKind.i64.wrap ((L.length : Int) + 1) = (L.length : Int) + 1 := wrap_in _ (by omega)
        have hil := insL_len ⟨(k : Int), r, sq + 1⟩ L
        have HIL := Lib.hid hil
        clear hil
        have hrel : ∀ wx, TimAt wx q G4 (insL ⟨(k : Int), r, sq + 1⟩ L) (sq + 1) (pset pf (k : Int) 0) → Since w wx G4 → ∀ v8, v8 = Value.int .i64 (leastW (insL ⟨(k : Int), r, sq + 1⟩ L)) → ∃ (k' : Nat) (G : Nat → Prop) (L' : List It) (sq : Int) (pf : Int → Option Int), k' ≤ len ∧ v8 = .int .i64 (leastW L') ∧ Value.int .i64 ((L.length : Int) + 1) = .int .i64 (L'.length : Int) ∧ Value.int .i64 ((k : Int) + 1) = .int .i64 k' ∧ TimAt wx q G L' sq pf ∧ Since w wx G ∧ sq ≤ k' ∧ (∀ x ∈ L', armedOf ws st k' x) ∧ (∀ x ∈ L', pf x.id = some 0) := by
          intro wx h1 h2 v8 hv
          refine ⟨k + 1, G4, _, sq + 1, _, by omega, hv, by rw [HIL.out]; rfl, rfl, h1, h2, by omega, fun x hx => ?_, fun x hx => ?_⟩
          · rcases (insL_mem _ _ _).1 hx with rfl | hx
            · exact ⟨k, z, by omega, HZ.out, HSB.out, rfl, HZR.out.symm⟩
            · obtain ⟨i, z, h1, h2⟩ := HARM.out x hx
              exact ⟨i, z, by omega, h2⟩
          · rcases (insL_mem _ _ _).1 hx with rfl | hx
            · simp [pset]
            · have hne := HNE.out x hx
              unfold pset
              rw [if_neg hne]
              exact HPF.out x hx
        have HREL := Lib.hid hrel
        clear hrel
        have hlw := HLW.out
        generalize hlo : leastW L = lo at *
        by_cases hl0 : lo < 0
        · rw [if_pos (.inl hl0)] at hlw
          have HLW2 := Lib.hid hlw
          clear hlw
          go_wp2_with fail
          go_roundw
          case rel => exact HREL.out _ HH4.out HS4.out _ (by rw [HLW2.out])
          case measure => simp [intOf]; omega
        · by_cases hl1 : r < lo
          · rw [if_pos (.inr hl1)] at hlw
            have HLW2 := Lib.hid hlw
            clear hlw
            go_wp2_with fail
            go_roundw
            case rel => exact HREL.out _ HH4.out HS4.out _ (by rw [HLW2.out])
            case measure => simp [intOf]; omega
          · rw [if_neg (by omega)] at hlw
            have HLW2 := Lib.hid hlw
            clear hlw
            go_wp2_with fail
            go_roundw
            case rel => exact HREL.out _ HH4.out HS4.out _ (by rw [HLW2.out])
            case measure => simp [intOf]; omega
    · obtain rfl : k = len := by omega
      have i2 : ¬ (k : Int) < (k : Int) := by omega
      have HNX := Lib.hid (tnext_c wr hh)
      have HLE := Lib.hid (fun (w' : World) (hm : Made wr w') => tlen_c w' (hh.made hm))
      have HH := Lib.hid hh
      have HS := Lib.hid hs
      have HARM := Lib.hid har
      have HPF := Lib.hid hpf
      have hnk : L.length ≤ k := by omega
      obtain ⟨least, hleast⟩ : ∃ v, leastW L = v := ⟨_, rfl⟩
      have HWW := Lib.hid hww
      have hgo : ∀ wx : World, TimAt wx q G L sq pf → Since w wx G → ∀ n : Nat, n = L.length → ∃ (i : Nat) (G : Nat → Prop) (l : List It) (pf : Int → Option Int), Value.int .i64 0 = .int .i64 i ∧ TimAt wx q G l sq pf ∧ Since w wx G ∧ i + l.length = n ∧ (∀ x ∈ l, armedOf ws st k x) ∧ (∀ x ∈ l, pf x.id = some 0) ∧ (i = 0 → leastW l = least) :=
        fun wx h1 h2 n hn => ⟨0, G, L, pf, rfl, h1, h2, by omega, HARM.out, HPF.out, fun _ => hleast⟩
      have HGO := Lib.hid hgo
      obtain ⟨n, hn⟩ : ∃ n, n = L.length := ⟨_, rfl⟩
      rw [← hn] at HLE hnk ⊢
      clear hh hs har hpf hww hll hgo HWW
      have hfront : (L[0]? = none ∧ n = 0) ∨ ∃ x, L[0]? = some x ∧ 0 < n ∧ x.when = least := by
        cases hL : L with
        | nil => exact .inl ⟨rfl, by rw [hn, hL]; rfl⟩
        | cons x l => exact .inr ⟨x, rfl, by rw [hn, hL]; simp, by rw [← hleast, hL]; rfl⟩
      rw [hleast]
      have HN := Lib.hid hn
      have HLST := Lib.hid hleast
      clear hn hleast
      rcases hfront with ⟨h0, hn0⟩ | ⟨x, h0, hn0, hxl⟩
      · obtain rfl : L = [] := by
          cases L with
          | nil => rfl
          | cons y l => cases h0
        subst hn0
        rw [h0] at HNX
        simp only [optT, Option.getD_none, Option.isSome_none, zeroT] at HNX
        clear h0
        go_wp2_with fail
        refine HNX.out.mono ?_
        rintro e w3 ⟨rfl, hm3⟩
        have HM3 := Lib.hid hm3
        clear hm3 HNX
        go_wp2_with fail
        refine (HLE.out _ HM3.out).mono ?_
        rintro e w4 ⟨rfl, rfl⟩
        clear HLE
        go_wp2_with fail
        go_loopw [14] (fun v14 wx => v14 = .int .i64 0 ∧ TimAt wx q G [] sq pf ∧ Since w wx G) (fun v14 _ => 0)
        case atStart => exact ⟨rfl, HH.out.made HM3.out, HS.out.made HM3.out⟩
        case round =>
          obtain ⟨rfl, hh, hs⟩ := hrel
          have HTK := Lib.hid (ttake_none now wr hh (fun x hx => by cases hx))
          have HSS := Lib.hid hs
          have j0 : (0 : Int) ≤ (k : Int) := Int.natCast_nonneg _
          clear hh hs
          go_wp2_with fail
          refine HTK.out.mono ?_
          rintro e w5 ⟨rfl, hm⟩
          simp only [dueV]
          have HM5 := Lib.hid ((HSS.out.m.trans hm).alloc (.cells #[.int .i64 0, .int .i64 0, .int .i64 0] 58))
          clear hm
          go_wp2_with fail
          refine (awake12_c _).mono ?_
          rintro e w8 ⟨rfl, hm⟩
          have HM := Lib.hid (HM5.out.trans hm)
          clear hm
          go_wp2_with fail
          go_ret
          exact ⟨rfl, HM.out⟩
      · rw [h0] at HNX
        simp only [optT, Option.getD_some, Option.isSome_some] at HNX
        rw [hxl] at HNX
        have hnp : (0 : Int) < (n : Int) := by omega
        have HN0 := Lib.hid hn0
        clear h0 hn0
        go_wp2_with fail
        refine HNX.out.mono ?_
        rintro e w3 ⟨rfl, hm3⟩
        have HM3 := Lib.hid hm3
        clear hm3 HNX
        go_wp2_with fail
        refine (HLE.out _ HM3.out).mono ?_
        rintro e w4 ⟨rfl, rfl⟩
        clear HLE
        go_wp2_with fail
        clear hnp
        go_loopw [14] (fun v14 wx => ∃ (i : Nat) (G : Nat → Prop) (l : List It) (pf : Int → Option Int), v14 = .int .i64 i ∧ TimAt wx q G l sq pf ∧ Since w wx G ∧ i + l.length = n ∧ (∀ x ∈ l, armedOf ws st k x) ∧ (∀ x ∈ l, pf x.id = some 0) ∧ (i = 0 → leastW l = least)) (fun v14 _ => n + 1 - (intOf v14).toNat)
        case atStart => exact HGO.out _ (HH.out.made HM3.out) (HS.out.made HM3.out) n HN.out
        case round =>
          clear HH HS HM3 HARM HPF HGO HN HLST
          obtain ⟨i, G2, l, pf2, rfl, hh, hs, hil, har, hpf, hlz⟩ := hrel
          have j0 : (0 : Int) ≤ (i : Int) := Int.natCast_nonneg _
          have j1 : (i : Int) ≤ (k : Int) := by omega
          have j2 : (i : Int) ≤ (n : Int) := by omega
          have j3 : (n : Int) ≤ (k : Int) := by omega
          by_cases htk : ∃ x l', l = x :: l' ∧ 0 ≤ now ∧ x.when ≤ now
          · obtain ⟨x, l', rfl, hn0', hxn⟩ := htk
            obtain ⟨i0, z, hi0, hz, hsb, hid, hwh⟩ := har x (List.mem_cons_self ..)
            have hpx := hpf x (List.mem_cons_self ..)
            have hun := hh.uniq
            have HTK := Lib.hid (ttake_once now 0 wr hh (by omega) hn0' hxn hpx (not_again_zero x now))
            obtain ⟨xi, xw, xs⟩ := x
            simp only at hid hwh hxn HTK
            subst hid
            subst hwh
            have HUN := Lib.hid hun
            have HSS := Lib.hid hs
            have HARM := Lib.hid (fun y hy => har y (List.mem_cons_of_mem _ hy))
            have HPF := Lib.hid (fun y hy => hpf y (List.mem_cons_of_mem _ hy))
            have HZ := Lib.hid hz
            have HSB := Lib.hid hsb
            have hlen' : i + 1 + l'.length = n := by rw [List.length_cons] at hil; omega
            have i2 : (i0 : Int) < (k : Int) := by omega
            have i3 : (i0 : Int) < (len2 : Int) := by omega
            have i4 : (0 : Int) ≤ (i0 : Int) := Int.natCast_nonneg _
            have i5 : ¬ (i0 : Int) < 0 := by omega
            have i6 : ¬ (k : Int) ≤ (i0 : Int) := by omega
            have i7 : ¬ now < z % 1000 := by omega
            clear hh hs har hpf hlz hil hun hz hsb hpx
            go_wp2_with fail
            refine HTK.out.mono ?_
            rintro e w5 ⟨rfl, G5, hh, hs⟩
            simp only [dueV]
            have HH5 := Lib.hid (hh.made (alloc_made _ (.cells #[.int .i64 (i0 : Int), .int .i64 (z % 1000), .int .i64 now] 58)))
            have HS5 := Lib.hid ((HSS.out.step hs).made (alloc_made _ (.cells #[.int .i64 (i0 : Int), .int .i64 (z % 1000), .int .i64 now] 58)))
            have HX5 := Lib.hid (Blk.new w5 58 #[.int .i64 (i0 : Int), .int .i64 (z % 1000), .int .i64 now])
            clear hh hs HTK HSS
            obtain ⟨hlen, h0' | ⟨b, off, rfl, hb, hlies⟩⟩ := HW.out.made HS5.out.m
            · omega
            obtain ⟨hlen2, h0' | ⟨b2, off2, rfl, hb2, hlies2⟩⟩ := HW2.out.made HS5.out.m
            · omega
            have e0 := hlies.one' HZ.out
            have e1 := Lies.one (f := Value.bool) hlies2 HSB.out
            have d0 := HX5.out.cell 0
            have d1 := HX5.out.cell 1
            have d2 := HX5.out.cell 2
            simp only [List.getElem?_toArray, List.getElem?_cons_zero, List.getElem?_cons_succ] at d0 d1 d2
            clear hlies hlies2 hb hb2 hlen hlen2 HX5
            have HRC := Lib.hid (round_c z 1000 (w5.alloc (.cells #[.int .i64 (i0 : Int), .int .i64 (z % 1000), .int .i64 now] 58)) (by omega) (by omega))
            have hzr0 : 0 ≤ z % 1000 := Int.emod_nonneg _ (by omega)
            have hzr1 : z % 1000 < 1000 := Int.emod_lt_of_pos _ (by omega)
            generalize z % 1000 = r at *
            go_wp2_with fail
            refine HRC.out.mono ?_
            rintro e w6 ⟨rfl, rfl⟩
            clear HRC
            go_wp2_with fail
            go_roundw
            case rel =>
              refine ⟨i + 1, G5, l', _, by go_num, HH5.out, HS5.out, hlen', HARM.out, fun y hy => ?_, fun h => (by omega)⟩
              have hne : y.id ≠ (i0 : Int) := by
                have hn := (Uniq.iff _).1 HUN.out
                rw [List.map_cons, List.nodup_cons] at hn
                exact fun e => hn.1 (by simp only; rw [← e]; exact List.mem_map_of_mem hy)
              unfold pdel
              rw [if_neg hne]
              exact HPF.out y hy
            case measure => simp [intOf]; omega
          · have HTK := Lib.hid (ttake_none now wr hh (fun x hx => by
              cases hl : l with
              | nil => rw [hl] at hx; cases hx
              | cons y l' =>
                rw [hl] at hx
                simp only [List.getElem?_cons_zero, Option.some.injEq] at hx
                subst hx
                by_cases h1 : 0 ≤ now
                · exact .inr (Int.not_le.mp (fun h => htk ⟨y, l', hl, h1, h⟩))
                · exact .inl (by omega)))
            have HSS := Lib.hid hs
            have hfin : n = 0 ∨ 0 < i ∨ now < least := by
              by_cases h1 : n = 0
              · exact .inl h1
              · by_cases h2 : 0 < i
                · exact .inr (.inl h2)
                · refine .inr (.inr ?_)
                  have hi0 : i = 0 := by omega
                  have h3 := hlz hi0
                  cases hl : l with
                  | nil => rw [hl] at hil; simp at hil; omega
                  | cons y l' =>
                    rw [hl] at h3
                    have h4 : y.when = least := h3
                    obtain ⟨i0, z, _, _, _, _, e⟩ := har y (by rw [hl]; exact List.mem_cons_self ..)
                    have h5 : 0 ≤ y.when := by rw [e]; exact Int.emod_nonneg _ (by omega)
                    by_cases h1 : 0 ≤ now
                    · have h6 := Int.not_le.mp (fun h => htk ⟨y, l', hl, h1, h⟩); omega
                    · omega
            clear hh hs har hpf hlz hil htk
            have f1 : ((n : Int) == 0) = false := beq_eq_false_iff_ne.mpr (by have := HN0.out; omega)
            have hfin := hfin.resolve_left (by have := HN0.out; omega)
            by_cases hi1 : 0 < i
            · have f2 : (0 : Int) < (i : Int) := by omega
              clear hfin
              go_wp2_with fail
              refine HTK.out.mono ?_
              rintro e w5 ⟨rfl, hm⟩
              simp only [dueV]
              have HM5 := Lib.hid ((HSS.out.m.trans hm).alloc (.cells #[.int .i64 0, .int .i64 0, .int .i64 0] 58))
              clear hm
              go_wp2_with fail
              refine (awake12_c _).mono ?_
              rintro e w8 ⟨rfl, hm⟩
              have HM := Lib.hid (HM5.out.trans hm)
              clear hm
              go_wp2_with fail
              go_ret
              exact ⟨rfl, HM.out⟩
            · have f2 : ¬ (0 : Int) < (i : Int) := by omega
              have f3 : now < least := by omega
              clear hfin
              go_wp2_with fail
              refine HTK.out.mono ?_
              rintro e w5 ⟨rfl, hm⟩
              simp only [dueV]
              have HM5 := Lib.hid ((HSS.out.m.trans hm).alloc (.cells #[.int .i64 0, .int .i64 0, .int .i64 0] 58))
              clear hm
              go_wp2_with fail
              refine (awake12_c _).mono ?_
              rintro e w8 ⟨rfl, hm⟩
              have HM := Lib.hid (HM5.out.trans hm)
              clear hm
              go_wp2_with fail
              go_ret
              exact ⟨rfl, HM.out⟩
end Go.Proofs.Ytgjgopcomgclkaa
