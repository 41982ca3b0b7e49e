/-
  The walk of DealParts.
-/
import Derived.Test.YtninfnpecgpfhaaDlPt
import Derived.Test.YtninfnpecgpfhaaDlLaw
import Derived.Test.YtninfnpecgpfhaaRg
namespace Go.Proofs.Ytninfnpecgpfhaa
open Go.RowKit
set_option linter.unusedVariables false
set_option linter.unusedSimpArgs false

def kF (ns : List Int) (c : Nat) : Nat := (ns.getD c 0 % 12).toNat
def mF (ns gs : List Int) (c : Nat) : Nat := (gs.getD c 0 % ((kF ns c : Int) + 1)).toNat
theorem kF_le (ns : List Int) (c : Nat) : kF ns c ≤ 11 := by unfold kF; omega
theorem mF_le (ns gs : List Int) (c : Nat) : mF ns gs c ≤ kF ns c := by unfold mF; have h1 := Int.emod_lt_of_pos (gs.getD c 0) (show (0 : Int) < (kF ns c : Int) + 1 by omega); have h2 := Int.emod_nonneg (gs.getD c 0) (show ((kF ns c : Int) + 1) ≠ 0 by omega); omega
theorem kF_eq {ns : List Int} {c : Nat} {x : Int} (h : ns[c]? = some x) : x % 12 = (kF ns c : Int) := by unfold kF; rw [List.getD_eq_getElem?_getD, h]; simp only [Option.getD_some]; omega
theorem mF_eq {ns gs : List Int} {c : Nat} {x : Int} (h : gs[c]? = some x) : x % ((kF ns c : Int) + 1) = (mF ns gs c : Int) := by
  unfold mF; rw [List.getD_eq_getElem?_getD, h]; simp only [Option.getD_some]
  exact (Int.toNat_of_nonneg (Int.emod_nonneg _ (by omega))).symm
theorem ints_same (a b : Option Addr) (la lb ca cb : Nat) (xs : List Int) (w : World) (ha : RowIn encI 1 w a la xs) (hb : RowIn encI 1 w b lb xs) (hn : la ≤ 1000000) :
    Calls Try.prog 11 #[.slice a la ca, .slice b lb cb] w fun e w' => e = .returned (.bool true) ∧ Made w w' := by
  have h := ints_c a b la ca lb cb xs xs w ha hb hn (by have := ha.1; have := hb.1; omega)
  simpa using h
theorem RowIn.drop_any {w : World} {a : Option Addr} {len cap n : Nat} {xs : List Int} (h : RowIn encI 1 w a len xs) (hn : n ≤ len) (hc : len ≤ cap) :
    RowIn encI 1 w (if cap = n then a else a.map (fun x => x.add (n * 1))) (len - n) (xs.drop n) := by
  split
  · exact h.drop_end (by omega)
  · rw [Nat.mul_one]; exact h.drop hn
theorem log_grown {w wr w2 : World} {p : Nat} {lv lv2 : Value} (hp : w.heap.size ≤ p) (hb : ∀ k, lv.ownBlock = some k → w.heap.size ≤ k) (hm : Made w wr) (ht : Turns (fun k => k = p ∨ lv.ownBlock = some k) wr w2)
    (h : ∀ k, lv2.ownBlock = some k → lv.ownBlock = some k ∨ wr.heap.size ≤ k) : Made w w2 ∧ ∀ k, lv2.ownBlock = some k → w.heap.size ≤ k := by
  refine ⟨Turns.then hm ht (fun b h1 h2 => ?_), fun k hk => ?_⟩
  · rcases h2 with rfl | h2
    · omega
    · have := hb b h2; omega
  · rcases h k hk with h1 | h1
    · exact hb k h1
    · have := hm.size; omega

theorem sent_row (kf mf : Nat → Nat) (n c k p : Nat) (lv : Value) (wr : World) (hs : valsF (allL kf mf n) (c : Int) false = valL c k) (hl : LogAt wr p lv (allL kf mf n)) (hn : (allL kf mf n).length ≤ 1000000) (w' : World) (hw : Made wr w') :
    Calls Try.prog 12 #[.pointer (some ⟨p, 0, none⟩), .int .i64 c] w' fun e w2 => ∃ a cp, e = .returned (.slice a k cp) ∧ RowIn encI 1 w2 a k (valL c k) ∧ Made w' w2 := by
  refine (sent_c p lv _ c w' (hl.made hw) hn).mono ?_
  rintro e w2 ⟨v', rfl, ho, hm, -⟩
  rw [hs] at ho
  obtain ⟨a, cp, rfl, hr, -⟩ := ho.rowIn encI_len
  rw [valL_len] at hr ⊢
  exact ⟨a, cp, rfl, hr, hm⟩
theorem got_row (kf mf : Nat → Nat) (n c k m p : Nat) (lv : Value) (wr : World) (hmk : m ≤ k) (hs : valsF (allL kf mf n) (c : Int) true = valL c m) (hl : LogAt wr p lv (allL kf mf n)) (hn : (allL kf mf n).length ≤ 1000000) (w' : World) (hw : Made wr w') :
    Calls Try.prog 13 #[.pointer (some ⟨p, 0, none⟩), .int .i64 c] w' fun e w2 => ∃ a cp, e = .returned (.slice a m cp) ∧ RowIn encI 1 w2 a m ((valL c k).take m) ∧ Made w' w2 := by
  refine (got_c p lv _ c w' (hl.made hw) hn).mono ?_
  rintro e w2 ⟨v', rfl, ho, hm, -⟩
  rw [hs] at ho
  obtain ⟨a, cp, rfl, hr, -⟩ := ho.rowIn encI_len
  rw [valL_len] at hr ⊢
  rw [valL_take c k m hmk] at hr
  exact ⟨a, cp, rfl, hr, hm⟩
theorem left_row (kf mf : Nat → Nat) (n c k m p : Nat) (lv : Value) (wr : World) (hs : leftF (allL kf mf n) (c : Int) = (valL c k).drop m) (hl : LogAt wr p lv (allL kf mf n)) (hn : (allL kf mf n).length ≤ 1000000) (w' : World) (hw : Made wr w') :
    Calls Try.prog 14 #[.pointer (some ⟨p, 0, none⟩), .int .i64 c] w' fun e w2 => ∃ a cp, e = .returned (.slice a (k - m) cp) ∧ RowIn encI 1 w2 a (k - m) ((valL c k).drop m) ∧ Made w' w2 := by
  refine (left_c p lv _ c w' (hl.made hw) hn).mono ?_
  rintro e w2 ⟨a, l, cp, rfl, hr, -, hm⟩
  rw [hs] at hr
  have hl := hr.1
  rw [List.length_drop, valL_len] at hl
  subst hl
  exact ⟨a, cp, rfl, hr, hm⟩

set_option maxHeartbeats 8000000 in
set_option maxRecDepth 100000 in
theorem dealParts_w (a0 : Option Addr) (n0 c0 : Nat) (ns : List Int) (w0 : World) (a1 : Option Addr) (n1 c1 : Nat) (gs : List Int) (hw0 : RowIn encI 1 w0 a0 n0 ns) (hw1 : RowIn encI 1 w0 a1 n1 gs) :
    Calls Try.prog 4 #[.slice a0 n0 c0, .slice a1 n1 c1] w0 fun e w' => e = .returned (.bool true) ∧ Made w0 w' := by
  have HA := Lib.hid (fun w1 => @awake_at w0 w1)
  obtain ⟨hl0, hr0⟩ := hw0
  obtain ⟨hl1, hr1⟩ := hw1
  have HL0 := Lib.hid hl0
  have HL1 := Lib.hid hl1
  have HR0 := Lib.hid hr0
  have HR1 := Lib.hid hr1
  clear hl0 hl1 hr0 hr1
  by_cases g1 : 5 < n0
  · go_enter Try.func4, Try.ntmps4
    go_wp2_with fail
    refine (HA.out _ (Turns.refl _ _)).mono ?_
    rintro e w' ⟨rfl, hb⟩
    go_wp2_with fail
    go_ret
    exact ⟨rfl, hb⟩
  by_cases g2 : n1 < n0
  · go_enter Try.func4, Try.ntmps4
    go_wp2_with fail
    refine (HA.out _ (Turns.refl _ _)).mono ?_
    rintro e w' ⟨rfl, hb⟩
    go_wp2_with fail
    go_ret
    exact ⟨rfl, hb⟩
  by_cases g3 : 10 < n1
  · go_enter Try.func4, Try.ntmps4
    go_wp2_with fail
    refine (HA.out _ (Turns.refl _ _)).mono ?_
    rintro e w' ⟨rfl, hb⟩
    go_wp2_with fail
    go_ret
    exact ⟨rfl, hb⟩
  have g1' : n0 ≤ 5 := by omega
  have g2' : n0 ≤ n1 := by omega
  have g3' : n1 ≤ 10 := by omega
  clear g1 g2 g3
  obtain ⟨i0, hi0, hz0, hz1, hz2⟩ := info_parts Try.infoI
  go_enter Try.func4, Try.ntmps4
  go_wp2_with fail
  refine (dnew_c _).mono ?_
  rintro e w' ⟨rfl, hw⟩
  have hl := log_new w0
  have hm : Made w0 (w0.alloc (.cells #[.slice none 0 0] 42)) := (Turns.refl _ _).alloc _
  rw [hw] at hl hm
  clear hw
  obtain ⟨p, hp⟩ : ∃ p, w0.heap.size = p := ⟨_, rfl⟩
  rw [hp] at hl
  try rw [hp]
  have HP := Lib.hid hp
  clear hp
  have HL := Lib.hid hl
  have HM := Lib.hid hm
  clear hl hm
  go_wp2_with fail
  go_loopw [6] (fun v6 wr => ∃ c : Nat, c ≤ n0 ∧ v6 = .int .i64 c ∧ (∃ lv, LogAt wr p lv (P1 (kF ns) c) ∧ ∀ k, lv.ownBlock = some k → w0.heap.size ≤ k) ∧ Made w0 wr) (fun v6 _ => n0 - (intOf v6).toNat)
  case atStart => exact ⟨0, Nat.zero_le _, rfl, ⟨_, HL.out, fun k hk => by simp [Value.ownBlock] at hk⟩, HM.out⟩
  case round =>
    obtain ⟨c, hc, rfl, ⟨lv, hlog, hlb⟩, hm⟩ := hrel
    have HLOG := Lib.hid hlog
    have HLB := Lib.hid hlb
    have HM1 := Lib.hid hm
    clear hlog hlb hm
    by_cases hlt : c < n0
    · rcases HR0.out with hz | ⟨b, off, hae, hblt, hlies⟩
      · omega
      subst hae
      clear HR0
      obtain ⟨x, hx⟩ := get_of_lt (xs := ns) (k := c) (by rw [HL0.out]; exact hlt)
      have hkx := kF_eq hx
      have HX := Lib.hid hx
      have HKX := Lib.hid hkx
      have hkl := kF_le ns c
      have i1 : (0 : Int) ≤ (c : Int) := Int.natCast_nonneg _
      have i2 : (c : Int) < (n0 : Int) := by omega
      clear hx hkx
      go_wp2_with fail
      go_loopw [7] (fun v7 wx => ∃ i : Nat, i ≤ kF ns c ∧ v7 = .int .i64 i ∧ (∃ lv, LogAt wx p lv (P1 (kF ns) c ++ rowL false c i) ∧ ∀ k, lv.ownBlock = some k → w0.heap.size ≤ k) ∧ Made w0 wx) (fun v7 _ => kF ns c - (intOf v7).toNat)
      case atStart => exact ⟨0, Nat.zero_le _, rfl, ⟨lv, by rw [rowL_zero, List.append_nil]; exact HLOG.out, HLB.out⟩, HM1.out⟩
      case round =>
        obtain ⟨i, hi, rfl, ⟨lv, hlog, hlb⟩, hm⟩ := hrel
        have hcx : wr.cell? ⟨b, off + c, none⟩ = some (.int .i64 x) := (hm.cell (p := ⟨b, off + c, none⟩) hblt (fun h => h)).trans (Lies.one (f := Value.int .i64) hlies HX.out)
        have hlen : (P1 (kF ns) c ++ rowL false c i).length ≤ 1000000 := by
          have := P1_len (kF ns) (kF_le ns) c
          rw [List.length_append, rowL_len]
          omega
        have HLN := Lib.hid hlen
        have HLOG := Lib.hid hlog
        have HLB := Lib.hid hlb
        have HM1 := Lib.hid hm
        clear hlog hlb hm hlen
        go_wp2_with fail
        refine (round_c x 12 wr (by decide) (by decide)).mono ?_
        rintro e w5 ⟨rfl, hw⟩
        subst hw
        rw [HKX.out]
        by_cases hil : i < kF ns c
        · have i3 : (i : Int) < (kF ns c : Int) := by omega
          go_wp2_with fail
          refine (dadd_c (putD c i false) p lv _ wr (by simp [putD]) (by simp only [putD]; omega) HLOG.out HLN.out).mono ?_
          rintro e w2 ⟨rfl, lv2, hl2, ht2, hb2⟩
          obtain ⟨hm2, hb3⟩ := log_grown (by have := HP.out; omega) HLB.out HM1.out ht2 hb2
          have hl3 : LogAt w2 p lv2 (P1 (kF ns) c ++ rowL false c (i + 1)) := by rw [rowL_succ, ← List.append_assoc]; exact hl2
          have HL3 := Lib.hid hl3
          have HM3 := Lib.hid hm2
          have HB3 := Lib.hid hb3
          clear hl2 ht2 hb2 hm2 hb3 hl3
          go_wp2_with fail
          go_roundw
          case rel => exact ⟨i + 1, by omega, by go_num, ⟨lv2, HL3.out, HB3.out⟩, HM3.out⟩
          case measure => simp [intOf]; omega
        · have hie : i = kF ns c := by omega
          have HIE := Lib.hid hie
          clear hie
          go_wp2_with fail
          go_roundw
          case rel => exact ⟨c + 1, by omega, by go_num, ⟨lv, by have := HLOG.out; rw [HIE.out] at this; rw [P1_succ]; exact this, HLB.out⟩, HM1.out⟩
          case measure => simp [intOf]; omega
    · have hce : c = n0 := by omega
      have HCE := Lib.hid hce
      clear hce
      go_wp2_with fail
      have hlog0 : LogAt wr p lv (P1 (kF ns) n0 ++ P2 (mF ns gs) n0 0) := by rw [← HCE.out]; simpa [P2] using HLOG.out
      have HLOG0 := Lib.hid hlog0
      clear hlog0 HLOG
      go_loopw [8] (fun v8 wr => ∃ d : Nat, d ≤ n0 ∧ v8 = .int .i64 ((n0 : Int) - 1 - d) ∧ (∃ lv, LogAt wr p lv (P1 (kF ns) n0 ++ P2 (mF ns gs) n0 d) ∧ ∀ k, lv.ownBlock = some k → w0.heap.size ≤ k) ∧ Made w0 wr) (fun v8 _ => (intOf v8 + 1).toNat)
      case atStart => exact ⟨0, Nat.zero_le _, by go_num, ⟨_, HLOG0.out, HLB.out⟩, HM1.out⟩
      case round =>
        obtain ⟨d, hd, hv, ⟨lv, hlog, hlb⟩, hm⟩ := hrel
        have HLOG := Lib.hid hlog
        have HLB := Lib.hid hlb
        have HM1 := Lib.hid hm
        clear hlog hlb hm
        by_cases hlt : d < n0
        · have hcc : (n0 : Int) - 1 - d = ((n0 - 1 - d : Nat) : Int) := by omega
          have hcl : n0 - 1 - d < n0 := by omega
          have hcd : n0 - 1 - d + d + 1 = n0 := by omega
          rw [hcc] at hv
          have hp2 := P2_succ (mF ns gs) n0 d
          generalize hcg : n0 - 1 - d = c at *
          subst hv
          clear hcc
          have HP2 := Lib.hid hp2
          have HCG := Lib.hid hcg
          have HCD := Lib.hid hcd
          clear hp2 hcg hcd
          rcases HR0.out with hz | ⟨b, off, hae, hblt, hlies⟩
          · omega
          rcases HR1.out with hz | ⟨b', off', hae', hblt', hlies'⟩
          · omega
          subst hae hae'
          clear HR0 HR1
          obtain ⟨x, hx⟩ := get_of_lt (xs := ns) (k := c) (by rw [HL0.out]; exact hcl)
          obtain ⟨y, hy⟩ := get_of_lt (xs := gs) (k := c) (by rw [HL1.out]; omega)
          have HKX := Lib.hid (kF_eq hx)
          have HKY := Lib.hid (mF_eq (ns := ns) hy)
          have hkl := kF_le ns c
          have hml := mF_le ns gs c
          have i1 : (0 : Int) ≤ (c : Int) := Int.natCast_nonneg _
          have i2 : (c : Int) < (n0 : Int) := by omega
          have i4 : (c : Int) < (n1 : Int) := by omega
          have hcx : wr.cell? ⟨b, off + c, none⟩ = some (.int .i64 x) := (HM1.out.cell (p := ⟨b, off + c, none⟩) hblt (fun h => h)).trans (Lies.one (f := Value.int .i64) hlies hx)
          have HX := Lib.hid hx
          have HY := Lib.hid hy
          clear hx hy
          go_wp2_with fail
          refine (round_c x 12 wr (by decide) (by decide)).mono ?_
          rintro e w5 ⟨rfl, hw⟩
          subst hw
          rw [HKX.out]
          clear hcx
          go_wp2_with fail
          go_loopw [10] (fun v10 wx => ∃ i : Nat, i ≤ mF ns gs c ∧ v10 = .int .i64 i ∧ (∃ lv, LogAt wx p lv ((P1 (kF ns) n0 ++ P2 (mF ns gs) n0 d) ++ rowL true c i) ∧ ∀ k, lv.ownBlock = some k → w0.heap.size ≤ k) ∧ Made w0 wx) (fun v10 _ => mF ns gs c - (intOf v10).toNat)
          case atStart => exact ⟨0, Nat.zero_le _, rfl, ⟨lv, by rw [rowL_zero, List.append_nil]; exact HLOG.out, HLB.out⟩, HM1.out⟩
          case round =>
            obtain ⟨i, hi, rfl, ⟨lv, hlog, hlb⟩, hm⟩ := hrel
            have hcx : wr.cell? ⟨b', off' + c, none⟩ = some (.int .i64 y) := (hm.cell (p := ⟨b', off' + c, none⟩) hblt' (fun h => h)).trans (Lies.one (f := Value.int .i64) hlies' HY.out)
            have hlen : ((P1 (kF ns) n0 ++ P2 (mF ns gs) n0 d) ++ rowL true c i).length ≤ 1000000 := by
              have h1 := P1_len (kF ns) (kF_le ns) n0
              have h2 := P2_len (mF ns gs) (fun c => Nat.le_trans (mF_le ns gs c) (kF_le ns c)) n0 d
              rw [List.length_append, List.length_append, rowL_len]
              omega
            have HLN := Lib.hid hlen
            have HLOG := Lib.hid hlog
            have HLB := Lib.hid hlb
            have HM1 := Lib.hid hm
            clear hlog hlb hm hlen
            go_wp2_with fail
            refine (round_c y ((kF ns c : Int) + 1) wr (by omega) (by omega)).mono ?_
            rintro e w5 ⟨rfl, hw⟩
            subst hw
            rw [HKY.out]
            by_cases hil : i < mF ns gs c
            · have i3 : (i : Int) < (mF ns gs c : Int) := by omega
              have i5 : (i : Int) ≤ 11 := by omega
              go_wp2_with fail
              refine (dadd_c (putD c i true) p lv _ wr (by simp [putD]) (by simp only [putD]; omega) HLOG.out HLN.out).mono ?_
              rintro e w2 ⟨rfl, lv2, hl2, ht2, hb2⟩
              obtain ⟨hm2, hb3⟩ := log_grown (by have := HP.out; omega) HLB.out HM1.out ht2 hb2
              have hl3 : LogAt w2 p lv2 ((P1 (kF ns) n0 ++ P2 (mF ns gs) n0 d) ++ rowL true c (i + 1)) := by rw [rowL_succ, ← List.append_assoc]; exact hl2
              have HL3 := Lib.hid hl3
              have HM3 := Lib.hid hm2
              have HB3 := Lib.hid hb3
              clear hl2 ht2 hb2 hm2 hb3 hl3
              go_wp2_with fail
              go_roundw
              case rel => exact ⟨i + 1, by omega, by go_num, ⟨lv2, HL3.out, HB3.out⟩, HM3.out⟩
              case measure => simp [intOf]; omega
            · have hie : i = mF ns gs c := by omega
              have HIE := Lib.hid hie
              clear hie
              go_wp2_with fail
              go_roundw
              case rel => exact ⟨d + 1, by omega, by have := HCD.out; go_num; try omega, ⟨lv, by have := HLOG.out; rw [HIE.out] at this; rw [HP2.out, ← List.append_assoc]; exact this, HLB.out⟩, HM1.out⟩
              case measure => have := HCD.out; simp [intOf]; try omega
        · have hde : (n0 : Int) - 1 - d = -1 := by omega
          have hdn : d = n0 := by omega
          rw [hde] at hv
          subst hv
          have HDN := Lib.hid hdn
          clear hde hdn
          have hlog : LogAt wr p lv (allL (kF ns) (mF ns gs) n0) := by have := HLOG.out; rw [HDN.out] at this; exact this
          have hlen : (allL (kF ns) (mF ns gs) n0).length ≤ 1000000 := by
            have h1 := P1_len (kF ns) (kF_le ns) n0
            have h2 := P2_len (mF ns gs) (fun c => Nat.le_trans (mF_le ns gs c) (kF_le ns c)) n0 n0
            unfold allL
            rw [List.length_append]
            omega
          have HLA := Lib.hid hlog
          have HLN := Lib.hid hlen
          clear hlog hlen HLOG
          go_wp2_with fail
          generalize hw3 : wr = w3 at *
          clear hw3
          go_loopw [11] (fun v11 wr => ∃ c : Nat, c ≤ n0 ∧ v11 = .int .i64 c ∧ Made w3 wr) (fun v11 _ => n0 - (intOf v11).toNat)
          case atStart => exact ⟨0, Nat.zero_le _, rfl, Turns.refl _ _⟩
          case round =>
            obtain ⟨c, hc, rfl, hm⟩ := hrel
            have HM4 := Lib.hid hm
            clear hm
            by_cases hlt : c < n0
            · rcases HR0.out with hz | ⟨b, off, hae, hblt, hlies⟩
              · omega
              rcases HR1.out with hz | ⟨b', off', hae', hblt', hlies'⟩
              · omega
              subst hae hae'
              clear HR0 HR1
              obtain ⟨x, hx⟩ := get_of_lt (xs := ns) (k := c) (by rw [HL0.out]; exact hlt)
              obtain ⟨y, hy⟩ := get_of_lt (xs := gs) (k := c) (by rw [HL1.out]; omega)
              have HKX := Lib.hid (kF_eq hx)
              have HKY := Lib.hid (mF_eq (ns := ns) hy)
              have hkl := kF_le ns c
              have hml := mF_le ns gs c
              have i1 : (0 : Int) ≤ (c : Int) := Int.natCast_nonneg _
              have i2 : (c : Int) < (n0 : Int) := by omega
              have i4 : (c : Int) < (n1 : Int) := by omega
              have hmw := Turns.trans HM1.out HM4.out
              have hcx : wr.cell? ⟨b, off + c, none⟩ = some (.int .i64 x) := (hmw.cell (p := ⟨b, off + c, none⟩) hblt (fun h => h)).trans (Lies.one (f := Value.int .i64) hlies hx)
              have hcy : wr.cell? ⟨b', off' + c, none⟩ = some (.int .i64 y) := (hmw.cell (p := ⟨b', off' + c, none⟩) hblt' (fun h => h)).trans (Lies.one (f := Value.int .i64) hlies' hy)
              have HHS := Lib.hid (sent_all (kF ns) (mF ns gs) n0 c hlt)
              have HHG := Lib.hid (got_all (kF ns) (mF ns gs) n0 c hlt)
              have HHL := Lib.hid (left_all (kF ns) (mF ns gs) n0 c hlt hml)
              have HKL := Lib.hid hkl
              clear hx hy hmw
              go_wp2_with fail
              refine (round_c x 12 wr (by decide) (by decide)).mono ?_
              rintro e w5 ⟨rfl, hw⟩
              subst hw
              rw [HKX.out]
              go_wp2_with fail
              refine (round_c y ((kF ns c : Int) + 1) wr (by omega) (by have := HKL.out; omega)).mono ?_
              rintro e w5 ⟨rfl, hw⟩
              subst hw
              rw [HKY.out]
              clear hcx hcy HKX HKY
              generalize kF ns c = k at *
              generalize mF ns gs c = m at *
              go_wp2_with fail
              go_loopw [14, 15] (fun v14 v15 wx => ∃ i : Nat, i ≤ k ∧ v15 = .int .i64 i ∧ Owns encI 3 1 wx v14 (valL c i) ∧ Made w3 wx ∧ (∀ b, v14.ownBlock = some b → w3.heap.size ≤ b)) (fun _ v15 _ => k - (intOf v15).toNat)
              case atStart => exact ⟨0, Nat.zero_le _, rfl, World.ownsRow_nil _ _ _ _, HM4.out, fun b hb => by simp [Value.ownBlock] at hb⟩
              case round =>
                obtain ⟨i, hi, rfl, hov, hm, hob⟩ := hrel
                have HW := Lib.hid hov
                have HM5 := Lib.hid hm
                have HX := Lib.hid hob
                clear hov hm hob
                by_cases hil : i < k
                · have hvl : (valL c i).length ≤ 11 := by rw [valL_len]; omega
                  have hsv := valL_succ c i
                  have i3 : (i : Int) < (k : Int) := by omega
                  have i5 : (i : Int) ≤ 11 := by omega
                  generalize hA : valL c i = A at *
                  generalize hB : valL c (i + 1) = B at *
                  have HSV := Lib.hid hsv
                  have HB := Lib.hid hB
                  clear hA hB hsv
                  go_wp2_with (at_builtin; refine wpList_append_own _ rfl (.tmp 116) (.tmp 121) 25 rfl w3.heap.size 3 i0 (.int .i64 0) 1 8 Try.underlying25 hi0 hz0 hz1 hz2 rfl (by decide) _ A.length (flat encI A) rfl (own_from _ HX.out (World.ownsRow.alloc HW.out _)) ⟨wr.heap.size, 0, none⟩ 1 1 [.int .i64 (100 * (c : Int) + i)] rfl rfl ?c1 ?c2 ?b1 ?b2 ?b3 ?_)
                  case c1 => exact World.news_of_block (cs := #[.int .i64 (100 * (c : Int) + i)]) (t := 3) (fr := (0, 0)) (heap_alloc_new wr _)
                  case c2 => intro u hu; simp only [List.mem_singleton] at hu; subst hu; rfl
                  case b1 => unfold maxLen; omega
                  case b2 => omega
                  case b3 => have := HM5.out.size; simp; omega
                  intro v' w1 hown1 hgrow1 _
                  go_wp2_with fail
                  go_roundw
                  case rel => exact ⟨i + 1, by omega, by go_num, by rw [HB.out, HSV.out]; exact vals_pushed hown1, (HM5.out.alloc _).grown hgrow1 (fun b hb hlt' => by have := HX.out b hb; omega), fun b hb => (World.ownsRow.lt hown1 b hb).1⟩
                  case measure => simp [intOf]; omega
                · have hie : i = k := by omega
                  subst hie
                  go_wp2_with fail
                  have hv := HW.out.rowIn encI_len
                  rw [valL_len] at hv
                  obtain ⟨a14, c14, hv14, hrow, hlc, hcm, -, -⟩ := hv
                  subst hv14
                  have HV := Lib.hid hrow
                  clear hrow HW HX
                  have hMk : m ≤ i := hml
                  have i6 : (0 : Int) ≤ (m : Int) := Int.natCast_nonneg _
                  have i7 : (m : Int) ≤ (i : Int) := by omega
                  have i8 : (m : Int) ≤ (c14 : Int) := by omega
                  have HSent := Lib.hid (sent_row (kF ns) (mF ns gs) n0 c i p lv wr HHS.out (HLA.out.made HM5.out) HLN.out)
                  have HGot := Lib.hid (got_row (kF ns) (mF ns gs) n0 c i m p lv wr hMk HHG.out (HLA.out.made HM5.out) HLN.out)
                  have HLeft := Lib.hid (left_row (kF ns) (mF ns gs) n0 c i m p lv wr HHL.out (HLA.out.made HM5.out) HLN.out)
                  refine wp_region_held_drew (S := (fun w' => Made wr w')) (by kernel_rfl) ?_ (fun hHeld => ?_)
                  · exact (Turns.refl _ _).drew
                  refine takeH (i := 0) (d := some 123) (v := ?_) rfl rfl (by kernel_rfl) (by kernel_rfl) (by kernel_rfl) (fun _ _ _ h => h) (Or.inl ⟨by rfl, ?_⟩) (by assumption) ?_
                  rotate_left
                  · intro w hSw
                    try dsimp only at hSw
                    go_simp
                    try with_reducible rfl
                  try simp only [Act.put, List.setIfInBounds_toArray, List.set_cons_zero, List.set_cons_succ]
                  refine takeH (i := 1) (d := some 124) (v := ?_) rfl rfl (by kernel_rfl) (by kernel_rfl) (by kernel_rfl) (fun _ _ _ h => h) (Or.inl ⟨by rfl, ?_⟩) (by assumption) ?_
                  rotate_left
                  · intro w hSw
                    try dsimp only at hSw
                    go_simp
                    try with_reducible rfl
                  try simp only [Act.put, List.setIfInBounds_toArray, List.set_cons_zero, List.set_cons_succ]
                  refine takeH (i := 3) (d := some 126) (v := ?_) rfl rfl (by kernel_rfl) (by kernel_rfl) (by kernel_rfl) (fun _ _ _ h => h) (Or.inl ⟨by rfl, ?_⟩) (by assumption) ?_
                  rotate_left
                  · intro w hSw
                    try dsimp only at hSw
                    go_simp
                    try with_reducible rfl
                  try simp only [Act.put, List.setIfInBounds_toArray, List.set_cons_zero, List.set_cons_succ]
                  refine wpAnyH_ready (rs := [2]) (by kernel_rfl) (by simp) ?_
                  refine AllReadyH.cons rfl (fun K hK => ?_) AllReadyH.nil
                  go_simp
                  refine (HSent.out _ hHeld).mono ?_
                  rintro e w' ⟨as_, cs_, rfl, ros, hm'⟩
                  have HRs := Lib.hid ros
                  clear ros
                  go_simp
                  refine hK.out _ _ ?_ (fun hHeld => ?_)
                  · exact Turns.trans hHeld hm'
                  clear hK K
                  try simp only [Act.put, List.setIfInBounds_toArray, List.set_cons_zero, List.set_cons_succ]
                  refine wpAnyH_ready (rs := [4]) (by kernel_rfl) (by simp) ?_
                  refine AllReadyH.cons rfl (fun K hK => ?_) AllReadyH.nil
                  go_simp
                  refine (ints_same as_ a14 _ _ cs_ c14 _ _ HRs.out (HV.out.made hHeld) (by omega)).mono ?_
                  rintro e w' ⟨rfl, hm'⟩
                  go_simp
                  refine hK.out _ _ ?_ (fun hHeld => ?_)
                  · exact Turns.trans hHeld hm'
                  clear hK K
                  try simp only [Act.put, List.setIfInBounds_toArray, List.set_cons_zero, List.set_cons_succ]
                  refine takeH (i := 5) (d := some 128) (v := ?_) rfl rfl (by kernel_rfl) (by kernel_rfl) (by kernel_rfl) (fun _ _ _ h => h) (Or.inl ⟨by rfl, ?_⟩) (by assumption) ?_
                  rotate_left
                  · intro w hSw
                    try dsimp only at hSw
                    go_simp
                    try with_reducible rfl
                  try simp only [Act.put, List.setIfInBounds_toArray, List.set_cons_zero, List.set_cons_succ]
                  refine takeH (i := 6) (d := some 129) (v := ?_) rfl rfl (by kernel_rfl) (by kernel_rfl) (by kernel_rfl) (fun _ _ _ h => h) (Or.inl ⟨by rfl, ?_⟩) (by assumption) ?_
                  rotate_left
                  · intro w hSw
                    try dsimp only at hSw
                    go_simp
                    try with_reducible rfl
                  try simp only [Act.put, List.setIfInBounds_toArray, List.set_cons_zero, List.set_cons_succ]
                  refine takeH (i := 7) (d := some 130) (v := ?_) rfl rfl (by kernel_rfl) (by kernel_rfl) (by kernel_rfl) (fun _ _ _ h => h) (Or.inl ⟨by rfl, ?_⟩) (by assumption) ?_
                  rotate_left
                  · intro w hSw
                    try dsimp only at hSw
                    go_simp
                    try with_reducible rfl
                  try simp only [Act.put, List.setIfInBounds_toArray, List.set_cons_zero, List.set_cons_succ]
                  refine takeH (i := 8) (d := some 131) (v := ?_) rfl rfl (by kernel_rfl) (by kernel_rfl) (by kernel_rfl) (fun _ _ _ h => h) (Or.inl ⟨by rfl, ?_⟩) (by assumption) ?_
                  rotate_left
                  · intro w hSw
                    try dsimp only at hSw
                    go_simp
                    try with_reducible rfl
                  try simp only [Act.put, List.setIfInBounds_toArray, List.set_cons_zero, List.set_cons_succ]
                  refine takeH (i := 10) (d := some 133) (v := ?_) rfl rfl (by kernel_rfl) (by kernel_rfl) (by kernel_rfl) (fun _ _ _ h => h) (Or.inl ⟨by rfl, ?_⟩) (by assumption) ?_
                  rotate_left
                  · intro w hSw
                    try dsimp only at hSw
                    go_simp
                    try with_reducible rfl
                  try simp only [Act.put, List.setIfInBounds_toArray, List.set_cons_zero, List.set_cons_succ]
                  refine takeH (i := 11) (d := some 134) (v := ?_) rfl rfl (by kernel_rfl) (by kernel_rfl) (by kernel_rfl) (fun _ _ _ h => h) (Or.inl ⟨by rfl, ?_⟩) (by assumption) ?_
                  rotate_left
                  · intro w hSw
                    try dsimp only at hSw
                    go_simp
                    try with_reducible rfl
                  try simp only [Act.put, List.setIfInBounds_toArray, List.set_cons_zero, List.set_cons_succ]
                  refine takeH (i := 12) (d := some 135) (v := ?_) rfl rfl (by kernel_rfl) (by kernel_rfl) (by kernel_rfl) (fun _ _ _ h => h) (Or.inl ⟨by rfl, ?_⟩) (by assumption) ?_
                  rotate_left
                  · intro w hSw
                    try dsimp only at hSw
                    go_simp
                    try with_reducible rfl
                  try simp only [Act.put, List.setIfInBounds_toArray, List.set_cons_zero, List.set_cons_succ]
                  refine wpAnyH_ready (rs := [9]) (by kernel_rfl) (by simp) ?_
                  refine AllReadyH.cons rfl (fun K hK => ?_) AllReadyH.nil
                  go_simp
                  refine (HGot.out _ hHeld).mono ?_
                  rintro e w' ⟨as_, cs_, rfl, ros, hm'⟩
                  have HRs := Lib.hid ros
                  clear ros
                  go_simp
                  refine hK.out _ _ ?_ (fun hHeld => ?_)
                  · exact Turns.trans hHeld hm'
                  clear hK K
                  try simp only [Act.put, List.setIfInBounds_toArray, List.set_cons_zero, List.set_cons_succ]
                  refine wpAnyH_ready (rs := [13]) (by kernel_rfl) (by simp) ?_
                  refine AllReadyH.cons rfl (fun K hK => ?_) AllReadyH.nil
                  go_simp
                  refine (ints_same as_ _ _ _ cs_ _ _ _ HRs.out ((HV.out.made hHeld).take hMk) (by omega)).mono ?_
                  rintro e w' ⟨rfl, hm'⟩
                  go_simp
                  refine hK.out _ _ ?_ (fun hHeld => ?_)
                  · exact Turns.trans hHeld hm'
                  clear hK K
                  try simp only [Act.put, List.setIfInBounds_toArray, List.set_cons_zero, List.set_cons_succ]
                  refine takeH (i := 14) (d := some 137) (v := ?_) rfl rfl (by kernel_rfl) (by kernel_rfl) (by kernel_rfl) (fun _ _ _ h => h) (Or.inl ⟨by rfl, ?_⟩) (by assumption) ?_
                  rotate_left
                  · intro w hSw
                    try dsimp only at hSw
                    go_simp
                    try with_reducible rfl
                  try simp only [Act.put, List.setIfInBounds_toArray, List.set_cons_zero, List.set_cons_succ]
                  refine takeH (i := 15) (d := some 138) (v := ?_) rfl rfl (by kernel_rfl) (by kernel_rfl) (by kernel_rfl) (fun _ _ _ h => h) (Or.inl ⟨by rfl, ?_⟩) (by assumption) ?_
                  rotate_left
                  · intro w hSw
                    try dsimp only at hSw
                    go_simp
                    try with_reducible rfl
                  try simp only [Act.put, List.setIfInBounds_toArray, List.set_cons_zero, List.set_cons_succ]
                  refine takeH (i := 16) (d := some 139) (v := ?_) rfl rfl (by kernel_rfl) (by kernel_rfl) (by kernel_rfl) (fun _ _ _ h => h) (Or.inl ⟨by rfl, ?_⟩) (by assumption) ?_
                  rotate_left
                  · intro w hSw
                    try dsimp only at hSw
                    go_simp
                    try with_reducible rfl
                  try simp only [Act.put, List.setIfInBounds_toArray, List.set_cons_zero, List.set_cons_succ]
                  refine takeH (i := 17) (d := some 140) (v := ?_) rfl rfl (by kernel_rfl) (by kernel_rfl) (by kernel_rfl) (fun _ _ _ h => h) (Or.inl ⟨by rfl, ?_⟩) (by assumption) ?_
                  rotate_left
                  · intro w hSw
                    try dsimp only at hSw
                    go_simp
                    try with_reducible rfl
                  try simp only [Act.put, List.setIfInBounds_toArray, List.set_cons_zero, List.set_cons_succ]
                  refine takeH (i := 18) (d := some 141) (v := ?_) rfl rfl (by kernel_rfl) (by kernel_rfl) (by kernel_rfl) (fun _ _ _ h => h) (Or.inl ⟨by rfl, ?_⟩) (by assumption) ?_
                  rotate_left
                  · intro w hSw
                    try dsimp only at hSw
                    go_simp
                    try with_reducible rfl
                  try simp only [Act.put, List.setIfInBounds_toArray, List.set_cons_zero, List.set_cons_succ]
                  refine takeH (i := 20) (d := some 143) (v := ?_) rfl rfl (by kernel_rfl) (by kernel_rfl) (by kernel_rfl) (fun _ _ _ h => h) (Or.inl ⟨by rfl, ?_⟩) (by assumption) ?_
                  rotate_left
                  · intro w hSw
                    try dsimp only at hSw
                    go_simp
                    try with_reducible rfl
                  try simp only [Act.put, List.setIfInBounds_toArray, List.set_cons_zero, List.set_cons_succ]
                  refine takeH (i := 21) (d := some 144) (v := ?_) rfl rfl (by kernel_rfl) (by kernel_rfl) (by kernel_rfl) (fun _ _ _ h => h) (Or.inl ⟨by rfl, ?_⟩) (by assumption) ?_
                  rotate_left
                  · intro w hSw
                    try dsimp only at hSw
                    go_simp
                    try with_reducible rfl
                  try simp only [Act.put, List.setIfInBounds_toArray, List.set_cons_zero, List.set_cons_succ]
                  refine takeH (i := 22) (d := some 145) (v := ?_) rfl rfl (by kernel_rfl) (by kernel_rfl) (by kernel_rfl) (fun _ _ _ h => h) (Or.inl ⟨by rfl, ?_⟩) (by assumption) ?_
                  rotate_left
                  · intro w hSw
                    try dsimp only at hSw
                    go_simp
                    try with_reducible rfl
                  try simp only [Act.put, List.setIfInBounds_toArray, List.set_cons_zero, List.set_cons_succ]
                  refine wpAnyH_ready (rs := [19]) (by kernel_rfl) (by simp) ?_
                  refine AllReadyH.cons rfl (fun K hK => ?_) AllReadyH.nil
                  go_simp
                  refine (HLeft.out _ hHeld).mono ?_
                  rintro e w' ⟨as_, cs_, rfl, ros, hm'⟩
                  have HRs := Lib.hid ros
                  clear ros
                  go_simp
                  refine hK.out _ _ ?_ (fun hHeld => ?_)
                  · exact Turns.trans hHeld hm'
                  clear hK K
                  try simp only [Act.put, List.setIfInBounds_toArray, List.set_cons_zero, List.set_cons_succ]
                  refine wpAnyH_ready (rs := [23]) (by kernel_rfl) (by simp) ?_
                  refine AllReadyH.cons rfl (fun K hK => ?_) AllReadyH.nil
                  go_simp
                  refine (ints_same _ _ _ _ _ _ (List.drop m (valL c i)) _ ?hra ?hrb ?hrn).mono ?_
                  case hra => exact HRs.out
                  case hrb => split <;> first | exact (HV.out.made hHeld).drop_end (by omega) | exact (HV.out.made hHeld).drop hMk | (rw [Nat.mul_one]; exact (HV.out.made hHeld).drop hMk)
                  case hrn => omega
                  rintro e w' ⟨rfl, hm'⟩
                  go_simp
                  refine hK.out _ _ ?_ (fun hHeld => ?_)
                  · exact Turns.trans hHeld hm'
                  clear hK K
                  try simp only [Act.put, List.setIfInBounds_toArray, List.set_cons_zero, List.set_cons_succ]
                  refine takeH (i := 24) (d := some 147) (v := ?_) rfl rfl (by kernel_rfl) (by kernel_rfl) (by kernel_rfl) (fun _ _ _ h => h) (Or.inl ⟨by rfl, ?_⟩) (by assumption) ?_
                  rotate_left
                  · intro w hSw
                    try dsimp only at hSw
                    go_simp
                    try with_reducible rfl
                  try simp only [Act.put, List.setIfInBounds_toArray, List.set_cons_zero, List.set_cons_succ]
                  refine takeH (i := 25) (d := some 148) (v := ?_) rfl rfl (by kernel_rfl) (by kernel_rfl) (by kernel_rfl) (fun _ _ _ h => h) (Or.inl ⟨by rfl, ?_⟩) (by assumption) ?_
                  rotate_left
                  · intro w hSw
                    try dsimp only at hSw
                    go_simp
                    try with_reducible rfl
                  try simp only [Act.put, List.setIfInBounds_toArray, List.set_cons_zero, List.set_cons_succ]
                  refine wpAnyH_done (by kernel_rfl) ?_ _
                  go_wp2_with fail
                  all_goals
                    go_roundw
                    case rel => exact ⟨c + 1, by omega, by go_num, Turns.trans HM5.out hHeld⟩
                    case measure => simp [intOf]; omega
            · clear HR0 HR1
              have hce : c = n0 := by omega
              have HCE := Lib.hid hce
              clear hce
              go_wp2_with fail
              refine (sent_c p lv _ 9 wr (HLA.out.made HM4.out) HLN.out).mono ?_
              rintro e w5 ⟨v', rfl, ho, hm5, -⟩
              rw [sent_none _ _ _ g1'] at ho
              obtain ⟨a5, cp5, rfl, -⟩ := ho.rowIn encI_len
              go_wp2_with fail
              refine (HA.out _ (Turns.trans (Turns.trans HM1.out HM4.out) hm5)).mono ?_
              rintro e w' ⟨rfl, hb⟩
              go_wp2_with fail
              go_ret
              exact ⟨rfl, hb⟩
end Go.Proofs.Ytninfnpecgpfhaa
