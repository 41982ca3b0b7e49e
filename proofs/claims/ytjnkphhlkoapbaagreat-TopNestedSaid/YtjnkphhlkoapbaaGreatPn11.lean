/-
  Walks and laws under LawTopNested, part 11.
-/
import Derived.Test.YtjnkphhlkoapbaaGreatPn10
set_option linter.unusedVariables false
set_option linter.unusedSimpArgs false
set_option maxRecDepth 100000
set_option maxHeartbeats 16000000
namespace Go.Proofs.YtjnkphhlkoapbaaGreat
open Go.RowKit
theorem NsL.ids {cs : List Cx} {tms : List Tk} : ∀ {L : List It} {cut : Nat}, NsL cs tms cut L → ∀ it ∈ L, 0 ≤ it.id
 | [], _, _, _, h => by cases h
 | u :: L, cut, h, it, hit => by
  obtain ⟨m, i, x, h1, h2, h3, h4, h5, h6, h7, h8, h9, h10⟩ := h
  rcases List.mem_cons.1 hit with rfl | hit
  ·omega
  ·exact h10.ids it hit
theorem NsL.low {cs cs' : List Cx} {tms : List Tk} : ∀ {L : List It} {cut : Nat}, NsL cs tms cut L → (∀ i, i < cut → cs'[i]? = cs[i]?) → NsL cs' tms cut L
 | [], _, h, _ => h
 | it :: L, cut, h, he => by
  obtain ⟨m, i, x, h1, h2, h3, h4, h5, h6, h7, h8, h9, h10⟩ := h
  refine ⟨m, i, x, h1, h2, h3, h4, by rw [he m h2]; exact h5, h6, h7, fun q y hq hq2 hy => h8 q y hq hq2 (by rw [← he q hq2]; exact hy), h9, h10.low (fun i hi => he i (by omega))⟩
structure NsT (lw : List Wt) (now : Int) (chs : List (Nat × Chn)) (tms : List Tk) (L : List It) (k : Cs) : Prop where
 rows : NsL k.cs tms k.cut L
 le : k.cut ≤ k.cs.length
 few : k.cs.length ≤ 7
 al : ∀ i, 1 ≤ i → i < k.cut → Alive chs tms k.cs i (if i + 1 = k.cut then lw else [])
 asc : ∀ it ∈ L, now < it.when
 cl : chs.length ≤ 6
 tl : tms.length ≤ 6
section
variable {ks : List Int} {n : Nat} {mn a sq now : Int} {k : Cs} {tms : List Tk} {L : List It} {chs : List (Nat × Chn)} {lw : List Wt}
theorem NsI.t (h : NsI n mn k.cs tms L sq) (hn : 1 ≤ n ∧ n ≤ 6) (hcut : k.cut = n + 1) : NsT [⟨0, 0, 0⟩] 0 (tcHw (n - 1)) tms L k where
 rows := by rw [hcut]; exact h.rows
 le := by rw [hcut, h.len]; exact Nat.le_refl _
 few := by rw [h.len]; omega
 al := fun i h1 h2 => by
  obtain ⟨x, g1, g2, g3, g4, g5⟩ := h.kin i h1 (by omega)
  refine ⟨x, _, g1, g2, g3, g4, tcHw_get (by omega), rfl, rfl, ?_, ?_⟩
  ·show (if i - 1 = n - 1 then ([⟨0, 0, 0⟩] : List Wt) else []) = _
   by_cases hi : i = n
   ·rw [if_pos (by omega), if_pos (by omega)]
   ·rw [if_neg (by omega), if_neg (by omega)]
  ·rcases g5 with g5 | ⟨j, g5, g6⟩
   ·exact .inl g5
   ·exact .inr ⟨j, 4, i, g5, g6⟩
 asc := fun u hu => by
  obtain ⟨it, L', rfl, hw⟩ := h.hd hn.1
  obtain ⟨m, i, x, h1, h2, h3, h4, h5, h6, h7, h8, h9, h10⟩ := h.rows
  have := (h.mz.2 hn.1).1
  rcases List.mem_cons.1 hu with rfl | hu
  ·omega
  ·have := (h9 u hu).1
   omega
 cl := by rw [tcHw_len]; omega
 tl := by have := h.tl; omega
theorem NsT.lap {it : It} (h : NsT lw now chs tms (it :: L) k) : ∃ (m i : Nat) (x : Cx), it.id = i ∧ 1 ≤ m ∧ m < k.cut ∧ tms[i]? = some ⟨4, m, none⟩ ∧ k.cs[m]? = some x ∧ x.own = true ∧ canL (dOf chs k.cs m (k.cut - m)) L = L ∧ NsT [] it.when (canC (dOf chs k.cs m (k.cut - m)) chs) tms L (canCs 2 2 (dOf chs k.cs m (k.cut - m)) m k) := by
 obtain ⟨m, i, x, h1, h2, h3, h4, h5, h6, h7, h8, h9, h10⟩ := h.rows
 have hle := h.le
 refine ⟨m, i, x, h3, h1, h2, h4, h5, h6, ?_, ?_⟩
 ·refine canL_far _ _ (fun d hd u hu => ?_)
  obtain ⟨j, hj⟩ := List.getElem?_of_mem hd
  obtain ⟨hjl, rfl⟩ := dOf_get hj
  have hu0 := h10.ids u hu
  cases j with
  | zero =>
   show u.id ≠ ((k.cs[m + 0]?).getD bgX).timer
   rw [Nat.add_zero, h5, Option.getD_some, h7]
   have := (h9 u hu).2
   omega
  | succ j =>
   show u.id ≠ ((k.cs[m + (j + 1)]?).getD bgX).timer
   obtain ⟨y, hy⟩ := get_of_lt (xs := k.cs) (k := m + (j + 1)) (by omega)
   rw [hy, Option.getD_some, h8 _ y (by omega) (by omega) hy]
   omega
 ·have hlow : ∀ q, q < m → (canK 2 2 (dOf chs k.cs m (k.cut - m)) m k.cs)[q]? = k.cs[q]? := fun q hq => canK_low 2 2 _ m _ q hq
  refine ⟨?_, ?_, ?_, fun q hq1 hq2 => ?_, fun u hu => (h9 u hu).1, by rw [canC_len]; exact h.cl, h.tl⟩
  ·show NsL (canK 2 2 _ m k.cs) tms m L
   exact h10.low hlow
  ·show m ≤ (canK 2 2 _ m k.cs).length
   rw [canK_len]
   omega
  ·show (canK 2 2 _ m k.cs).length ≤ 7
   rw [canK_len]
   exact h.few
  ·have hq2 : q < m := hq2
   obtain ⟨y, ch, g1, g2, g3, g4, g5, g6, g7, g8, g9⟩ := (h.al q hq1 (by omega)).ex
   rw [if_neg (by omega)] at g8
   refine ⟨y, ch, ?_, g2, g3, g4, ?_, g6, g7, ?_, g9⟩
   ·show (canK 2 2 _ m k.cs)[q]? = _
    rw [hlow q hq2]
    exact g1
   ·rw [canC_far]
    ·exact g5
    ·intro d hd
     obtain ⟨j, hj⟩ := List.getElem?_of_mem hd
     obtain ⟨hjl, rfl⟩ := dOf_get hj
     show m + j - 1 ≠ q - 1
     omega
   ·rw [g8]
    split <;> rfl
theorem nsA_lim2 (h1 : n ≤ 6) (h2 : tms.length ≤ 6) (h3 : sq = tms.length) (h4 : 0 ≤ now ∧ now ≤ 1000) : LimC (nsA n a now tms L sq) := cfO_lim (by simp) (by rw [tcHw_len]; omega) (by omega) (by omega) (by omega)
def nsG (n : Nat) (a now : Int) (chs : List (Nat × Chn)) (tms : List Tk) (L : List It) (sq : Int) : Cf := cfO now ⟨0, ((2 * n + 4 : Nat) : Int), 0, 0, nsRw n a ((n - 1 : Nat) : Int) 0, zI⟩ [0] chs tms L sq
theorem ns_fire {it : It} (hn : 1 ≤ n ∧ n ≤ 6) (h : NsT [⟨0, 0, 0⟩] now (tcHw (n - 1)) tms (it :: L) k) (hcut : k.cut = n + 1) (hsq : sq = tms.length) (h0 : 0 ≤ now ∧ now ≤ 200) (hw : it.when = now + 1) : ∃ chs' k', NsT [] (now + 1) chs' tms L k' ∧ (∃ y, k'.cs[n]? = some y ∧ y.err = 2) ∧ Rx [nsP ks] (nsA n a now tms (it :: L) sq) k (.adv 1) [] (nsG n a (now + 1) chs' tms L sq) k' := by
 obtain ⟨m, i, x, h1, h2, h3, h4, h5, h6, h7, h8⟩ := h.lap
 have hle := h.le
 have hfew := h.few
 have htl := h.tl
 refine ⟨canC (dOf (tcHw (n - 1)) k.cs m (k.cut - m)) (tcHw (n - 1)), canCs 2 2 (dOf (tcHw (n - 1)) k.cs m (k.cut - m)) m k, by rw [← hw]; exact h8, ?_, ?_⟩
 ·obtain ⟨y, hy⟩ := get_of_lt (xs := k.cs) (k := n) (by omega)
  have hd : (dOf (tcHw (n - 1)) k.cs m (k.cut - m))[n - m]? = some ⟨y, n - 1, ((tcHw (n - 1))[n - 1]?).getD (0, ⟨false, false, false, false, none, []⟩)⟩ := by
   unfold dOf
   rw [List.getElem?_map, List.getElem?_range (by omega)]
   show some (⟨(k.cs[m + (n - m)]?).getD bgX, m + (n - m) - 1, ((tcHw (n - 1))[m + (n - m) - 1]?).getD _⟩ : Cd) = some _
   rw [show m + (n - m) = n from by omega, hy, Option.getD_some]
  have hg := canK_get 2 2 (dOf (tcHw (n - 1)) k.cs m (k.cut - m)) m k.cs (n - m) _ hd (by omega)
  rw [show m + (n - m) = n from by omega] at hg
  exact ⟨_, hg, rfl⟩
 ·refine Rx.adv (nsA_lim2 hn.2 htl hsq (by omega)) ⟨by omega, by show now + 1 ≤ 100000; omega⟩ (fun nd nl steps g1 g2 g3 g4 => ?_)
  obtain ⟨f1, f2, ev', f3, f4, f5⟩ := can_wake (err := 2) (cause := 2) (c := nsA n a (now + 1) tms L sq) (k := k) (m := m) (pg := 0) (pc := ((2 * n + 3 : Nat) : Int)) (how := 0) (r := nsRw n a ((n - 1 : Nat) : Int) 1) (a := 3) (j := 4) (q := 5) h2 h3 hle (by omega) (fun i e1 e2 => h.al i (by omega) e2) rfl (by omega) (by show (0 : Int) ≤ ((n - 1 : Nat) : Int); omega) (by omega) (by simp [nsA]) (by simp [nsA]) (by simp [nsA]) nd nl steps g1 [] (by simp)
  obtain ⟨id, wh, se⟩ := it
  have h1 : id = (i : Int) := h1
  subst h1
  have hw : wh = now + 1 := hw
  subst hw
  have e7 : canL (dOf (nsA n a (now + 1) tms L sq).chs k.cs m (k.cut - m)) (nsA n a (now + 1) tms L sq).L = L := h7
  rw [e7] at f3
  have hf3 : lapS 2 2 (canO (dOf (tcHw (n - 1)) k.cs m (k.cut - m)) m) (canS (dOf (tcHw (n - 1)) k.cs m (k.cut - m)) ((nsA n a (now + 1) tms L sq).st nd nl steps [])) = (nsG n a (now + 1) (canC (dOf (tcHw (n - 1)) k.cs m (k.cut - m)) (tcHw (n - 1))) tms L sq).st nd nl steps ev' := by
   refine Eq.trans f3 ?_
   unfold nsG nsA
   rw [show ((2 * n + 4 : Nat) : Int) = ((2 * n + 3 : Nat) : Int) + 1 from by omega]
   rfl
  refine ⟨nd, ev', FiresI.lapse (s := (nsA n a (now + 1) tms (⟨(i : Int), now + 1, se⟩ :: L) sq).st nd nl steps []) (i := i) (m := m) (wh := now + 1) (se := se) (D := dOf (tcHw (n - 1)) k.cs m (k.cut - m)) (x := x) (ll := L) ((nsA_lim2 hn.2 htl hsq (by omega)).lim (by omega) (by omega) g3 (by omega) (by simp)) rfl (Int.le_refl _) h4 f1 h5 h6 f2 ?_, by omega, by simp only [List.length_nil] at f4; omega, f5⟩
  show FiresI (lapS 2 2 (canO (dOf (tcHw (n - 1)) k.cs m (k.cut - m)) m) (canS (dOf (tcHw (n - 1)) k.cs m (k.cut - m)) ((nsA n a (now + 1) tms L sq).st nd nl steps []))) _ _ _
  rw [hf3]
  refine FiresI.done _ _ (fun u hu => ?_)
  exact h8.asc u (List.mem_of_getElem? hu)
def nsRz (n : Nat) (a r3 r6 : Int) : Reg := ⟨0, n, a, r3, 0, 0, r6, 0⟩
def nsZ (n : Nat) (a now : Int) (chs : List (Nat × Chn)) (tms : List Tk) (L : List It) (sq : Int) : Cf := cfO now ⟨0, ((2 * n + 8 : Nat) : Int), 2, 0, nsRz n a ((n - 1 : Nat) : Int) 2, zI⟩ [] chs tms L sq
theorem ns_tail (hk : ks.length = n) (hn : 1 ≤ n ∧ n ≤ 6) (hc : chs.length ≤ 6) (ht : tms.length ≤ 6) (hsq : sq = tms.length) (h0 : 0 ≤ now ∧ now ≤ 1000) (hl : k.cs.length ≤ 7) (hy : ∃ y, k.cs[n]? = some y ∧ y.err = 2) : RunsTo [nsP ks] (nsG n a now chs tms L sq) k 8 [now, 2] (nsZ n a now chs tms L sq) k := by
 obtain ⟨y, hy1, hy2⟩ := hy
 have lim : ∀ tk rd, rd.length ≤ 50 → LimC (cfO now tk rd chs tms L sq) := fun tk rd hr => cfO_lim hr (by omega) (by omega) (by omega) (by omega)
 have e : ∀ j : Nat, ((2 * n + j : Nat) : Int) + 1 = ((2 * n + (j + 1) : Nat) : Int) := fun j => by omega
 have ge : ∀ j : Nat, (nsP ks)[((2 * n + j : Nat) : Int).toNat]? = nsE[j]? := fun j => by rw [Int.toNat_natCast, ← hk]; exact nsP_end j
 have ge2 : ∀ j : Nat, (nsP ks)[2 * n + j]? = nsE[j]? := fun j => by rw [← hk]; exact nsP_end j
 have pos : ∀ j : Nat, (0 : Int) ≤ ((2 * n + j : Nat) : Int) := fun j => by omega
 have s1 : ∀ p, Rx [nsP ks] (nsG n a now chs tms L sq) k (.run p) [] (cfO now ⟨0, ((2 * n + 5 : Nat) : Int), 0, 0, nsRz n a ((n - 1 : Nat) : Int) now, zI⟩ [0] chs tms L sq) k := fun p => by
  rw [← e 4]
  exact Rx.loc (ps := [nsP ks]) (n := p) (c := nsG n a now chs tms L sq) (k := k) (i := 0) (x := ⟨0, ((2 * n + 4 : Nat) : Int), 0, 0, nsRw n a ((n - 1 : Nat) : Int) 0, zI⟩) (p := nsP ks) (O := ⟨((2 * n + 4 : Nat) : Int) + 1, nsRz n a ((n - 1 : Nat) : Int) now, false, 0, false⟩) (lim _ _ (by simp)) (pick_one p 0) rfl rfl ⟨rfl, by simp, pos 4⟩ (by
   show locF (nsP ks) (((2 * n + 4 : Nat) : Int)).toNat _ _ = _
   rw [Int.toNat_natCast]
   exact locF_now (a := 6) (y := 0) (z := 0) (ge2 4) (by omega)) rfl rfl
 have s2 : ∀ p, Rx [nsP ks] (cfO now ⟨0, ((2 * n + 5 : Nat) : Int), 0, 0, nsRz n a ((n - 1 : Nat) : Int) now, zI⟩ [0] chs tms L sq) k (.run p) [now] (cfO now ⟨0, ((2 * n + 6 : Nat) : Int), 0, 0, nsRz n a ((n - 1 : Nat) : Int) now, zI⟩ [0] chs tms L sq) k := fun p => by
  rw [← e 5]
  exact Rx.told (ps := [nsP ks]) (n := p) (c := cfO now ⟨0, ((2 * n + 5 : Nat) : Int), 0, 0, nsRz n a ((n - 1 : Nat) : Int) now, zI⟩ [0] chs tms L sq) (k := k) (i := 0) (x := ⟨0, ((2 * n + 5 : Nat) : Int), 0, 0, nsRz n a ((n - 1 : Nat) : Int) now, zI⟩) (p := nsP ks) (O := ⟨((2 * n + 5 : Nat) : Int) + 1, nsRz n a ((n - 1 : Nat) : Int) now, true, now, false⟩) (lim _ _ (by simp)) (pick_one p 0) rfl rfl ⟨rfl, by simp, pos 5⟩ (by
   show locF (nsP ks) (((2 * n + 5 : Nat) : Int)).toNat _ _ = _
   rw [Int.toNat_natCast]
   exact locF_emit (a := 6) (z := 0) (ge2 5) (by omega)) rfl
 have s3 : ∀ p, Rx [nsP ks] (cfO now ⟨0, ((2 * n + 6 : Nat) : Int), 0, 0, nsRz n a ((n - 1 : Nat) : Int) now, zI⟩ [0] chs tms L sq) k (.run p) [] (cfO now ⟨0, ((2 * n + 7 : Nat) : Int), 0, 0, nsRz n a ((n - 1 : Nat) : Int) 2, zI⟩ [0] chs tms L sq) k := fun p => by
  rw [← e 6]
  refine Rx.ctx (ps := [nsP ks]) (n := p) (c := cfO now ⟨0, ((2 * n + 6 : Nat) : Int), 0, 0, nsRz n a ((n - 1 : Nat) : Int) now, zI⟩ [0] chs tms L sq) (k := k) (k2 := k) (i := 0) (x := ⟨0, ((2 * n + 6 : Nat) : Int), 0, 0, nsRz n a ((n - 1 : Nat) : Int) now, zI⟩) (p := nsP ks) (ins := ⟨27, 1, 6, 0⟩) (r2 := nsRz n a ((n - 1 : Nat) : Int) 2) (c2 := cfO now ⟨0, ((2 * n + 6 : Nat) : Int), 0, 0, nsRz n a ((n - 1 : Nat) : Int) now, zI⟩ [0] chs tms L sq) (lim _ _ (by simp)) (pick_one p 0) rfl rfl ⟨rfl, by simp, pos 6⟩ (ge 6) rfl (fun nd nl steps _ => ⟨nd, [], ?_, by omega, by simp, rfl⟩) rfl (by simp) (by simp) (by simp)
  have h1 := ActX.err (s := (cfO now ⟨0, ((2 * n + 6 : Nat) : Int), 0, 0, nsRz n a ((n - 1 : Nat) : Int) now, zI⟩ [0] chs tms L sq).st nd nl steps []) (k := k) (a := 1) (bb := 6) (cc := 0) (i := n) (r := nsRz n a ((n - 1 : Nat) : Int) now) (y := y) (by omega) rfl hy1 (by omega)
  rw [hy2] at h1
  exact h1
 have s4 : ∀ p, Rx [nsP ks] (cfO now ⟨0, ((2 * n + 7 : Nat) : Int), 0, 0, nsRz n a ((n - 1 : Nat) : Int) 2, zI⟩ [0] chs tms L sq) k (.run p) [2] (cfO now ⟨0, ((2 * n + 8 : Nat) : Int), 0, 0, nsRz n a ((n - 1 : Nat) : Int) 2, zI⟩ [0] chs tms L sq) k := fun p => by
  rw [← e 7]
  exact Rx.told (ps := [nsP ks]) (n := p) (c := cfO now ⟨0, ((2 * n + 7 : Nat) : Int), 0, 0, nsRz n a ((n - 1 : Nat) : Int) 2, zI⟩ [0] chs tms L sq) (k := k) (i := 0) (x := ⟨0, ((2 * n + 7 : Nat) : Int), 0, 0, nsRz n a ((n - 1 : Nat) : Int) 2, zI⟩) (p := nsP ks) (O := ⟨((2 * n + 7 : Nat) : Int) + 1, nsRz n a ((n - 1 : Nat) : Int) 2, true, 2, false⟩) (lim _ _ (by simp)) (pick_one p 0) rfl rfl ⟨rfl, by simp, pos 7⟩ (by
   show locF (nsP ks) (((2 * n + 7 : Nat) : Int)).toNat _ _ = _
   rw [Int.toNat_natCast]
   exact locF_emit (a := 6) (z := 0) (ge2 7) (by omega)) rfl
 have s5 : ∀ p, Rx [nsP ks] (cfO now ⟨0, ((2 * n + 8 : Nat) : Int), 0, 0, nsRz n a ((n - 1 : Nat) : Int) 2, zI⟩ [0] chs tms L sq) k (.run p) [] (nsZ n a now chs tms L sq) k := fun p =>
  Rx.ends (ps := [nsP ks]) (n := p) (c := cfO now ⟨0, ((2 * n + 8 : Nat) : Int), 0, 0, nsRz n a ((n - 1 : Nat) : Int) 2, zI⟩ [0] chs tms L sq) (k := k) (i := 0) (x := ⟨0, ((2 * n + 8 : Nat) : Int), 0, 0, nsRz n a ((n - 1 : Nat) : Int) 2, zI⟩) (p := nsP ks) (O := ⟨((2 * n + 8 : Nat) : Int), nsRz n a ((n - 1 : Nat) : Int) 2, false, 0, true⟩) (lim _ _ (by simp)) (pick_one p 0) rfl rfl ⟨rfl, by simp, pos 8⟩ (by
   show locF (nsP ks) (((2 * n + 8 : Nat) : Int)).toNat _ _ = _
   rw [Int.toNat_natCast]
   exact locF_end (by rw [nsP_len]; omega)) rfl rfl
 exact RunsTo.cons s1 (RunsTo.cons s2 (RunsTo.cons s3 (RunsTo.cons s4 (RunsTo.cons s5 (RunsTo.idle (lim _ _ (by simp)) rfl 3)))))
end
def nsRs : Nat → List Ent
 | 0 => []
 | j + 1 => .adv 1 :: (manyE 0 8 ++ nsRs j)
theorem manyE_len : ∀ n j, (manyE j n).length = n
 | 0, _ => rfl
 | n + 1, j => congrArg (· + 1) (manyE_len n (j + 1))
theorem nsRs_len : ∀ j, (nsRs j).length = 9 * j
 | 0 => rfl
 | j + 1 => by
  show (manyE 0 8 ++ nsRs j).length + 1 = _
  rw [List.length_append, manyE_len, nsRs_len j]
  omega
section
variable {ks : List Int} {n : Nat} {mn a sq : Int} {tms : List Tk}
theorem ns_late {ps : List (List Ins)} {now : Int} {chs : List (Nat × Chn)} {L : List It} {k : Cs} {tk : Tsk} (h : NsT [] now chs tms L k) (hsq : sq = tms.length) (h0 : 0 ≤ now ∧ now ≤ 500) : ∃ chs' L' k', NsT [] (now + 1) chs' tms L' k' ∧ Rx ps (cfO now tk [] chs tms L sq) k (.adv 1) [] (cfO (now + 1) tk [] chs' tms L' sq) k' := by
 have hcl := h.cl
 have htl := h.tl
 have lim : ∀ t c l, c.length ≤ 6 → 0 ≤ t ∧ t ≤ 1000 → LimC (cfO t tk [] c tms l sq) := fun t c l h1 h2 => cfO_lim (by simp) (by omega) (by omega) (by omega) (by omega)
 by_cases hd : ∀ it, L[0]? = some it → now + 1 < it.when
 ·refine ⟨chs, L, k, { h with asc := fun u hu => ?_ }, Rx.adv0 (lim _ _ _ hcl (by omega)) ⟨by omega, by show now + 1 ≤ 100000; omega⟩ hd⟩
  cases L with
  | nil => cases hu
  | cons it L' =>
   have h1 := hd it rfl
   obtain ⟨m, i, x, _, _, _, _, _, _, _, _, h9, _⟩ := h.rows
   rcases List.mem_cons.1 hu with rfl | hu
   ·exact h1
   ·have := (h9 u hu).1
    omega
 ·cases L with
  | nil => exact absurd (fun it hit => by cases hit) hd
  | cons it L =>
   have hw : it.when = now + 1 := by
    have h1 := h.asc it List.mem_cons_self
    have h2 : ¬ now + 1 < it.when := fun h3 => hd (fun u hu => by cases hu; exact h3)
    omega
   obtain ⟨m, i, x, h1, h2, h3, h4, h5, h6, h7, h8⟩ := h.lap
   have hle := h.le
   have hfew := h.few
   refine ⟨canC (dOf chs k.cs m (k.cut - m)) chs, L, canCs 2 2 (dOf chs k.cs m (k.cut - m)) m k, by rw [← hw]; exact h8, ?_⟩
   refine Rx.adv (lim _ _ _ hcl (by omega)) ⟨by omega, by show now + 1 ≤ 100000; omega⟩ (fun nd nl steps g1 g2 g3 g4 => ?_)
   obtain ⟨f1, f2, ev', f3, f4, f5⟩ := can_none (err := 2) (cause := 2) (c := cfO (now + 1) tk [] chs tms L sq) (k := k) (m := m) h2 h3 hle (by omega) (fun i e1 e2 => by
    have h9 := h.al i (by omega) e2
    split at h9
    ·exact h9
    ·exact h9) (by simp) (by simp) nd nl steps g1 [] (by simp)
   obtain ⟨id, wh, se⟩ := it
   have h1 : id = (i : Int) := h1
   subst h1
   have hw : wh = now + 1 := hw
   subst hw
   have e7 : canL (dOf (cfO (now + 1) tk [] chs tms L sq).chs k.cs m (k.cut - m)) (cfO (now + 1) tk [] chs tms L sq).L = L := h7
   rw [e7] at f3
   refine ⟨nd, ev', FiresI.lapse (s := (cfO (now + 1) tk [] chs tms (⟨(i : Int), now + 1, se⟩ :: L) sq).st nd nl steps []) (i := i) (m := m) (wh := now + 1) (se := se) (D := dOf chs k.cs m (k.cut - m)) (x := x) (ll := L) ((lim _ _ _ hcl (by omega)).lim (by omega) (by omega) g3 (by omega) (by simp)) rfl (Int.le_refl _) h4 f1 h5 h6 f2 ?_, by omega, by simp only [List.length_nil] at f4; omega, f5⟩
   show FiresI (lapS 2 2 (canO (dOf chs k.cs m (k.cut - m)) m) (canS (dOf chs k.cs m (k.cut - m)) ((cfO (now + 1) tk [] chs tms L sq).st nd nl steps []))) _ _ _
   have hf3 : lapS 2 2 (canO (dOf chs k.cs m (k.cut - m)) m) (canS (dOf chs k.cs m (k.cut - m)) ((cfO (now + 1) tk [] chs tms L sq).st nd nl steps [])) = (cfO (now + 1) tk [] (canC (dOf chs k.cs m (k.cut - m)) chs) tms L sq).st nd nl steps ev' := f3
   rw [hf3]
   exact FiresI.done _ _ (fun u hu => h8.asc u (List.mem_of_getElem? hu))
theorem ns_lates {ps : List (List Ins)} {tk : Tsk} (hsq : sq = tms.length) : ∀ (j : Nat) (now : Int) (chs : List (Nat × Chn)) (L : List It) (k : Cs), NsT [] now chs tms L k → 0 ≤ now → now + j ≤ 500 → ∃ c' k', Rxs ps (cfO now tk [] chs tms L sq) k (nsRs j) [] c' k'
 | 0, now, chs, L, k, h, _, _ => ⟨_, _, ⟨rfl, rfl, rfl⟩⟩
 | j + 1, now, chs, L, k, h, h1, h2 => by
  obtain ⟨chs', L', k2, g1, g2⟩ := ns_late (ps := ps) (tk := tk) h hsq ⟨h1, by omega⟩
  obtain ⟨c', k', g3⟩ := ns_lates (ps := ps) (tk := tk) hsq j (now + 1) chs' L' k2 g1 (by omega) (by omega)
  have hcl := g1.cl
  have htl := g1.tl
  have hi := RunsTo.idle (ps := ps) (k := k2) (c := cfO (now + 1) tk [] chs' tms L' sq) (cfO_lim (by simp) (by omega) (by omega) (by omega) (by omega)) rfl 8
  exact ⟨c', k', Rxs.cons g2 ((hi.many 0).append g3)⟩
theorem ns_rounds (hk : ks.length = n) (hn : 1 ≤ n ∧ n ≤ 6) (hsq : sq = tms.length) {L : List It} {k : Cs} (hcut : k.cut = n + 1) (hd : ∃ it L', L = it :: L' ∧ it.when = mn) (hmn : mn ≤ 100) : ∀ (j : Nat) (now : Int), NsT [⟨0, 0, 0⟩] now (tcHw (n - 1)) tms L k → 0 ≤ now → now < mn → mn ≤ now + j → j ≤ 200 → ∃ c' k', Rxs [nsP ks] (nsA n a now tms L sq) k (nsRs j) [mn, 2] c' k'
 | 0, now, h, h1, h2, h3, h4 => by omega
 | j + 1, now, h, h1, h2, h3, h4 => by
  obtain ⟨it, L', rfl, hw⟩ := hd
  have hcl := h.cl
  have htl := h.tl
  by_cases he : mn = now + 1
  ·obtain ⟨chs', k2, g1, g2, g3⟩ := ns_fire (ks := ks) (a := a) hn h hcut hsq ⟨h1, by omega⟩ (by omega)
   have g4 := ns_tail (ks := ks) (n := n) (a := a) (sq := sq) (now := now + 1) (L := L') (chs := chs') (tms := tms) (k := k2) hk hn g1.cl g1.tl hsq ⟨by omega, by omega⟩ g1.few g2
   obtain ⟨c', k', g5⟩ := ns_lates (ps := [nsP ks]) (tk := ⟨0, ((2 * n + 8 : Nat) : Int), 2, 0, nsRz n a ((n - 1 : Nat) : Int) 2, zI⟩) hsq j (now + 1) chs' L' k2 g1 (by omega) (by omega)
   rw [he]
   exact ⟨c', k', Rxs.cons g3 ((g4.many 0).append g5)⟩
  ·have hlt : now + 1 < it.when := by omega
   have g1 : Rx [nsP ks] (nsA n a now tms (it :: L') sq) k (.adv 1) [] (nsA n a (now + 1) tms (it :: L') sq) k :=
    Rx.adv0 (nsA_lim2 hn.2 htl hsq (by omega)) ⟨by omega, by show now + 1 ≤ 100000; omega⟩ (fun u hu => by cases hu; exact hlt)
   have g0 : ∀ u ∈ it :: L', now + 1 < u.when := fun u hu => by
    obtain ⟨m, i, x, _, _, _, _, _, _, _, _, h9, _⟩ := h.rows
    rcases List.mem_cons.1 hu with rfl | hu
    ·exact hlt
    ·have := (h9 u hu).1
     omega
   have g2 : NsT [⟨0, 0, 0⟩] (now + 1) (tcHw (n - 1)) tms (it :: L') k := ⟨h.rows, h.le, h.few, h.al, g0, h.cl, h.tl⟩
   obtain ⟨c', k', g3⟩ := ns_rounds hk hn hsq hcut ⟨it, L', rfl, hw⟩ hmn j (now + 1) g2 (by omega) (by omega) (by omega) (by omega)
   have hi := RunsTo.idle (ps := [nsP ks]) (k := k) (c := nsA n a (now + 1) tms (it :: L') sq) (nsA_lim2 hn.2 htl hsq (by omega)) rfl 8
   exact ⟨c', k', Rxs.cons g1 ((hi.many 0).append g3)⟩
theorem ns_all (hlen : 1 ≤ ks.length ∧ ks.length ≤ 6) (hks : ∀ x ∈ ks, 1 ≤ x ∧ x ≤ 100) : ∃ E s' k', ExX [nsP ks] initS k0 (manyE 0 ((nsP ks).length + 2) ++ nsRs 101) E s' k' ∧ E.length ≤ 1000000 ∧ toldM E 0 = [nsMin ks, nsMin ks, 2] := by
 obtain ⟨a, k, tms, L, sq, h1, h2, h3⟩ := ns_first hlen hks
 have hm := h1.mz.2 hlen.1
 obtain ⟨c', k', h4⟩ := ns_rounds (ks := ks) (a := a) (mn := nsMin ks) rfl hlen h1.sq h2 (h1.hd hlen.1) hm.2 101 0 (h1.t hlen h2) (by omega) (by omega) (by omega) (by omega)
 have h5 := (h3.many 0).append h4
 have hl := nsP_len ks
 have hll : (manyE 0 ((nsP ks).length + 2) ++ nsRs 101).length ≤ 1000 := by
  rw [List.length_append, manyE_len, nsRs_len]
  omega
 obtain ⟨E, nd, nl, ev, h6, -, -, -, h7, h8⟩ := Rxs.ex (nd := 0) (nl := 0) (steps := 0) (ev := []) h5 (by omega) (by omega) (by omega) (by omega) (by simp)
 exact ⟨E, _, _, h6, by omega, h8⟩
end
theorem step_F2 {CX : World → (Nat → Prop) → Prop} {w : World} {b : Wp} {o : Nat → Nat} {ps : List (List Ins)} {s : Wst} {s' : Wst} {e : Ent} (hx : Ext CX) (hps : PsOK ps) (hW : WA CX w b o ps s) (hf : stepF ps s e = some s') :
  Calls Tryz.prog 9 #[.pointer (some ⟨b.pb, 0, none⟩), entV e] w fun e w' => ∃ v, e = .returned v ∧ ∃ o', WA CX w' b o' ps s' ∧ Owns evC 45 6 w' v s'.ev ∧ (∀ k, v.ownBlock = some k → ¬ Own o' k ∧ w.heap.size ≤ k) ∧ Stp w w' (Own o) (Own o') := by
 obtain ⟨hi, cps, hcl, hw⟩ := hW
 refine (step_Fp hx hps hi hcl hw hf).mono ?_
 rintro e w' ⟨v, rfl, o', ⟨hi2, cps2, -, hc2, hw2⟩, h3, h4, h5⟩
 exact ⟨v, rfl, o', ⟨hi2, cps2, hc2, hw2⟩, h3, h4, h5⟩
theorem worldnew_c2 {ps : List (List Ins)} {b off cap : Nat} (w : World) (hp : ProgsC ps) (hne : ∀ p ∈ ps, 1 ≤ p.length) (h : RowsIn w b off ps) :
  Calls Tryz.prog 8 #[.slice (some ⟨b, off, none⟩) ps.length cap] w fun e w' => ∃ wp o, e = .returned (.tuple #[.pointer (some ⟨wp.pb, 0, none⟩), .int .i64 0]) ∧ WA CX0 w' wp o ps initS ∧ Made w w' ∧ (∀ k, Own o k → w.heap.size ≤ k) := by
 refine (worldnew_x (cap := cap) w hp hne h).mono ?_
 rintro e w' ⟨wp, o, rfl, ⟨hi, -, cps, hcl, vp, vc, vl, ve, h1⟩, hm, hlo⟩
 exact ⟨wp, o, rfl, ⟨hi, cps, hcl, vp, vc, vl, ve, { blk := h1.blk, ob := h1.ob, lt := h1.lt, clk := h1.clk, ok := h1.ok, tab := h1.tab, tms := h1.tms, dls := h1.dls, ctx := trivial, prs := h1.prs, crow := h1.crow, co := h1.co, lrow := h1.lrow, lo := h1.lo, erow := h1.erow, eo := h1.eo, cnd := h1.cnd, chn := h1.chn }⟩, hm, hlo⟩
theorem awake_x (w : World) : Calls Tryz.prog 7 #[] w fun e w' => e = .returned (.bool true) ∧ Made w w' := by
 have hb1 := Blk.new w 25 #[.int .i64 1, .int .i64 1, .int .i64 10, .int .i64 0, .slice none 0 0, .bool false, .int .i64 17, .int .i64 0, .int .i64 1, .int .i64 2, .slice none 0 0, .bool false, .int .i64 20, .int .i64 0, .int .i64 3, .int .i64 0, .slice none 0 0, .bool false, .int .i64 6, .int .i64 3, .int .i64 0, .int .i64 0, .slice none 0 0, .bool false, .int .i64 11, .int .i64 2, .int .i64 4, .int .i64 5, .slice none 0 0, .bool false]
 have hm1 := (zT w).alloc (.cells #[.int .i64 1, .int .i64 1, .int .i64 10, .int .i64 0, .slice none 0 0, .bool false, .int .i64 17, .int .i64 0, .int .i64 1, .int .i64 2, .slice none 0 0, .bool false, .int .i64 20, .int .i64 0, .int .i64 3, .int .i64 0, .slice none 0 0, .bool false, .int .i64 6, .int .i64 3, .int .i64 0, .int .i64 0, .slice none 0 0, .bool false, .int .i64 11, .int .i64 2, .int .i64 4, .int .i64 5, .slice none 0 0, .bool false] 25)
 have hs : (w.alloc (.cells #[.int .i64 1, .int .i64 1, .int .i64 10, .int .i64 0, .slice none 0 0, .bool false, .int .i64 17, .int .i64 0, .int .i64 1, .int .i64 2, .slice none 0 0, .bool false, .int .i64 20, .int .i64 0, .int .i64 3, .int .i64 0, .slice none 0 0, .bool false, .int .i64 6, .int .i64 3, .int .i64 0, .int .i64 0, .slice none 0 0, .bool false, .int .i64 11, .int .i64 2, .int .i64 4, .int .i64 5, .slice none 0 0, .bool false] 25)).heap.size = w.heap.size + 1 := by simp
 have hb2 := Blk.new (w.alloc (.cells #[.int .i64 1, .int .i64 1, .int .i64 10, .int .i64 0, .slice none 0 0, .bool false, .int .i64 17, .int .i64 0, .int .i64 1, .int .i64 2, .slice none 0 0, .bool false, .int .i64 20, .int .i64 0, .int .i64 3, .int .i64 0, .slice none 0 0, .bool false, .int .i64 6, .int .i64 3, .int .i64 0, .int .i64 0, .slice none 0 0, .bool false, .int .i64 11, .int .i64 2, .int .i64 4, .int .i64 5, .slice none 0 0, .bool false] 25)) 26 #[.slice (some ⟨w.heap.size, 0, none⟩) 5 5]
 rw [hs] at hb2
 have hm2 := (zT (w.alloc (.cells #[.int .i64 1, .int .i64 1, .int .i64 10, .int .i64 0, .slice none 0 0, .bool false, .int .i64 17, .int .i64 0, .int .i64 1, .int .i64 2, .slice none 0 0, .bool false, .int .i64 20, .int .i64 0, .int .i64 3, .int .i64 0, .slice none 0 0, .bool false, .int .i64 6, .int .i64 3, .int .i64 0, .int .i64 0, .slice none 0 0, .bool false, .int .i64 11, .int .i64 2, .int .i64 4, .int .i64 5, .slice none 0 0, .bool false] 25))).alloc (.cells #[.slice (some ⟨w.heap.size, 0, none⟩) 5 5] 26)
 have hr : RowIn insC 6 ((w.alloc (.cells #[.int .i64 1, .int .i64 1, .int .i64 10, .int .i64 0, .slice none 0 0, .bool false, .int .i64 17, .int .i64 0, .int .i64 1, .int .i64 2, .slice none 0 0, .bool false, .int .i64 20, .int .i64 0, .int .i64 3, .int .i64 0, .slice none 0 0, .bool false, .int .i64 6, .int .i64 3, .int .i64 0, .int .i64 0, .slice none 0 0, .bool false, .int .i64 11, .int .i64 2, .int .i64 4, .int .i64 5, .slice none 0 0, .bool false] 25)).alloc (.cells #[.slice (some ⟨w.heap.size, 0, none⟩) 5 5] 26)) (some ⟨w.heap.size, 0, none⟩) 5 awP := RowIn.ofBlk insC_len (show Blk _ _ 25 (flat insC awP).toArray from hb1.turns hm2 (fun h => h))
 have hrs : RowsIn ((w.alloc (.cells #[.int .i64 1, .int .i64 1, .int .i64 10, .int .i64 0, .slice none 0 0, .bool false, .int .i64 17, .int .i64 0, .int .i64 1, .int .i64 2, .slice none 0 0, .bool false, .int .i64 20, .int .i64 0, .int .i64 3, .int .i64 0, .slice none 0 0, .bool false, .int .i64 6, .int .i64 3, .int .i64 0, .int .i64 0, .slice none 0 0, .bool false, .int .i64 11, .int .i64 2, .int .i64 4, .int .i64 5, .slice none 0 0, .bool false] 25)).alloc (.cells #[.slice (some ⟨w.heap.size, 0, none⟩) 5 5] 26)) (w.heap.size + 1) 0 [awP] := ⟨hb2.lt, fun i p hp => by
  cases i with
  | zero =>
   cases hp
   exact ⟨_, 5, hb2.cell 0, hr⟩
  | succ i => simp at hp⟩
 have HNW := zh (worldnew_c2 (cap := 1) _ awProgs (by simp [awP]) hrs)
 have HM := zh (hm1.trans hm2)
 clear hb1 hb2 hr hrs hm1 hm2 hs
 go_enter Tryz.func7, Tryz.ntmps7
 go_wp2_with fail
 refine HNW.out.mono ?_
 rintro e w1 ⟨b, o0, rfl, hw, hmw, hlo⟩
 have HPS := zh awProgs.ok
 have HLO := zh hlo
 have HSZ := zh (HM.out.trans hmw)
 have HST := zh (step_F2 (e := .run 0) CX0.ext HPS.out hw awS1)
 clear hw hmw hlo
 go_wp2_with fail
 refine HST.out.mono ?_
 rintro e w2 ⟨v1, rfl, o1, hw, -, -, hs1⟩
 have HST2 := zh (step_F2 (e := .run 0) CX0.ext HPS.out hw awS2)
 have HS1 := zh hs1
 clear hw hs1
 go_wp2_with fail
 refine HST2.out.mono ?_
 rintro e w3 ⟨v2, rfl, o2, hw, -, -, hs1⟩
 have HST3 := zh (step_F2 (e := .adv 20) CX0.ext HPS.out hw awS3)
 have HS2 := zh (HS1.out.trans hs1)
 clear hw hs1
 go_wp2_with fail
 refine HST3.out.mono ?_
 rintro e w4 ⟨vf, rfl, o3, hw, hof, hff, hs1⟩
 have HST4 := zh (step_F2 (e := .run 0) CX0.ext HPS.out hw awS4)
 have HS3 := zh (HS2.out.trans hs1)
 have HF := zh (And.intro hof (fun k hk => (hff k hk).1))
 clear hw hs1 hof hff
 go_wp2_with fail
 refine HST4.out.mono ?_
 rintro e w5 ⟨v4, rfl, o4, hw, -, -, hs1⟩
 have HST5 := zh (step_F2 (e := .run 0) CX0.ext HPS.out hw awS5)
 have HS4 := zh (HS3.out.trans hs1)
 have HF2 := zh (show Owns evC 45 6 w5 vf _ ∧ ∀ k, vf.ownBlock = some k → ¬ Own o4 k from ⟨HF.out.1.turns hs1.t HF.out.2, fun k hk h0 => (hs1.f k h0).elim (HF.out.2 k hk) (fun h => absurd (HF.out.1.lt hk) (Nat.not_lt.2 h))⟩)
 clear hw hs1
 go_wp2_with fail
 refine HST5.out.mono ?_
 rintro e w6 ⟨vt, rfl, o5, hw, hot, hft, hs1⟩
 have HST6 := zh (step_F2 (e := .run 0) CX0.ext HPS.out hw awS6)
 have HS5 := zh (HS4.out.trans hs1)
 have HF3 := zh (show Owns evC 45 6 w6 vf _ ∧ ∀ k, vf.ownBlock = some k → ¬ Own o5 k from ⟨HF2.out.1.turns hs1.t HF2.out.2, fun k hk h0 => (hs1.f k h0).elim (HF2.out.2 k hk) (fun h => absurd (HF2.out.1.lt hk) (Nat.not_lt.2 h))⟩)
 have HT := zh (And.intro hot (fun k hk => (hft k hk).1))
 clear hw hs1 hot hft
 go_wp2_with fail
 refine HST6.out.mono ?_
 rintro e w7 ⟨vl, rfl, o6, hw, hol, -, hs1⟩
 have HS6 := zh (HS5.out.trans hs1)
 obtain ⟨gf, cf, rfl, f1, f3, f4⟩ := one_ev (HF3.out.1.turns hs1.t HF3.out.2)
 obtain ⟨gt, ct, rfl, t1, t3, t4⟩ := one_ev (HT.out.1.turns hs1.t HT.out.2)
 obtain ⟨gl, cl, rfl, l1, l3, l4⟩ := one_ev hol
 simp only at f1 f3 f4 t1 t3 t4 l1 l3 l4
 clear hw hol hs1
 go_wp2_with fail
 go_returns
 exact ⟨rfl, HSZ.out.then HS6.out.t (fun k hk h => absurd (HLO.out k h) (by have := HM.out.size; omega))⟩
theorem nsE_len : nsE.length = 8 := rfl
theorem nsProgs {ks : List Int} (hn : ks.length ≤ 6) : ProgsC [nsP ks] := by
 have hm : ∀ x ∈ nsB ks, (∃ k, x = ⟨1, 2, k, 0⟩) ∨ x = ⟨23, 1, 1, 2⟩ := fun x hx => by
  unfold nsB at hx
  obtain ⟨k, -, h⟩ := List.mem_flatMap.1 hx
  simp only [List.mem_cons, List.not_mem_nil, or_false] at h
  rcases h with h | h
  ·exact .inl ⟨k, h⟩
  ·exact .inr h
 refine ⟨by simp, by simp, ?_, fun p hp x hx => ?_, fun p hp x hx => ?_⟩
 ·intro p hp
  simp only [List.mem_singleton] at hp
  subst hp
  rw [nsP_len]; omega
 ·simp only [List.mem_singleton] at hp
  subst hp
  rcases List.mem_append.1 hx with h | h
  ·rcases hm x h with ⟨k, rfl⟩ | rfl
   ·exact good_1 _ _ _ _ (by omega) rfl
   ·exact good_23 _ _ _ _ (by omega) (by omega) (by omega)
  ·simp only [nsE, List.mem_cons, List.not_mem_nil, or_false] at h
   rcases h with rfl | rfl | rfl | rfl | rfl | rfl | rfl | rfl
   ·exact good_30 _ _ _ _ (by omega) (by omega) (by omega)
   ·exact good_6 _ _ _ _ (by omega) rfl rfl
   ·exact good_29 _ _ _ _ (by omega) (by omega) rfl
   ·exact good_11 _ _ _ _ (by omega) (by omega) (by omega)
   ·exact good_16 _ _ _ _ (by omega) rfl rfl
   ·exact good_6 _ _ _ _ (by omega) rfl rfl
   ·exact good_27 _ _ _ _ (by omega) (by omega) rfl
   ·exact good_6 _ _ _ _ (by omega) rfl rfl
 ·simp only [List.mem_singleton] at hp
  subst hp
  rcases List.mem_append.1 hx with h | h
  ·rcases hm x h with ⟨k, rfl⟩ | rfl
   ·exact .inr ⟨by simp, by simp, by simp, by simp⟩
   ·exact .inr ⟨by simp, by simp, by simp, by simp⟩
  ·simp only [nsE, List.mem_cons, List.not_mem_nil, or_false] at h
   rcases h with rfl | rfl | rfl | rfl | rfl | rfl | rfl | rfl
   ·exact .inr ⟨by simp, by simp, by simp, by simp⟩
   ·exact .inr ⟨by simp, by simp, by simp, by simp⟩
   ·exact .inr ⟨by simp, by simp, by simp, by simp⟩
   ·exact .inr ⟨by simp, by simp, by simp, by simp⟩
   ·exact .inr ⟨by simp, by simp, by simp, by simp⟩
   ·exact .inr ⟨by simp, by simp, by simp, by simp⟩
   ·exact .inr ⟨by simp, by simp, by simp, by simp⟩
   ·exact .inr ⟨by simp, by simp, by simp, by simp⟩
theorem nsRs_take {j : Nat} (h : j < 101) : nsRs (101 - j) = .adv 1 :: (manyE 0 8 ++ nsRs (101 - (j + 1))) := by
 rw [show 101 - j = (101 - (j + 1)) + 1 from by omega]
 rfl
theorem take_snoc {xs : List Int} {j : Nat} {x : Int} (h : xs[j]? = some x) : xs.take (j + 1) = xs.take j ++ [x] := by
 rw [List.take_add_one, h]
 rfl
def nsKs (z : List Int) : List Int := z.map fun x => 1 + x % 100
theorem nsKs_len (z : List Int) : (nsKs z).length = z.length := by simp [nsKs]
theorem nsKs_get {z : List Int} {j : Nat} {x : Int} (h : z[j]? = some x) : (nsKs z)[j]? = some (1 + x % 100) := by simp [nsKs, h]
theorem nsKs_in (z : List Int) : ∀ x ∈ nsKs z, 1 ≤ x ∧ x ≤ 100 := fun x hx => by
 simp only [nsKs, List.mem_map] at hx
 obtain ⟨y, -, rfl⟩ := hx
 omega
theorem nested_w (a0 : Option Addr) (len0 cap0 : Nat) (z0 : List Int) (w : World) (hz0r : RowIn encI 1 w a0 len0 z0) (hcap : len0 ≤ cap0) : Calls Tryz.prog 6 #[.slice a0 len0 cap0] w fun e w' => e = .returned (.bool true) ∧ Made w w' := by
 have HZ := zh hz0r
 clear hz0r
 go_enter Tryz.func6, Tryz.ntmps6
 by_cases h1 : (len0 : Int) < 1
 ·go_wp2_with fail
  refine (awake_x _).mono ?_
  rintro e w1 ⟨rfl, hm⟩
  have HM := zh hm
  clear hm
  go_wp2_with fail
  go_returns
  exact ⟨rfl, HM.out⟩
 by_cases h2 : 6 < (len0 : Int)
 ·go_wp2_with fail
  refine (awake_x _).mono ?_
  rintro e w1 ⟨rfl, hm⟩
  have HM := zh hm
  clear hm
  go_wp2_with fail
  go_returns
  exact ⟨rfl, HM.out⟩
 have HB : Hid ((1 ≤ len0 ∧ len0 ≤ 6) ∧ z0.length = len0) := zh ⟨by omega, HZ.out.1⟩
 have HG0 := zh (show Grow insC 25 6 w w (.slice none 0 0) (nsB ((nsKs z0).take 0)) from ⟨Turns.refl _ w, Owns.nil, fun c hc => by cases hc⟩)
 obtain ⟨i1, hi1, hy0, hy1, hy2⟩ := info_parts Tryz.infoIns6
 go_wp2_with fail
 go_loopw [3, 4, 5] (fun v3 v4 v5 wr => ∃ (j : Nat) (mn : Int), j ≤ len0 ∧ v5 = .int .i64 j ∧ v4 = .int .i64 mn ∧ mn = nsMin ((nsKs z0).take j) ∧ Grow insC 25 6 w wr v3 (nsB ((nsKs z0).take j))) (fun _ _ v5 _ => len0 - (intOf v5).toNat)
 case atStart => exact ⟨0, 0, Nat.zero_le _, rfl, rfl, rfl, HG0.out⟩
 case round =>
  obtain ⟨j, mn, hj, rfl, rfl, hmn, hg⟩ := hrel
  have HG := zh hg
  have HMN := zh hmn
  clear hg hmn
  have j1 : (0 : Int) ≤ (j : Int) := Int.natCast_nonneg _
  by_cases hjl : j < len0
  ·have j2 : (j : Int) < (len0 : Int) := by omega
   obtain ⟨x, hx⟩ := get_of_lt (xs := z0) (k := j) (by have := HB.out.2; omega)
   obtain ⟨-, hl0 | ⟨bb, off, rfl, hbb, hlies⟩⟩ := HZ.out.made HG.out.made
   ·omega
   have hcell := hlies j x hx 0 (.int .i64 x) rfl
   simp only [Nat.mul_one, Nat.add_zero] at hcell
   obtain ⟨y, hy⟩ : ∃ y, y = x % 100 := ⟨_, rfl⟩
   have hrc := round_c x 100 wr (by omega) (by omega)
   rw [← hy] at hrc
   have HRC := zh hrc
   have HY : Hid ((0 ≤ y ∧ y < 100) ∧ (nsKs z0)[j]? = some (1 + y)) := zh ⟨by omega, by rw [hy]; exact nsKs_get hx⟩
   have hi1w := IntWalk.i64_in (1 + y) (by have := HY.out.1; omega)
   have HGA := zh (HG.out.alloc (.cells #[.int .i64 1, .int .i64 2, .int .i64 (1 + y), .int .i64 0, .slice none 0 0, .bool false, .int .i64 23, .int .i64 1, .int .i64 1, .int .i64 2, .slice none 0 0, .bool false] 25))
   have HS := zh (SrcAt.block (enc := insC) (N := [⟨1, 2, 1 + y, 0⟩, ⟨23, 1, 1, 2⟩]) (n := 2) (c := 2) (Blk.new wr 25 #[.int .i64 1, .int .i64 2, .int .i64 (1 + y), .int .i64 0, .slice none 0 0, .bool false, .int .i64 23, .int .i64 1, .int .i64 1, .int .i64 2, .slice none 0 0, .bool false]) rfl rfl)
   clear hrc hy hx hlies hbb
   go_wp2_with fail
   refine HRC.out.mono ?_
   rintro e wq ⟨rfl, rfl⟩
   clear hcell
   go_upto_region 10 with (at_builtin; refine wpList_grow rfl (.tmp 32) (.tmp 36) 26 rfl i1 _ 64 Tryz.underlying26 hi1 hy0 hy1 hy2 rfl (by omega) insC_len insC_one rfl HGA.out rfl HS.out (by have h8 := HB.out; have h9 : ((nsKs z0).take j).length ≤ 6 := (by rw [List.length_take, nsKs_len]; omega); rw [nsB_len]; simp only [List.length_cons, List.length_nil] <;> (unfold maxLen; omega)) (by have h8 := HB.out; have h9 : ((nsKs z0).take j).length ≤ 6 := (by rw [List.length_take, nsKs_len]; omega); rw [nsB_len]; simp only [List.length_cons, List.length_nil] <;> omega) ?_; intro v3 w3 hg3 hF3 hS3 hO3; have HG3 := zh hg3; clear hg3 hF3 hS3 hO3)
   have HG4 := zh (show Grow insC 25 6 w w3 v3 (nsB ((nsKs z0).take (j + 1))) from by rw [take_snoc HY.out.2, nsB_snoc]; exact HG3.out)
   have HM4 := zh (show nsMin ((nsKs z0).take (j + 1)) = if mn = 0 ∨ 1 + y < mn then 1 + y else mn from by rw [take_snoc HY.out.2, nsMin_snoc, ← HMN.out])
   clear hi1w
   by_cases h0 : mn = 0
   ·have b1 : (mn == 0) = true := by simp [h0]
    have HE := zh (show 1 + y = nsMin ((nsKs z0).take (j + 1)) from by rw [HM4.out, if_pos (.inl h0)])
    clear h0
    go_wp2_with fail
    go_roundw
    case rel => exact ⟨j + 1, 1 + y, by omega, by go_num, rfl, HE.out, HG4.out⟩
    case measure => simp [intOf]; omega
   ·have b1 : (mn == 0) = false := by simp [h0]
    by_cases hlt : 1 + y < mn
    ·have HE := zh (show 1 + y = nsMin ((nsKs z0).take (j + 1)) from by rw [HM4.out, if_pos (.inr hlt)])
     clear h0
     go_wp2_with fail
     go_roundw
     case rel => exact ⟨j + 1, 1 + y, by omega, by go_num, rfl, HE.out, HG4.out⟩
     case measure => simp [intOf]; omega
    ·have HE := zh (show mn = nsMin ((nsKs z0).take (j + 1)) from by rw [HM4.out, if_neg (fun h => h.elim h0 hlt)])
     clear h0
     go_wp2_with fail
     go_roundw
     case rel => exact ⟨j + 1, mn, by omega, by go_num, rfl, HE.out, HG4.out⟩
     case measure => simp [intOf]; omega
  ·have j2 : ¬ (j : Int) < (len0 : Int) := by omega
   have htk : (nsKs z0).take j = nsKs z0 := List.take_of_length_le (by rw [nsKs_len]; have := HB.out.2; omega)
   have HGB := zh (show Grow insC 25 6 w wr _ (nsB (nsKs z0)) from by rw [← htk]; exact HG.out)
   have HMB := zh (show mn = nsMin (nsKs z0) from by rw [← htk]; exact HMN.out)
   have HGA := zh (HGB.out.alloc (.cells #[.int .i64 30, .int .i64 1, .int .i64 3, .int .i64 4, .slice none 0 0, .bool false, .int .i64 6, .int .i64 3, .int .i64 0, .int .i64 0, .slice none 0 0, .bool false, .int .i64 29, .int .i64 1, .int .i64 3, .int .i64 0, .slice none 0 0, .bool false, .int .i64 11, .int .i64 3, .int .i64 4, .int .i64 5, .slice none 0 0, .bool false, .int .i64 16, .int .i64 6, .int .i64 0, .int .i64 0, .slice none 0 0, .bool false, .int .i64 6, .int .i64 6, .int .i64 0, .int .i64 0, .slice none 0 0, .bool false, .int .i64 27, .int .i64 1, .int .i64 6, .int .i64 0, .slice none 0 0, .bool false, .int .i64 6, .int .i64 6, .int .i64 0, .int .i64 0, .slice none 0 0, .bool false] 25))
   have HS := zh (SrcAt.block (enc := insC) (N := nsE) (n := 8) (c := 8) (Blk.new wr 25 #[.int .i64 30, .int .i64 1, .int .i64 3, .int .i64 4, .slice none 0 0, .bool false, .int .i64 6, .int .i64 3, .int .i64 0, .int .i64 0, .slice none 0 0, .bool false, .int .i64 29, .int .i64 1, .int .i64 3, .int .i64 0, .slice none 0 0, .bool false, .int .i64 11, .int .i64 3, .int .i64 4, .int .i64 5, .slice none 0 0, .bool false, .int .i64 16, .int .i64 6, .int .i64 0, .int .i64 0, .slice none 0 0, .bool false, .int .i64 6, .int .i64 6, .int .i64 0, .int .i64 0, .slice none 0 0, .bool false, .int .i64 27, .int .i64 1, .int .i64 6, .int .i64 0, .slice none 0 0, .bool false, .int .i64 6, .int .i64 6, .int .i64 0, .int .i64 0, .slice none 0 0, .bool false]) rfl rfl)
   clear hjl hj htk
   go_wp2_with (at_builtin; refine wpList_grow rfl (.tmp 46) (.tmp 55) 26 rfl i1 _ 64 Tryz.underlying26 hi1 hy0 hy1 hy2 rfl (by omega) insC_len insC_one rfl HGA.out rfl HS.out (by have h8 := HB.out; rw [nsB_len, nsKs_len, nsE_len] <;> (unfold maxLen; omega)) (by have h8 := HB.out; rw [nsB_len, nsKs_len, nsE_len] <;> omega) ?_; intro v7 w7 hg7 hF7 hS7 hO7; have hg8 : Grow insC 25 6 w w7 v7 (nsP (nsKs z0)) := hg7; obtain ⟨ap, np, cp, hnp, rfl⟩ : ∃ a n c, n = (nsP (nsKs z0)).length ∧ v7 = .slice a n c := (by obtain ⟨a, c, h⟩ := owns_slice hg8.own; exact ⟨a, _, c, rfl, h⟩); have HG7 := zh (And.intro hnp hg8); clear hnp hg8 hg7 hF7 hS7 hO7)
   obtain ⟨hnp, hg3⟩ := HG7.out
   clear HG7 HGA HS HG HG0 HGB HMN hy0 hy1 hy2 hi1 j1 j2
   obtain ⟨ap', cp', heq, hrp, -⟩ := hg3.own.rowIn insC_len
   simp only [Value.slice.injEq] at heq
   obtain ⟨rfl, -, rfl⟩ := heq
   have hmr := (zT w7).alloc (.cells #[.slice ap np cp] 26)
   have hbr := Blk.new w7 26 #[.slice ap np cp]
   have hrs : RowsIn (w7.alloc (.cells #[.slice ap np cp] 26)) w7.heap.size 0 [nsP (nsKs z0)] := ⟨hbr.lt, fun k p hp => by
    cases k with
    | zero =>
     cases hp
     exact ⟨ap, cp, by rw [← hnp]; exact hbr.cell 0, hrp.made hmr⟩
    | succ k => simp at hp⟩
   have HNW := zh (worldnew_x (cap := 1) _ (nsProgs (ks := nsKs z0) (by rw [nsKs_len]; have := HB.out; omega)) (by simp [nsP_len]) hrs)
   have HMR := zh (hg3.made.trans hmr)
   clear hbr hmr hrs hrp hg3
   obtain ⟨E, s2, k2, hxa, hle, htl⟩ := ns_all (ks := nsKs z0) (by rw [nsKs_len]; have := HB.out; omega) (nsKs_in z0)
   obtain ⟨e1, e2, s1, k1, hx1, hx2, heq⟩ := hxa.split2
   rw [← HMB.out] at htl
   have HEX := zh (And.intro hx1 (And.intro hx2 heq))
   have HTL := zh (And.intro hle htl)
   have HPS := zh (nsProgs (ks := nsKs z0) (by rw [nsKs_len]; have := HB.out; omega)).ok
   have HNP := zh (show np = (nsP (nsKs z0)).length ∧ np ≤ 20 from ⟨hnp, by rw [hnp, nsP_len, nsKs_len]; have := HB.out; omega⟩)
   clear hxa hx1 hx2 heq hle htl hnp
   go_wp2_with fail
   refine HNW.out.mono ?_
   rintro e w1 ⟨b, o0, rfl, hw, hmw, hlo⟩
   have HMW := zh (HMR.out.trans hmw)
   have HLO := zh (show ∀ q, Own o0 q → w.heap.size ≤ q from fun q hq => Nat.le_trans HMR.out.size (hlo q hq))
   have hmy := many_x (n := (nsP (nsKs z0)).length + 2) HPS.out (by have := HNP.out; omega) hw HEX.out.1 (by have := HTL.out.1; rw [HEX.out.2.2, List.length_append] at this; omega)
   have hmc : (((nsP (nsKs z0)).length + 2 : Nat) : Int) = (np : Int) + 2 := by have := HNP.out; omega
   rw [hmc] at hmy
   have HMY := zh hmy
   have hi1w := IntWalk.i64_in ((np : Int) + 2) (by have := HNP.out; omega)
   clear hw hmw hlo hmc hmy
   go_wp2_with fail
   refine HMY.out.mono ?_
   rintro e w2 ⟨v1, rfl, o1, hw1, ho1, hf1, hs1⟩
   have H0 := zh (show LX b [nsP (nsKs z0)] w (nsRs (101 - 0)) E s2 k2 v1 w2 from ⟨o1, s1, k1, e1, e2, hw1, HEX.out.2.1, HEX.out.2.2, ho1, fun q hq => ⟨(hf1 q hq).1, Nat.le_trans HMW.out.size (hf1 q hq).2⟩, HMW.out.then hs1.t (fun q hq h => absurd (HLO.out q h) (by omega)), fun q hq => (hs1.f q hq).elim (HLO.out q) (fun h => Nat.le_trans HMW.out.size h)⟩)
   clear hw1 ho1 hf1 hs1 hi1w
   obtain ⟨i0, hi0, hz0, hz1, hz2⟩ := info_parts Tryz.infoEv
   go_wp2_with fail
   go_loopw [9, 10] (fun vl vi wr => ∃ j : Nat, j ≤ 101 ∧ vi = .int .i64 j ∧ LX b [nsP (nsKs z0)] w (nsRs (101 - j)) E s2 k2 vl wr) (fun _ vi _ => 101 - (intOf vi).toNat)
   case atStart => exact ⟨0, Nat.zero_le _, rfl, H0.out⟩
   case round =>
    obtain ⟨j, hj, rfl, hrl⟩ := hrel
    have j1 : (0 : Int) ≤ (j : Int) := Int.natCast_nonneg _
    by_cases hjl : j < 101
    ·have j2 : (j : Int) < 101 := by omega
     rw [nsRs_take hjl] at hrl
     obtain ⟨M, hc⟩ := LX.step (e := .adv 1) HPS.out HTL.out.1 hrl
     have HC : Hid (Calls Tryz.prog 9 #[.pointer (some ⟨b.pb, 0, none⟩), .agg #[.int .i64 2, .int .i64 1, .int .i64 0]] wr _) := zh hc
     clear hc hrl
     go_wp2_with fail
     refine HC.out.mono ?_
     rintro e w3 ⟨vx, rfl, N, h01, h02, h03, h04⟩
     have HO := zh (And.intro h01 (And.intro h02 (And.intro h03 h04)))
     clear h01 h02 h03 h04
     go_upto_region 21 with (at_builtin; refine wpList_cat rfl (.tmp 78) (.tmp 81) 32 rfl i0 _ 48 Tryz.underlying32 hi0 hz0 hz1 hz2 rfl (by omega) evC_len evC_one rfl HO.out.1 rfl HO.out.2.1 (by have := HO.out.2.2.1; unfold maxLen; omega) (by have := HO.out.2.2.1; omega) ?_; intro v4 w4 ho4 ht4 hv4; have HR := zh (HO.out.2.2.2 v4 w4 ho4 ht4 hv4); clear ho4 ht4 hv4)
     obtain ⟨M2, hc⟩ := LX.many (n := 8) HPS.out (by omega) HTL.out.1 HR.out
     have HC2 : Hid (Calls Tryz.prog 11 #[.pointer (some ⟨b.pb, 0, none⟩), .int .i64 8] w4 _) := zh hc
     clear hc HO HR
     go_wp2_with fail
     refine HC2.out.mono ?_
     rintro e w5 ⟨vy, rfl, N2, h01, h02, h03, h04⟩
     have HO := zh (And.intro h01 (And.intro h02 (And.intro h03 h04)))
     clear h01 h02 h03 h04
     go_wp2_with (at_builtin; refine wpList_cat rfl (.tmp 83) (.tmp 85) 32 rfl i0 _ 48 Tryz.underlying32 hi0 hz0 hz1 hz2 rfl (by omega) evC_len evC_one rfl HO.out.1 rfl HO.out.2.1 (by have := HO.out.2.2.1; unfold maxLen; omega) (by have := HO.out.2.2.1; omega) ?_; intro v4 w4 ho4 ht4 hv4; have HR := zh (HO.out.2.2.2 v4 w4 ho4 ht4 hv4); clear ho4 ht4 hv4)
     go_wp2_with fail
     go_roundw
     case rel => exact ⟨j + 1, by omega, by go_num, HR.out⟩
     case measure => simp [intOf]; omega
    ·have j2 : ¬ (j : Int) < 101 := by omega
     obtain rfl : j = 101 := by omega
     have hrl : LX b [nsP (nsKs z0)] w [] E s2 k2 _ wr := hrl
     obtain ⟨ho1, hm1⟩ := hrl.done
     obtain ⟨ae, ce, rfl, hre, -⟩ := ho1.rowIn evC_len
     have HM1 := zh hm1
     have HT1 := zh (told_x ae E.length ce E 0 wr hre HTL.out.1)
     clear hrl ho1 hm1 hre hjl hj
     go_wp2_with fail
     refine HT1.out.mono ?_
     rintro e w7 ⟨v7, rfl, hg7⟩
     have hl1 := HTL.out.2
     have hm8 := (zT w7).alloc (.cells #[.int .i64 mn, .int .i64 mn, .int .i64 2] 3)
     have hn8 : Owns encI 3 1 (w7.alloc (.cells #[.int .i64 mn, .int .i64 mn, .int .i64 2] 3)) (.slice (some ⟨w7.heap.size, 0, none⟩) 3 3) [mn, mn, 2] := owns_blk encI_len (Blk.new w7 3 #[.int .i64 mn, .int .i64 mn, .int .i64 2]) rfl rfl (by unfold maxLen; omega)
     have hv8 : Owns encI 3 1 (w7.alloc (.cells #[.int .i64 mn, .int .i64 mn, .int .i64 2] 3)) v7 [mn, mn, 2] := by rw [← hl1]; exact hg7.own.made hm8
     have HIN := zh (ints_c v7 _ [mn, mn, 2] _ hv8 hn8 (by simp))
     have HM8 := zh ((HM1.out.trans hg7.made).trans hm8)
     clear hg7 hl1 hm8 hn8 hv8
     go_wp2_with fail
     refine HIN.out.mono ?_
     rintro e w9 ⟨rfl, hm9⟩
     have HM9 := zh (HM8.out.trans hm9)
     clear hm9
     go_wp2_with fail
     refine (awake_x _).mono ?_
     rintro e w13 ⟨rfl, hm13⟩
     have HM13 := zh (HM9.out.trans hm13)
     clear hm13
     go_wp2_with fail
     go_returns
     exact ⟨rfl, HM13.out⟩
end Go.Proofs.YtjnkphhlkoapbaaGreat
