/-
  Walks and laws under LawTopNested, part 7.
-/
import Derived.Test.YtjnkphhlkoapbaaGreatPn6
set_option linter.unusedVariables false
set_option linter.unusedSimpArgs false
set_option maxRecDepth 100000
set_option maxHeartbeats 16000000
namespace Go.Proofs.YtjnkphhlkoapbaaGreat
open Go.RowKit
theorem chclose_c {w : World} {p : Nat} {F : Nat → Prop} {rm : Bool} {v : Option Int} {l : List Wt} (h : ChAt w p F ⟨false, false, false, rm, v, l⟩) (hnd : (l.map Wt.task).Nodup) (hn : l.length ≤ 900) :
  Calls Tryz.prog 167 #[.pointer (some ⟨p, 0, none⟩)] w fun e w' => ∃ a F' cap, e = .returned (.tuple #[.slice a l.length cap, .int .i64 0]) ∧ WkRow w w' F' a (l.map clW) ∧ ChAt w' p F' ⟨false, false, true, rm, v, []⟩ ∧ Stp w w' F F' := by
 have HMU := zh (chmute_c h)
 have HEN := zh (chend_c h hnd hn)
 have c5 : w.cell? ⟨p, 5, none⟩ = some (.bool false) := by obtain ⟨r, q1, q2, lb, h1, _⟩ := h; exact h1.blk.cell 5
 clear h hnd hn
 go_enter Tryz.func167, Tryz.ntmps167
 go_wp2_with fail
 refine HMU.out.mono ?_
 rintro e w1 ⟨rfl, rfl⟩
 go_wp2_with fail
 refine HEN.out.mono ?_
 rintro e w2 ⟨a, F', cap, rfl, h1, h2, h3⟩
 have HE := zh (And.intro h1 (And.intro h2 h3))
 clear h1 h2 h3 c5
 go_wp2_with fail
 go_returns
 exact ⟨a, F', cap, rfl, HE.out.1, HE.out.2.1, HE.out.2.2⟩
section
variable {CX : World → (Nat → Prop) → Prop} {w w' : World} {b : Wp} {o o' : Nat → Nat} {ps : List (List Ins)} {s : Wst} {vp vc vl ve : Value}
theorem WAt.incMade (hx : Ext CX) (h : WAt CX w b o ps s vp vc vl ve) (n : Int) : WAt CX (w.setCell ⟨b.pb, 4, none⟩ (.int .i64 n)) b o ps { s with made := n } vp vc vl ve ∧ Stp w (w.setCell ⟨b.pb, 4, none⟩ (.int .i64 n)) (Own o) (Own o) := by
 have ht : Turns (fun k => o k = 1) w (w.setCell ⟨b.pb, 4, none⟩ (.int .i64 n)) := (set1 w b.pb 4 _).mono (fun k _ e => by rw [e]; exact h.ob)
 obtain ⟨ds, hd1, hd2⟩ := h.dls
 obtain ⟨ls, hl1, hl2⟩ := h.lrow
 have hb3 := h.blk.put 4 (.int .i64 n)
 simp only [List.setIfInBounds_toArray, List.set_cons_zero, List.set_cons_succ] at hb3
 have hne : ∀ j, j ≠ 0 → j ≠ 1 → (fun k => o k = j) = fun k => o k = j := fun j _ _ => rfl
 exact ⟨{ lt := fun k hk => Nat.lt_of_lt_of_le (h.lt k hk) ht.size, cnd := h.cnd, blk := hb3, ob := h.ob, erow := h.erow.turns ht (fun k hk => by rw [(h.eo k).1 hk]; omega), eo := h.eo, clk := h.clk.turns ht (by rw [h.ok]; omega), ok := lab_is (hne 2 (by omega) (by omega)) h.ok, tab := by rw [hne 3 (by omega) (by omega)]; exact h.tab.turns ht (fun k hk => by rw [hk]; omega), tms := by rw [hne 4 (by omega) (by omega)]; exact h.tms.turns ht (fun k hk => by rw [hk]; omega), dls := ⟨ds, hd1, by rw [hne 5 (by omega) (by omega)]; exact hd2.turns ht (fun k hk => by rw [hk]; omega)⟩, ctx := by rw [hne 6 (by omega) (by omega)]; exact hx.turns _ w _ _ h.ctx ht (fun k hk => by rw [hk]; omega), prs := h.prs.turns ht (fun k hk => by rw [hk]; omega) (fun k hk => lab_is (hne 7 (by omega) (by omega)) hk), crow := h.crow.turns ht (fun k hk => by rw [(h.co k).1 hk]; omega), co := fun k => (h.co k).trans (iff_of_eq (congrFun (hne 8 (by omega) (by omega)) k)).symm, lrow := ⟨ls, hl1, hl2.turns ht (fun k hk => by rw [(h.lo k).1 hk]; omega)⟩, lo := fun k => (h.lo k).trans (iff_of_eq (congrFun (hne 9 (by omega) (by omega)) k)).symm, chn := fun p c hp => by rw [hne (16 + p) (by omega) (by omega)]; exact (h.chn p c hp).turns ht (fun k hk => by rw [hk]; omega) }, ⟨ht.mono (fun k _ e => by show o k ≠ 0; rw [e]; omega), fun k hk => .inl hk⟩⟩
end
theorem acdo_make {w : World} {g p : Nat} {x : Ac} {R : World → Prop} (hb : Blk w g 131 (acA p x)) (hop : x.i.op = 9) (H : Calls Tryz.prog 77 #[.pointer (some ⟨g, 0, none⟩)] w fun e w' => e = .returned (.tuple #[]) ∧ R w') :
  Calls Tryz.prog 50 #[.pointer (some ⟨g, 0, none⟩)] w fun e w' => e = .returned (.tuple #[]) ∧ R w' := by
 have q2 : w.cell? ⟨g, 2, none⟩ = some (.int .i64 x.i.op) := hb.cell 2
 rw [hop] at q2
 have HH := zh H
 clear H hb hop
 go_enter Tryz.func50, Tryz.ntmps50
 go_wp2_with fail
 refine HH.out.mono ?_
 rintro e w1 ⟨rfl, hr⟩
 have HR := zh hr
 clear hr q2
 go_wp2_with fail
 go_end0
 exact ⟨rfl, HR.out⟩
theorem acdo_close {w : World} {g p : Nat} {x : Ac} {R : World → Prop} (hb : Blk w g 131 (acA p x)) (hop : x.i.op = 12) (H : Calls Tryz.prog 78 #[.pointer (some ⟨g, 0, none⟩)] w fun e w' => e = .returned (.tuple #[]) ∧ R w') :
  Calls Tryz.prog 50 #[.pointer (some ⟨g, 0, none⟩)] w fun e w' => e = .returned (.tuple #[]) ∧ R w' := by
 have q2 : w.cell? ⟨g, 2, none⟩ = some (.int .i64 x.i.op) := hb.cell 2
 rw [hop] at q2
 have HH := zh H
 clear H hb hop
 go_enter Tryz.func50, Tryz.ntmps50
 go_wp2_with fail
 refine HH.out.mono ?_
 rintro e w1 ⟨rfl, hr⟩
 have HR := zh hr
 clear hr q2
 go_wp2_with fail
 go_end0
 exact ⟨rfl, HR.out⟩
theorem acchan_close {CX : World → (Nat → Prop) → Prop} {w : World} {b : Wp} {o : Nat → Nat} {ps : List (List Ins)} {s : Wst} {g a i p : Nat} {x : Ac} {c : Chn} {R : World → Prop} (hx : Ext CX) (h : WW CX w b o ps s) (hb : Blk w g 131 (acA b.pb x)) (hop : x.i.op = 12) (hxa : x.i.a = a) (ha : a < 8) (hi : x.was.get a = i) (hch : s.chs[i]? = some (p, c)) (hcl : s.chs.length ≤ 1000)
  (H : ∀ w1, Made w w1 → Calls Tryz.prog 126 #[.pointer (some ⟨g, 0, none⟩), .pointer (some ⟨p, 0, none⟩)] w1 fun e w' => e = .returned (.tuple #[]) ∧ R w') :
  Calls Tryz.prog 78 #[.pointer (some ⟨g, 0, none⟩)] w fun e w' => e = .returned (.tuple #[]) ∧ R w' := by
 have HB := zh hb
 have HXX := zh hx
 have HOP := zh hop
 have HI := zh hi
 have HBD := zh (hb.turns (zT w).drew (fun h => h))
 have HWD := zh (h.made hx (zT w).drew)
 have HA2 := zh (aca_c HBD.out hxa ha)
 rw [hi] at HA2
 have HH := zh H
 have HCH := zh (And.intro hch hcl)
 clear h hb hx hop hxa hi hch hcl H
 go_enter Tryz.func78, Tryz.ntmps78
 go_wp2_with fail
 refine wp_region_held_drew (S := fun w' => Low w' g b.pb x ∧ (w' = w.drew ∨ True)) (by kernel_rfl) ?_ (fun hHeld => ?_)
 ·exact ⟨low_of HBD.out, .inr trivial⟩
 refine tH 0 5 ?_ ?_ ?_;rotate_left
 ·intro w hSw
  go_simp
  try with_reducible rfl
 try simp only [zP]
 refine tH 1 6 ?_ ?_ ?_;rotate_left
 ·intro w hSw
  go_simp
  try with_reducible rfl
 try simp only [zP]
 refine tH 2 7 ?_ ?_ ?_;rotate_left
 ·intro w hSw
  go_simp
  try with_reducible rfl
 try simp only [zP]
 refine tH 3 8 ?_ ?_ ?_;rotate_left
 ·intro w hSw
  have q3 : w.cell? ⟨g, 0, none⟩ = some (.pointer (some ⟨b.pb, 0, none⟩)) := hSw.1 0 (by omega)
  go_simp
  try with_reducible rfl
 try simp only [zP]
 refine tH 4 9 ?_ ?_ ?_;rotate_left
 ·intro w hSw
  go_simp
  try with_reducible rfl
 try simp only [zP]
 refine zR 5 fun K hK => ?_
 go_simp
 refine HA2.out.mono ?_
 rintro e wA ⟨rfl, hmA⟩
 have hbA := HBD.out.turns hmA (fun h => h)
 have HWC := zh (wchannel_c (HWD.out.made HXX.out hmA) HCH.out.1 HCH.out.2)
 refine hK.out _ _ ?_ (fun hHeld => ?_)
 ·exact ⟨low_of hbA, .inr trivial⟩
 clear hK K
 try simp only [zP]
 refine zR 6 fun K hK => ?_
 go_simp
 refine HWC.out.mono ?_
 rintro e wN ⟨rfl, rfl⟩
 refine hK.out _ _ ?_ (fun hHeld => ?_)
 ·exact ⟨low_of hbA, .inr trivial⟩
 clear hK K
 try simp only [zP]
 refine tH 7 4 ?_ ?_ ?_;rotate_left
 ·intro w hSw
  go_simp
  try with_reducible rfl
 try simp only [zP]
 refine tH 8 12 ?_ ?_ ?_;rotate_left
 ·intro w hSw
  go_simp
  try with_reducible rfl
 try simp only [zP]
 refine tH 9 13 ?_ ?_ ?_;rotate_left
 ·intro w hSw
  go_simp
  try with_reducible rfl
 try simp only [zP]
 refine tH 10 2 ?_ ?_ ?_;rotate_left
 ·intro w hSw
  go_simp
  try with_reducible rfl
 try simp only [zP]
 refine tH 11 3 ?_ ?_ ?_;rotate_left
 ·intro w hSw
  go_simp
  try with_reducible rfl
 try simp only [zP]
 refine wpAnyH_done (by kernel_rfl) ?_ _
 have q2 : wA.cell? ⟨g, 2, none⟩ = some (.int .i64 x.i.op) := hbA.cell 2
 rw [HOP.out] at q2
 have HRC := zh (HH.out wA ((zT w).drew.trans hmA))
 clear hHeld hmA hbA
 go_wp2_with fail
 refine HRC.out.mono ?_
 rintro e w5 ⟨rfl, hr⟩
 have HR := zh hr
 clear hr q2
 go_wp2_with fail
 go_end0
 exact ⟨rfl, HR.out⟩
theorem acclose_c {CX : World → (Nat → Prop) → Prop} {w : World} {b : Wp} {o : Nat → Nat} {ps : List (List Ins)} {s : Wst} {g i p : Nat} {x : Ac} {rm : Bool} {v : Option Int} {l : List Wt} (hx : Ext CX) (h : WW CX w b o ps s) (hb : Blk w g 131 (acA b.pb x)) (hg : ¬ Own o g) (hch : s.chs[i]? = some (p, ⟨false, false, false, rm, v, l⟩)) (hnd : (l.map Wt.task).Nodup) (hn : l.length ≤ 900) (hok : WakesOK { s with chs := s.chs.set i (p, ⟨false, false, true, rm, v, []⟩) } (l.map clW)) :
  Calls Tryz.prog 126 #[.pointer (some ⟨g, 0, none⟩), .pointer (some ⟨p, 0, none⟩)] w fun e w' => e = .returned (.tuple #[]) ∧ ∃ o', WW CX w' b o' ps (wakesS { s with chs := s.chs.set i (p, ⟨false, false, true, rm, v, []⟩) } (l.map clW)) ∧ AStp w w' o o' g ∧ Blk w' g 131 (acA b.pb x) := by
 have HXX := zh hx
 have HB := zh hb
 have HG := zh hg
 have HK := zh (And.intro hch (And.intro hn hok))
 obtain ⟨vp, vc, vl, ve, h⟩ := h
 have HW := zh h
 have HCL := zh (chclose_c (h.chn p _ (List.mem_of_getElem? hch)) hnd hn)
 clear h hx hb hg hch hnd hn hok
 go_enter Tryz.func126, Tryz.ntmps126
 go_wp2_with fail
 refine HCL.out.mono ?_
 rintro e w1 ⟨a, F', cap, rfl, hwk, hca, hs1⟩
 obtain ⟨o1, h1, _, _, hst1, hown⟩ := HW.out.stepTC HXX.out (FT := fun k => o k = 4) HK.out.1 (HW.out.tms.turns hs1.t (fun k hk e => by have h5 : o k = 16 + p := e; have h6 : o k = 4 := hk; omega)) hca (hs1.t.mono (fun k _ e => .inr e)) (fun k hk => .inl hk) (fun k hk => hs1.f k hk) (fun k hk h4 => (hs1.f k hk).elim (fun h5 => by have h5 : o k = 16 + p := h5; have h6 : o k = 4 := h4; omega) (fun h5 => absurd (HW.out.lt k (by have h6 : o k = 4 := h4; omega)) (Nat.not_lt.2 h5)))
 have hw1 : WW CX w1 b o1 ps { s with chs := s.chs.set i (p, ⟨false, false, true, rm, v, []⟩) } := ⟨_, _, _, _, h1⟩
 have HWA := zh (wwake_c (cap := cap) (l := l.map clW) HXX.out hw1 hwk.1 (fun b' off e h0 => by
  obtain ⟨m1, m2⟩ := hwk.2 b' off e
  rcases hown b' h0 with h4 | h4 | h4
  ·exact absurd (HW.out.lt b' (by have h6 : o b' = 4 := h4; omega)) (Nat.not_lt.2 m1)
  ·exact m2 h4
  ·exact absurd (HW.out.lt b' h4) (Nat.not_lt.2 m1)) (by rw [List.length_map]; have := HK.out.2.1; omega) HK.out.2.2)
 rw [List.length_map] at HWA
 have hb1 := HB.out.turns hst1.t HG.out
 have HB1 := zh hb1
 have HS1 := zh hst1
 have HG1 := zh (show ¬ Own o1 g from fun h0 => (hst1.f g h0).elim HG.out (fun h5 => absurd HB.out.lt (Nat.not_lt.2 h5)))
 have q0 : w1.cell? ⟨g, 0, none⟩ = some (.pointer (some ⟨b.pb, 0, none⟩)) := hb1.cell 0
 clear hwk hca hs1 h1 hst1 hown hw1 hb1
 go_wp2_with fail
 refine HWA.out.mono ?_
 rintro e w2 ⟨rfl, o2, hw2, hs2⟩
 have HE := zh (And.intro hw2 hs2)
 clear hw2 hs2 q0
 go_wp2_with fail
 go_end0
 exact ⟨rfl, o2, HE.out.1, (AStp.of g HS1.out).then HE.out.2, HB1.out.turns HE.out.2.t HG1.out⟩
theorem accreate_c {CX : World → (Nat → Prop) → Prop} {w : World} {b : Wp} {o : Nat → Nat} {ps : List (List Ins)} {s : Wst} {g a : Nat} {x : Ac} (hx : Ext CX) (h : WW CX w b o ps s) (hb : Blk w g 131 (acA b.pb x)) (hg : ¬ Own o g) (hxa : x.i.a = a) (hxb : x.i.b = 0) (ha : a < 8) (hmd : 0 ≤ s.made ∧ s.made < 64) (hcl : s.chs.length ≤ 1000) :
  Calls Tryz.prog 77 #[.pointer (some ⟨g, 0, none⟩)] w fun e w' => e = .returned (.tuple #[]) ∧ ∃ o' cp, WW CX w' b o' ps { s with made := s.made + 1, chs := s.chs ++ [(cp, ⟨false, false, false, false, none, []⟩)] } ∧ AStp w w' o o' g ∧ Blk w' g 131 (acA b.pb { x with regs := x.regs.set a s.chs.length }) := by
 have HXX := zh hx
 have HB := zh hb
 have HG := zh hg
 have HGL := zh hb.lt
 have HX := zh hxa
 have HLT2 := zh ha
 have HK := zh (And.intro hmd hcl)
 have ja1 : (0 : Int) ≤ (a : Int) := by omega
 have ja2 : (a : Int) < 8 := by omega
 obtain ⟨vp, vc, vl, ve, h⟩ := h
 have HW := zh h
 have q4 : w.cell? ⟨g, 4, none⟩ = some (.int .i64 x.i.b) := hb.cell 4
 rw [hxb] at q4
 clear h hx hb hg hxa hxb
 go_enter Tryz.func77, Tryz.ntmps77
 go_wp2_with fail
 refine (chnew0_c w).mono ?_
 rintro e w1 ⟨cp, r, q1, q2, lb, Fc, rfl, hci, hla, hm1, hfc⟩
 obtain ⟨o1, h1, e1, hs1, hnp⟩ := HW.out.newCh HXX.out hm1 ⟨r, q1, q2, lb, hci, hla⟩ hfc
 have HC1 := zh (show ChAt w1 cp (fun k => o1 k = 16 + cp) ⟨false, false, false, false, none, []⟩ from by rw [e1]; exact ⟨r, q1, q2, lb, hci, hla⟩)
 have HW1 := zh (And.intro h1 hnp)
 have HS1 := zh hs1
 have hb1 := HB.out.turns hm1 (fun h => h)
 have HB1 := zh hb1
 have HG1 := zh (show ¬ Own o1 g from fun h0 => (hs1.f g h0).elim HG.out (fun h5 => absurd HGL.out (Nat.not_lt.2 h5)))
 have q0 : w1.cell? ⟨g, 0, none⟩ = some (.pointer (some ⟨b.pb, 0, none⟩)) := hb1.cell 0
 have r4 : w1.cell? ⟨b.pb, 4, none⟩ = some (.int .i64 s.made) := h1.blk.cell 4
 have f4 := h1.blk.free 4
 have hmd1 : s.made < 64 := HK.out.1.2
 have hwi := IntWalk.i64_in (s.made + 1) (by have := HK.out.1; omega)
 clear hci hla hm1 hfc h1 e1 hs1 hnp hb1 q4
 go_upto_region 2 with fail
 obtain ⟨h2, hs2⟩ := HW1.out.1.incMade HXX.out (s.made + 1)
 have HW2 := zh h2
 have HS2 := zh (HS1.out.trans hs2)
 have HB2 := zh (HB1.out.turns hs2.t HG1.out)
 have HC2 := zh (HC1.out.turns (set1 w1 b.pb 4 (.int .i64 (s.made + 1))) (fun k hk e => by have h5 : o1 k = 16 + cp := hk; have h6 := HW1.out.1.ob; rw [← e] at h6; omega))
 clear h2 hs2 q0 r4 f4 hwi hmd1
 generalize w1.setCell ⟨b.pb, 4, none⟩ (.int .i64 (s.made + 1)) = W3 at *
 have HOP2 := zh (wopen_c HXX.out (show WW CX W3.drew b o1 ps _ from ⟨_, _, _, _, HW2.out.made HXX.out (zT W3).drew⟩) (HC2.out.made (zT W3).drew) HW1.out.2 HK.out.2)
 refine wp_region_held_drew (S := fun w' => Low w' g b.pb x ∧ (w' = W3.drew ∨ True)) (by kernel_rfl) ?_ (fun hHeld => ?_)
 ·exact ⟨low_of HB2.out, .inr trivial⟩
 refine tH 0 23 ?_ ?_ ?_;rotate_left
 ·intro w hSw
  go_simp
  try with_reducible rfl
 try simp only [zP]
 refine tH 1 24 ?_ ?_ ?_;rotate_left
 ·intro w hSw
  go_simp
  try with_reducible rfl
 try simp only [zP]
 refine tH 2 25 ?_ ?_ ?_;rotate_left
 ·intro w hSw
  go_simp
  try with_reducible rfl
 try simp only [zP]
 refine tH 3 26 ?_ ?_ ?_;rotate_left
 ·intro w hSw
  go_simp
  try with_reducible rfl
 try simp only [zP]
 refine tH 4 27 ?_ ?_ ?_;rotate_left
 ·intro w hSw
  go_simp
  try with_reducible rfl
 try simp only [zP]
 refine tH 5 28 ?_ ?_ ?_;rotate_left
 ·intro w hSw
  have q3 : w.cell? ⟨g, 3, none⟩ = some (.int .i64 x.i.a) := hSw.1 3 (by omega)
  rw [HX.out] at q3
  go_simp
  try with_reducible rfl
 try simp only [zP]
 refine tH 6 29 ?_ ?_ ?_;rotate_left
 ·intro w hSw
  go_simp
  try with_reducible rfl
 try simp only [zP]
 refine tH 7 30 ?_ ?_ ?_;rotate_left
 ·intro w hSw
  go_simp
  try with_reducible rfl
 try simp only [zP]
 refine tH 8 31 ?_ ?_ ?_;rotate_left
 ·intro w hSw
  go_simp
  try with_reducible rfl
 try simp only [zP]
 refine tH 9 32 ?_ ?_ ?_;rotate_left
 ·intro w hSw
  have q3 : w.cell? ⟨g, 0, none⟩ = some (.pointer (some ⟨b.pb, 0, none⟩)) := hSw.1 0 (by omega)
  go_simp
  try with_reducible rfl
 try simp only [zP]
 refine tH 10 33 ?_ ?_ ?_;rotate_left
 ·intro w hSw
  go_simp
  try with_reducible rfl
 try simp only [zP]
 refine tH 12 35 ?_ ?_ ?_;rotate_left
 ·intro w hSw
  go_simp
  try with_reducible rfl
 try simp only [zP]
 refine tH 13 36 ?_ ?_ ?_;rotate_left
 ·intro w hSw
  go_simp
  try with_reducible rfl
 try simp only [zP]
 refine zR 11 fun K hK => ?_
 go_simp
 refine HOP2.out.mono ?_
 rintro e w4 ⟨rfl, o4, h4, hs4⟩
 have hb4 : Blk w4 g 131 (acA b.pb x) := (HB2.out.turns (zT W3).drew (fun h => h)).turns hs4.t HG1.out
 refine hK.out _ _ ?_ (fun hHeld => ?_)
 ·exact ⟨low_of hb4, .inr trivial⟩
 clear hK K
 try simp only [zP]
 refine tH 14 37 ?_ ?_ ?_;rotate_left
 ·intro w hSw
  go_simp
  try with_reducible rfl
 try simp only [zP]
 refine zR 15 fun K hK => ?_
 have qz0 := hb4.cell (16 + a)
 rw [ac_reg _ _ HLT2.out] at qz0
 have qf := hb4.free (16 + a)
 have H4 := zh (And.intro h4 hs4)
 have HB4 := zh hb4
 clear h4 hs4 hb4
 go_simp
 refine hK.out _ _ ?_ (fun hHeld => ?_)
 ·exact ⟨low_regs (r := x.regs.set a (s.chs.length : Int)) (low_of (by have hb5 := HB4.out.put (16 + a) (.int .i64 (s.chs.length : Int)); rw [ac_set _ _ _ HLT2.out] at hb5; exact hb5)), .inr trivial⟩
 clear hK K
 try simp only [zP]
 refine wpAnyH_done (by kernel_rfl) ?_ _
 have hb5 := HB4.out.put (16 + a) (.int .i64 (s.chs.length : Int))
 rw [ac_set _ _ _ HLT2.out] at hb5
 have HB5 := zh hb5
 have HT5 := zh ((Turns.refl (fun k => k = g) w4).setCell (p := ⟨g, 16 + a, none⟩) (fun _ => rfl) (.int .i64 (s.chs.length : Int)))
 clear hb5 hHeld qz0 qf
 generalize w4.setCell ⟨g, 16 + a, none⟩ (.int .i64 (s.chs.length : Int)) = W5 at *
 go_wp2_with fail
 go_end0
 have HA := ((AStp.of g HS2.out).then (Stp.made (F := Own o1) (zT W3).drew)).then H4.out.2
 exact ⟨rfl, o4, ⟨cp, H4.out.1.turns HXX.out HT5.out (fun k hk e => HA.no HG.out HGL.out (by rw [← show k = g from e]; exact hk))⟩, HA.set HT5.out, HB5.out⟩
def Lim (s : Wst) : Prop := s.ev.length < 900 ∧ s.rd.length ≤ 900 ∧ s.ts.length < 64 ∧ s.chs.length ≤ 900 ∧ s.tms.length ≤ 900 ∧ 0 ≤ s.sq ∧ s.sq < 100000 ∧ s.nd < 100000 ∧ s.nl < 100000 ∧ 0 ≤ s.steps ∧ s.steps < 100000 ∧ 0 ≤ s.now ∧ s.now ≤ 1000000 ∧ 0 ≤ s.named ∧ s.named < 64
instance (s : Wst) : Decidable (Lim s) := by unfold Lim; infer_instance
def RegOK (a : Int) : Prop := 0 ≤ a ∧ a < 8
instance (a : Int) : Decidable (RegOK a) := by unfold RegOK; infer_instance
def locF (p : List Ins) (pc : Nat) (r : Reg) (now : Int) : Option LOut :=
 if pc = p.length then some ⟨pc, r, false, 0, true⟩ else
 match p[pc]? with
 | none => none
 | some x =>
  if x.op = 1 ∧ RegOK x.a then some ⟨pc + 1, r.set x.a.toNat x.b, false, 0, false⟩
  else if x.op = 2 ∧ RegOK x.a ∧ RegOK x.b then some ⟨pc + 1, r.set x.a.toNat (r.get x.b.toNat), false, 0, false⟩
  else if x.op = 6 ∧ RegOK x.a ∧ x.b = 0 then some ⟨pc + 1, r, true, r.get x.a.toNat, false⟩
  else if x.op = 16 ∧ RegOK x.a then some ⟨pc + 1, r.set x.a.toNat now, false, 0, false⟩
  else none
def aloneS (s : Wst) (i : Nat) (x : Tsk) (o : LOut) : Wst :=
 if o.told then { s with ts := s.ts.set i ⟨x.prog, o.pc, x.st, x.how, o.regs, x.ins⟩, ev := s.ev ++ [⟨s.steps, 1, i, o.value, 0, 0⟩] }
 else if o.ended then { s with ts := s.ts.set i ⟨x.prog, o.pc, 2, 0, o.regs, ⟨0, 0, 0, 0⟩⟩, rd := offS s i, ev := s.ev ++ [⟨s.steps, 4, i, 0, 0, 0⟩] }
 else { s with ts := s.ts.set i ⟨x.prog, o.pc, x.st, x.how, o.regs, x.ins⟩ }
def wakeB (s : Wst) (x : Wk) : Prop := 0 ≤ x.task ∧ x.panic = false ∧ x.task ∉ s.rd ∧
 match s.ts[x.task.toNat]? with
 | none => False
 | some t => t.st = 1 ∧ t.ins.op = 11 ∧ RegOK t.ins.a ∧ RegOK t.ins.b ∧ RegOK t.ins.c ∧ 0 ≤ t.regs.get t.ins.a.toNat ∧ 0 ≤ t.pc ∧ t.pc ≤ 1000
instance (s : Wst) (x : Wk) : Decidable (wakeB s x) := by
 unfold wakeB
 cases s.ts[x.task.toNat]? <;> infer_instance
def WakesB : Wst → List Wk → Prop
 | _, [] => True
 | s, x :: l => wakeB s x ∧ WakesB (wakeS s x) l
def WakesB.dec : ∀ (l : List Wk) (s : Wst), Decidable (WakesB s l)
 | [], _ => isTrue trivial
 | x :: l, s => @instDecidableAnd _ _ (inferInstance : Decidable (wakeB s x)) (WakesB.dec l (wakeS s x))
instance (s : Wst) (l : List Wk) : Decidable (WakesB s l) := WakesB.dec l s
def actGo (s : Wst) (i : Nat) (x : Ins) (r : Reg) : Option (Wst × Option Reg) :=
 if RegOK x.a ∧ 0 ≤ x.b ∧ x.b < 16 ∧ (s.ts.length : Int) ∉ s.rd then some (startS s x.b r, some (r.set x.a.toNat s.ts.length)) else none
def actRecv (s : Wst) (i : Nat) (x : Ins) (r : Reg) : Option (Wst × Option Reg) :=
 if RegOK x.a ∧ RegOK x.b ∧ RegOK x.c ∧ 0 ≤ r.get x.a.toNat then
  match s.chs[(r.get x.a.toNat).toNat]? with
  | none => none
  | some q => if q.2.closed = false ∧ q.2.val = none ∧ q.2.recvs.length ≤ 900 then some ({ s with chs := s.chs.set (r.get x.a.toNat).toNat (q.1, ⟨q.2.timed, q.2.signal, false, q.2.room, none, q.2.recvs ++ [⟨i, 0, 0⟩]⟩) }, none) else none
 else none
def actMake (s : Wst) (i : Nat) (x : Ins) (r : Reg) : Option (Wst × Option Reg) :=
 if RegOK x.a ∧ x.b = 0 ∧ 0 ≤ s.made ∧ s.made < 64 then some ({ s with made := s.made + 1, chs := s.chs ++ [(s.chs.length, ⟨false, false, false, false, none, []⟩)] }, some (r.set x.a.toNat s.chs.length)) else none
def actClose (s : Wst) (i : Nat) (x : Ins) (r : Reg) : Option (Wst × Option Reg) :=
 if RegOK x.a ∧ 0 ≤ r.get x.a.toNat then
  match s.chs[(r.get x.a.toNat).toNat]? with
  | none => none
  | some q => if q.2.timed = false ∧ q.2.signal = false ∧ q.2.closed = false ∧ (q.2.recvs.map Wt.task).Nodup ∧ q.2.recvs.length ≤ 50 ∧ WakesB { s with chs := s.chs.set (r.get x.a.toNat).toNat (q.1, ⟨false, false, true, q.2.room, q.2.val, []⟩) } (q.2.recvs.map clW) then some (wakesS { s with chs := s.chs.set (r.get x.a.toNat).toNat (q.1, ⟨false, false, true, q.2.room, q.2.val, []⟩) } (q.2.recvs.map clW), some r) else none
 else none
def actTimer (s : Wst) (i : Nat) (x : Ins) (r : Reg) : Option (Wst × Option Reg) :=
 if RegOK x.a ∧ RegOK x.b ∧ RegOK x.c ∧ 0 ≤ r.get x.b.toNat ∧ r.get x.b.toNat ≤ 1000000 then some (timerS s (r.get x.b.toNat) s.chs.length, some ((r.set x.a.toNat s.tms.length).set x.c.toNat s.chs.length)) else none
def actStop (s : Wst) (i : Nat) (x : Ins) (r : Reg) : Option (Wst × Option Reg) :=
 if RegOK x.a ∧ RegOK x.b ∧ 0 ≤ r.get x.a.toNat then
  match s.tms[(r.get x.a.toNat).toNat]? with
  | none => none
  | some t => match t.c with
   | none => none
   | some ci => match s.chs[ci]? with
    | none => none
    | some q => if t.kind = 1 ∧ q.2.timed = true then
      match q.2.val with
      | none => some ({ s with L := delL (r.get x.a.toNat) s.L }, some (r.set x.b.toNat (bitZ (findL (r.get x.a.toNat) s.L).isSome)))
      | some _ => some ({ s with L := delL (r.get x.a.toNat) s.L, chs := s.chs.set ci (q.1, ⟨true, q.2.signal, q.2.closed, q.2.room, none, q.2.recvs⟩) }, some (r.set x.b.toNat 1))
     else none
 else none
def actReset (s : Wst) (i : Nat) (x : Ins) (r : Reg) : Option (Wst × Option Reg) :=
 if RegOK x.a ∧ RegOK x.b ∧ RegOK x.c ∧ 0 ≤ r.get x.a.toNat ∧ 0 ≤ r.get x.b.toNat ∧ r.get x.b.toNat ≤ 1000000 then
  match s.tms[(r.get x.a.toNat).toNat]? with
  | none => none
  | some t => match t.c with
   | none => none
   | some ci => match s.chs[ci]? with
    | none => none
    | some q => if t.kind = 1 ∧ q.2.timed = true ∧ q.2.val = none then some ({ s with L := insL ⟨r.get x.a.toNat, s.now + r.get x.b.toNat, s.sq + 1⟩ (delL (r.get x.a.toNat) (delL (r.get x.a.toNat) s.L)), sq := s.sq + 1 }, some (r.set x.c.toNat (bitZ (findL (r.get x.a.toNat) s.L).isSome))) else none
 else none
def actF (s : Wst) (i : Nat) (x : Ins) (r : Reg) : Option (Wst × Option Reg) :=
 if x.op = 8 then actGo s i x r
 else if x.op = 11 then actRecv s i x r
 else if x.op = 9 then actMake s i x r
 else if x.op = 12 then actClose s i x r
 else if x.op = 17 then actTimer s i x r
 else if x.op = 20 then actStop s i x r
 else if x.op = 21 then actReset s i x r
 else none
def runF (ps : List (List Ins)) (s : Wst) (n : Int) : Option Wst :=
 if s.rd = [] then some { s with nl := s.nl + 1 } else
 match s.rd[(pickZ n s.rd.length).toNat]? with
 | none => none
 | some id =>
 match s.ts[id.toNat]? with
 | none => none
 | some x =>
 match ps[x.prog.toNat]? with
 | none => none
 | some p =>
 if 0 ≤ id ∧ x.st = 0 ∧ 0 ≤ x.prog ∧ 0 ≤ x.pc ∧ s.nl < 99999 then
  match locF p x.pc.toNat x.regs s.now with
  | some o => some (aloneS { s with nl := s.nl + 1 } id.toNat x o)
  | none =>
  match p[x.pc.toNat]? with
  | none => none
  | some ins =>
  if mineB ins.op = false then
   match actF { s with nl := s.nl + 1 } id.toNat ins x.regs with
   | none => none
   | some (s2, none) => some (parkS s2 id.toNat x ins)
   | some (s2, some r2) => some (putS s2 id.toNat x r2)
  else none
 else none
def fireF (s : Wst) : Option Wst :=
 match s.L with
 | [] => none
 | it :: ll =>
 match s.tms[it.id.toNat]? with
 | none => none
 | some t =>
 match t.c with
 | none => none
 | some ci =>
 match s.chs[ci]? with
 | none => none
 | some q =>
 if 0 ≤ it.id ∧ t.kind = 1 ∧ q.2.timed = true ∧ q.2.room = true ∧ q.2.recvs.length ≤ 900 then
  match q.2.recvs with
  | [] => if q.2.val = none then some (fireB { s with L := ll, chs := s.chs.set ci (q.1, ⟨true, q.2.signal, q.2.closed, true, some s.now, []⟩) } it.id.toNat it.when) else none
  | x :: lw => if wakeB s ⟨x.task, x.kase, s.now, true, false⟩ then some (wakeS (fireB { s with L := ll, chs := s.chs.set ci (q.1, ⟨true, q.2.signal, q.2.closed, true, q.2.val, lw⟩) } it.id.toNat it.when) ⟨x.task, x.kase, s.now, true, false⟩) else none
 else none
def firesF : Nat → Wst → Option Wst
 | 0, _ => none
 | k + 1, s => match s.L with
  | [] => some s
  | it :: _ => if it.when ≤ s.now then (if Lim s then match fireF s with
    | none => none
    | some s2 => firesF k s2 else none) else some s
inductive Ent
 | run (n : Int)
 | adv (d : Int)
def doneF (s : Wst) : Option Wst := if 0 ≤ s.steps ∧ s.steps < 100000 ∧ s.ev.length < 900 then some { s with steps := s.steps + 1 } else none
def stepF (ps : List (List Ins)) (s : Wst) (e : Ent) : Option Wst :=
 if Lim s then
  match e with
  | .run n => match runF ps { s with ev := [] } n with
   | none => none
   | some s2 => doneF s2
  | .adv d => if 0 ≤ d ∧ s.now + d ≤ 1000000 then
    match firesF 100 { s with ev := [], now := s.now + d } with
    | none => none
    | some s2 => doneF s2
   else none
 else none
theorem heldZ_small {a : Int} (h0 : 0 ≤ a) (h1 : a ≤ 4000000) : heldZ a = a := by
 unfold heldZ
 repeat' split
 all_goals omega
theorem addZ_small {a b : Int} (h0 : 0 ≤ a) (h1 : a ≤ 2000000) (h2 : 0 ≤ b) (h3 : b ≤ 2000000) : addZ a b = a + b := by
 unfold addZ
 rw [heldZ_small h0 (by omega), heldZ_small h2 (by omega), heldZ_small (by omega) (by omega)]
def conc (cps : List Nat) (s : Wst) : Wst := { s with chs := s.chs.map (fun q : Nat × Chn => (cps.getD q.1 0, q.2)), tms := s.tms.map (fun t : Tk => ⟨t.kind, t.data, t.c.map (fun i => cps.getD i 0)⟩) }
structure AInv (s : Wst) : Prop where
 idx : ∀ (i : Nat) (q : Nat × Chn), s.chs[i]? = some q → q.1 = i
 tmc : ∀ t ∈ s.tms, ∀ i, t.c = some i → i < s.chs.length
def WA (CX : World → (Nat → Prop) → Prop) (w : World) (b : Wp) (o : Nat → Nat) (ps : List (List Ins)) (s : Wst) : Prop := AInv s ∧ ∃ cps : List Nat, cps.length = s.chs.length ∧ WW CX w b o ps (conc cps s)
theorem conc_wakeS (cps : List Nat) (s : Wst) (x : Wk) : conc cps (wakeS s x) = wakeS (conc cps s) x := by
 unfold wakeS
 show conc cps (match s.ts[x.task.toNat]? with | some t => _ | none => s) = (match s.ts[x.task.toNat]? with | some t => _ | none => conc cps s)
 cases h : s.ts[x.task.toNat]? <;> rfl
theorem idx_first {a : Int} : ∀ {l : List Int}, a ∈ l → l[l.idxOf a]? = some a ∧ ∀ k, k < l.idxOf a → l[k]? ≠ some a
 | x :: l, h => by
  rw [List.idxOf_cons]
  by_cases hx : x = a
  ·subst hx
   simp
  ·have hb : (x == a) = false := by simpa using hx
   simp only [hb, cond_false]
   have hm : a ∈ l := by
    rcases List.mem_cons.1 h with h1 | h1
    ·exact absurd h1.symm hx
    ·exact h1
   obtain ⟨h1, h2⟩ := idx_first hm
   refine ⟨by simpa using h1, fun k hk => ?_⟩
   cases k with
   | zero => simpa using hx
   | succ k => simpa using h2 k (by simpa using hk)
theorem locF_one {p : List Ins} {pc : Nat} {r : Reg} {now : Int} {O : LOut} (h : locF p pc r now = some O) : O.told = true → O.ended = false := by
 unfold locF at h
 split at h
 ·cases h; intro h; cases h
 ·split at h
  ·cases h
  ·repeat' split at h
   all_goals first | cases h; done | (cases h; intro h; first | rfl | cases h)
theorem ldo_F {a : Option Addr} {p : List Ins} {ci pc : Nat} {r : Reg} {now : Int} {O : LOut} (w : World) (hgood : ∀ x ∈ p, GoodC x p.length) (h : RowIn insC 6 w a p.length p) (hl : p.length ≤ 100) (hf : locF p pc r now = some O) :
  Calls Tryz.prog 48 #[.slice a p.length ci, .int .i64 pc, regV r, .int .i64 now] w fun e w' => e = .returned (.tuple #[.agg (outA O), .int .i64 0]) ∧ Made w w' := by
 unfold locF at hf
 split at hf
 ·rename_i he
  cases hf
  exact ldo_end (j := 0) (i := 0) (v := 0) (u := 0) w hgood h hl he
 ·split at hf
  ·cases hf
  ·rename_i x hx
   obtain ⟨xo, xa, xb, xc⟩ := x
   simp only at hf
   split at hf
   ·rename_i hc
    obtain ⟨rfl, h1, h2⟩ := hc
    obtain ⟨a1, rfl⟩ := Int.eq_ofNat_of_zero_le h1
    cases hf
    exact ldo_set (j := 0) w hgood h hl hx (by omega)
   ·split at hf
    ·rename_i hc
     obtain ⟨rfl, ⟨h1, h2⟩, h3, h4⟩ := hc
     obtain ⟨a1, rfl⟩ := Int.eq_ofNat_of_zero_le h1
     obtain ⟨b1, rfl⟩ := Int.eq_ofNat_of_zero_le h3
     cases hf
     exact ldo_move (u := 0) w hgood h hl hx (by omega) (by omega)
    ·split at hf
     ·rename_i hc
      obtain ⟨rfl, ⟨h1, h2⟩, rfl⟩ := hc
      obtain ⟨a1, rfl⟩ := Int.eq_ofNat_of_zero_le h1
      cases hf
      exact ldo_emit (j := 0) (u := 0) w hgood h hl hx (by omega)
     ·split at hf
      ·rename_i hc
       obtain ⟨rfl, h1, h2⟩ := hc
       obtain ⟨a1, rfl⟩ := Int.eq_ofNat_of_zero_le h1
       cases hf
       exact ldo_now (j := 0) w hgood h hl hx (by omega)
      ·cases hf
section
variable {CX : World → (Nat → Prop) → Prop} {w w' : World} {b : Wp} {o o' : Nat → Nat} {ps : List (List Ins)} {s : Wst}
theorem walone_F {i : Nat} {x : Tsk} {O : LOut} (hx : Ext CX) (h : WW CX w b o ps s) (hts : s.ts[i]? = some x) (hl : s.ts.length ≤ 64) (hst : x.st = 0) (hev : s.ev.length < 1000) (hO : O.told = true → O.ended = false) (hrd : (i : Int) ∈ s.rd) (hrl : s.rd.length ≤ 1000) :
  Calls Tryz.prog 49 #[.pointer (some ⟨b.pb, 0, none⟩), .int .i64 i, .agg (outA O)] w fun e w' => e = .returned (.tuple #[]) ∧ ∃ o', WW CX w' b o' ps (aloneS s i x O) ∧ Stp w w' (Own o) (Own o') := by
 obtain ⟨opc, oregs, ot, ov, oe⟩ := O
 cases ot
 ·cases oe
  ·exact walone_0 (j := 0) hx h hts hl hst hev
  ·exact walone_end hx h hts hl hst hev (idx_first hrd).1 (idx_first hrd).2 hrl
 ·have hoe : oe = false := hO rfl
  subst hoe
  exact walone_told (j := 0) hx h hts hl hst hev
theorem AStp.pre {w1 : World} {g : Nat} (h : Made w w1) (k : AStp w1 w' o o' g) : AStp w w' o o' g :=
 ⟨(h.mono (fun _ _ h => h.elim)).then k.t (fun _ _ h => h), fun k2 hk => (k.f k2 hk).imp id (fun h2 => Nat.le_trans h.size h2)⟩
theorem AInv.set {i : Nat} {q : Nat × Chn} {c : Chn} (h : AInv s) (hq : s.chs[i]? = some q) : AInv { s with chs := s.chs.set i (q.1, c) } := by
 refine ⟨fun j q2 hj => ?_, fun t ht k hk => by simpa using h.tmc t ht k hk⟩
 by_cases hij : i = j
 ·subst hij
  have hil := (List.getElem?_eq_some_iff.1 hq).1
  have hj2 : (s.chs.set i (q.1, c))[i]? = some q2 := hj
  rw [List.getElem?_set_self hil] at hj2
  cases hj2
  exact h.idx i q hq
 ·have hj2 : (s.chs.set i (q.1, c))[j]? = some q2 := hj
  rw [List.getElem?_set_ne hij] at hj2
  exact h.idx j q2 hj2
theorem AInv.same {s' : Wst} (h : AInv s) (hc : s'.chs = s.chs) (ht : s'.tms = s.tms) : AInv s' := ⟨by rw [hc]; exact h.idx, by rw [ht, hc]; exact h.tmc⟩
theorem conc_chs {cps : List Nat} {i : Nat} {q : Nat × Chn} (h : s.chs[i]? = some q) : (conc cps s).chs[i]? = some (cps.getD q.1 0, q.2) := by
 show (s.chs.map _)[i]? = _
 rw [List.getElem?_map, h]
 rfl
theorem conc_tms {cps : List Nat} {i : Nat} {t : Tk} (h : s.tms[i]? = some t) : (conc cps s).tms[i]? = some ⟨t.kind, t.data, t.c.map (fun i => cps.getD i 0)⟩ := by
 show (s.tms.map _)[i]? = _
 rw [List.getElem?_map, h]
 rfl
theorem conc_set (cps : List Nat) (i : Nat) (k : Nat) (c : Chn) : conc cps { s with chs := s.chs.set i (k, c) } = { conc cps s with chs := (conc cps s).chs.set i (cps.getD k 0, c) } := by
 unfold conc
 simp only [List.map_set]
theorem conc_new {cps : List Nat} {cp : Nat} {d : Int} (hi : AInv s) (hl : cps.length = s.chs.length) : conc (cps ++ [cp]) (timerS s d s.chs.length) = timerS (conc cps s) d cp := by
 have h1 : ∀ k, k < s.chs.length → (cps ++ [cp]).getD k 0 = cps.getD k 0 := fun k hk => by
  simp only [List.getD_eq_getElem?_getD]
  rw [List.getElem?_append_left (by omega)]
 have h2 : (cps ++ [cp]).getD s.chs.length 0 = cp := by
  simp only [List.getD_eq_getElem?_getD]
  rw [List.getElem?_append_right (by omega)]
  simp [hl]
 have h3 : s.chs.map (fun q => ((cps ++ [cp]).getD q.1 0, q.2)) = s.chs.map (fun q => (cps.getD q.1 0, q.2)) := by
  refine List.map_congr_left fun q hq => ?_
  obtain ⟨i, hiq⟩ := List.getElem?_of_mem hq
  rw [hi.idx i q hiq, h1 i (List.getElem?_eq_some_iff.1 hiq).1]
 have h4 : s.tms.map (fun t => (⟨t.kind, t.data, t.c.map (fun i => (cps ++ [cp]).getD i 0)⟩ : Tk)) = s.tms.map (fun t => ⟨t.kind, t.data, t.c.map (fun i => cps.getD i 0)⟩) := by
  refine List.map_congr_left fun t ht => ?_
  cases hc : t.c with
  | none => rfl
  | some i => simp only [Option.map_some, h1 i (hi.tmc t ht i hc)]
 unfold timerS conc
 simp only [List.map_append, List.map_cons, List.map_nil, h3, h4, List.length_map, Option.map_some, h2]
theorem getD_snoc {cps : List Nat} {cp k n : Nat} (hl : cps.length = n) (hk : k < n) : (cps ++ [cp]).getD k 0 = cps.getD k 0 := by
 simp only [List.getD_eq_getElem?_getD]
 rw [List.getElem?_append_left (by omega)]
theorem getD_last {cps : List Nat} {cp n : Nat} (hl : cps.length = n) : (cps ++ [cp]).getD n 0 = cp := by
 simp only [List.getD_eq_getElem?_getD]
 rw [List.getElem?_append_right (by omega)]
 simp [hl]
theorem conc_snoc {cps : List Nat} {cp : Nat} {c : Chn} (hi : AInv s) (hl : cps.length = s.chs.length) : conc (cps ++ [cp]) { s with made := s.made + 1, chs := s.chs ++ [(s.chs.length, c)] } = { conc cps s with made := s.made + 1, chs := (conc cps s).chs ++ [(cp, c)] } := by
 have h3 : s.chs.map (fun q : Nat × Chn => ((cps ++ [cp]).getD q.1 0, q.2)) = s.chs.map (fun q => (cps.getD q.1 0, q.2)) := by
  refine List.map_congr_left fun q hq => ?_
  obtain ⟨i, hiq⟩ := List.getElem?_of_mem hq
  rw [hi.idx i q hiq, getD_snoc hl (List.getElem?_eq_some_iff.1 hiq).1]
 have h4 : s.tms.map (fun t : Tk => (⟨t.kind, t.data, t.c.map (fun i => (cps ++ [cp]).getD i 0)⟩ : Tk)) = s.tms.map (fun t => ⟨t.kind, t.data, t.c.map (fun i => cps.getD i 0)⟩) := by
  refine List.map_congr_left fun t ht => ?_
  cases hc : t.c with
  | none => rfl
  | some i => simp only [Option.map_some, getD_snoc hl (hi.tmc t ht i hc)]
 unfold conc
 simp only [List.map_append, List.map_cons, List.map_nil, h3, h4, getD_last hl]
theorem AInv.snoc {c : Chn} {m : Int} (hi : AInv s) : AInv { s with made := m, chs := s.chs ++ [(s.chs.length, c)] } := by
 refine ⟨fun i q hq => ?_, fun t ht i hc => ?_⟩
 ·have hq2 : (s.chs ++ [(s.chs.length, c)])[i]? = some q := hq
  rcases Nat.lt_or_ge i s.chs.length with h1 | h1
  ·rw [List.getElem?_append_left h1] at hq2
   exact hi.idx i q hq2
  ·rw [List.getElem?_append_right h1] at hq2
   rcases Nat.eq_zero_or_pos (i - s.chs.length) with h2 | h2
   ·rw [h2] at hq2
    cases hq2
    omega
   ·rw [List.getElem?_eq_none (by simp; omega)] at hq2
    cases hq2
 ·show i < (s.chs ++ [_]).length
  rw [List.length_append]
  have := hi.tmc t ht i hc
  omega
theorem AInv.timer {d : Int} (hi : AInv s) : AInv (timerS s d s.chs.length) := by
 refine ⟨fun i q hq => ?_, fun t ht i hc => ?_⟩
 ·have hq2 : (s.chs ++ [(s.chs.length, (⟨true, false, false, true, none, []⟩ : Chn))])[i]? = some q := hq
  rcases Nat.lt_or_ge i s.chs.length with h1 | h1
  ·rw [List.getElem?_append_left h1] at hq2
   exact hi.idx i q hq2
  ·rw [List.getElem?_append_right h1] at hq2
   rcases Nat.eq_zero_or_pos (i - s.chs.length) with h2 | h2
   ·rw [h2] at hq2
    cases hq2
    omega
   ·rw [List.getElem?_eq_none (by simp; omega)] at hq2
    cases hq2
 ·have ht2 : t ∈ s.tms ++ [⟨1, 0, some s.chs.length⟩] := ht
  show i < (s.chs ++ [_]).length
  rw [List.length_append]
  rcases List.mem_append.1 ht2 with h1 | h1
  ·have := hi.tmc t h1 i hc
   omega
  ·simp only [List.mem_singleton] at h1
   subst h1
   cases hc
   simp
theorem wakeB_ok {s' : Wst} {x : Wk} (h : wakeB s x) (hts : s'.ts = s.ts) (hrd : s'.rd = s.rd) (h1 : s.rd.length ≤ 1000) (h2 : s.ts.length ≤ 64) (h3 : s'.nd < 1000000) (h4 : s'.ev.length < 1000) : WakeOK s' x := by
 obtain ⟨k1, k2, k3, k4⟩ := h
 obtain ⟨i, hi⟩ := Int.eq_ofNat_of_zero_le k1
 cases ht : s.ts[x.task.toNat]? with
 | none => rw [ht] at k4; exact k4.elim
 | some t =>
  rw [ht] at k4
  obtain ⟨pg, pc, st, how, r, io, ia, ib, ic⟩ := t
  obtain ⟨m1, m2, m3, m4, m5, m6, m7, m8⟩ := k4
  simp only at m1 m2 m3 m4 m5 m6 m7 m8
  subst m1 m2
  obtain ⟨a1, rfl⟩ := Int.eq_ofNat_of_zero_le m3.1
  obtain ⟨b1, rfl⟩ := Int.eq_ofNat_of_zero_le m4.1
  obtain ⟨c1, rfl⟩ := Int.eq_ofNat_of_zero_le m5.1
  have e1 := m3.2
  have e2 := m4.2
  have e3 := m5.2
  refine ⟨i, a1, b1, c1, pg, pc, how, r, hi, k2, ?_, by omega, by omega, by omega, by simpa using m6, m7, m8, ?_, by rw [hrd]; exact h1, by rw [hts]; exact h2, h3, h4⟩
  ·rw [hts]
   rw [hi] at ht
   simpa using ht
  ·rw [hrd, ← hi]
   exact k3
theorem AInv.wake (x : Wk) (h : AInv s) : AInv (wakeS s x) := by
 unfold wakeS
 show AInv (match s.ts[x.task.toNat]? with | some t => _ | none => s)
 cases s.ts[x.task.toNat]? with
 | none => exact h
 | some t => exact h.same rfl rfl
theorem wake_chs (x : Wk) : (wakeS s x).chs = s.chs := by
 unfold wakeS
 show (match s.ts[x.task.toNat]? with | some t => _ | none => s : Wst).chs = _
 cases s.ts[x.task.toNat]? <;> rfl
theorem wake_len (x : Wk) : (wakeS s x).ts.length = s.ts.length ∧ (wakeS s x).rd.length ≤ s.rd.length + 1 ∧ (wakeS s x).nd ≤ s.nd + 1 ∧ (wakeS s x).ev.length ≤ s.ev.length + 1 ∧ (wakeS s x).tms = s.tms ∧ ∀ a ∈ s.rd, a ∈ (wakeS s x).rd := by
 unfold wakeS
 show _
 cases h : s.ts[x.task.toNat]? with
 | none => exact ⟨rfl, Nat.le_succ _, Nat.le_succ _, Nat.le_succ _, rfl, fun a ha => ha⟩
 | some t =>
  refine ⟨List.length_set .., ?_, ?_, ?_, rfl, fun a ha => List.mem_append_left _ ha⟩
  ·show (s.rd ++ [_]).length ≤ _
   rw [List.length_append]; simp
  ·show (if x.ok then s.nd + 1 else s.nd) ≤ _
   split <;> omega
  ·show (s.ev ++ [_]).length ≤ _
   rw [List.length_append]; simp
theorem wake_keeps {x : Wk} {i : Nat} {y : Tsk} (h : wakeB s x) (hy : s.ts[i]? = some y) (h0 : y.st = 0) : (wakeS s x).ts[i]? = some y := by
 obtain ⟨k1, k2, k3, k4⟩ := h
 unfold wakeS
 show _
 cases ht : s.ts[x.task.toNat]? with
 | none => exact hy
 | some t =>
  rw [ht] at k4
  show (s.ts.set x.task.toNat _)[i]? = _
  rw [List.getElem?_set_ne (fun e => by
   rw [e, hy] at ht
   cases ht
   have := k4.1
   omega)]
  exact hy
theorem wakesB_ok : ∀ {l : List Wk} {s : Wst}, WakesB s l → s.rd.length + l.length ≤ 1000 → s.ts.length ≤ 64 → s.nd + l.length < 1000000 → s.ev.length + l.length < 1000 → WakesOK s l
 | [], s, h, h1, h2, h3, h4 => trivial
 | x :: l, s, h, h1, h2, h3, h4 => by
  obtain ⟨m1, m2, m3, m4, m5, m6⟩ := wake_len (s := s) x
  simp only [List.length_cons] at h1 h3 h4
  exact ⟨wakeB_ok h.1 rfl rfl (by omega) h2 (by omega) (by omega), wakesB_ok h.2 (by omega) (by omega) (by omega) (by omega)⟩
theorem wakes_chs : ∀ (l : List Wk) (s : Wst), (wakesS s l).chs = s.chs ∧ (wakesS s l).tms = s.tms ∧ (wakesS s l).ts.length = s.ts.length ∧ (wakesS s l).rd.length ≤ s.rd.length + l.length ∧ (wakesS s l).ev.length ≤ s.ev.length + l.length ∧ ∀ a ∈ s.rd, a ∈ (wakesS s l).rd
 | [], s => ⟨rfl, rfl, rfl, Nat.le_refl _, Nat.le_refl _, fun a ha => ha⟩
 | x :: l, s => by
  obtain ⟨m1, m2, m3, m4, m5, m6⟩ := wake_len (s := s) x
  obtain ⟨n1, n2, n3, n4, n5, n6⟩ := wakes_chs l (wakeS s x)
  have hc := wake_chs (s := s) x
  refine ⟨n1.trans hc, n2.trans m5, n3.trans m1, ?_, ?_, fun a ha => n6 a (m6 a ha)⟩
  ·show (wakesS (wakeS s x) l).rd.length ≤ s.rd.length + (l.length + 1)
   omega
  ·show (wakesS (wakeS s x) l).ev.length ≤ s.ev.length + (l.length + 1)
   omega
theorem wakes_keeps {i : Nat} {y : Tsk} (h0 : y.st = 0) : ∀ {l : List Wk} {s : Wst}, WakesB s l → s.ts[i]? = some y → (wakesS s l).ts[i]? = some y
 | [], s, _, h => h
 | x :: l, s, hb, h => wakes_keeps h0 (l := l) hb.2 (wake_keeps hb.1 h h0)
theorem wakesOK_conc (cps : List Nat) : ∀ (l : List Wk) (s : Wst), WakesOK s l ↔ WakesOK (conc cps s) l
 | [], s => Iff.rfl
 | x :: l, s => by
  show (WakeOK s x ∧ WakesOK (wakeS s x) l) ↔ (WakeOK (conc cps s) x ∧ WakesOK (wakeS (conc cps s) x) l)
  rw [← conc_wakeS, ← wakesOK_conc cps l (wakeS s x)]
  exact Iff.rfl
theorem conc_wakes (cps : List Nat) : ∀ (l : List Wk) (s : Wst), conc cps (wakesS s l) = wakesS (conc cps s) l
 | [], s => rfl
 | x :: l, s => by
  show conc cps (wakesS (wakeS s x) l) = wakesS (wakeS (conc cps s) x) l
  rw [conc_wakes cps l, conc_wakeS]
end
section
variable {CX : World → (Nat → Prop) → Prop} {w w' : World} {b : Wp} {o o' : Nat → Nat} {ps : List (List Ins)} {s : Wst}
theorem conc_alone (cps : List Nat) (i : Nat) (x : Tsk) (O : LOut) : conc cps (aloneS s i x O) = aloneS (conc cps s) i x O := by
 obtain ⟨opc, oregs, ot, ov, oe⟩ := O
 cases ot <;> cases oe <;> rfl
theorem alone_chs (i : Nat) (x : Tsk) (O : LOut) : (aloneS s i x O).chs = s.chs ∧ (aloneS s i x O).tms = s.tms := by
 obtain ⟨opc, oregs, ot, ov, oe⟩ := O
 cases ot <;> cases oe <;> exact ⟨rfl, rfl⟩
structure ActK (s s2 : Wst) (ins : Ins) (rr : Option Reg) : Prop where
 ts : ∀ (i : Nat) (x : Tsk), x.st = 0 → s.ts[i]? = some x → s2.ts[i]? = some x
 tl : s2.ts.length ≤ 64
 ev : s2.ev.length < 1000
 rl : s2.rd.length ≤ 1000
 rd : ∀ a ∈ s.rd, a ∈ s2.rd
 pk : rr = none → ins.op = 11 ∧ RegOK ins.a ∧ RegOK ins.b ∧ RegOK ins.c
theorem actF_K {s2 : Wst} {rr : Option Reg} {i : Nat} {ins : Ins} {r : Reg} (hl : Lim s) (hf : actF s i ins r = some (s2, rr)) : ActK s s2 ins rr := by
 obtain ⟨l1, l2, l3, l4, l5, l6, l7, l8, l9, l10, l11, l12, l13, l14, l15⟩ := hl
 unfold actF at hf
 split at hf
 ·unfold actGo at hf
  split at hf
  ·cases hf
   refine ⟨fun i x _ h => ?_, ?_, ?_, ?_, fun a ha => ?_, fun e => by cases e⟩
   ·show (s.ts ++ [_])[i]? = some x
    rw [List.getElem?_append_left (List.getElem?_eq_some_iff.1 h).1]
    exact h
   ·show (s.ts ++ [_]).length ≤ 64
    rw [List.length_append]; simp only [List.length_cons, List.length_nil]; omega
   ·show (s.ev ++ [_]).length < 1000
    rw [List.length_append]; simp only [List.length_cons, List.length_nil]; omega
   ·show (s.rd ++ [_]).length ≤ 1000
    rw [List.length_append]; simp only [List.length_cons, List.length_nil]; omega
   ·exact List.mem_append_left _ ha
  ·cases hf
 split at hf
 ·rename_i hop
  unfold actRecv at hf
  split at hf
  ·rename_i hc
   split at hf
   ·cases hf
   ·split at hf
    ·cases hf
     exact ⟨fun i x _ h => h, by show s.ts.length ≤ 64; omega, by show s.ev.length < 1000; omega, by show s.rd.length ≤ 1000; omega, fun a ha => ha, fun _ => ⟨hop, hc.1, hc.2.1, hc.2.2.1⟩⟩
    ·cases hf
  ·cases hf
 split at hf
 ·unfold actMake at hf
  split at hf
  ·cases hf
   exact ⟨fun i x _ h => h, by show s.ts.length ≤ 64; omega, by show s.ev.length < 1000; omega, by show s.rd.length ≤ 1000; omega, fun a ha => ha, fun e => by cases e⟩
  ·cases hf
 split at hf
 ·unfold actClose at hf
  split at hf
  ·split at hf
   ·cases hf
   ·rename_i q hq
    split at hf
    ·rename_i hc
     obtain ⟨k1, k2, k3, k4, k5, k6⟩ := hc
     cases hf
     obtain ⟨n1, n2, n3, n4, n5, n6⟩ := wakes_chs (q.2.recvs.map clW) { s with chs := s.chs.set (r.get ins.a.toNat).toNat (q.1, ⟨false, false, true, q.2.room, q.2.val, []⟩) }
     rw [List.length_map] at n4 n5
     have n4 : _ ≤ s.rd.length + q.2.recvs.length := n4
     have n5 : _ ≤ s.ev.length + q.2.recvs.length := n5
     exact ⟨fun i x h0 h => wakes_keeps h0 k6 h, by rw [n3]; show s.ts.length ≤ 64; omega, by omega, by omega, n6, fun e => by cases e⟩
    ·cases hf
  ·cases hf
 split at hf
 ·unfold actTimer at hf
  split at hf
  ·cases hf
   exact ⟨fun i x _ h => h, by show s.ts.length ≤ 64; omega, by show s.ev.length < 1000; omega, by show s.rd.length ≤ 1000; omega, fun a ha => ha, fun e => by cases e⟩
  ·cases hf
 split at hf
 ·unfold actStop at hf
  repeat' split at hf
  all_goals first
   | cases hf; done
   | (cases hf; exact ⟨fun i x _ h => h, by show s.ts.length ≤ 64; omega, by show s.ev.length < 1000; omega, by show s.rd.length ≤ 1000; omega, fun a ha => ha, fun e => by cases e⟩)
 split at hf
 ·unfold actReset at hf
  repeat' split at hf
  all_goals first
   | cases hf; done
   | (cases hf; exact ⟨fun i x _ h => h, by show s.ts.length ≤ 64; omega, by show s.ev.length < 1000; omega, by show s.rd.length ≤ 1000; omega, fun a ha => ha, fun e => by cases e⟩)
 cases hf
structure PsOK (ps : List (List Ins)) : Prop where
 le : ps.length ≤ 16
 len : ∀ p ∈ ps, p.length ≤ 100
 good : ∀ p ∈ ps, ∀ x ∈ p, GoodC x p.length
end
section
variable {CX : World → (Nat → Prop) → Prop} {w w' : World} {b : Wp} {o o' : Nat → Nat} {ps : List (List Ins)} {s : Wst}
theorem fires_F {cps : List Nat} : ∀ {k : Nat} {s s2 : Wst}, AInv s → firesF k s = some s2 → ∃ n, Fires n (conc cps s) (conc cps s2) ∧ AInv s2 ∧ s2.chs.length = s.chs.length
 | 0, s, s2, hi, hf => by cases hf
 | k + 1, s, s2, hi, hf => by
  unfold firesF at hf
  split at hf
  ·rename_i hL
   cases hf
   exact ⟨0, Fires.done _ (fun x hx => by
    have hx2 : s.L[0]? = some x := hx
    rw [hL] at hx2; cases hx2), hi, rfl⟩
  ·rename_i it ll0 hL
   split at hf
   ·rename_i hdue
    split at hf
    ·rename_i hlim
     obtain ⟨l1, l2, l3, l4, l5, l6, l7, l8, l9, l10, l11, l12, l13, l14, l15⟩ := hlim
     split at hf
     ·cases hf
     ·rename_i s1 h1
      unfold fireF at h1
      rw [hL] at h1
      simp only at h1
      split at h1
      ·cases h1
      ·rename_i t ht
       split at h1
       ·cases h1
       ·rename_i ci hci
        split at h1
        ·cases h1
        ·rename_i q hq
         split at h1
         ·rename_i hc
          obtain ⟨c1, c2, c3, c4, c5⟩ := hc
          obtain ⟨iid, iwh, ise⟩ := it
          obtain ⟨i, hii⟩ := Int.eq_ofNat_of_zero_le c1
          simp only at hii hdue
          subst hii
          simp only [Int.toNat_natCast] at ht h1
          obtain ⟨tk, td, tc⟩ := t
          obtain ⟨q1, qt, qs, qc, qr, qv, ql⟩ := q
          simp only at c2 c3 c4 c5 hci h1
          subst c2 c3 c4 hci
          have hq1 : q1 = ci := hi.idx ci _ hq
          subst hq1
          have hll : ∀ (x : It), x :: ll0 = x :: ll0 := fun _ => rfl
          cases ql with
          | nil =>
           simp only at h1
           split at h1
           ·rename_i hqv
            subst hqv
            cases h1
            obtain ⟨n, hn, hi2, hcl2⟩ := fires_F (cps := cps) (k := k) ((hi.set hq (c := ⟨true, qs, qc, true, some s.now, []⟩)).same (s' := fireB { s with L := ll0, chs := s.chs.set q1 (q1, ⟨true, qs, qc, true, some s.now, []⟩) } i iwh) rfl rfl) hf
            refine ⟨n + 1, Fires.next i iwh td q1 (cps.getD q1 0) ⟨true, qs, qc, true, none, []⟩ ⟨true, qs, qc, true, some s.now, []⟩ [] ll0 { due := ⟨ise, hL⟩, wh := hdue, now := l12, tm := conc_tms ht, ch := conc_chs hq, tl := (by show (s.tms.map _).length ≤ 1000; rw [List.length_map]; omega), sq := (by show s.sq < 1000000; omega), wq := .inl ⟨qs, qc, rfl, rfl, rfl⟩ } (by simp) (by show (s.chs.map _).length ≤ 1000; rw [List.length_map]; omega) (by show s.ev.length < 1000; omega) (by show s.nd < 1000000; omega) trivial ?_, hi2, ?_⟩
            ·have e1 : conc cps (fireB { s with L := ll0, chs := s.chs.set q1 (q1, ⟨true, qs, qc, true, some s.now, []⟩) } i iwh) = fireB { conc cps s with L := ll0, chs := (conc cps s).chs.set q1 (cps.getD q1 0, ⟨true, qs, qc, true, some s.now, []⟩) } i iwh := by
              have e2 := conc_set (s := { s with L := ll0 }) cps q1 q1 ⟨true, qs, qc, true, some s.now, []⟩
              exact congrArg (fun z => fireB z i iwh) e2
             rw [e1] at hn
             exact hn
            ·rw [hcl2]
             show (s.chs.set q1 _).length = _
             rw [List.length_set]
           ·cases h1
          | cons x lw =>
           simp only at h1
           split at h1
           ·rename_i hwb
            cases h1
            have hfi : AInv (fireB { s with L := ll0, chs := s.chs.set q1 (q1, ⟨true, qs, qc, true, qv, lw⟩) } i iwh) := (hi.set hq (c := ⟨true, qs, qc, true, qv, lw⟩)).same rfl rfl
            obtain ⟨n, hn, hi2, hcl2⟩ := fires_F (cps := cps) (k := k) (hfi.wake _) hf
            refine ⟨n + 1, Fires.next i iwh td q1 (cps.getD q1 0) ⟨true, qs, qc, true, qv, x :: lw⟩ ⟨true, qs, qc, true, qv, lw⟩ [⟨x.task, x.kase, s.now, true, false⟩] ll0 { due := ⟨ise, hL⟩, wh := hdue, now := l12, tm := conc_tms ht, ch := conc_chs hq, tl := (by show (s.tms.map _).length ≤ 1000; rw [List.length_map]; omega), sq := (by show s.sq < 1000000; omega), wq := .inr ⟨qs, qc, qv, x, lw, rfl, rfl, (by simp only [List.length_cons] at c5; omega), rfl⟩ } (by simp) (by show (s.chs.map _).length ≤ 1000; rw [List.length_map]; omega) (by show s.ev.length < 1000; omega) (by show s.nd < 1000000; omega) ⟨?_, trivial⟩ ?_, hi2, ?_⟩
            ·exact wakeB_ok hwb rfl rfl (by omega) (by omega) (by show s.nd + 1 < 1000000; omega) (by show (s.ev ++ [_]).length < 1000; rw [List.length_append]; simp only [List.length_cons, List.length_nil]; omega)
            ·have e1 : conc cps (fireB { s with L := ll0, chs := s.chs.set q1 (q1, ⟨true, qs, qc, true, qv, lw⟩) } i iwh) = fireB { conc cps s with L := ll0, chs := (conc cps s).chs.set q1 (cps.getD q1 0, ⟨true, qs, qc, true, qv, lw⟩) } i iwh := by
              have e2 := conc_set (s := { s with L := ll0 }) cps q1 q1 ⟨true, qs, qc, true, qv, lw⟩
              exact congrArg (fun z => fireB z i iwh) e2
             rw [conc_wakeS, e1] at hn
             exact hn
            ·rw [hcl2, wake_chs]
             show (s.chs.set q1 _).length = _
             rw [List.length_set]
           ·cases h1
         ·cases h1
    ·cases hf
   ·rename_i hdue
    cases hf
    exact ⟨0, Fires.done _ (fun x hx => by
     have hx2 : s.L[0]? = some x := hx
     rw [hL] at hx2
     cases hx2
     exact .inr (by show s.now < _; omega)), hi, rfl⟩
def entV : Ent → Value
 | .run n => .agg #[.int .i64 1, .int .i64 n, .int .i64 0]
 | .adv d => .agg #[.int .i64 2, .int .i64 d, .int .i64 0]
end
structure Tn where
 parent : Int
 linked : Bool
 kids : Option Addr × Nat × Nat
def tnC (x : Tn) : List Value := [.int .i64 x.parent, .bool x.linked, .slice x.kids.1 x.kids.2.1 x.kids.2.2]
theorem tnC_len (x : Tn) : (tnC x).length = 3 := rfl
theorem tnC_one (x : Tn) : ∀ u ∈ tnC x, u.oneCell' = true := by
 intro u hu
 simp only [tnC, List.mem_cons, List.not_mem_nil, or_false] at hu
 rcases hu with rfl | rfl | rfl <;> rfl
theorem Tryz.infoTn : (Tryz.prog.info? 181).map (fun i => (i.zero, i.size, i.bytes)) = some (some (.agg #[.int .i64 0, .bool false, .slice none 0 0]), 3, 40) := by kernel_rfl
structure Cx where
 node : Int
 free : Bool
 c : Option Nat
 err : Int
 cause : Int
 when : Int
 has : Bool
 own : Bool
 timer : Int
def cxC (x : Cx) : List Value := [.int .i64 x.node, .bool x.free, .pointer (pt x.c), .int .i64 x.err, .int .i64 x.cause, .int .i64 x.when, .bool x.has, .bool x.own, .int .i64 x.timer]
theorem cxC_len (x : Cx) : (cxC x).length = 9 := rfl
theorem cxC_one (x : Cx) : ∀ u ∈ cxC x, u.oneCell' = true := by
 intro u hu
 simp only [cxC, List.mem_cons, List.not_mem_nil, or_false] at hu
 rcases hu with rfl | rfl | rfl | rfl | rfl | rfl | rfl | rfl | rfl <;> rfl
theorem Tryz.infoCx : (Tryz.prog.info? 106).map (fun i => (i.zero, i.size, i.bytes)) = some (some (.agg #[.int .i64 0, .bool false, .pointer none, .int .i64 0, .int .i64 0, .int .i64 0, .bool false, .bool false, .int .i64 0]), 9, 64) := by kernel_rfl
theorem Tryz.sizeCx : (Tryz.prog.info? 106).map (·.size) = some 9 := by kernel_rfl
theorem fillCx {i : TypeInfo} (h : i.size = 9) (a b c d e f g k l : Value) : Instr.fill (fun k => some (k * i.size, i.size)) ((Array.range (1 * i.size)).map ((Value.agg #[.int .i64 0, .bool false, .pointer none, .int .i64 0, .int .i64 0, .int .i64 0, .bool false, .bool false, .int .i64 0]).cells[· % (Value.agg #[.int .i64 0, .bool false, .pointer none, .int .i64 0, .int .i64 0, .int .i64 0, .bool false, .bool false, .int .i64 0]).cells.size]!)) [(0, .agg #[a, b, c, d, e, f, g, k, l])] = some #[a, b, c, d, e, f, g, k, l] := by
 rw [h]
 first | kernel_rfl | simp [Instr.fill]
theorem trnew_c (w : World) : Calls Tryz.prog 36 #[] w fun e w' => ∃ p, e = .returned (.pointer (some ⟨p, 0, none⟩)) ∧ Blk w' p 148 #[.slice none 0 0] ∧ Made w w' ∧ w.heap.size ≤ p := by
 have HB := zh (Blk.new w 148 #[.slice none 0 0])
 have HM := zh ((zT w).alloc (.cells #[.slice none 0 0] 148))
 go_enter Tryz.func36, Tryz.ntmps36
 go_wp2_with fail
 go_ret
 exact ⟨w.heap.size, rfl, HB.out, HM.out, Nat.le_refl _⟩
theorem tradd_0 {w : World} {p : Nat} (h : Blk w p 148 #[.slice none 0 0]) : Calls Tryz.prog 59 #[.pointer (some ⟨p, 0, none⟩), .int .i64 (-1), .bool false] w fun e w' => e = .returned (.tuple #[.int .i64 0, .int .i64 0]) ∧ ∃ v, Blk w' p 148 #[v] ∧ Owns tnC 181 3 w' v [⟨-1, false, (none, 0, 0)⟩] ∧ (∀ k, v.ownBlock = some k → w.heap.size ≤ k) ∧ Turns (fun k => k = p) w w' := by
 obtain ⟨i0, hi0, hz0, hz1, hz2⟩ := info_parts Tryz.infoTn
 have q0 := h.cell 0
 simp only [zG] at q0
 have HP := zh h
 have HX := zh (Blk.new w 181 (tnC ⟨-1, false, (none, 0, 0)⟩).toArray)
 have HM := zh ((zT w).alloc (.cells (tnC ⟨-1, false, (none, 0, 0)⟩).toArray 181))
 have HNB := zh (show ∀ k, (Value.slice none 0 0).ownBlock = some k → False from fun k hk => by cases hk)
 clear h
 go_enter Tryz.func59, Tryz.ntmps59
 go_wp2_with (at_builtin; refine wpList_push rfl (.tmp 60) (.tmp 64) _ rfl i0 _ 40 Tryz.underlying146 hi0 hz0 hz1 hz2 rfl (by omega) tnC_len tnC_one (M := []) rfl Owns.nil ⟨-1, false, (none, 0, 0)⟩ rfl HX.out (by simp) (by omega) ?_; intro v2 w2 hO2 hT2 hV2; have hb2 := (HP.out.turns HM.out (fun h => h)).turns hT2 (fun e => HNB.out _ e); have hf := hb2.free 0; have HO2 := zh hO2; have HT2 := zh (HM.out.trans (hT2.mono (fun _ _ e => (HNB.out _ e).elim))); have HV2 := zh hV2; have HB2 := zh hb2; obtain ⟨a3, c3, rfl⟩ := owns_slice hO2; have q1 := hb2.cell 0; simp only [List.getElem?_toArray, List.getElem?_cons_zero] at q1; clear hO2 hT2 hV2 hb2)
 go_returns
 have hpk : ∀ k, (Value.slice a3 ([] ++ [(⟨-1, false, (none, 0, 0)⟩ : Tn)]).length c3).ownBlock = some k → w.heap.size ≤ k := fun k hk => by
  rcases HV2.out k hk with h4 | h4
  ·exact (HNB.out _ h4).elim
  ·exact Nat.le_trans HM.out.size h4
 have h3 := HB2.out.put 0 (.slice a3 ([] ++ [(⟨-1, false, (none, 0, 0)⟩ : Tn)]).length c3)
 exact ⟨rfl, _, h3, HO2.out.turns (set1 _ p 0 _) (fun k hk e => by have := hpk k hk; have := HP.out.lt; omega), hpk, (HT2.out.mono (fun _ _ h => h.elim)).trans (set1 _ p 0 _)⟩
def Bg (w w' : World) (q pm tr m : Nat) : Prop := ∃ vt vl, Blk w' tr 148 #[vt] ∧ Owns tnC 181 3 w' vt [⟨-1, false, (none, 0, 0)⟩] ∧ Blk w' q 102 #[.pointer (some ⟨pm, 0, none⟩), .pointer (some ⟨tr, 0, none⟩), vl, .slice none 0 0, .map (some m)] ∧ Owns cxC 106 9 w' vl [⟨0, true, none, 0, 0, 0, false, false, -1⟩] ∧ MapI w' m (fun j => if j = 0 then some (.int .i64 0) else none) ∧ (∀ k, vt.ownBlock = some k → w.heap.size ≤ k) ∧ (∀ k, vl.ownBlock = some k → w.heap.size ≤ k) ∧ (∀ k, vl.ownBlock = some k → vt.ownBlock ≠ some k) ∧ Turns (fun k => k = q ∨ k = tr ∨ k = m) w w'
theorem cxadd_0 {w : World} {q pm tr m : Nat} (h : Blk w q 102 #[.pointer (some ⟨pm, 0, none⟩), .pointer (some ⟨tr, 0, none⟩), .slice none 0 0, .slice none 0 0, .map (some m)]) (ht : Blk w tr 148 #[.slice none 0 0]) (hm : MapI w m (fun _ => none)) (hd : q ≠ tr ∧ q ≠ m ∧ tr ≠ m) :
  Calls Tryz.prog 37 #[.pointer (some ⟨q, 0, none⟩), .agg (cxC ⟨0, true, none, 0, 0, 0, false, false, 0⟩).toArray, .int .i64 (-1)] w fun e w' => e = .returned (.int .i64 0) ∧ Bg w w' q pm tr m := by
 obtain ⟨i0, hi0, hz0, hz1, hz2⟩ := info_parts Tryz.infoCx
 have HD := zh hd
 have HB0 := zh (Blk.new w 106 (cxC ⟨0, true, none, 0, 0, 0, false, false, 0⟩).toArray)
 have HM0 := zh ((zT w).alloc (.cells (cxC ⟨0, true, none, 0, 0, 0, false, false, 0⟩).toArray 106))
 have HQ := zh (h.turns HM0.out (fun h => h))
 have HT := zh (ht.turns HM0.out (fun h => h))
 have HMP := zh (hm.turns HM0.out (fun h => h))
 have HL := zh (And.intro h.lt (And.intro ht.lt hm.lt))
 clear h ht hm hd
 go_enter Tryz.func37, Tryz.ntmps37
 go_upto_region 1 with fail
 have HLW : Hid (w.heap.size < (w.alloc (.cells (cxC ⟨0, true, none, 0, 0, 0, false, false, 0⟩).toArray 106)).heap.size) := zh HB0.out.lt
 generalize w.alloc (.cells (cxC ⟨0, true, none, 0, 0, 0, false, false, 0⟩).toArray 106) = W at *
 have HAD := zh (fun ww (hh : Blk ww tr 148 #[.slice none 0 0]) => tradd_0 hh)
 refine wp_region_held_drew (S := fun w' => Blk w' (q) 102 #[.pointer (some ⟨pm, 0, none⟩), .pointer (some ⟨tr, 0, none⟩), .slice none 0 0, .slice none 0 0, .map (some m)] ∧ Blk w' (w.heap.size) 106 #[.int .i64 0, .bool true, .pointer none, .int .i64 0, .int .i64 0, .int .i64 0, .bool false, .bool false, .int .i64 0] ∧ (w' = W.drew ∨ True)) (by kernel_rfl) ?_ (fun hHeld => ?_)
 ·exact ⟨HQ.out, HB0.out, .inr trivial⟩
 refine tH 0 8 ?_ ?_ ?_;rotate_left
 ·intro w hSw
  go_simp
  try with_reducible rfl
 try simp only [zP]
 refine tH 1 9 ?_ ?_ ?_;rotate_left
 ·intro w hSw
  go_simp
  try with_reducible rfl
 try simp only [zP]
 refine tH 2 10 ?_ ?_ ?_;rotate_left
 ·intro w hSw
  go_simp
  try with_reducible rfl
 try simp only [zP]
 refine tH 3 11 ?_ ?_ ?_;rotate_left
 ·intro w hSw
  have q0_0 := hSw.1.cell 0
  have q0_1 := hSw.1.cell 1
  have q0_2 := hSw.1.cell 2
  have q0_3 := hSw.1.cell 3
  have q0_4 := hSw.1.cell 4
  have q1_0 := hSw.2.1.cell 0
  have q1_1 := hSw.2.1.cell 1
  have q1_2 := hSw.2.1.cell 2
  have q1_3 := hSw.2.1.cell 3
  have q1_4 := hSw.2.1.cell 4
  have q1_5 := hSw.2.1.cell 5
  have q1_6 := hSw.2.1.cell 6
  have q1_7 := hSw.2.1.cell 7
  have q1_8 := hSw.2.1.cell 8
  simp only [zG] at q0_0 q0_1 q0_2 q0_3 q0_4 q1_0 q1_1 q1_2 q1_3 q1_4 q1_5 q1_6 q1_7 q1_8
  go_simp
  try with_reducible rfl
 try simp only [zP]
 refine tH 4 12 ?_ ?_ ?_;rotate_left
 ·intro w hSw
  go_simp
  try with_reducible rfl
 try simp only [zP]
 refine tH 5 13 ?_ ?_ ?_;rotate_left
 ·intro w hSw
  go_simp
  try with_reducible rfl
 try simp only [zP]
 refine tH 6 14 ?_ ?_ ?_;rotate_left
 ·intro w hSw
  have q0_0 := hSw.1.cell 0
  have q0_1 := hSw.1.cell 1
  have q0_2 := hSw.1.cell 2
  have q0_3 := hSw.1.cell 3
  have q0_4 := hSw.1.cell 4
  have q1_0 := hSw.2.1.cell 0
  have q1_1 := hSw.2.1.cell 1
  have q1_2 := hSw.2.1.cell 2
  have q1_3 := hSw.2.1.cell 3
  have q1_4 := hSw.2.1.cell 4
  have q1_5 := hSw.2.1.cell 5
  have q1_6 := hSw.2.1.cell 6
  have q1_7 := hSw.2.1.cell 7
  have q1_8 := hSw.2.1.cell 8
  simp only [zG] at q0_0 q0_1 q0_2 q0_3 q0_4 q1_0 q1_1 q1_2 q1_3 q1_4 q1_5 q1_6 q1_7 q1_8
  go_simp
  try with_reducible rfl
 try simp only [zP]
 refine tH 7 15 ?_ ?_ ?_;rotate_left
 ·intro w hSw
  go_simp
  try with_reducible rfl
 try simp only [zP]
 refine zR 8 fun K hK => ?_
 go_simp
 refine (HAD.out W.drew HT.out).mono ?_
 rintro e w1 ⟨rfl, vt, hbt, hot, hft, htt⟩
 refine hK.out _ _ ?_ (fun hHeld => ?_)
 ·exact ⟨hHeld.1.turns htt HD.out.1, hHeld.2.1.turns htt (fun e => by have := HL.out.2.1; omega), .inr trivial⟩
 clear hK K
 try simp only [zP]
 refine tH 9 7 ?_ ?_ ?_;rotate_left
 ·intro w hSw
  go_simp
  try with_reducible rfl
 try simp only [zP]
 refine tH 10 17 ?_ ?_ ?_;rotate_left
 ·intro w hSw
  go_simp
  try with_reducible rfl
 try simp only [zP]
 refine tH 11 18 ?_ ?_ ?_;rotate_left
 ·intro w hSw
  go_simp
  try with_reducible rfl
 try simp only [zP]
 refine tH 12 19 ?_ ?_ ?_;rotate_left
 ·intro w hSw
  go_simp
  try with_reducible rfl
 try simp only [zP]
 refine zR 13 fun K hK => ?_
 have qz := hHeld.2.1.cell 0
 have qf := hHeld.2.1.free 0
 simp only [zG] at qz
 go_simp
 refine hK.out _ _ ?_ (fun hHeld => ?_)
 ·exact ⟨hHeld.1.far (by show q ≠ w.heap.size; have := HL.out.1; omega) _, by simpa using hHeld.2.1.put 0 (.int .i64 0), .inr trivial⟩
 clear hK K
 try simp only [zP]
 refine wpAnyH_done (by kernel_rfl) ?_ _
 have HT1 := zh (((HM0.out.mono (S' := fun k => k = q ∨ k = tr ∨ k = m) (fun _ _ h => h.elim)).drew.then htt (fun _ _ e => .inr (.inl e))).setCell (p := ⟨w.heap.size, 0, none⟩) (fun e => absurd e (Nat.lt_irrefl _)) (.int .i64 0))
 have HQ1 := zh hHeld.1
 have HX1 := zh hHeld.2.1
 have HV1 := zh (hbt.far (p := ⟨w.heap.size, 0, none⟩) (by show tr ≠ w.heap.size; have := HL.out.2.1; omega) (.int .i64 0))
 have HO1 := zh (hot.turns (set1 w1 w.heap.size 0 (.int .i64 0)) (fun k hk e => by have h1 := hft k hk; have h2 := HLW.out; have h3 : W.drew.heap.size = W.heap.size := rfl; omega))
 have HF1 := zh (show ∀ k, vt.ownBlock = some k → w.heap.size < k from fun k hk => by have h1 := hft k hk; have h2 := HLW.out; have h3 : W.drew.heap.size = W.heap.size := rfl; omega)
 have HP1 := zh (((HMP.out.turns (zT W).drew (fun h => h)).turns htt (fun e => HD.out.2.2 e.symm)).turns (set1 w1 w.heap.size 0 (.int .i64 0)) (by show ¬ m = w.heap.size; have := HL.out.2.2; omega))
 clear hHeld hbt hot hft htt
 generalize w1.setCell ⟨w.heap.size, 0, none⟩ (.int .i64 0) = W1 at *
 have f8 := HX1.out.free 8
 have q8 := HX1.out.cell 8
 simp only [zG] at q8
 go_upto_region 3 with fail
 have HT2 := zh (HT1.out.setCell (p := ⟨w.heap.size, 8, none⟩) (fun e => absurd e (Nat.lt_irrefl _)) (.int .i64 (-1)))
 have HQ2 := zh (HQ1.out.far (p := ⟨w.heap.size, 8, none⟩) (by show q ≠ w.heap.size; have := HL.out.1; omega) (.int .i64 (-1)))
 have HX2 : Hid (Blk (W1.setCell ⟨w.heap.size, 8, none⟩ (.int .i64 (-1))) w.heap.size 106 #[.int .i64 0, .bool true, .pointer none, .int .i64 0, .int .i64 0, .int .i64 0, .bool false, .bool false, .int .i64 (-1)]) := zh (by simpa using HX1.out.put 8 (.int .i64 (-1)))
 have HV2 := zh (HV1.out.far (p := ⟨w.heap.size, 8, none⟩) (by show tr ≠ w.heap.size; have := HL.out.2.1; omega) (.int .i64 (-1)))
 have HO2 := zh (HO1.out.turns (set1 W1 w.heap.size 8 (.int .i64 (-1))) (fun k hk e => by have h1 := HF1.out k hk; omega))
 have HP2 := zh (HP1.out.turns (set1 W1 w.heap.size 8 (.int .i64 (-1))) (by show ¬ m = w.heap.size; have := HL.out.2.2; omega))
 clear f8 q8
 generalize W1.setCell ⟨w.heap.size, 8, none⟩ (.int .i64 (-1)) = W2 at *
 obtain ⟨W3, hrun, hm3, ht3, hsz3⟩ := MapI.store (P := Tryz.prog) (w := W2.drew) (b := m) (HP2.out.turns (zT W2).drew (fun h => h)) Tryz.underlying98 Tryz.underlying3 0 (.int .i64 0)
 have HM3 := zh hm3
 have HT3 := zh ht3
 clear hm3 ht3 hsz3
 refine wp_region_held_drew (S := fun w' => Blk w' (q) 102 #[.pointer (some ⟨pm, 0, none⟩), .pointer (some ⟨tr, 0, none⟩), .slice none 0 0, .slice none 0 0, .map (some m)] ∧ Blk w' (w.heap.size) 106 #[.int .i64 0, .bool true, .pointer none, .int .i64 0, .int .i64 0, .int .i64 0, .bool false, .bool false, .int .i64 (-1)] ∧ (w' = W2.drew ∨ True)) (by kernel_rfl) ?_ (fun hHeld => ?_)
 ·exact ⟨HQ2.out, HX2.out, .inr trivial⟩
 refine tH 0 21 ?_ ?_ ?_;rotate_left
 ·intro w hSw
  go_simp
  try with_reducible rfl
 try simp only [zP]
 refine tH 1 22 ?_ ?_ ?_;rotate_left
 ·intro w hSw
  go_simp
  try with_reducible rfl
 try simp only [zP]
 refine tH 2 23 ?_ ?_ ?_;rotate_left
 ·intro w hSw
  go_simp
  try with_reducible rfl
 try simp only [zP]
 refine tH 3 24 ?_ ?_ ?_;rotate_left
 ·intro w hSw
  have q0_0 := hSw.1.cell 0
  have q0_1 := hSw.1.cell 1
  have q0_2 := hSw.1.cell 2
  have q0_3 := hSw.1.cell 3
  have q0_4 := hSw.1.cell 4
  simp only [zG] at q0_0 q0_1 q0_2 q0_3 q0_4
  go_simp
  try with_reducible rfl
 try simp only [zP]
 refine tH 4 25 ?_ ?_ ?_;rotate_left
 ·intro w hSw
  go_simp
  try with_reducible rfl
 try simp only [zP]
 refine tH 5 26 ?_ ?_ ?_;rotate_left
 ·intro w hSw
  have q1_0 : w.cell? ⟨_, 0, none⟩ = some (.int .i64 0) := hSw.2.1.cell 0
  go_simp
  try with_reducible rfl
 try simp only [zP]
 refine tH 6 27 ?_ ?_ ?_;rotate_left
 ·intro w hSw
  go_simp
  try with_reducible rfl
 try simp only [zP]
 refine tH 7 28 ?_ ?_ ?_;rotate_left
 ·intro w hSw
  go_simp
  try with_reducible rfl
 try simp only [zP]
 refine tH 8 29 ?_ ?_ ?_;rotate_left
 ·intro w hSw
  go_simp
  try with_reducible rfl
 try simp only [zP]
 refine tH 9 30 ?_ ?_ ?_;rotate_left
 ·intro w hSw
  have q0_0 := hSw.1.cell 0
  have q0_1 := hSw.1.cell 1
  have q0_2 := hSw.1.cell 2
  have q0_3 := hSw.1.cell 3
  have q0_4 := hSw.1.cell 4
  simp only [zG] at q0_0 q0_1 q0_2 q0_3 q0_4
  go_simp
  try with_reducible rfl
 try simp only [zP]
 refine tH 10 31 ?_ ?_ ?_;rotate_left
 ·intro w hSw
  go_simp
  try with_reducible rfl
 try simp only [zP]
 refine zR 11 fun K hK => ?_
 go_simp
 refine hK.out _ _ ?_ (fun hHeld => ?_)
 ·exact ⟨hHeld.1.turns HT3.out HD.out.2.1, hHeld.2.1.turns HT3.out (fun e => by have := HL.out.2.2; omega), .inr trivial⟩
 clear hK K
 try simp only [zP]
 refine wpAnyH_done (by kernel_rfl) ?_ _
 have HTM := zh (HT2.out.drew.then HT3.out (fun _ _ e => .inr (.inr e)))
 have HQ3 := zh (HQ2.out.drew.turns HT3.out HD.out.2.1)
 have HX3 := zh (HX2.out.drew.turns HT3.out (fun e => by have := HL.out.2.2; omega))
 have HV3 := zh (HV2.out.drew.turns HT3.out HD.out.2.2)
 have HO3 := zh (HO2.out.turns ((Turns.refl (fun k => k = m) W2).drew.trans HT3.out) (fun k hk e => by have := HF1.out k hk; have := HL.out.2.2; omega))
 have HNQ := zh (show ∀ k, (Value.slice none 0 0).ownBlock = some k → k ≠ q from fun k hk => by cases hk)
 have HNX := zh (show ∀ k, (Value.slice none 0 0).ownBlock = some k → k ≠ w.heap.size from fun k hk => by cases hk)
 have HOL := zh (show ∀ k, vt.ownBlock = some k → k < W3.heap.size from fun k hk => HO3.out.lt hk)
 clear hHeld hrun
 go_upto_region 4 with fail
 refine wp_region_z (S := fun w' => Blk w' (q) 102 #[.pointer (some ⟨pm, 0, none⟩), .pointer (some ⟨tr, 0, none⟩), .slice none 0 0, .slice none 0 0, .map (some m)] ∧ Blk w' (w.heap.size) 106 #[.int .i64 0, .bool true, .pointer none, .int .i64 0, .int .i64 0, .int .i64 0, .bool false, .bool false, .int .i64 (-1)] ∧ Turns (fun k => ((Value.slice none 0 0)).ownBlock = some k) W3 w') 10 (by kernel_rfl) ?_ (fun hHeld => ?_)
 ·exact ⟨HQ3.out, HX3.out, (Turns.refl _ W3).drew⟩
 refine tZ 0 32 ?_ ?_ ?_;rotate_left
 ·intro w hSw
  go_simp
  try with_reducible rfl
 try simp only [zP]
 refine tZ 1 33 ?_ ?_ ?_;rotate_left
 ·intro w hSw
  go_simp
  try with_reducible rfl
 try simp only [zP]
 refine tZ 2 34 ?_ ?_ ?_;rotate_left
 ·intro w hSw
  go_simp
  try with_reducible rfl
 try simp only [zP]
 refine tZ 3 35 ?_ ?_ ?_;rotate_left
 ·intro w hSw
  go_simp
  try with_reducible rfl
 try simp only [zP]
 refine tZ 4 36 ?_ ?_ ?_;rotate_left
 ·intro w hSw
  have q0_0 := hSw.1.cell 0
  have q0_1 := hSw.1.cell 1
  have q0_2 := hSw.1.cell 2
  have q0_3 := hSw.1.cell 3
  have q0_4 := hSw.1.cell 4
  have q1_0 := hSw.2.1.cell 0
  have q1_1 := hSw.2.1.cell 1
  have q1_2 := hSw.2.1.cell 2
  have q1_3 := hSw.2.1.cell 3
  have q1_4 := hSw.2.1.cell 4
  have q1_5 := hSw.2.1.cell 5
  have q1_6 := hSw.2.1.cell 6
  have q1_7 := hSw.2.1.cell 7
  have q1_8 := hSw.2.1.cell 8
  simp only [zG] at q0_0 q0_1 q0_2 q0_3 q0_4 q1_0 q1_1 q1_2 q1_3 q1_4 q1_5 q1_6 q1_7 q1_8
  go_simp
  try with_reducible rfl
 try simp only [zP]
 refine tZ 5 37 ?_ ?_ ?_;rotate_left
 ·intro w hSw
  refine exec_load_row (P := Tryz.prog) (x := .tmp 4) ?_ ?_ hSw.2.1 Tryz.underlying106 ?_ Tryz.sizeCx <;> rfl
 try simp only [zP]
 refine wpAnyZ_ready (rs := [6]) (by kernel_rfl) (by simp) ?_
 refine AllReadyZ.cons rfl (fun K hK => ?_) AllReadyZ.nil
 refine step_single rfl _ (.tmp 37) (by rfl) i0 _ Tryz.underlying99 hi0 hz0 (by rw [hz1]; decide) (by rw [hz1]; decide) #[.int .i64 0, .bool true, .pointer none, .int .i64 0, .int .i64 0, .int .i64 0, .bool false, .bool false, .int .i64 (-1)] (by rfl) (fillCx hz1 _ _ _ _ _ _ _ _ _) ?_
 intro bX wX hTX hBX hLX
 refine hK.out _ _ ?_ (fun hHeld => ?_)
 ·exact ⟨hHeld.1.turns hTX (fun h => h), hHeld.2.1.turns hTX (fun h => h), (hHeld.2.2).trans (hTX.mono (fun _ _ h => h.elim))⟩
 clear hK K
 try simp only [zP]
 refine wpAnyZ_ready (rs := [7]) (by kernel_rfl) (by simp) ?_
 refine AllReadyZ.cons rfl (fun K hK => ?_) AllReadyZ.nil
 refine step_push rfl _ _ _ (by rfl) i0 _ 64 Tryz.underlying99 hi0 hz0 hz1 hz2 rfl (by omega) cxC_len cxC_one (by rfl) (((Owns.nil (enc := cxC) (w := W3.drew))).turns hTX (fun _ _ h => h)) (⟨0, true, none, 0, 0, 0, false, false, -1⟩) (by rfl) hBX (by simp) (by omega) ?_
 intro v2 w2 hO2 hT2 hV2
 obtain ⟨a3, c3, rfl⟩ := owns_slice hO2
 refine hK.out _ _ ?_ (fun hHeld => ?_)
 ·exact ⟨hHeld.1.turns hT2 (fun e => HNQ.out _ e rfl), hHeld.2.1.turns hT2 (fun e => HNX.out _ e rfl), (hHeld.2.2).trans hT2⟩
 clear hK K
 try simp only [zP]
 refine wpAnyZ_ready (rs := [8]) (by kernel_rfl) (by simp) ?_
 refine AllReadyZ.cons rfl (fun K hK => ?_) AllReadyZ.nil
 go_simp
 refine hK.out _ _ hHeld (fun hHeld => ?_)
 clear hK K
 try simp only [zP]
 refine tZ 9 41 ?_ ?_ ?_;rotate_left
 ·intro w hSw
  go_simp
  try with_reducible rfl
 try simp only [zP]
 refine wpAnyZ_ready (rs := [10]) (by kernel_rfl) (by simp) ?_
 refine AllReadyZ.last rfl (fun K hK => ?_) AllReadyZ.nil
 have qz0 := hHeld.1.cell 2
 have qf := hHeld.1.free 2
 simp only [zG] at qz0
 go_simp
 refine hK.out _ _ ?_
 clear hK K
 try simp only [zP]
 refine wpAnyZ_done (by kernel_rfl) ?_ _
 simp only [List.nil_append, List.length_cons, List.length_nil, Nat.zero_add] at hO2 hT2 hV2
 have hvl : ∀ k, (Value.slice a3 1 c3).ownBlock = some k → W3.heap.size ≤ k := fun k hk => by
  rcases hV2 k hk with h1 | h1
  ·cases h1
  ·exact Nat.le_trans hTX.size h1
 have htt := (hTX.mono (S' := fun k => k = q ∨ k = tr ∨ k = m) (fun _ _ h => h.elim)).then hT2 (fun _ _ e => by cases e)
 have hS3 : W3.drew.heap.size = W3.heap.size := rfl
 have hs0 := HTM.out.size
 have HTF := zh ((HTM.out.drew.trans htt).setCell (p := ⟨q, 2, none⟩) (fun _ => .inl rfl) (.slice a3 1 c3))
 have h4 := hHeld.1.put 2 (.slice a3 1 c3)
 simp only [List.setIfInBounds_toArray, List.set_cons_zero, List.set_cons_succ] at h4
 have HQ4 := zh h4
 have HVL := zh hvl
 have hql := HL.out
 have HO4 := zh (hO2.turns (set1 w2 q 2 (.slice a3 1 c3)) (fun k hk e => by have := hvl k hk; omega))
 have htq : Turns (fun k => k = q) W3.drew (w2.setCell ⟨q, 2, none⟩ (.slice a3 1 c3)) := ((hTX.mono (fun _ _ h => h.elim)).then hT2 (fun _ _ e => by cases e)).trans (set1 w2 q 2 _)
 have HV4 := zh (HV3.out.drew.turns htq (fun e => HD.out.1 e.symm))
 have HM4 := zh ((HM3.out.turns (zT W3).drew (fun h => h)).turns htq (fun e => HD.out.2.1 e.symm))
 have HO5 := zh ((HO3.out.turns (zT W3).drew (fun _ _ h => h)).turns htq (fun k hk e => by have := HF1.out k hk; omega))
 clear hHeld hO2 hT2 hV2 hTX hBX hLX htt htq hvl
 generalize w2.setCell ⟨q, 2, none⟩ (.slice a3 1 c3) = W4 at *
 have r2 := h4.cell 2
 simp only [zG] at r2
 clear h4
 go_wp2_with fail
 go_ret
 refine ⟨rfl, vt, _, HV4.out, HO5.out, HQ4.out, HO4.out, ?_, fun k hk => by have := HF1.out k hk; omega, fun k hk => by have := HVL.out k hk; omega, fun k hk e => ?_, HTF.out⟩
 ·have h9 := HM4.out
  refine cast (congrArg (MapI W4 m) (funext fun j => ?_)) h9
  by_cases hj : j = 0 <;> simp [hj]
 ·have h1 := HVL.out k hk
  have h2 := HOL.out k e
  omega
theorem ctxnew_c (w : World) (pm : Nat) : Calls Tryz.prog 20 #[.pointer (some ⟨pm, 0, none⟩)] w fun e w' => ∃ q tr m w0, e = .returned (.pointer (some ⟨q, 0, none⟩)) ∧ Bg w0 w' q pm tr m ∧ Made w w0 ∧ Made w w' ∧ (w.heap.size ≤ tr ∧ tr < m ∧ m < q ∧ q < w0.heap.size) := by
 have HT := zh (trnew_c w)
 have hmk := @run_makeMap Tryz.prog
 go_enter Tryz.func20, Tryz.ntmps20
 go_wp2_with fail
 refine HT.out.mono ?_
 rintro e w1 ⟨tr, rfl, hb1, hm1, hl1⟩
 have hm := MapI.new w1
 have hmm := hm.alloc (.cells #[.pointer (some ⟨pm, 0, none⟩), .pointer (some ⟨tr, 0, none⟩), .slice none 0 0, .slice none 0 0, .map (some w1.heap.size)] 102)
 have hq := Blk.new (w1.alloc (.map #[] 0)) 102 #[.pointer (some ⟨pm, 0, none⟩), .pointer (some ⟨tr, 0, none⟩), .slice none 0 0, .slice none 0 0, .map (some w1.heap.size)]
 have hs : (w1.alloc (.map #[] 0)).heap.size = w1.heap.size + 1 := by simp
 rw [hs] at hq
 have ht := (hb1.alloc (.map #[] 0)).alloc (.cells #[.pointer (some ⟨pm, 0, none⟩), .pointer (some ⟨tr, 0, none⟩), .slice none 0 0, .slice none 0 0, .map (some w1.heap.size)] 102)
 have hlt := hb1.lt
 have hmd : Made w ((w1.alloc (.map #[] 0)).alloc (.cells #[.pointer (some ⟨pm, 0, none⟩), .pointer (some ⟨tr, 0, none⟩), .slice none 0 0, .slice none 0 0, .map (some w1.heap.size)] 102)) := (hm1.alloc _).alloc _
 have HAD := zh (cxadd_0 hq ht hmm ⟨by omega, by omega, by omega⟩)
 have HMD := zh hmd
 have HL := zh (And.intro hl1 (And.intro hlt hq.lt))
 clear hm hmm hq ht hmd hb1 hm1
 go_wp2_with fail
 refine HAD.out.mono ?_
 rintro e w2 ⟨rfl, hbg⟩
 have HBG := zh hbg
 clear hbg
 go_wp2_with fail
 go_ret
 have h1 := HL.out
 refine ⟨w1.heap.size + 1, tr, w1.heap.size, _, by simp, HBG.out, HMD.out, ?_, by omega, by omega, by omega, h1.2.2⟩
 obtain ⟨vt, vl, _, _, _, _, _, _, _, _, htt⟩ := HBG.out
 have h2 : w.heap.size ≤ w1.heap.size := by omega
 exact HMD.out.then htt (fun k hk e => by rcases e with rfl | rfl | rfl <;> omega)
theorem insC_len (x : Ins) : (insC x).length = 6 := rfl
theorem Tryz.infoIns6 : (Tryz.prog.info? 25).map (fun i => (i.zero, i.size, i.bytes)) = some (some (.agg #[.int .i64 0, .int .i64 0, .int .i64 0, .int .i64 0, .slice none 0 0, .bool false]), 6, 64) := by kernel_rfl
theorem clone_ins {a : Option Addr} {cap : Nat} {xs : List Ins} (w : World) (h : RowIn insC 6 w a xs.length xs) (hn : xs.length ≤ 1000000) (hcap : a = none → cap = 0) :
  Calls Tryz.prog 38 #[.slice a xs.length cap] w fun e w' => ∃ v', e = .returned v' ∧ Owns insC 25 6 w' v' xs ∧ Made w w' ∧ (∀ k, v'.ownBlock = some k → w.heap.size ≤ k) := by
 cases a with
 | none =>
  obtain rfl : cap = 0 := hcap rfl
  have h0 : xs = [] := by
   rcases h.2 with h1 | ⟨b, off, e, _⟩
   ·exact List.length_eq_zero_iff.1 (by omega)
   ·cases e
  subst h0
  have hnil := Lib.run_eql_slice_nil (P := Tryz.prog)
  go_enter Tryz.func38, Tryz.ntmps38
  go_wp2
  go_ret
  exact ⟨_, rfl, Owns.nil, Turns.refl _ _, fun k hk => by simp [Value.ownBlock] at hk⟩
 | some ad =>
  have HR := zh (show ∀ j u, (flat insC xs)[j]? = some u → (w.alloc (.cells #[] 25)).cell? (ad.add j) = some u from fun j u hu => by
   rcases h.2 with h1 | ⟨b, off, e, hb, hl⟩
   ·have h0 : xs = [] := List.length_eq_zero_iff.1 (by omega)
    subst h0
    simp [flat] at hu
   ·cases e
    have hj : j < xs.length * 6 := by
     have := (List.getElem?_eq_some_iff.1 hu).1
     rwa [flat_length insC_len] at this
    have hd := Nat.div_add_mod j 6
    have hq : j / 6 < xs.length := Nat.div_lt_of_lt_mul (by omega)
    have hx : xs[j / 6]? = some (xs[j / 6]) := List.getElem?_eq_getElem hq
    have hm : j % 6 < (insC xs[j / 6]).length := by rw [insC_len]; exact Nat.mod_lt _ (by omega)
    have hv := List.getElem?_eq_getElem hm
    have e1 := hl _ _ hx _ _ hv
    have e2 := flat_get insC_len hx hv
    have e3 : j / 6 * 6 + j % 6 = j := by omega
    rw [e3, hu] at e2
    cases e2
    rw [Nat.add_assoc, e3] at e1
    have e4 := ((Below.refl w.heap.size w).alloc (Nat.le_refl _) (.cells #[] 25)).cell (p := ⟨b, off + j, none⟩) hb
    rw [Addr.add_lit]
    exact e4.trans e1)
  obtain ⟨i0, hi0, hz0, hz1, hz2⟩ := info_parts Tryz.infoIns6
  have hnil := Lib.run_eql_slice_nil (P := Tryz.prog)
  clear h
  go_enter Tryz.func38, Tryz.ntmps38
  go_wp2_with (at_builtin; refine wpList_append_own _ rfl (.tmp 5) (.tmp 6) 26 rfl w.heap.size 25 i0 _ 6 64 Tryz.underlying26 hi0 hz0 hz1 hz2 rfl (by omega) _ 0 [] rfl ?own ad xs.length cap (flat insC xs) rfl ?len ?cells ?one ?b1 ?b2 ?b3 ?_)
  case own => exact World.ownsRow_made w #[] 0 (Nat.le_refl _) (Nat.zero_le _) rfl
  case len => exact flat_length insC_len xs
  case cells => exact HR.out
  case one =>
   intro u hu
   unfold flat at hu
   obtain ⟨y, _, hy⟩ := List.mem_flatMap.1 hu
   exact insC_one y u hy
  case b1 => unfold maxLen; omega
  case b2 => omega
  case b3 => simp
  intro v' w1 hown hgrow _
  have HOW := zh hown
  have HGR := zh hgrow
  clear hown hgrow
  go_wp2
  go_ret
  refine ⟨v', rfl, ?_, ?_, ?_⟩
  ·unfold Owns; simpa using owns_zero HOW.out
  ·exact ((Turns.refl _ _).alloc _).grown HGR.out (fun k hk hlt => by simp [Value.ownBlock] at hk; omega)
  ·exact fun k hk => (World.ownsRow.lt HOW.out k hk).1
theorem own_c {a : Option Addr} {cap : Nat} {p : List Ins} (w : World) (h : RowIn insC 6 w a p.length p) (hn : p.length ≤ 100) (hcap : a = none → cap = 0) :
  Calls Tryz.prog 21 #[.slice a p.length cap] w fun e w' => ∃ v', e = .returned v' ∧ Grow insC 25 6 w w' v' p := by
 have HC := zh (clone_ins (cap := cap) w h (by omega) hcap)
 have HN := zh hn
 clear h hn hcap
 go_enter Tryz.func21, Tryz.ntmps21
 go_wp2_with fail
 refine HC.out.mono ?_
 rintro e w1 ⟨v1, rfl, h1, h2, h3⟩
 have HG := zh (show Grow insC 25 6 w w1 v1 p from ⟨h2, h1, h3⟩)
 obtain ⟨a1, c1, rfl⟩ := owns_slice h1
 clear h1 h2 h3
 go_wp2_with fail
 go_loopw [8] (fun v8 wr => ∃ k : Nat, k ≤ p.length ∧ v8 = .int .i64 k ∧ Grow insC 25 6 w wr (.slice a1 p.length c1) p) (fun v8 _ => p.length - (intOf v8).toNat)
 case atStart => exact ⟨0, Nat.zero_le _, rfl, HG.out⟩
 case round =>
  obtain ⟨k0, hk, rfl, hg⟩ := hrel
  by_cases hlt : k0 < p.length
  ·obtain ⟨x, hxk⟩ := get_of_lt (xs := p) (k := k0) hlt
   obtain ⟨g, cg, hv1, hgl, -⟩ : ∃ g cg, (Value.slice a1 p.length c1) = .slice (some ⟨g, 0, none⟩) p.length cg ∧ g < wr.heap.size ∧ True := by
    rcases hg.own.form with ⟨_, h0⟩ | ⟨g, cg, e, hgl, _⟩
    ·subst h0; cases hxk
    ·exact ⟨g, cg, e, hgl, trivial⟩
   cases hv1
   have HGR := zh hg
   have HXK := zh hxk
   have c4 := Owns.cell insC_len hg.own hxk (j := 4) (u := .slice none 0 0) rfl
   have f4 := Owns.free hg.own (k0 * 6 + 4)
   have hn := HN.out
   have i1 : (0 : Int) ≤ (k0 : Int) := by omega
   have i2 : (k0 : Int) < (p.length : Int) := by omega
   clear hg hxk
   go_wp2_with fail
   refine (noCases_c _).mono ?_
   rintro e w2 ⟨rfl, rfl⟩
   go_wp2_with fail
   have HE := zh (HGR.out.put insC_len (j := 4) (u := .slice none 0 0) HXK.out (x' := x) rfl (by omega))
   rw [set_same HXK.out] at HE
   go_roundw
   case rel => exact ⟨k0 + 1, by omega, by go_num, HE.out⟩
   case measure => simp [intOf]; omega
  ·have hk2 : k0 = p.length := by omega
   subst hk2
   have HE := zh hg
   clear hg
   go_wp2_with fail
   go_ret
   exact ⟨_, rfl, HE.out⟩
def prC (r : Option Addr × Nat × Nat) : List Value := [.slice r.1 r.2.1 r.2.2]
theorem prC_len (r : Option Addr × Nat × Nat) : (prC r).length = 1 := rfl
theorem prC_one (r : Option Addr × Nat × Nat) : ∀ u ∈ prC r, u.oneCell' = true := by
 intro u hu
 simp only [prC, List.mem_cons, List.not_mem_nil, or_false] at hu
 subst hu
 rfl
theorem Tryz.infoPr : (Tryz.prog.info? 26).map (fun i => (i.zero, i.size, i.bytes)) = some (some (.slice none 0 0), 1, 24) := by kernel_rfl
theorem clknew_c (w : World) : Calls Tryz.prog 16 #[] w fun e w' => ∃ p, e = .returned (.pointer (some ⟨p, 0, none⟩)) ∧ Blk w' p 80 #[.int .i64 0] ∧ Made w w' ∧ w.heap.size ≤ p := by
 have HB := zh (Blk.new w 80 #[.int .i64 0])
 have HM := zh ((zT w).alloc (.cells #[.int .i64 0] 80))
 go_enter Tryz.func16, Tryz.ntmps16
 go_wp2_with fail
 go_ret
 exact ⟨w.heap.size, by simp, HB.out, HM.out, Nat.le_refl _⟩
structure PrAt (wr : World) (lo : Nat) (ps : List (List Ins)) (vp : Value) (rows : List (Option Addr × Nat × Nat)) : Prop where
 own : Owns prC 26 1 wr vp rows
 far : ∀ j, vp.ownBlock = some j → lo ≤ j
 row : ∀ (i : Nat) (r : Option Addr × Nat × Nat) (p : List Ins), rows[i]? = some r → ps[i]? = some p → r.2.1 = p.length ∧ RowIn insC 6 wr r.1 p.length p ∧ ∀ b off, r.1 = some ⟨b, off, none⟩ → lo ≤ b ∧ b < wr.heap.size ∧ vp.ownBlock ≠ some b
def NRel (w5 : World) (pb pk pt pm pd px : Nat) (ps : List (List Ins)) (k : Nat) (wr : World) : Prop := ∃ vp rows, Blk wr pb 65 #[vp, .pointer (some ⟨pk, 0, none⟩), .pointer (some ⟨pt, 0, none⟩), .slice none 0 0, .int .i64 0, .pointer (some ⟨pm, 0, none⟩), .pointer (some ⟨px, 0, none⟩), .pointer (some ⟨pd, 0, none⟩), .slice none 0 0, .int .i64 0, .slice none 0 0] ∧ rows.length = k ∧ PrAt wr w5.heap.size ps vp rows ∧ Turns (fun k => k = pb) w5 wr
def CX0 : World → (Nat → Prop) → Prop := fun _ _ => True
theorem CX0.ext : Ext CX0 := ⟨fun _ _ _ _ _ _ _ => trivial⟩
def initS : Wst := ⟨0, [⟨0, 0, 0, 0, ⟨0, 0, 0, 0, 0, 0, 0, 0⟩, ⟨0, 0, 0, 0⟩⟩], [0], [], 0, [], 0, [], 0, 0, 0, 0, []⟩
section
variable {ps : List (List Ins)} {s : Wst}
theorem stepF_idle {n : Int} (hl : Lim s) (hrd : s.rd = []) : stepF ps s (.run n) = some { s with ev := [], nl := s.nl + 1, steps := s.steps + 1 } := by
 obtain ⟨l1, l2, l3, l4, l5, l6, l7, l8, l9, l10, l11, l12, l13, l14, l15⟩ := id hl
 unfold stepF
 rw [if_pos hl]
 have h1 : runF ps { s with ev := [] } n = some { s with ev := [], nl := s.nl + 1 } := by
  unfold runF
  exact if_pos hrd
 simp only [h1]
 unfold doneF
 rw [if_pos ⟨l10, l11, by simp⟩]
theorem stepF_loc {n : Int} {i : Nat} {x : Tsk} {p : List Ins} {O : LOut} (hl : Lim s) (hnl : s.nl < 99999) (h1 : s.rd[(pickZ n s.rd.length).toNat]? = some (i : Int)) (h2 : s.ts[i]? = some x) (h3 : ps[x.prog.toNat]? = some p) (h4 : x.st = 0 ∧ 0 ≤ x.prog ∧ 0 ≤ x.pc) (h5 : locF p x.pc.toNat x.regs s.now = some O) :
  stepF ps s (.run n) = some { aloneS { s with ev := [], nl := s.nl + 1 } i x O with steps := s.steps + 1 } := by
 obtain ⟨l1, l2, l3, l4, l5, l6, l7, l8, l9, l10, l11, l12, l13, l14, l15⟩ := id hl
 have hne : s.rd ≠ [] := fun e => by rw [e] at h1; simp at h1
 unfold stepF
 rw [if_pos hl]
 have hr : runF ps { s with ev := [] } n = some (aloneS { s with ev := [], nl := s.nl + 1 } i x O) := by
  unfold runF
  rw [if_neg hne]
  simp only [h1, Int.toNat_natCast, h2, h3, h5]
  rw [if_pos ⟨Int.natCast_nonneg _, h4.1, h4.2.1, h4.2.2, hnl⟩]
 simp only [hr]
 unfold doneF
 have hst : (aloneS { s with ev := [], nl := s.nl + 1 } i x O).steps = s.steps ∧ (aloneS { s with ev := [], nl := s.nl + 1 } i x O).ev.length < 900 := by
  obtain ⟨opc, oregs, ot, ov, oe⟩ := O
  cases ot <;> cases oe <;> simp [aloneS]
 rw [if_pos ⟨by rw [hst.1]; exact l10, by rw [hst.1]; exact l11, hst.2⟩, hst.1]
theorem stepF_act {n : Int} {i : Nat} {x : Tsk} {p : List Ins} {ins : Ins} {s2 : Wst} {rr : Option Reg} (hl : Lim s) (hnl : s.nl < 99999) (h1 : s.rd[(pickZ n s.rd.length).toNat]? = some (i : Int)) (h2 : s.ts[i]? = some x) (h3 : ps[x.prog.toNat]? = some p) (h4 : x.st = 0 ∧ 0 ≤ x.prog ∧ 0 ≤ x.pc) (h5 : p[x.pc.toNat]? = some ins) (h6 : mineB ins.op = false)
  (h7 : actF { s with ev := [], nl := s.nl + 1 } i ins x.regs = some (s2, rr)) (h8 : s2.steps = s.steps) (h9 : s2.ev.length < 800) :
  stepF ps s (.run n) = some { (match rr with | none => parkS s2 i x ins | some r2 => putS s2 i x r2) with steps := s.steps + 1 } := by
 obtain ⟨l1, l2, l3, l4, l5, l6, l7, l8, l9, l10, l11, l12, l13, l14, l15⟩ := id hl
 have hne : s.rd ≠ [] := fun e => by rw [e] at h1; simp at h1
 have hmi : ¬ (ins.op = 1 ∨ ins.op = 2 ∨ ins.op = 6 ∨ ins.op = 16) := by
  unfold mineB at h6
  simp only [decide_eq_false_iff_not] at h6
  omega
 have hlo : locF p x.pc.toNat x.regs s.now = none := by
  unfold locF
  rw [if_neg (fun e => by rw [e] at h5; simp at h5)]
  simp only [h5]
  rw [if_neg (fun e => hmi (.inl e.1)), if_neg (fun e => hmi (.inr (.inl e.1))), if_neg (fun e => hmi (.inr (.inr (.inl e.1)))), if_neg (fun e => hmi (.inr (.inr (.inr e.1))))]
 unfold stepF
 rw [if_pos hl]
 have hr : runF ps { s with ev := [] } n = some (match rr with | none => parkS s2 i x ins | some r2 => putS s2 i x r2) := by
  unfold runF
  rw [if_neg hne]
  simp only [h1, Int.toNat_natCast, h2, h3, hlo, h5, h6, h7]
  rw [if_pos ⟨Int.natCast_nonneg _, h4.1, h4.2.1, h4.2.2, hnl⟩]
  cases rr <;> rfl
 simp only [hr]
 unfold doneF
 cases rr with
 | none =>
  have he : (parkS s2 i x ins).ev.length < 900 := by
   show (s2.ev ++ [_]).length < 900
   rw [List.length_append]; simp only [List.length_cons, List.length_nil]; omega
  show (if 0 ≤ s2.steps ∧ s2.steps < 100000 ∧ (parkS s2 i x ins).ev.length < 900 then some { parkS s2 i x ins with steps := s2.steps + 1 } else none) = _
  rw [h8, if_pos ⟨l10, l11, he⟩]
 | some r2 =>
  show (if 0 ≤ s2.steps ∧ s2.steps < 100000 ∧ s2.ev.length < 900 then some { putS s2 i x r2 with steps := s2.steps + 1 } else none) = _
  rw [h8, if_pos ⟨l10, l11, by omega⟩]
end
def toldM (l : List Ev) (t : Int) : List Int := l.filterMap fun e => if e.kind = 1 ∧ e.task = t then some e.a else none
def manyE : Nat → Nat → List Ent
 | _, 0 => []
 | i, n + 1 => .run i :: manyE (i + 1) n
section
variable {P : Program} {ops : Array Oper} {o : Oper} {a : Act} {Q : Exit → Act → World → Prop} {α : Type} {enc : α → List Value} {T : TypeId} {size : Nat} {w : World} {v : Value} {M N : List α}
theorem SrcAt.ofOwns (he : ∀ x, (enc x).length = size) (h : Owns enc T size w v M) : SrcAt enc w v M := by
 rcases h.form with ⟨rfl, rfl⟩ | ⟨g, cap, rfl, _⟩
 ·exact SrcAt.nothing
 ·have h1 := SrcAt.pre (c := cap) he h (Nat.le_refl _)
  rwa [List.take_length] at h1
theorem wpList_cat {rest : List Oper} (hgd : o.guard = none) (s x : Operand) (t : TypeId) (ho : o.op = .call { callee := .builtin .append, args := #[s, x], argTypes := #[t, t] })
  (i : TypeInfo) (z : Value) (bytes : Nat) (ht : P.underlying t = some (.slice T)) (hi : P.info? T = some i) (hz : i.zero = some z) (hsize : i.size = size) (hby : i.bytes = bytes) (hzs : z.cells.size = size) (hsz : 0 < size)
  (he : ∀ x, (enc x).length = size) (h1 : ∀ x, ∀ u ∈ enc x, u.oneCell' = true)
  (hs : a.eval s = v) (hg : Owns enc T size w v M) {xv : Value} (hx : a.eval x = xv) (hsrc : SrcAt enc w xv N) (h63 : M.length + N.length ≤ maxLen) (hbytes : (M.length + N.length) * bytes ≤ 140737488355328)
  (h : ∀ v' w', Owns enc T size w' v' (M ++ N) → Turns (fun k => v.ownBlock = some k) w w' → (∀ k, v'.ownBlock = some k → v.ownBlock = some k ∨ w.heap.size ≤ k) → wpList P ops Q rest (a.put o.dst v') w') :
  wpList P ops Q (o :: rest) a w := by
 refine wpList_plain hgd fun K hK => ?_
 obtain ⟨a', c', hv⟩ := owns_slice hg
 have hcap : M.length ≤ c' := by
  rcases hg.form with ⟨hv2, h0⟩ | ⟨g, cap, hv2, _, h3, _⟩
  ·rw [h0]; simp
  ·rw [hv] at hv2
   simp only [Value.slice.injEq] at hv2
   omega
 rcases hsrc with ⟨rfl, rfl⟩ | ⟨ad, c, rfl, hnews⟩
 ·have hr := run_append_nothing (P := P) w t t o.type T i ht hi a' M.length c' hcap (.slice none 0 0) (by
   refine ⟨.inl ⟨_, ht⟩, fun w' => ?_, ?_, ?_, by simp, by simp⟩
   ·rfl
   ·cases hss : i.size <;> rfl
   ·cases hss : i.size <;> rfl)
  unfold Oper.wp execOp
  simp only [ho, resolve, invoke, builtin, Sem.run_bind, Sem.run_pure, Result.andThen_ok, List.map_toArray, List.map_cons, List.map_nil, hs, hx, hv, hr]
  exact hK _ _ (h (.slice a' M.length c') w (by rw [List.append_nil, ← hv]; exact hg) (Turns.refl _ _) (fun k hk => .inl (by rw [hv]; exact hk)))
 ·have hol := hg
  unfold Owns at hol
  obtain ⟨v', w', hr, h2, h3, _, h5⟩ := run_append_own_at (P := P) w 0 t o.type T i z size bytes ht hi hz hsize hby hzs hsz v M.length (flat enc M) hol ad N.length c (flat enc N) (flat_length he N) hnews (fun u hu => by
   unfold flat at hu
   obtain ⟨y, _, hy⟩ := List.mem_flatMap.1 hu
   exact h1 y u hy) h63 hbytes (Nat.zero_le _)
  unfold Oper.wp execOp
  simp only [ho, resolve, invoke, builtin, Sem.run_bind, Sem.run_pure, Result.andThen_ok, List.map_toArray, List.map_cons, List.map_nil, hs, hx, hr]
  refine hK _ _ (h v' w' ?_ ((Turns.refl _ _).grown h3 (fun k hk _ => hk)) (fun k hk => ?_))
  ·unfold Owns
   rw [flat_append, List.length_append]
   exact h2
  ·rcases h5 with e | e
   ·exact .inl (by rw [← e]; exact hk)
   ·rw [e, Option.some.injEq] at hk
    exact .inr (by omega)
end
theorem Tryz.infoI : (Tryz.prog.info? 3).map (fun i => (i.zero, i.size, i.bytes)) = some (some (.int .i64 0), 1, 8) := by kernel_rfl
theorem Grow.nil {α : Type} {enc : α → List Value} {T : TypeId} {size : Nat} {W w : World} (h : Made W w) : Grow enc T size W w (.slice none 0 0) ([] : List α) :=
 ⟨h, ⟨by simp [flat], .inl ⟨rfl, rfl⟩⟩, fun c hc => by simp [Value.ownBlock] at hc⟩
theorem told_next {l : List Ev} {t : Int} {k : Nat} {e : Ev} (h : l[k]? = some e) : toldM (l.take (k + 1)) t = toldM (l.take k) t ++ (if e.kind = 1 ∧ e.task = t then [e.a] else []) := by
 obtain ⟨hl, rfl⟩ := List.getElem?_eq_some_iff.1 h
 unfold toldM
 rw [List.take_succ_eq_append_getElem hl, List.filterMap_append]
 congr 1
 by_cases hc : l[k].kind = 1 ∧ l[k].task = t <;> simp [hc]
theorem told_le (l : List Ev) (t : Int) (k : Nat) : (toldM (l.take k) t).length ≤ k := by
 unfold toldM
 have h1 := List.length_filterMap_le (fun e : Ev => if e.kind = 1 ∧ e.task = t then some e.a else none) (l.take k)
 have h2 := List.length_take_le k l
 omega
theorem ev_cells {w : World} {b off : Nat} {l : List Ev} (h : Lies evC 6 w b off l) {i : Nat} {e : Ev} (he : l[i]? = some e) :
  w.cell? ⟨b, off + i * 6, none⟩ = some (.int .i64 e.step) ∧ w.cell? ⟨b, off + i * 6 + 1, none⟩ = some (.int .i64 e.kind) ∧ w.cell? ⟨b, off + i * 6 + 2, none⟩ = some (.int .i64 e.task) ∧
  w.cell? ⟨b, off + i * 6 + 3, none⟩ = some (.int .i64 e.a) ∧ w.cell? ⟨b, off + i * 6 + 4, none⟩ = some (.int .i64 e.b) ∧ w.cell? ⟨b, off + i * 6 + 5, none⟩ = some (.int .i64 e.c) :=
 ⟨h i e he 0 _ rfl, h i e he 1 _ rfl, h i e he 2 _ rfl, h i e he 3 _ rfl, h i e he 4 _ rfl, h i e he 5 _ rfl⟩
theorem ints_c (va vb : Value) (L : List Int) (w : World) (ha : Owns encI 3 1 w va L) (hb : Owns encI 3 1 w vb L) (hn : L.length ≤ 1000000) : Calls Tryz.prog 12 #[va, vb] w fun e w' => e = .returned (.bool true) ∧ Made w w' := by
 obtain ⟨aa, ca, rfl⟩ := owns_slice ha
 obtain ⟨ab, cb, rfl⟩ := owns_slice hb
 have HA := zh ha
 have HB := zh hb
 have hne : ((L.length : Int) != (L.length : Int)) = false := by simp
 clear ha hb
 go_enter Tryz.func12, Tryz.ntmps12
 go_wp2_with fail
 go_loopw [5] (fun v5 wr => ∃ j : Nat, v5 = .int .i64 j ∧ Made w wr) (fun v5 _ => L.length - (intOf v5).toNat)
 case atStart => exact ⟨0, rfl, Turns.refl _ _⟩
 case round =>
  obtain ⟨j, rfl, hm⟩ := hrel
  have HM := zh hm
  clear hm
  by_cases hj : j < L.length
  ·obtain ⟨x, hx⟩ := get_of_lt hj
   have HX := zh hx
   rcases HA.out.form with ⟨h0, h1⟩ | ⟨ga, ca', hva, hga, hla, hcma⟩
   ·rw [h1] at hj; simp at hj
   rcases HB.out.form with ⟨h0, h1⟩ | ⟨gb, cb', hvb, hgb, hlb, hcmb⟩
   ·rw [h1] at hj; simp at hj
   simp only [Value.slice.injEq, true_and] at hva hvb
   obtain ⟨rfl, rfl⟩ := hva
   obtain ⟨rfl, rfl⟩ := hvb
   have j1 : (0 : Int) ≤ (j : Int) := Int.natCast_nonneg _
   have j2 : (j : Int) < (L.length : Int) := by omega
   have n0 : (x != x) = false := by simp
   clear hga hgb hx
   go_wp2_with fail
   refine wp_region_held_drew (S := fun w' => Made w w') (by kernel_rfl) ?_ (fun hHeld => ?_)
   ·exact HM.out.drew
   refine tH 0 17 ?_ ?_ ?_;rotate_left
   ·intro w hSw
    go_simp
    try with_reducible rfl
   try simp only [zP]
   refine tH 1 18 ?_ ?_ ?_;rotate_left
   ·intro w hSw
    go_simp
    try with_reducible rfl
   try simp only [zP]
   refine tH 2 19 ?_ ?_ ?_;rotate_left
   ·intro w hSw
    go_simp
    try with_reducible rfl
   try simp only [zP]
   refine tH 3 20 ?_ ?_ ?_;rotate_left
   ·intro w hSw
    have q0 := Owns.cell encI_len (HA.out.turns hSw (fun _ _ h => h)) HX.out (j := 0) rfl
    simp only [Nat.add_zero, Nat.mul_one] at q0
    go_simp
    try with_reducible rfl
   try simp only [zP]
   refine tH 4 21 ?_ ?_ ?_;rotate_left
   ·intro w hSw
    go_simp
    try with_reducible rfl
   try simp only [zP]
   refine tH 5 22 ?_ ?_ ?_;rotate_left
   ·intro w hSw
    go_simp
    try with_reducible rfl
   try simp only [zP]
   refine tH 6 23 ?_ ?_ ?_;rotate_left
   ·intro w hSw
    go_simp
    try with_reducible rfl
   try simp only [zP]
   refine tH 7 24 ?_ ?_ ?_;rotate_left
   ·intro w hSw
    have q0 := Owns.cell encI_len (HB.out.turns hSw (fun _ _ h => h)) HX.out (j := 0) rfl
    simp only [Nat.add_zero, Nat.mul_one] at q0
    go_simp
    try with_reducible rfl
   try simp only [zP]
   refine tH 8 25 ?_ ?_ ?_;rotate_left
   ·intro w hSw
    go_simp
    try with_reducible rfl
   try simp only [zP]
   refine wpAnyH_done (by kernel_rfl) ?_ _
   have HM2 := zh hHeld
   clear hHeld HM
   try clear hHeld
   go_wp2_with fail
   go_roundw
   case rel => exact ⟨j + 1, by go_num, HM2.out⟩
   case measure => simp [intOf]; omega
  ·have j2 : ¬ (j : Int) < (L.length : Int) := by omega
   go_wp2_with fail
   go_ret
   exact ⟨rfl, HM.out⟩
def zRg : Reg := ⟨0, 0, 0, 0, 0, 0, 0, 0⟩
def zI : Ins := ⟨0, 0, 0, 0⟩
theorem pick_one (n a : Int) : [a][(pickZ n ([a] : List Int).length).toNat]? = some a := by
 have h : pickZ n ([a] : List Int).length = 0 := by unfold pickZ; simp [Int.emod_one]
 rw [h]; rfl
theorem toldM_append (l m : List Ev) (t : Int) : toldM (l ++ m) t = toldM l t ++ toldM m t := List.filterMap_append
section
variable {ps : List (List Ins)} {s : Wst}
def chE (l : List Wt) : Chn := ⟨true, false, false, true, none, l⟩
end
def awP : List Ins := [⟨1, 1, 10, 0⟩, ⟨17, 0, 1, 2⟩, ⟨20, 0, 3, 0⟩, ⟨6, 3, 0, 0⟩, ⟨11, 2, 4, 5⟩]
def aw1 : Wst := ⟨0, [⟨0, 1, 0, 0, ⟨0, 10, 0, 0, 0, 0, 0, 0⟩, zI⟩], [0], [], 0, [], 0, [], 0, 0, 1, 1, []⟩
def aw2 : Wst := ⟨0, [⟨0, 2, 0, 0, ⟨0, 10, 0, 0, 0, 0, 0, 0⟩, zI⟩], [0], [(0, chE [])], 0, [⟨1, 0, some 0⟩], 1, [⟨0, 10, 1⟩], 1, 0, 2, 2, []⟩
def aw3 : Wst := ⟨20, [⟨0, 2, 0, 0, ⟨0, 10, 0, 0, 0, 0, 0, 0⟩, zI⟩], [0], [(0, ⟨true, false, false, true, some 20, []⟩)], 0, [⟨1, 0, some 0⟩], 1, [], 1, 1, 2, 3, [⟨2, 6, -1, 0, 10, 0⟩]⟩
def aw4 : Wst := ⟨20, [⟨0, 3, 0, 0, ⟨0, 10, 0, 1, 0, 0, 0, 0⟩, zI⟩], [0], [(0, chE [])], 0, [⟨1, 0, some 0⟩], 1, [], 1, 1, 3, 4, []⟩
def aw5 : Wst := ⟨20, [⟨0, 4, 0, 0, ⟨0, 10, 0, 1, 0, 0, 0, 0⟩, zI⟩], [0], [(0, chE [])], 0, [⟨1, 0, some 0⟩], 1, [], 1, 1, 4, 5, [⟨4, 1, 0, 1, 0, 0⟩]⟩
def aw6 : Wst := ⟨20, [⟨0, 4, 1, 0, ⟨0, 10, 0, 1, 0, 0, 0, 0⟩, ⟨11, 2, 4, 5⟩⟩], [], [(0, chE [⟨0, 0, 0⟩])], 0, [⟨1, 0, some 0⟩], 1, [], 1, 1, 5, 6, [⟨5, 2, 0, 0, 0, 0⟩]⟩
theorem awS1 : stepF [awP] initS (.run 0) = some aw1 := rfl
theorem awS2 : stepF [awP] aw1 (.run 0) = some aw2 := rfl
theorem awS3 : stepF [awP] aw2 (.adv 20) = some aw3 := rfl
theorem awS4 : stepF [awP] aw3 (.run 0) = some aw4 := rfl
theorem awS5 : stepF [awP] aw4 (.run 0) = some aw5 := rfl
theorem awS6 : stepF [awP] aw5 (.run 0) = some aw6 := rfl
theorem RowIn.ofBlk {α : Type} {enc : α → List Value} {size : Nat} (he : ∀ x, (enc x).length = size) {w : World} {g : Nat} {t : TypeId} {xs : List α} (h : Blk w g t (flat enc xs).toArray) : RowIn enc size w (some ⟨g, 0, none⟩) xs.length xs :=
 ⟨rfl, .inr ⟨g, 0, rfl, h.lt, fun i x hx j v hv => by
  have h1 := h.cell (0 + i * size + j)
  rw [h1]
  have h2 := flat_get he hx hv
  simpa using h2⟩⟩
theorem awProgs : ProgsC [awP] := by
 refine ⟨by simp, by simp, by simp [awP], fun p hp x hx => ?_, fun p hp x hx => ?_⟩
 ·simp only [List.mem_singleton] at hp
  subst hp
  simp only [awP, List.mem_cons, List.not_mem_nil, or_false] at hx
  rcases hx with rfl | rfl | rfl | rfl | rfl
  ·exact good_1 _ _ _ _ (by omega) rfl
  ·exact good_17 _ _ _ _ (by omega) (by omega) (by omega)
  ·exact good_20 _ _ _ _ (by omega) (by omega) rfl
  ·exact good_6 _ _ _ _ (by omega) rfl rfl
  ·exact good_11 _ _ _ _ (by omega) (by omega) (by omega)
 ·simp only [List.mem_singleton] at hp
  subst hp
  simp only [awP, List.mem_cons, List.not_mem_nil, or_false] at hx
  rcases hx with rfl | rfl | rfl | rfl | rfl <;> exact .inr ⟨by decide, by decide, by decide, by decide⟩
theorem ProgsC.ok {ps : List (List Ins)} (h : ProgsC ps) : PsOK ps := ⟨h.le, h.len, h.good⟩
theorem one_ev {w : World} {v : Value} {x : Ev} (h : Owns evC 45 6 w v [x]) : ∃ g c, v = .slice (some ⟨g, 0, none⟩) 1 c ∧ w.cell? ⟨g, 1, none⟩ = some (.int .i64 x.kind) ∧ w.cell? ⟨g, 3, none⟩ = some (.int .i64 x.a) ∧ w.cell? ⟨g, 4, none⟩ = some (.int .i64 x.b) := by
 rcases h.form with ⟨_, h0⟩ | ⟨g, c, rfl, _⟩
 ·cases h0
 ·have c1 := Owns.cell evC_len h (i := 0) (x := x) rfl (j := 1) (u := .int .i64 x.kind) rfl
  have c3 := Owns.cell evC_len h (i := 0) (x := x) rfl (j := 3) (u := .int .i64 x.a) rfl
  have c4 := Owns.cell evC_len h (i := 0) (x := x) rfl (j := 4) (u := .int .i64 x.b) rfl
  exact ⟨g, c, rfl, by simpa using c1, by simpa using c3, by simpa using c4⟩
theorem owns_blk {α : Type} {enc : α → List Value} {size : Nat} {w : World} {b n : Nat} {T : TypeId} {cs : Array Value} {l : List α} (he : ∀ x, (enc x).length = size) (h : Blk w b T cs) (hc : cs = (flat enc l).toArray) (hn : l.length = n) (hm : n ≤ maxLen) : Owns enc T size w (.slice (some ⟨b, 0, none⟩) n n) l := by
 subst hn
 have hs : cs.size = l.length * size := by rw [hc]; simp [flat_length he]
 exact ⟨flat_length he l, .inr ⟨b, l.length, cs, rfl, Nat.zero_le _, h, Nat.le_refl _, hm, hs, by rw [hc, ← flat_length he l]; simp⟩⟩
def tnK (x : Tn × List Int) : List Value := tnC x.1
theorem tnK_len (x : Tn × List Int) : (tnK x).length = 3 := rfl
theorem tnK_one (x : Tn × List Int) : ∀ u ∈ tnK x, u.oneCell' = true := tnC_one x.1
abbrev kidV (x : Tn) : Value := .slice x.kids.1 x.kids.2.1 x.kids.2.2
structure TrIn (w : World) (p : Nat) (lb : Nat → Nat) (v : Value) (gs : List (Tn × List Int)) : Prop where
 blk : Blk w p 148 #[v]
 lp : lb p = 1
 own : Owns tnK 181 3 w v gs
 lv : ∀ k, v.ownBlock = some k ↔ lb k = 2
 kd : ∀ i x, gs[i]? = some x → Owns encI 3 1 w (kidV x.1) x.2 ∧ ∀ k, (kidV x.1).ownBlock = some k ↔ lb k = 3 + i
 few : ∀ k, lb k < 3 + gs.length
theorem TrIn.turns {S : Nat → Prop} {w w' : World} {p : Nat} {lb : Nat → Nat} {v : Value} {gs : List (Tn × List Int)} (h : TrIn w p lb v gs) (ht : Turns S w w') (hn : ∀ k, lb k ≠ 0 → ¬ S k) : TrIn w' p lb v gs :=
 ⟨h.blk.turns ht (hn p (by rw [h.lp]; omega)), h.lp, h.own.turns ht (fun k hk => hn k (by rw [(h.lv k).1 hk]; omega)), h.lv, fun i x hx => ⟨(h.kd i x hx).1.turns ht (fun k hk => hn k (by rw [((h.kd i x hx).2 k).1 hk]; omega)), (h.kd i x hx).2⟩, h.few⟩
def chainN (cut i : Nat) : Int × Bool × List Int := ((i : Int) - 1, decide (1 ≤ i ∧ i < cut), if i + 1 < cut then [((i + 1 : Nat) : Int)] else [])
def TrAt (w : World) (p : Nat) (F : Nat → Prop) (n cut : Nat) : Prop := ∃ lb v gs, TrIn w p lb v gs ∧ Lab w lb F ∧ gs.length = n ∧ ∀ i x, gs[i]? = some x → (x.1.parent, x.1.linked, x.2) = chainN cut i
section
variable {w w' w2 : World} {p g c i n cut : Nat} {F : Nat → Prop} {lb : Nat → Nat} {gs : List (Tn × List Int)} {v : Value}
theorem TrAt.turns {S : Nat → Prop} (h : TrAt w p F n cut) (ht : Turns S w w') (hn : ∀ k, F k → ¬ S k) : TrAt w' p F n cut := by
 obtain ⟨lb, v, gs, h, hl, hlen, hc⟩ := h
 exact ⟨lb, v, gs, h.turns ht (fun k hk => hn k ((hl.on k).2 hk)), hl.turns ht, hlen, hc⟩
theorem TrAt.made (h : TrAt w p F n cut) (ht : Made w w') : TrAt w' p F n cut := h.turns ht (fun _ _ h => h)
theorem TrAt.fb (h : TrAt w p F n cut) : ∀ k, F k → k < w.heap.size := by
 obtain ⟨lb, v, gs, h, hl, hlen, hc⟩ := h
 exact fun k hk => hl.lt k ((hl.on k).1 hk)
theorem TrIn.setKid {x : Tn × List Int} {a : Option Addr} {m c2 : Nat} {K : List Int} (h : TrIn w p lb (.slice (some ⟨g, 0, none⟩) gs.length c) gs) (hl : Lab w lb F) (hx : gs[i]? = some x) (ho : Owns encI 3 1 w2 (.slice a m c2) K) (hs : Stp w w2 (fun k => lb k = 3 + i) (fun k => (Value.slice a m c2).ownBlock = some k)) :
  ∃ lb' FF, TrIn (w2.setCell ⟨g, i * 3 + 2, none⟩ (.slice a m c2)) p lb' (.slice (some ⟨g, 0, none⟩) gs.length c) (gs.set i (⟨x.1.parent, x.1.linked, (a, m, c2)⟩, K)) ∧ Lab (w2.setCell ⟨g, i * 3 + 2, none⟩ (.slice a m c2)) lb' FF ∧ Stp w (w2.setCell ⟨g, i * 3 + 2, none⟩ (.slice a m c2)) F FF := by
 obtain ⟨lb', FF, hl', e, hne, hst⟩ := hl.step (3 + i) (by omega) hs (fun k hk => ho.lt hk)
 have hg2 : lb g = 2 := (h.lv g).1 rfl
 have hg3 : lb' g = 2 := lab_is (hne 2 (by omega) (by omega)) hg2
 have ht : Turns (fun k => lb' k = 2) w2 (w2.setCell ⟨g, i * 3 + 2, none⟩ (.slice a m c2)) := (Turns.refl _ w2).setCell (p := ⟨g, i * 3 + 2, none⟩) (fun _ => hg3) _
 have hp1 : lb' p = 1 := lab_is (hne 1 (by omega) (by omega)) h.lp
 have hown := (h.own.turns hs.t (fun k hk => by rw [(h.lv k).1 hk]; omega)).put tnK_len hx (x' := (⟨x.1.parent, x.1.linked, (a, m, c2)⟩, K)) (j := 2) (u := .slice a m c2) rfl (by omega)
 have hlen : (gs.set i ((⟨x.1.parent, x.1.linked, (a, m, c2)⟩ : Tn), K)).length = gs.length := List.length_set
 refine ⟨lb', FF, ⟨(h.blk.turns hs.t (by rw [h.lp]; omega)).turns ht (by rw [hp1]; omega), hp1, hown, fun k => (h.lv k).trans (iff_of_eq (congrFun (hne 2 (by omega) (by omega)) k)).symm, fun j y hy => ?_, fun k => ?_⟩, hl'.turns ht, hst.trans (Stp.same (ht.mono (fun k _ hk => (hl'.on k).2 (by rw [hk]; omega))))⟩
 ·rw [List.getElem?_set] at hy
  by_cases hij : i = j
  ·subst hij
   have hi := (List.getElem?_eq_some_iff.1 hx).1
   rw [if_pos rfl, if_pos hi] at hy
   cases hy
   exact ⟨ho.turns ht (fun k hk => by have := (iff_of_eq (congrFun e k)).2 hk; show ¬ lb' k = 2; omega), fun k => (iff_of_eq (congrFun e k)).symm⟩
  ·rw [if_neg hij] at hy
   have h1 := h.kd j y hy
   have hj := congrFun (hne (3 + j) (by omega) (by omega))
   exact ⟨(h1.1.turns hs.t (fun k hk => by rw [(h1.2 k).1 hk]; omega)).turns ht (fun k hk => by have h2 := (iff_of_eq (hj k)).2 ((h1.2 k).1 hk); show ¬ lb' k = 2; omega), fun k => (h1.2 k).trans (iff_of_eq (hj k)).symm⟩
 ·rw [hlen]
  have hi := (List.getElem?_eq_some_iff.1 hx).1
  by_cases h0 : lb' k = 0
  ·omega
  ·by_cases h1 : lb' k = 3 + i
   ·omega
   ·have h2 := (iff_of_eq (congrFun (hne (lb' k) h0 h1) k)).1 rfl
    rw [← h2]
    exact h.few k
theorem TrIn.push {wX : World} {v2 : Value} {par : Int} {lk : Bool} (h : TrIn w p lb v gs) (hl : Lab w lb F) (hm : Made w wX) (ho : Owns tnK 181 3 w2 v2 (gs ++ [(⟨par, lk, (none, 0, 0)⟩, [])])) (ht : Turns (fun k => v.ownBlock = some k) wX w2) (hv : ∀ k, v2.ownBlock = some k → v.ownBlock = some k ∨ wX.heap.size ≤ k) :
  ∃ lb' FF, TrIn (w2.setCell ⟨p, 0, none⟩ v2) p lb' v2 (gs ++ [(⟨par, lk, (none, 0, 0)⟩, [])]) ∧ Lab (w2.setCell ⟨p, 0, none⟩ v2) lb' FF ∧ Stp w (w2.setCell ⟨p, 0, none⟩ v2) F FF := by
 have hsz := hm.size
 have hs : Stp w w2 (fun k => lb k = 2) (fun k => v2.ownBlock = some k) := ⟨(hm.mono (fun _ _ h => h.elim)).then ht (fun k _ hk => (h.lv k).1 hk), fun k hk => (hv k hk).imp (fun h4 => (h.lv k).1 h4) (fun h4 => by omega)⟩
 obtain ⟨lb', FF, hl', e, hne, hst⟩ := hl.step 2 (by omega) hs (fun k hk => ho.lt hk)
 have hp1 : lb' p = 1 := lab_is (hne 1 (by omega) (by omega)) h.lp
 have ht2 : Turns (fun k => lb' k = 1) w2 (w2.setCell ⟨p, 0, none⟩ v2) := (Turns.refl _ w2).setCell (p := ⟨p, 0, none⟩) (fun _ => hp1) _
 have hb := (h.blk.turns hs.t (by rw [h.lp]; omega)).put 0 v2
 simp only [List.setIfInBounds_toArray, List.set_cons_zero] at hb
 refine ⟨lb', FF, ⟨hb, hp1, ho.turns ht2 (fun k hk => by have := (iff_of_eq (congrFun e k)).2 hk; show ¬ lb' k = 1; omega), fun k => (iff_of_eq (congrFun e k)).symm, fun j y hy => ?_, fun k => ?_⟩, hl'.turns ht2, hst.trans (Stp.same (ht2.mono (fun k _ hk => (hl'.on k).2 (by rw [hk]; omega))))⟩
 ·rcases Nat.lt_or_ge j gs.length with hj | hj
  ·rw [List.getElem?_append_left hj] at hy
   have h1 := h.kd j y hy
   have h3 := congrFun (hne (3 + j) (by omega) (by omega))
   exact ⟨(h1.1.turns hs.t (fun k hk => by rw [(h1.2 k).1 hk]; omega)).turns ht2 (fun k hk => by have h2 := (iff_of_eq (h3 k)).2 ((h1.2 k).1 hk); show ¬ lb' k = 1; omega), fun k => (h1.2 k).trans (iff_of_eq (h3 k)).symm⟩
  ·rw [List.getElem?_append_right hj] at hy
   have hj2 : j = gs.length := by
    rcases Nat.eq_zero_or_pos (j - gs.length) with h0 | h0
    ·omega
    ·rw [List.getElem?_cons, if_neg (by omega)] at hy
     simp at hy
   subst hj2
   simp only [Nat.sub_self, List.getElem?_cons_zero, Option.some.injEq] at hy
   subst hy
   refine ⟨Owns.nil, fun k => ⟨fun hk => (by cases hk), fun hk => ?_⟩⟩
   have h3 := (iff_of_eq (congrFun (hne (3 + gs.length) (by omega) (by omega)) k)).1 hk
   have := h.few k
   omega
 ·rw [List.length_append]
  by_cases h0 : lb' k = 0
  ·omega
  ·by_cases h1 : lb' k = 2
   ·omega
   ·have h2 := (iff_of_eq (congrFun (hne (lb' k) h0 h1) k)).1 rfl
    have := h.few k
    omega
theorem trhas_c (h : Blk w p 148 #[.slice (some ⟨g, 0, none⟩) n c]) (hi : i < n) (hn : n ≤ 1000) : Calls Tryz.prog 99 #[.pointer (some ⟨p, 0, none⟩), .int .i64 i] w fun e w' => e = .returned (.bool true) ∧ w = w' := by
 have q0 := h.cell 0
 simp only [zG] at q0
 have H : Calls Tryz.prog 149 #[.pointer (some ⟨p, 0, none⟩)] w fun e w' => e = .returned (.int .i64 n) ∧ w = w' := by
  clear h hi
  go_enter Tryz.func149, Tryz.ntmps149
  go_wp2_with fail
  go_returns
  exact ⟨rfl, rfl⟩
 have HH := zh H
 have j1 : (0 : Int) ≤ (i : Int) := Int.natCast_nonneg _
 have j2 : (i : Int) < (n : Int) := by omega
 clear h q0 H
 go_enter Tryz.func99, Tryz.ntmps99
 go_wp2_with fail
 refine HH.out.mono ?_
 rintro e w' ⟨rfl, rfl⟩
 go_wp2_with fail
 go_returns
 exact ⟨rfl, rfl⟩
theorem trkids_c (h : TrAt w p F n cut) (hi : i < n) (hn : n ≤ 1000) : Calls Tryz.prog 156 #[.pointer (some ⟨p, 0, none⟩), .int .i64 i] w fun e w' => ∃ v, e = .returned v ∧ Owns encI 3 1 w' v (chainN cut i).2.2 ∧ Made w w' ∧ (∀ k, v.ownBlock = some k → w.heap.size ≤ k) := by
 obtain ⟨lb, v, gs, h, hl, hlen, hc⟩ := h
 subst hlen
 obtain ⟨x, hx⟩ := get_of_lt (xs := gs) (k := i) hi
 have hcx := hc i x hx
 rcases h.own.form with ⟨_, h0⟩ | ⟨g, c, rfl, hgb, hlc, hcm⟩
 ·subst h0
  simp at hi
 have hk := (h.kd i x hx).1
 obtain ⟨a, cc, he, hr, -, -, hca, -⟩ := hk.rowIn encI_len
 have r2 := Owns.cell tnK_len h.own hx (j := 2) (u := kidV x.1) rfl
 have q0 := h.blk.cell 0
 simp only [zG] at q0
 have HH := zh (trhas_c h.blk hi hn)
 have hk2 : x.2 = (chainN cut i).2.2 := by rw [← hcx]
 have hkl : x.2.length ≤ 1 := by
  rw [hk2]
  unfold chainN
  split <;> simp
 have HC := zh (clone_i w hr (by omega) hca)
 have HK := zh hk2
 rw [he] at r2
 have j1 : (0 : Int) ≤ (i : Int) := Int.natCast_nonneg _
 have j2 : (i : Int) < (gs.length : Int) := by omega
 clear h hl hc hx hcx hgb hlc hcm hk he hr hca hk2
 generalize x.2.length = kl at *
 go_enter Tryz.func156, Tryz.ntmps156
 go_wp2_with fail
 refine HH.out.mono ?_
 rintro e w' ⟨rfl, rfl⟩
 go_wp2_with fail
 refine HC.out.mono ?_
 rintro e w1 ⟨v', rfl, ho, hm, hf⟩
 have H1 := zh (And.intro ho (And.intro hm hf))
 clear ho hm hf
 go_wp2_with fail
 go_returns
 rw [← HK.out]
 exact ⟨v', rfl, H1.out⟩
theorem Tryz.infoI2 : (Tryz.prog.info? 3).map (fun i => (i.zero, i.size, i.bytes)) = some (some (.int .i64 0), 1, 8) := by kernel_rfl
theorem fillTn {i : TypeInfo} (h : i.size = 1) (a : Value) (ha : a = a) (z : Int) : Instr.fill (fun k => some (k * i.size, i.size)) ((Array.range (1 * i.size)).map ((Value.int .i64 0).cells[· % (Value.int .i64 0).cells.size]!)) [(0, .int .i64 z)] = some #[.int .i64 z] := by
 rw [h]
 first | kernel_rfl | simp [Instr.fill]
theorem tradd_c (h : TrAt w p F (n + 1) (n + 1)) (hn : n ≤ 900) : Calls Tryz.prog 59 #[.pointer (some ⟨p, 0, none⟩), .int .i64 n, .bool true] w fun e w' => e = .returned (.tuple #[.int .i64 ((n + 1 : Nat) : Int), .int .i64 0]) ∧ ∃ F', TrAt w' p F' (n + 2) (n + 2) ∧ Stp w w' F F' := by
 obtain ⟨lb, v, gs, h, hl, hlen, hc⟩ := h
 obtain ⟨x, hx⟩ := get_of_lt (xs := gs) (k := n) (by omega)
 have hcx := hc n x hx
 rcases h.own.form with ⟨_, h0⟩ | ⟨g, c, rfl, hgb, hlc, hcm⟩
 ·subst h0
  simp at hx
 rw [hlen] at h
 obtain ⟨kn, hkn⟩ : ∃ kn, kn = n + 1 := ⟨_, rfl⟩
 have hown := h.own
 have hblk := h.blk
 have HLV := zh h.lv
 have HH := zh (trhas_c (i := n) h.blk (by omega) (by omega))
 have HTR := zh (And.intro h hl)
 have HLN := zh hlen
 have HCN := zh hc
 have HX := zh hx
 have HCX := zh hcx
 have q0 := h.blk.cell 0
 simp only [zG] at q0
 have HB := zh hblk
 have HO := zh hown
 have b1 : ((n : Int) == -1) = false := by
  rw [beq_eq_false_iff_ne]
  omega
 have j1 : (0 : Int) ≤ (n : Int) := Int.natCast_nonneg _
 clear h hl hlen hc hcx hown hblk hgb hlc hcm hx hkn kn
 go_enter Tryz.func59, Tryz.ntmps59
 go_wp2_with fail
 refine HH.out.mono ?_
 rintro e w' ⟨rfl, rfl⟩
 go_upto_region 9 with fail
 obtain ⟨i0, hi0, hz0, hz1, hz2⟩ := info_parts Tryz.infoI2
 have hx2 : x.2 = [] := by
  have h1 := congrArg (fun z => z.2.2) HCX.out
  simpa [chainN] using h1
 have hkd := HTR.out.1.kd n x HX.out
 rw [hx2] at hkd
 have HKD := zh hkd
 have HNP := zh (show ∀ k, (kidV x.1).ownBlock = some k → k ≠ p from fun k hk e => by
  have h1 := (hkd.2 k).1 hk
  rw [e, HTR.out.1.lp] at h1
  omega)
 have HNG := zh (show ∀ k, (kidV x.1).ownBlock = some k → k ≠ g from fun k hk e => by
  have h1 := (hkd.2 k).1 hk
  rw [e, (HTR.out.1.lv g).1 rfl] at h1
  omega)
 have i1 : (0 : Int) ≤ (n : Int) := Int.natCast_nonneg _
 have i2 : (n : Int) < ((n + 1 : Nat) : Int) := by omega
 have i3 : n < n + 1 := by omega
 have i4 : (n : Int) < (n : Int) + 1 := by omega
 clear hkd hx2 q0
 refine wp_region_z (S := fun w' => Blk w' (p) 148 #[.slice (some ⟨g, 0, none⟩) (n + 1) c] ∧ Owns tnK 181 3 w' (.slice (some ⟨g, 0, none⟩) (n + 1) c) gs ∧ Turns (fun k => (kidV x.1).ownBlock = some k) w w') 18 (by kernel_rfl) ?_ (fun hHeld => ?_)
 ·exact ⟨HB.out, HO.out, (Turns.refl _ w).drew⟩
 refine tZ 0 38 ?_ ?_ ?_;rotate_left
 ·intro w hSw
  go_simp
  try with_reducible rfl
 try simp only [zP]
 refine tZ 1 39 ?_ ?_ ?_;rotate_left
 ·intro w hSw
  go_simp
  try with_reducible rfl
 try simp only [zP]
 refine tZ 2 40 ?_ ?_ ?_;rotate_left
 ·intro w hSw
  go_simp
  try with_reducible rfl
 try simp only [zP]
 refine tZ 3 41 ?_ ?_ ?_;rotate_left
 ·intro w hSw
  have q0_0 := hSw.1.cell 0
  simp only [zG] at q0_0
  have r2 := Owns.cell tnK_len (show Owns tnK 181 3 _ (.slice (some ⟨g, 0, none⟩) gs.length c) gs from by rw [HLN.out]; exact hSw.2.1) HX.out (j := 2) (u := kidV x.1) rfl
  go_simp
  try with_reducible rfl
 try simp only [zP]
 refine tZ 4 42 ?_ ?_ ?_;rotate_left
 ·intro w hSw
  go_simp
  try with_reducible rfl
 try simp only [zP]
 refine tZ 5 43 ?_ ?_ ?_;rotate_left
 ·intro w hSw
  go_simp
  try with_reducible rfl
 try simp only [zP]
 refine tZ 6 44 ?_ ?_ ?_;rotate_left
 ·intro w hSw
  go_simp
  try with_reducible rfl
 try simp only [zP]
 refine tZ 7 45 ?_ ?_ ?_;rotate_left
 ·intro w hSw
  go_simp
  try with_reducible rfl
 try simp only [zP]
 refine tZ 8 46 ?_ ?_ ?_;rotate_left
 ·intro w hSw
  have q0_0 := hSw.1.cell 0
  simp only [zG] at q0_0
  have r2 := Owns.cell tnK_len (show Owns tnK 181 3 _ (.slice (some ⟨g, 0, none⟩) gs.length c) gs from by rw [HLN.out]; exact hSw.2.1) HX.out (j := 2) (u := kidV x.1) rfl
  go_simp
  try with_reducible rfl
 try simp only [zP]
 refine tZ 9 47 ?_ ?_ ?_;rotate_left
 ·intro w hSw
  go_simp
  try with_reducible rfl
 try simp only [zP]
 refine tZ 10 48 ?_ ?_ ?_;rotate_left
 ·intro w hSw
  go_simp
  try with_reducible rfl
 try simp only [zP]
 refine tZ 11 49 ?_ ?_ ?_;rotate_left
 ·intro w hSw
  go_simp
  try with_reducible rfl
 try simp only [zP]
 refine tZ 12 50 ?_ ?_ ?_;rotate_left
 ·intro w hSw
  have q0_0 := hSw.1.cell 0
  simp only [zG] at q0_0
  have r2 := Owns.cell tnK_len (show Owns tnK 181 3 _ (.slice (some ⟨g, 0, none⟩) gs.length c) gs from by rw [HLN.out]; exact hSw.2.1) HX.out (j := 2) (u := kidV x.1) rfl
  go_simp
  try with_reducible rfl
 try simp only [zP]
 refine tZ 13 51 ?_ ?_ ?_;rotate_left
 ·intro w hSw
  go_simp
  try with_reducible rfl
 try simp only [zP]
 refine wpAnyZ_ready (rs := [14]) (by kernel_rfl) (by simp) ?_
 refine AllReadyZ.cons rfl (fun K hK => ?_) AllReadyZ.nil
 refine step_lit rfl _ 1 _ (by rfl) i0 _ Tryz.underlying42 hi0 hz0 (by rw [hz1]; decide) (by rw [hz1]; decide) #[.int .i64 ((n : Int) + 1)] ?_ ?_
 ·simp only [List.map_toArray, List.map_cons, List.map_nil]; exact fillTn hz1 (.int .i64 0) rfl _
 intro bX wX hTX hBX hLX
 refine hK.out _ _ ?_ (fun hHeld => ?_)
 ·exact ⟨hHeld.1.turns hTX (fun h => h), hHeld.2.1.turns hTX (fun _ _ h => h), hHeld.2.2.trans (hTX.mono (fun _ _ h => h.elim))⟩
 clear hK K
 try simp only [zP]
 refine wpAnyZ_ready (rs := [15]) (by kernel_rfl) (by simp) ?_
 refine AllReadyZ.cons rfl (fun K hK => ?_) AllReadyZ.nil
 refine step_push rfl _ _ _ (by rfl) i0 _ 8 Tryz.underlying42 hi0 hz0 hz1 hz2 rfl (by omega) encI_len encI_one (by rfl) ((HKD.out.1.turns (zT w).drew (fun _ _ h => h)).turns hTX (fun _ _ h => h)) ((n : Int) + 1) (by rfl) hBX (by simp) (by omega) ?_
 intro v2 w2 hO2 hT2 hV2
 obtain ⟨a3, c3, rfl⟩ := owns_slice hO2
 refine hK.out _ _ ?_ (fun hHeld => ?_)
 ·exact ⟨hHeld.1.turns hT2 (fun e => HNP.out _ e rfl), hHeld.2.1.turns hT2 (fun k hk e => by simp only [Value.ownBlock, Option.some.injEq] at hk; exact HNG.out k e hk.symm), hHeld.2.2.trans hT2⟩
 clear hK K
 try simp only [zP]
 refine wpAnyZ_ready (rs := [16]) (by kernel_rfl) (by simp) ?_
 refine AllReadyZ.cons rfl (fun K hK => ?_) AllReadyZ.nil
 go_simp
 refine hK.out _ _ hHeld (fun hHeld => ?_)
 clear hK K
 try simp only [zP]
 refine tZ 17 55 ?_ ?_ ?_;rotate_left
 ·intro w hSw
  go_simp
  try with_reducible rfl
 try simp only [zP]
 refine wpAnyZ_ready (rs := [18]) (by kernel_rfl) (by simp) ?_
 refine AllReadyZ.last rfl (fun K hK => ?_) AllReadyZ.nil
 have r2 := Owns.cell tnK_len (show Owns tnK 181 3 _ (.slice (some ⟨g, 0, none⟩) gs.length c) gs from by rw [HLN.out]; exact hHeld.2.1) HX.out (j := 2) (u := kidV x.1) rfl
 have f2 := Owns.free (show Owns tnK 181 3 _ (.slice (some ⟨g, 0, none⟩) gs.length c) gs from by rw [HLN.out]; exact hHeld.2.1) (n * 3 + 2)
 go_simp
 refine hK.out _ _ ?_
 clear hK K
 try simp only [zP]
 refine wpAnyZ_done (by kernel_rfl) ?_ _
 simp only [List.nil_append, List.length_cons, List.length_nil, Nat.zero_add] at hO2 hT2 hV2
 have hdr := (zT w).drew
 have htr := HTR.out.1
 rw [← HLN.out] at htr
 obtain ⟨lb1, F1, ht1, hl1, hs1⟩ := htr.setKid (w2 := w2) HTR.out.2 HX.out hO2 ⟨(hdr.mono (fun _ _ h => h.elim)).trans ((hTX.mono (fun _ _ h => h.elim)).then hT2 (fun k _ hk => (HKD.out.2 k).1 hk)), fun k hk => (hV2 k hk).imp (fun h => (HKD.out.2 k).1 h) (fun h => Nat.le_trans hTX.size h)⟩
 have HT1 := zh (And.intro ht1 (And.intro hl1 hs1))
 have hb1 := ht1.blk
 have ho1 := ht1.own
 rw [HLN.out] at hb1
 have q0 := hb1.cell 0
 simp only [zG] at q0
 have f0 := hb1.free 0
 have HX2 := zh (Blk.new (w2.setCell ⟨g, n * 3 + 2, none⟩ (.slice a3 1 c3)) 181 (tnK (⟨(n : Int), true, (none, 0, 0)⟩, [])).toArray)
 have HM2 := zh ((zT (w2.setCell ⟨g, n * 3 + 2, none⟩ (.slice a3 1 c3))).alloc (.cells (tnK (⟨(n : Int), true, (none, 0, 0)⟩, [])).toArray 181))
 have HO1 := zh (ho1.made HM2.out)
 have HB1 := zh hb1
 have hgl : (gs.set n ((⟨x.1.parent, x.1.linked, (a3, 1, c3)⟩ : Tn), [(n : Int) + 1])).length = n + 1 := by rw [List.length_set, HLN.out]
 have HGL := zh hgl
 have HGV := zh (And.intro ((ht1.lv g).1 rfl) ht1.lp)
 clear hHeld hO2 hT2 hV2 hTX hBX hLX hdr htr ht1 hl1 hs1 hb1 ho1 hgl hi0 hz0 hz1 hz2
 generalize w2.setCell ⟨g, n * 3 + 2, none⟩ (.slice a3 1 c3) = W2 at *
 obtain ⟨i5, hi0, hz0, hz1, hz2⟩ := info_parts Tryz.infoTn
 go_wp2_with (at_builtin; refine wpList_push rfl (.tmp 60) (.tmp 64) _ rfl i5 _ 40 Tryz.underlying146 hi0 hz0 hz1 hz2 rfl (by omega) tnK_len tnK_one (by rfl) (show Owns tnK 181 3 _ (.slice (some ⟨g, 0, none⟩) (n + 1) c) _ from by have h9 := HO1.out; rw [HLN.out] at h9; exact h9) (⟨(n : Int), true, (none, 0, 0)⟩, []) rfl HX2.out (by rw [HGL.out]; omega) (by omega) ?_; intro v4 w4 hO4 hT4 hV4; obtain ⟨a4, n4, c4, rfl⟩ : ∃ a n c, v4 = .slice a n c := (by obtain ⟨a, c, h⟩ := owns_slice hO4; exact ⟨a, _, c, h⟩); have HV4 := zh (And.intro hO4 (And.intro hT4 hV4)); have hb4 := (HB1.out.turns HM2.out (fun h => h)).turns hT4 (fun e => by simp only [Value.ownBlock, Option.some.injEq] at e; have h8 := HGV.out; rw [e] at h8; omega); have f5 := hb4.free 0; have q5 := hb4.cell 0; simp only [List.getElem?_toArray, List.getElem?_cons_zero] at q5; clear hO4 hT4 hV4 hb4)
 go_returns
 obtain ⟨hO4, hT4, hV4⟩ := HV4.out
 obtain ⟨ht1, hl1, hs1⟩ := HT1.out
 obtain ⟨lb5, F5, ht5, hl5, hs5⟩ := TrIn.push (par := (n : Int)) (lk := true) (by have h9 := ht1; rw [HLN.out] at h9; exact h9) hl1 HM2.out hO4 hT4 hV4
 refine ⟨rfl, F5, ⟨lb5, _, _, ht5, hl5, by rw [List.length_append, HGL.out]; rfl, fun i y hy => ?_⟩, hs1.trans hs5⟩
 rcases Nat.lt_or_ge i (n + 1) with hi | hi
 ·rw [List.getElem?_append_left (by rw [HGL.out]; exact hi), List.getElem?_set] at hy
  by_cases hin : n = i
  ·subst hin
   rw [if_pos rfl, if_pos (by rw [HLN.out]; exact hi)] at hy
   cases hy
   have h1 := HCX.out
   simp only [chainN, Prod.mk.injEq] at h1 ⊢
   refine ⟨h1.1, ?_, ?_⟩
   ·rw [h1.2.1, decide_eq_decide]
    omega
   ·rw [if_pos (by omega)]
    rfl
  ·rw [if_neg hin] at hy
   have h1 := HCN.out i y hy
   rw [h1]
   simp only [chainN, Prod.mk.injEq, true_and]
   refine ⟨?_, ?_⟩
   ·rw [decide_eq_decide]
    omega
   ·rw [if_pos (by omega), if_pos (by omega)]
 ·rw [List.getElem?_append_right (by rw [HGL.out]; exact hi), HGL.out] at hy
  obtain rfl : i = n + 1 := by
   rcases Nat.eq_zero_or_pos (i - (n + 1)) with h0 | h0
   ·omega
   ·rw [List.getElem?_cons, if_neg (by omega)] at hy
    simp at hy
  rw [Nat.sub_self, List.getElem?_cons_zero] at hy
  cases hy
  simp only [chainN, Prod.mk.injEq]
  refine ⟨by omega, ?_, ?_⟩
  ·symm
   rw [decide_eq_true_iff]
   omega
  ·rw [if_neg (by omega)]
end
section
variable {w w' w2 : World} {p g c i n cut : Nat} {F : Nat → Prop} {lb : Nat → Nat} {gs : List (Tn × List Int)} {v : Value}
theorem TrIn.setLink {x : Tn × List Int} {b : Bool} (h : TrIn w p lb (.slice (some ⟨g, 0, none⟩) gs.length c) gs) (hl : Lab w lb F) (hx : gs[i]? = some x) :
  TrIn (w.setCell ⟨g, i * 3 + 1, none⟩ (.bool b)) p lb (.slice (some ⟨g, 0, none⟩) gs.length c) (gs.set i (⟨x.1.parent, b, x.1.kids⟩, x.2)) ∧ Lab (w.setCell ⟨g, i * 3 + 1, none⟩ (.bool b)) lb F ∧ Turns F w (w.setCell ⟨g, i * 3 + 1, none⟩ (.bool b)) := by
 have hg2 : lb g = 2 := (h.lv g).1 rfl
 have ht : Turns (fun k => lb k = 2) w (w.setCell ⟨g, i * 3 + 1, none⟩ (.bool b)) := (Turns.refl _ w).setCell (p := ⟨g, i * 3 + 1, none⟩) (fun _ => hg2) _
 have hown := h.own.put tnK_len hx (x' := (⟨x.1.parent, b, x.1.kids⟩, x.2)) (j := 1) (u := .bool b) rfl (by omega)
 have hlen : (gs.set i ((⟨x.1.parent, b, x.1.kids⟩ : Tn), x.2)).length = gs.length := List.length_set
 refine ⟨⟨h.blk.turns ht (by rw [h.lp]; omega), h.lp, hown, h.lv, fun j y hy => ?_, fun k => by rw [hlen]; exact h.few k⟩, hl.turns ht, ht.mono (fun k _ hk => (hl.on k).2 (by rw [hk]; omega))⟩
 rw [List.getElem?_set] at hy
 by_cases hij : i = j
 ·subst hij
  rw [if_pos rfl, if_pos (List.getElem?_eq_some_iff.1 hx).1] at hy
  cases hy
  exact ⟨(h.kd i x hx).1.turns ht (fun k hk => by rw [((h.kd i x hx).2 k).1 hk]; omega), (h.kd i x hx).2⟩
 ·rw [if_neg hij] at hy
  exact ⟨(h.kd j y hy).1.turns ht (fun k hk => by rw [((h.kd j y hy).2 k).1 hk]; omega), (h.kd j y hy).2⟩
theorem trdet_c {j : Nat} (h : TrAt w p F n (j + 2)) (hj : j + 2 ≤ n) (hn : n ≤ 900) : Calls Tryz.prog 158 #[.pointer (some ⟨p, 0, none⟩), .int .i64 ((j + 1 : Nat) : Int)] w fun e w' => e = .returned (.bool true) ∧ ∃ F', TrAt w' p F' n (j + 1) ∧ Stp w w' F F' := by
 obtain ⟨lb, v, gs, h, hl, hlen, hc⟩ := h
 obtain ⟨x, hx⟩ := get_of_lt (xs := gs) (k := j + 1) (by omega)
 obtain ⟨y, hy⟩ := get_of_lt (xs := gs) (k := j) (by omega)
 have hcx := hc (j + 1) x hx
 have hcy := hc j y hy
 rcases h.own.form with ⟨_, h0⟩ | ⟨g, c, rfl, hgb, hlc, hcm⟩
 ·subst h0
  simp at hx
 have hxp : x.1.parent = (j : Int) := by
  have h1 := congrArg (fun z => z.1) hcx
  simp only [chainN] at h1
  omega
 have hxl : x.1.linked = true := by
  have h1 := congrArg (fun z => z.2.1) hcx
  simp only [chainN] at h1
  rw [h1, decide_eq_true_iff]
  omega
 have hyk : y.2 = [(j : Int) + 1] := by
  have h1 := congrArg (fun z => z.2.2) hcy
  simp only [chainN] at h1
  rw [h1, if_pos (by omega)]
  rfl
 have hne : ¬ j + 1 = j := by omega
 obtain ⟨ht1, hl1, hs1⟩ := h.setLink (b := false) hl hx
 have hy1 : (gs.set (j + 1) ((⟨x.1.parent, false, x.1.kids⟩ : Tn), x.2))[j]? = some y := by rw [List.getElem?_set, if_neg hne]; exact hy
 have hx1 : (gs.set (j + 1) ((⟨x.1.parent, false, x.1.kids⟩ : Tn), x.2))[j + 1]? = some (⟨x.1.parent, false, x.1.kids⟩, x.2) := by rw [List.getElem?_set, if_pos rfl, if_pos (by omega)]
 have hgl : (gs.set (j + 1) ((⟨x.1.parent, false, x.1.kids⟩ : Tn), x.2)).length = n := by rw [List.length_set, hlen]
 have q0 := h.blk.cell 0
 simp only [zG] at q0
 have c1 := Owns.cell tnK_len h.own hx (j := 1) (u := .bool x.1.linked) rfl
 rw [hxl] at c1
 have f1 := Owns.free h.own ((j + 1) * 3 + 1)
 have q0' := ht1.blk.cell 0
 simp only [zG] at q0'
 have ho1 := ht1.own
 have hvk := (ht1.kd j y hy1).1
 rw [show gs.length = (gs.set (j + 1) ((⟨x.1.parent, false, x.1.kids⟩ : Tn), x.2)).length from by rw [List.length_set]] at ho1
 have d0 := Owns.cell tnK_len ho1 hx1 (j := 0) (u := .int .i64 x.1.parent) rfl
 rw [hxp] at d0
 have d2 := Owns.cell tnK_len ho1 hy1 (j := 2) (u := kidV y.1) rfl
 rw [hyk] at hvk
 obtain ⟨ak, ck, hek, hrk, -⟩ := hvk.rowIn encI_len
 rw [hek] at d2 hvk
 rcases hvk.form with ⟨_, h0⟩ | ⟨gk, ck2, hek2, -, -, -⟩
 ·cases h0
 obtain ⟨rfl, -, rfl⟩ : ak = some ⟨gk, 0, none⟩ ∧ True ∧ ck = ck2 := by
  simp only [Value.slice.injEq] at hek2
  exact ⟨hek2.1, trivial, hek2.2.2⟩
 have HH := zh (trhas_c (i := j + 1) h.blk (by omega) (by omega))
 have HT1 := zh (And.intro ht1 (And.intro hl1 hs1))
 have HX := zh (And.intro hx1 (And.intro hy1 hgl))
 have HC := zh (And.intro hc (And.intro hcx (And.intro hcy (And.intro hyk (And.intro hx hy)))))
 have HEK := zh hek
 have HVK := zh hvk
 have HRK := zh hrk
 have HLN := zh hlen
 rw [hlen] at q0 q0'
 simp only [List.length_cons, List.length_nil, Nat.zero_add, Nat.add_zero] at d0 d2
 have HQ := zh (And.intro q0' (And.intro d0 d2))
 clear q0' d0 d2
 have j1 : (0 : Int) ≤ (j : Int) := Int.natCast_nonneg _
 have j2 : (j : Int) + 1 < (n : Int) := by omega
 have j3 : (j : Int) < (n : Int) := by omega
 clear h hl hlen hc hcx hcy hgb hlc hcm hxp hxl hyk ht1 hl1 hs1 hx1 hy1 hgl ho1 hvk hek hek2 hrk hx hy
 go_enter Tryz.func158, Tryz.ntmps158
 go_wp2_with fail
 refine HH.out.mono ?_
 rintro e w' ⟨rfl, rfl⟩
 go_upto_region 4 with fail
 generalize w.setCell ⟨g, (j + 1) * 3 + 1, none⟩ (.bool false) = W at *
 obtain ⟨q1, d0, d2⟩ := HQ.out
 have i1 : (0 : Int) ≤ (j : Int) + 1 := by omega
 have i2 : (j : Int) + 1 < (n : Int) := by omega
 have i3 : j + 1 < n := by omega
 have i4 : ((j : Int) + 1).toNat = j + 1 := by omega
 have i5 : (0 : Int) ≤ (j : Int) := by omega
 have i6 : (j : Int) < (n : Int) := by omega
 have i7 : j < n := by omega
 go_quiet (fail)
 have hix := fun k' => idx_loop_some (cap := ck) (i := 0) (xs := [(j : Int) + 1]) ((j : Int) + 1) (W.drewN k') (HRK.out.turns ((zT W).drewN k') (fun _ _ _ h => h)) (by simp) rfl (fun _ h => absurd h (Nat.not_lt_zero _))
 have hdx := fun k' => delete_c (g := gk) (i := 0) (L := 0) (cap := ck) (xs := [(j : Int) + 1]) (W.drewN k') (show Owns encI 3 1 (W.drewN k') (.slice (some ⟨gk, 0, none⟩) (0 + 1) ck) [(j : Int) + 1] from HVK.out.turns ((zT W).drewN k') (fun _ _ h => h)) rfl (by omega) (Nat.le_refl _)
 simp only [List.length_cons, List.length_nil, Nat.zero_add, Int.cast_ofNat_Int, Int.natCast_zero, Int.zero_add, List.eraseIdx_zero, List.tail_cons] at hix hdx
 have HI := zh hix
 have HD := zh hdx
 clear hix hdx
 go_wp2_with fail
 refine (HI.out _).mono ?_
 rintro e w1 ⟨rfl, rfl⟩
 go_wp2_with fail
 refine (HD.out _).mono ?_
 rintro e w3 ⟨rfl, ho3, ht3⟩
 have tw : Turns (fun k => k = gk) W w3 := ((Turns.refl _ W).drewN _).trans ht3
 obtain ⟨hx1, hy1, hgl⟩ := HX.out
 have hlen := HLN.out
 have ht1 := HT1.out.1
 rw [show gs.length = (gs.set (j + 1) ((⟨x.1.parent, false, x.1.kids⟩ : Tn), x.2)).length from by rw [List.length_set]] at ht1
 have hkl := (ht1.kd j y hy1).2
 rw [HEK.out] at hkl
 have hgk : lb gk = 3 + j := (hkl gk).1 rfl
 have hg2 : lb g = 2 := (ht1.lv g).1 rfl
 obtain ⟨lb5, F5, ht5, hl5, hs5⟩ := ht1.setKid (w2 := w3) HT1.out.2.1 hy1 ho3 ⟨tw.mono (fun k _ e => by rw [e]; exact hgk), fun k hk => .inl (by simp only [Value.ownBlock, Option.some.injEq] at hk; rw [← hk]; exact hgk)⟩
 have ho4 := ht1.own.turns tw (fun k hk e => by simp only [Value.ownBlock, Option.some.injEq] at hk; rw [← hk] at e; rw [e] at hg2; omega)
 have e2 := Owns.cell tnK_len ho4 hy1 (j := 2) (u := kidV y.1) rfl
 have f2 := Owns.free ho4 (j * 3 + 2)
 have HR := zh (And.intro ht5 (And.intro hl5 ((Stp.same HT1.out.2.2).trans hs5)))
 clear ht5 hl5 hs5 ho4 tw hx1 hy1 hgl hlen ht1 hkl hgk hg2 ho3 ht3 q1 d0 d2 i4
 go_wp2_with fail
 go_returns
 obtain ⟨ht5, hl5, hs5⟩ := HR.out
 obtain ⟨hc, hcx, hcy, hyk, hx, hy⟩ := HC.out
 have hlen := HLN.out
 refine ⟨rfl, F5, ⟨lb5, _, _, ht5, hl5, by rw [List.length_set, List.length_set, hlen], fun i y' hy' => ?_⟩, hs5⟩
 rw [List.getElem?_set, List.length_set, List.getElem?_set] at hy'
 by_cases h1 : j = i
 ·subst h1
  rw [if_pos rfl, if_pos (by omega)] at hy'
  cases hy'
  simp only [chainN, Prod.mk.injEq] at hcy ⊢
  refine ⟨hcy.1, ?_, ?_⟩
  ·rw [hcy.2.1, decide_eq_decide]
   omega
  ·rw [if_neg (by omega)]
 ·rw [if_neg h1] at hy'
  by_cases h2 : j + 1 = i
  ·subst h2
   rw [if_pos rfl, if_pos (by omega)] at hy'
   cases hy'
   simp only [chainN, Prod.mk.injEq] at hcx ⊢
   refine ⟨hcx.1, ?_, ?_⟩
   ·symm
    rw [decide_eq_false_iff_not]
    omega
   ·rw [hcx.2.2, if_neg (by omega), if_neg (by omega)]
  ·rw [if_neg h2] at hy'
   rw [hc i y' hy']
   simp only [chainN, Prod.mk.injEq, true_and]
   refine ⟨?_, ?_⟩
   ·rw [decide_eq_decide]
    omega
   ·by_cases h3 : i + 1 < j + 1
    ·rw [if_pos (by omega), if_pos h3]
    ·rw [if_neg (by omega), if_neg h3]
end
structure CtxIn (w : World) (q pm tr m : Nat) (lb : Nat → Nat) (vl : Value) (cs : List Cx) (cut : Nat) : Prop where
 blk : Blk w q 102 #[.pointer (some ⟨pm, 0, none⟩), .pointer (some ⟨tr, 0, none⟩), vl, .slice none 0 0, .map (some m)]
 lq : lb q = 1
 tree : TrAt w tr (fun k => lb k = 2) cs.length cut
 mp : MapI w m (fun j => if 0 ≤ j ∧ j < cs.length then some (.int .i64 j) else none)
 lm : lb m = 3
 own : Owns cxC 106 9 w vl cs
 lv : ∀ k, vl.ownBlock = some k ↔ lb k = 4
 node : ∀ (i : Nat) (x : Cx), cs[i]? = some x → x.node = i
theorem CtxIn.turns {S : Nat → Prop} {w w' : World} {q pm tr m : Nat} {lb : Nat → Nat} {vl : Value} {cs : List Cx} {cut : Nat} (h : CtxIn w q pm tr m lb vl cs cut) (ht : Turns S w w') (hn : ∀ k, lb k ≠ 0 → ¬ S k) : CtxIn w' q pm tr m lb vl cs cut :=
 ⟨h.blk.turns ht (hn q (by rw [h.lq]; omega)), h.lq, h.tree.turns ht (fun k hk => hn k (by rw [hk]; omega)), h.mp.turns ht (hn m (by rw [h.lm]; omega)), h.lm, h.own.turns ht (fun k hk => hn k (by rw [(h.lv k).1 hk]; omega)), h.lv, h.node⟩
def CtxAt (w : World) (q pm : Nat) (F : Nat → Prop) (vl : Value) (cs : List Cx) (cut : Nat) : Prop := ∃ tr m lb, CtxIn w q pm tr m lb vl cs cut ∧ Lab w lb F
section
variable {w w' : World} {q pm i cut : Nat} {F : Nat → Prop} {vl : Value} {cs : List Cx} {x : Cx}
theorem CtxAt.turns {S : Nat → Prop} (h : CtxAt w q pm F vl cs cut) (ht : Turns S w w') (hn : ∀ k, F k → ¬ S k) : CtxAt w' q pm F vl cs cut := by
 obtain ⟨tr, m, lb, h, hl⟩ := h
 exact ⟨tr, m, lb, h.turns ht (fun k hk => hn k ((hl.on k).2 hk)), hl.turns ht⟩
theorem CtxAt.made (h : CtxAt w q pm F vl cs cut) (ht : Made w w') : CtxAt w' q pm F vl cs cut := h.turns ht (fun _ _ h => h)
theorem CtxAt.fb (h : CtxAt w q pm F vl cs cut) : ∀ k, F k → k < w.heap.size := by
 obtain ⟨tr, m, lb, h, hl⟩ := h
 exact fun k hk => hl.lt k ((hl.on k).1 hk)
theorem CtxAt.ext (q pm : Nat) (cs : List Cx) (cut : Nat) : Ext (fun w F => ∃ vl, CtxAt w q pm F vl cs cut) := ⟨fun S w w' F ⟨vl, h⟩ ht hn => ⟨vl, h.turns ht hn⟩⟩
theorem cx_row (h : CtxAt w q pm F vl cs cut) (hx : cs[i]? = some x) : ∃ g c n, i < n ∧ n = cs.length ∧ w.cell? ⟨q, 2, none⟩ = some (.slice (some ⟨g, 0, none⟩) n c) ∧ ∀ j u, (cxC x)[j]? = some u → w.cell? ⟨g, i * 9 + j, none⟩ = some u := by
 obtain ⟨tr, m, lb, h, hl⟩ := h
 have hi := (List.getElem?_eq_some_iff.1 hx).1
 rcases h.own.form with ⟨_, h0⟩ | ⟨g, c, rfl, hgb, hlc, hcm⟩
 ·subst h0
  simp at hi
 have q2 := h.blk.cell 2
 simp only [zG] at q2
 exact ⟨g, c, _, hi, rfl, q2, fun j u hu => Owns.cell cxC_len h.own hx hu⟩
theorem cxhas_c (h : CtxAt w q pm F vl cs cut) (hi : i < cs.length) (hn : cs.length ≤ 60) : Calls Tryz.prog 108 #[.pointer (some ⟨q, 0, none⟩), .int .i64 i] w fun e w' => e = .returned (.bool true) ∧ w = w' := by
 obtain ⟨x, hx⟩ := get_of_lt (xs := cs) (k := i) hi
 obtain ⟨g, c, n, h1, h2, q2, hc⟩ := cx_row h hx
 have j1 : (0 : Int) ≤ (i : Int) := Int.natCast_nonneg _
 have j2 : (i : Int) < (n : Int) := by omega
 clear h hc h2 hx hi hn h1
 go_enter Tryz.func108, Tryz.ntmps108
 go_wp2_with fail
 go_returns
 exact ⟨rfl, rfl⟩
theorem cxroom_c (h : CtxAt w q pm F vl cs cut) (hi : i < cs.length) (hn : cs.length ≤ 60) : Calls Tryz.prog 180 #[.pointer (some ⟨q, 0, none⟩), .int .i64 i] w fun e w' => e = .returned (.int .i64 0) ∧ w = w' := by
 have HH := zh (cxhas_c h hi hn)
 obtain ⟨x, hx⟩ := get_of_lt (xs := cs) (k := i) hi
 obtain ⟨g, c, n, h1, h2, q2, hc⟩ := cx_row h hx
 have j3 : (n : Int) ≤ 60 := by omega
 clear h hc h2 hx hi hn h1
 go_enter Tryz.func180, Tryz.ntmps180
 go_wp2_with fail
 refine HH.out.mono ?_
 rintro e w1 ⟨rfl, rfl⟩
 go_wp2_with fail
 go_returns
 exact ⟨rfl, rfl⟩
theorem cxerr_c (h : CtxAt w q pm F vl cs cut) (hx : cs[i]? = some x) (hn : cs.length ≤ 60) : Calls Tryz.prog 142 #[.pointer (some ⟨q, 0, none⟩), .int .i64 i] w fun e w' => e = .returned (.tuple #[.int .i64 x.err, .int .i64 0]) ∧ w = w' := by
 have HH := zh (cxhas_c h (List.getElem?_eq_some_iff.1 hx).1 hn)
 obtain ⟨g, c, n, h1, h2, q2, hc⟩ := cx_row h hx
 have k5 := hc 3 _ rfl
 have j1 : (0 : Int) ≤ (i : Int) := Int.natCast_nonneg _
 have j2 : (i : Int) < (n : Int) := by omega
 clear h hc h2 hx hn
 go_enter Tryz.func142, Tryz.ntmps142
 go_wp2_with fail
 refine HH.out.mono ?_
 rintro e w1 ⟨rfl, rfl⟩
 go_wp2_with fail
 go_returns
 exact ⟨rfl, rfl⟩
theorem cxdone_c (h : CtxAt w q pm F vl cs cut) (hx : cs[i]? = some x) (hn : cs.length ≤ 60) : Calls Tryz.prog 141 #[.pointer (some ⟨q, 0, none⟩), .int .i64 i] w fun e w' => e = .returned (.tuple #[.pointer (pt x.c), .int .i64 0]) ∧ w = w' := by
 have HH := zh (cxhas_c h (List.getElem?_eq_some_iff.1 hx).1 hn)
 obtain ⟨g, c, n, h1, h2, q2, hc⟩ := cx_row h hx
 have k5 := hc 2 _ rfl
 have j1 : (0 : Int) ≤ (i : Int) := Int.natCast_nonneg _
 have j2 : (i : Int) < (n : Int) := by omega
 clear h hc h2 hx hn
 go_enter Tryz.func141, Tryz.ntmps141
 go_wp2_with fail
 refine HH.out.mono ?_
 rintro e w1 ⟨rfl, rfl⟩
 go_wp2_with fail
 go_returns
 exact ⟨rfl, rfl⟩
theorem cxuntil_c (h : CtxAt w q pm F vl cs cut) (hx : cs[i]? = some x) (hn : cs.length ≤ 60) : Calls Tryz.prog 144 #[.pointer (some ⟨q, 0, none⟩), .int .i64 i] w fun e w' => e = .returned (.tuple #[.int .i64 x.when, .bool x.has, .int .i64 0]) ∧ Made w w' := by
 have HH := zh (cxhas_c h (List.getElem?_eq_some_iff.1 hx).1 hn)
 obtain ⟨g, c, n, h1, h2, q2, hc⟩ := cx_row h hx
 have k5 := hc 5 _ rfl
 have k6 := hc 6 _ rfl
 have j1 : (0 : Int) ≤ (i : Int) := Int.natCast_nonneg _
 have j2 : (i : Int) < (n : Int) := by omega
 have HJ := zh (And.intro h1 (And.intro j1 j2))
 clear h hc h2 hx hn
 go_enter Tryz.func144, Tryz.ntmps144
 go_wp2_with fail
 refine HH.out.mono ?_
 rintro e w1 ⟨rfl, rfl⟩
 go_upto_region 3 with fail
 obtain ⟨l1, l2, l3⟩ := HJ.out
 go_quiet (fail)
 go_wp2_with fail
 go_returns
 first
 | exact ⟨rfl, Turns.refl _ _⟩
 | exact ⟨rfl, Turns.drew (Turns.refl _ _)⟩
 | exact ⟨rfl, Turns.drewN (Turns.refl _ _) _⟩
end
end Go.Proofs.YtjnkphhlkoapbaaGreat
