/-
  The document's timers: Take, where one is due.
-/
import Derived.Test.YtgjgopcomgclkaaRw
namespace Go.Proofs.Ytgjgopcomgclkaa
open Go.RowKit
set_option linter.unusedVariables false
set_option linter.unusedSimpArgs false

/-- A block beside what is turned. -/
structure Beside (w : World) (F : Nat → Prop) (b : Nat) (t : TypeId) (cs : Array Value) : Prop where
  blk : Blk w b t cs
  n : ¬ F b
theorem Beside.step {w w' : World} {F F' : Nat → Prop} {b : Nat} {t : TypeId} {cs : Array Value} (h : Beside w F b t cs) (s : Stp w w' F F') : Beside w' F' b t cs :=
  ⟨h.blk.turns s.t h.n, fun hf => (s.f b hf).elim h.n (fun h2 => by have := h.blk.lt; omega)⟩

/-- Once more or not, by the document's words. -/
theorem again_min {x : It} {pd now : Int} (h0 : 0 ≤ now) : again x pd now ↔ (0 < pd ∧ (nextZ x.when pd (if 4611686018427387904 < now then 4611686018427387904 else now)).2 = 0 ∧ now < (nextZ x.when pd (if 4611686018427387904 < now then 4611686018427387904 else now)).1) := by
  unfold again
  by_cases hM : 4611686018427387904 < now
  · rw [if_pos hM]
    constructor
    · intro h
      have hb : (nextZ x.when pd now) = (0, 1) := by unfold nextZ; rw [if_pos (by omega)]
      rw [hb] at h
      cases h.1
    · rintro ⟨hp, h1, h2⟩
      exfalso
      unfold nextZ at h2
      split at h2
      · simp only at h2; omega
      · split at h2
        · simp only at h2; omega
        · simp only [addZ] at h2
          have := heldZ_bd (heldZ 4611686018427387904 + heldZ (pd - (4611686018427387904 - x.when) % pd))
          omega
  · rw [if_neg hM]
    refine ⟨fun h => ⟨?_, h⟩, fun h => h.2⟩
    have h1 := h.1
    unfold nextZ at h1
    split at h1
    · cases h1
    · omega

section
attribute [local go_sem] mx2 mn2 mx_two mn_two
set_option maxHeartbeats 8000000 in
set_option maxRecDepth 100000 in
theorem rtake_c {w : World} {b : Nat} {F : Nat → Prop} {x : It} {l : List It} {sq : Int} {PL : List It} (now : Int) (h : RTAt w b F (x :: l) sq PL) (hl : (x :: l).length ≤ 100000) (hn : PL.length ≤ 100000) (hu : Uniq (x :: l)) (hup : Uniq PL) (hsq : 0 ≤ sq ∧ sq < 1000000) (hri : (x :: l).Pairwise lt) (hse : ∀ z ∈ x :: l, z.seq ≤ sq)
    (h0 : 0 ≤ now) (hx : x.when ≤ now) {y : It} (hp : findL x.id PL = some y) :
    Calls Try.prog 34 #[.pointer (some ⟨b, 0, none⟩), .int .i64 now] w fun e w' => e = .returned (.tuple #[dueV x.id x.when now, .bool true]) ∧
      ∃ F', (again x y.when now → RTAt w' b F' (insL ⟨x.id, (nextZ x.when y.when now).1, sq + 1⟩ l) (sq + 1) (delL x.id PL ++ [⟨x.id, y.when, 0⟩])) ∧ (¬ again x y.when now → RTAt w' b F' l sq (delL x.id PL)) ∧ Stp w w' F F' := by
  have hdl := delL_head hu
  have hll : l.length ≤ 100000 := by simp at hl; omega
  have hsl : ∀ z ∈ l, z.seq ≤ sq := fun z hz => hse z (List.mem_cons_of_mem _ hz)
  have hrl : l.Pairwise lt := (List.pairwise_cons.1 hri).2
  have hul : Uniq l := by rw [← hdl]; exact (Uniq.iff _).2 (((Uniq.iff _).1 hu).sublist (List.filter_sublist.map _))
  have hupl : Uniq (delL x.id PL) := (Uniq.iff _).2 (((Uniq.iff _).1 hup).sublist (List.filter_sublist.map _))
  have hpl : (delL x.id PL).length ≤ 100000 := Nat.le_trans (delL_le PL x.id) hn
  have hnl : delL x.id l = l := by
    rw [← hdl]
    unfold delL
    rw [List.filter_filter]
    congr 1
    funext z
    simp
  have hnp : delL x.id (delL x.id PL) = delL x.id PL := by
    unfold delL
    rw [List.filter_filter]
    congr 1
    funext z
    simp
  obtain ⟨kp, hkp, hidp⟩ := find_at hup hp
  have HST := Lib.hid (fun (w' : World) (F' : Nat → Prop) (hr : RTAt w' b F' (x :: l) sq PL) => rstop_c x.id hr (by omega) (by omega) hu hup)
  rw [hdl] at HST
  have HARM := Lib.hid (fun (w' : World) (F' : Nat → Prop) (nx : Int) (hr : RTAt w' b F' l sq (delL x.id PL)) (h1 : 0 ≤ nx) (h2 : nx ≤ 4611686018427387904) (h3 : 0 ≤ y.when) (h4 : y.when ≤ 4611686018427387904) => rarm_c x.id nx y.when hr hll hpl hul hupl hsq hrl hsl h1 h2 h3 h4)
  rw [hnl, hnp] at HARM
  obtain ⟨lv, pv, hr, hF⟩ := h.ref
  have HPD := Lib.hid (fun (w' : World) (hm : Made w w') => per_some x.id w' (hr.made hm) (by omega) hkp hidp hup)
  rcases hr.h.own.form with ⟨_, h1⟩ | ⟨g, cp, rfl, hg, hlc, hcm⟩
  · cases h1
  have c0 := fun (o : Obj) => (hr.made (Turns.alloc (Turns.refl (fun _ => False) w) o)).cells.1
  have e0 := fun (o : Obj) => Owns.cell encT_len (hr.made (Turns.alloc (Turns.refl (fun _ => False) w) o)).h.own (i := 0) (x := x) rfl (j := 0) rfl
  have e1 := fun (o : Obj) => Owns.cell encT_len (hr.made (Turns.alloc (Turns.refl (fun _ => False) w) o)).h.own (i := 0) (x := x) rfl (j := 1) rfl
  have e2 := fun (o : Obj) => Owns.cell encT_len (hr.made (Turns.alloc (Turns.refl (fun _ => False) w) o)).h.own (i := 0) (x := x) rfl (j := 2) rfl
  simp only [Nat.zero_mul, Nat.zero_add, Nat.add_zero] at e0 e1 e2
  have hne : (((x :: l).length : Int) == 0) = false := by first | (simp; done) | (simp; omega)
  have hl0 : (0 : Int) < ((x :: l).length : Int) := by first | (simp; done) | (simp; omega)
  simp only [List.length_cons] at c0 hne hl0
  have HH := Lib.hid h
  have HAG := Lib.hid (again_min (x := x) (pd := y.when) h0)
  have HBD := Lib.hid (fun (ha : again x y.when now) => again_bd ha h0)
  clear h hr hg hF hkp hidp hp hu hup hdl hnl hnp hri hse hsl hrl hul hupl
  have n1 : ¬ now < 0 := by omega
  have n2 : ¬ now < x.when := by omega
  unfold dueV
  go_enter Try.func34, Try.ntmps34
  go_wp2_with fail
  have hm2 := Turns.alloc (Turns.alloc (Turns.refl (fun _ => False) w) (.cells #[.int .i64 0, .int .i64 0, .int .i64 0] 61)) (.cells #[.int .i64 x.id, .int .i64 x.when, .int .i64 x.seq] 68)
  have hb0 := (Blk.new w 61 #[.int .i64 0, .int .i64 0, .int .i64 0]).alloc (.cells #[.int .i64 x.id, .int .i64 x.when, .int .i64 x.seq] 68)
  have hbx := Blk.new (w.alloc (.cells #[.int .i64 0, .int .i64 0, .int .i64 0] 61)) 68 #[.int .i64 x.id, .int .i64 x.when, .int .i64 x.seq]
  rw [World.size_alloc] at hbx
  have HM2 := Lib.hid hm2
  have HB0 := Lib.hid (⟨hb0, fun hf => by have := HH.out.fb _ hf; omega⟩ : Beside _ F _ _ _)
  have HBX := Lib.hid (⟨hbx, fun hf => by have := HH.out.fb _ hf; omega⟩ : Beside _ F _ _ _)
  clear hm2 hb0 hbx c0 e0 e1 e2
  generalize (w.alloc (.cells #[.int .i64 0, .int .i64 0, .int .i64 0] 61)).alloc (.cells #[.int .i64 x.id, .int .i64 x.when, .int .i64 x.seq] 68) = W at *
  refine (HPD.out _ HM2.out).mono ?_
  rintro e w1 ⟨rfl, rfl⟩
  have q0 := HBX.out.blk.cell 0
  simp only [List.getElem?_toArray, List.getElem?_cons_zero] at q0
  go_wp2_with fail
  refine (HST.out _ _ (HH.out.made HM2.out)).mono ?_
  rintro e w3 ⟨rfl, F1, hr3, hs3⟩
  have HR3 := Lib.hid hr3
  have HS3 := Lib.hid ((Stp.made HM2.out).trans hs3)
  have HB3 := Lib.hid (HB0.out.step hs3)
  have HX3 := Lib.hid (HBX.out.step hs3)
  clear hr3 hs3 HPD HST HB0 HBX q0
  generalize hbn : w.heap.size = b0 at *
  have q0 := HX3.out.blk.cell 0
  have q1 := HX3.out.blk.cell 1
  have d0 := HB3.out.blk.cell 0
  have d1 := HB3.out.blk.cell 1
  have d2 := HB3.out.blk.cell 2
  have g0 := HB3.out.blk.free 0
  have g1 := HB3.out.blk.free 1
  have g2 := HB3.out.blk.free 2
  simp only [List.getElem?_toArray, List.getElem?_cons_zero, List.getElem?_cons_succ] at q0 q1 d0 d1 d2
  by_cases hpd : 0 < y.when
  · by_cases hM : 4611686018427387904 < now
    · have hna : ¬ again x y.when now := fun ha => by
        have h1 := ha.1
        have hb : (nextZ x.when y.when now) = (0, 1) := by unfold nextZ; rw [if_pos (by omega)]
        rw [hb] at h1
        cases h1
      have HNA := Lib.hid hna
      have hno : ¬ ((nextZ x.when y.when 4611686018427387904).2 = 0 ∧ now < (nextZ x.when y.when 4611686018427387904).1) := fun h => hna (HAG.out.2 ⟨hpd, by rw [if_pos hM]; exact h⟩)
      have HNX := Lib.hid (fun w' => rnext_c x.when y.when 4611686018427387904 w')
      generalize nextZ x.when y.when 4611686018427387904 = N at *
      clear hna
      go_wp2_with fail
      refine (HNX.out _).mono ?_
      rintro e w4 ⟨rfl, rfl⟩
      by_cases hz : N.2 = 0
      · have hb : (N.2 == 0) = true := by simp [hz]
        have hgt : ¬ now < N.1 := fun h => hno ⟨hz, h⟩
        clear hno hz
        go_wp2_with fail
        refine bodyPost_ret (res_boxDR rfl (HB3.out.blk.put3 _ _ _) rfl rfl) rfl ?_
        exact ⟨rfl, F1, fun ha => absurd ha HNA.out, fun _ => HR3.out.turns (set3 _ b0) (fun k hk e => HB3.out.n (e ▸ hk)), HS3.out.t.then (set3 _ b0) (fun c hc e => by omega), HS3.out.f⟩
      · have hb : (N.2 == 0) = false := by simp [hz]
        clear hno hz
        go_wp2_with fail
        refine bodyPost_ret (res_boxDR rfl (HB3.out.blk.put3 _ _ _) rfl rfl) rfl ?_
        exact ⟨rfl, F1, fun ha => absurd ha HNA.out, fun _ => HR3.out.turns (set3 _ b0) (fun k hk e => HB3.out.n (e ▸ hk)), HS3.out.t.then (set3 _ b0) (fun c hc e => by omega), HS3.out.f⟩
    · have HNX := Lib.hid (fun w' => rnext_c x.when y.when now w')
      have hA : (again x y.when now) ↔ ((nextZ x.when y.when now).2 = 0 ∧ now < (nextZ x.when y.when now).1) := Iff.rfl
      have HA := Lib.hid hA
      have HBB := Lib.hid HBD.out
      clear hA
      obtain ⟨N, hN⟩ : ∃ N, nextZ x.when y.when now = N := ⟨_, rfl⟩
      rw [hN] at HNX HA HBB
      have HN := Lib.hid hN
      clear hN
      go_wp2_with fail
      refine (HNX.out _).mono ?_
      rintro e w4 ⟨rfl, rfl⟩
      by_cases hz : N.2 = 0
      · have hb : (N.2 == 0) = true := by simp [hz]
        by_cases hgt : now < N.1
        · have hag : again x y.when now := HA.out.2 ⟨hz, hgt⟩
          obtain ⟨b1, b2, b3, b4⟩ := HBB.out hag
          have HAR := Lib.hid (HARM.out w3 F1 N.1 HR3.out b1 b2 (by omega) b4)
          have HAGG := Lib.hid hag
          clear hz hag b1 b2 b3 b4
          go_wp2_with fail
          refine HAR.out.mono ?_
          rintro e w4 ⟨rfl, F2, hr4, hs4⟩
          have HR4 := Lib.hid hr4
          have HS4 := Lib.hid (HS3.out.trans hs4)
          have HB4 := Lib.hid (HB3.out.step hs4)
          have HX4 := Lib.hid (HX3.out.step hs4)
          clear hr4 hs4 q0 q1 d0 d1 d2 g0 g1 g2 HAR
          have q0 := HX4.out.blk.cell 0
          have q1 := HX4.out.blk.cell 1
          have d0 := HB4.out.blk.cell 0
          have d1 := HB4.out.blk.cell 1
          have d2 := HB4.out.blk.cell 2
          have g0 := HB4.out.blk.free 0
          have g1 := HB4.out.blk.free 1
          have g2 := HB4.out.blk.free 2
          simp only [List.getElem?_toArray, List.getElem?_cons_zero, List.getElem?_cons_succ] at q0 q1 d0 d1 d2
          go_wp2_with fail
          refine bodyPost_ret (res_boxDR rfl (HB4.out.blk.put3 _ _ _) rfl rfl) rfl ?_
          refine ⟨rfl, F2, fun _ => ?_, fun ha => absurd HAGG.out ha, HS4.out.t.then (set3 _ b0) (fun c hc e => by omega), HS4.out.f⟩
          rw [HN.out]
          exact HR4.out.turns (set3 _ b0) (fun k hk e => HB4.out.n (e ▸ hk))
        · have HNA := Lib.hid (fun (ha : again x y.when now) => hgt (HA.out.1 ha).2)
          clear hz
          go_wp2_with fail
          refine bodyPost_ret (res_boxDR rfl (HB3.out.blk.put3 _ _ _) rfl rfl) rfl ?_
          exact ⟨rfl, F1, fun ha => absurd ha HNA.out, fun _ => HR3.out.turns (set3 _ b0) (fun k hk e => HB3.out.n (e ▸ hk)), HS3.out.t.then (set3 _ b0) (fun c hc e => by omega), HS3.out.f⟩
      · have hb : (N.2 == 0) = false := by simp [hz]
        have HNA := Lib.hid (fun (ha : again x y.when now) => hz (HA.out.1 ha).1)
        clear hz
        go_wp2_with fail
        refine bodyPost_ret (res_boxDR rfl (HB3.out.blk.put3 _ _ _) rfl rfl) rfl ?_
        exact ⟨rfl, F1, fun ha => absurd ha HNA.out, fun _ => HR3.out.turns (set3 _ b0) (fun k hk e => HB3.out.n (e ▸ hk)), HS3.out.t.then (set3 _ b0) (fun c hc e => by omega), HS3.out.f⟩
  · have HNA := Lib.hid (fun (ha : again x y.when now) => hpd (HAG.out.1 ha).1)
    go_wp2_with fail
    refine bodyPost_ret (res_boxDR rfl (HB3.out.blk.put3 _ _ _) rfl rfl) rfl ?_
    exact ⟨rfl, F1, fun ha => absurd ha HNA.out, fun _ => HR3.out.turns (set3 _ b0) (fun k hk e => HB3.out.n (e ▸ hk)), HS3.out.t.then (set3 _ b0) (fun c hc e => by omega), HS3.out.f⟩
end
end Go.Proofs.Ytgjgopcomgclkaa
