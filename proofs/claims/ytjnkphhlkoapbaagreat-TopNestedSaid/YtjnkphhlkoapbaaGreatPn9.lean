/-
  Walks and laws under LawTopNested, part 9.
-/
import Derived.Test.YtjnkphhlkoapbaaGreatPn8
set_option linter.unusedVariables false
set_option linter.unusedSimpArgs false
set_option maxRecDepth 100000
set_option maxHeartbeats 16000000
namespace Go.Proofs.YtjnkphhlkoapbaaGreat
open Go.RowKit
structure LapsePre (s : Wst) (k : Cs) (i m : Nat) (wh : Int) (D : List Cd) (x : Cx) (ll : List It) : Prop where
 due : ∃ se, s.L = ⟨i, wh, se⟩ :: ll
 wh : wh ≤ s.now
 now : 0 ≤ s.now
 tm : s.tms[i]? = some ⟨4, m, none⟩
 tl : s.tms.length ≤ 1000
 sq : s.sq < 1000000
 pre : CanPre 2 2 D m { s with L := ll } k
 hx : k.cs[m]? = some x
 own : x.own = true
 ok : LapOK 2 2 (canO D m) (canS D { s with L := ll })
inductive FiresX : Nat → Wst → Cs → Wst → Cs → Prop
 | done (s : Wst) (k : Cs) (h : ∀ x, s.L[0]? = some x → s.now < 0 ∨ s.now < x.when) : FiresX 0 s k s k
 | next {n : Nat} {s s2 : Wst} {k k2 : Cs} (i : Nat) (wh dt : Int) (ci cp : Nat) (c c' : Chn) (l : List Wk) (ll : List It) (h : FirePre s i wh dt ci cp c c' l ll) (hl : l.length ≤ 1000) (hc : s.chs.length ≤ 1000) (hev : s.ev.length < 1000) (hnd : s.nd < 1000000) (hok : WakesOK (fireB { s with L := ll, chs := s.chs.set ci (cp, c') } i wh) l) (hk : FiresX n (wakesS (fireB { s with L := ll, chs := s.chs.set ci (cp, c') } i wh) l) k s2 k2) : FiresX (n + 1) s k s2 k2
 | lapse {n : Nat} {s s2 : Wst} {k k2 : Cs} (i m : Nat) (wh : Int) (D : List Cd) (x : Cx) (ll : List It) (h : LapsePre s k i m wh D x ll) (hk : FiresX n (lapS 2 2 (canO D m) (canS D { s with L := ll })) (canCs 2 2 D m k) s2 k2) : FiresX (n + 1) s k s2 k2
def RX (b : Wp) (ps : List (List Ins)) (s2 : Wst) (k2 : Cs) (now : Int) (n : Nat) (w : World) (o : Nat → Nat) : Prop := ∃ s k, s.now = now ∧ WW (CXs b k) w b o ps s ∧ FiresX n s k s2 k2
def FireK (b : Wp) (ps : List (List Ins)) (s2 : Wst) (k2 : Cs) (n : Nat) (w : World) (o : Nat → Nat) (fc : List Value) : Bool → Prop
 | false => WW (CXs b k2) w b o ps s2
 | true => ∃ m now, n = m + 1 ∧ Calls Tryz.prog 45 #[.pointer (some ⟨b.pb, 0, none⟩), .agg fc.toArray] w fun e w' => e = .returned (.tuple #[]) ∧ ∃ o', RX b ps s2 k2 now m w' o' ∧ Stp w w' (Own o) (Own o')
def StX (b : Wp) (ps : List (List Ins)) (s2 : Wst) (k2 : Cs) (n lo : Nat) (w : World) (o : Nat → Nat) (fc : List Value) (ok : Bool) : Prop := (∃ s k, WW (CXs b k) w b o ps s) ∧ ∀ (S : Nat → Prop) (w' : World), Turns S w w' → (∀ k, o k ≠ 0 → ¬ S k) → (∀ k, lo ≤ k → k < w.heap.size → ¬ S k) → FireK b ps s2 k2 n w' o fc ok
section
variable {w : World} {b : Wp} {o : Nat → Nat} {ps : List (List Ins)} {s s2 : Wst} {k k2 : Cs} {n : Nat}
theorem wFireL_c {i m : Nat} {wh : Int} {D : List Cd} {x : Cx} {ll : List It} (h : WW (CXs b k) w b o ps s) (hp : LapsePre s k i m wh D x ll) :
  Calls Tryz.prog 43 #[.pointer (some ⟨b.pm, 0, none⟩), .int .i64 s.now] w fun e w' => e = .returned (.tuple #[.agg #[.int .i64 i, .int .i64 4, .int .i64 wh, .int .i64 s.now, .int .i64 m, .slice none 0 0, .bool false], .bool true]) ∧ ∃ o', WW (CXs b k) w' b o' ps { s with L := ll } ∧ Stp w w' (Own o) (Own o') := by
 obtain ⟨vp, vc, vl, ve, h⟩ := h
 obtain ⟨se, hL⟩ := hp.due
 have hT := h.tms
 rw [hL] at hT
 refine (tsfire_n (L := ll) (ll := ll) hT hp.tm hp.tl hp.sq hp.now hp.wh).mono ?_
 rintro e w1 ⟨rfl, F', hT', ht, hf⟩
 obtain ⟨o', h1, _, hs⟩ := h.stepTms (CXs.ext b k) hT' ⟨ht, hf⟩
 exact ⟨rfl, o', ⟨_, _, _, _, h1⟩, hs⟩
theorem wFire_x (h : WW (CXs b k) w b o ps s) (hf : FiresX n s k s2 k2) :
  Calls Tryz.prog 43 #[.pointer (some ⟨b.pm, 0, none⟩), .int .i64 s.now] w fun e w' => ∃ fc ok, e = .returned (.tuple #[.agg fc.toArray, .bool ok]) ∧ fc.length = 7 ∧ (∀ u ∈ fc, u.oneCell' = true) ∧ ∃ o', StX b ps s2 k2 n w.heap.size w' o' fc ok ∧ Stp w w' (Own o) (Own o') := by
 cases hf with
 | done _ _ hn =>
  refine (wFire_none h hn).mono ?_
  rintro e w1 ⟨rfl, hm⟩
  refine ⟨[.int .i64 0, .int .i64 0, .int .i64 0, .int .i64 0, .int .i64 0, .slice none 0 0, .bool false], false, rfl, rfl, ?_, o, ⟨⟨s, k, h.made (CXs.ext b k) hm⟩, fun S w' ht h1 _ => (h.made (CXs.ext b k) hm).turns (CXs.ext b k) ht h1⟩, Stp.made hm⟩
  intro u hu
  simp only [List.mem_cons, List.not_mem_nil, or_false] at hu
  rcases hu with rfl | rfl | rfl | rfl | rfl | rfl | rfl <;> rfl
 | next i wh dt ci cp c c' l ll hp hl hc hev hnd hok hk =>
  refine (wFire_c (CXs.ext b k) h hp).mono ?_
  rintro e w1 ⟨a, rfl, o', h1, hs, hr, hu⟩
  refine ⟨[.int .i64 i, .int .i64 1, .int .i64 wh, .int .i64 s.now, .int .i64 dt, .slice a l.length l.length, .bool true], true, rfl, rfl, ?_, o', ⟨⟨_, k, h1⟩, fun S w' ht h5 h6 => ⟨_, s.now, rfl, ?_⟩⟩, hs⟩
  ·intro u hu
   simp only [List.mem_cons, List.not_mem_nil, or_false] at hu
   rcases hu with rfl | rfl | rfl | rfl | rfl | rfl | rfl <;> rfl
  ·refine (wfire_c (i := i) (wh := wh) (now := s.now) (dt := dt) (c := c') (CXs.ext b k) (h1.turns (CXs.ext b k) ht h5) hp.tm (by
      show (s.chs.set ci (cp, c'))[ci]? = some (cp, c')
      exact List.getElem?_set_self (List.getElem?_eq_some_iff.1 hp.ch).1) (hr.turns ht (fun b' off e => h6 b' (hu b' off e).2.2 (hu b' off e).2.1)) (fun b' off e => ⟨(hu b' off e).1, Nat.lt_of_lt_of_le (hu b' off e).2.1 ht.size⟩) hl hp.tl (by show (s.chs.set ci (cp, c')).length ≤ 1000; rw [List.length_set]; exact hc) hev hnd hok).mono ?_
   rintro e w3 ⟨rfl, o3, h3, hs3⟩
   have hnow : ∀ (l : List Wk) (s : Wst), (wakesS s l).now = s.now := fun l => by
    induction l with
    | nil => exact fun s => rfl
    | cons x l ih =>
     intro s
     refine (ih (wakeS s x)).trans ?_
     unfold wakeS
     cases s.ts[x.task.toNat]? <;> rfl
   refine ⟨rfl, o3, ⟨wakesS (fireB { s with L := ll, chs := s.chs.set ci (cp, c') } i wh) l, k, ?_, h3, hk⟩, hs3⟩
   exact (hnow l _).trans rfl
 | lapse i m wh D x ll hp hk =>
  refine (wFireL_c h hp).mono ?_
  rintro e w1 ⟨rfl, o', h1, hs⟩
  refine ⟨[.int .i64 i, .int .i64 4, .int .i64 wh, .int .i64 s.now, .int .i64 m, .slice none 0 0, .bool false], true, rfl, rfl, ?_, o', ⟨⟨_, k, h1⟩, fun S w' ht h5 h6 => ⟨_, (lapS 2 2 (canO D m) (canS D { s with L := ll })).now, rfl, ?_⟩⟩, hs⟩
  ·intro u hu
   simp only [List.mem_cons, List.not_mem_nil, or_false] at hu
   rcases hu with rfl | rfl | rfl | rfl | rfl | rfl | rfl <;> rfl
  ·refine (wfireL_c (i := i) (wh := wh) (at_ := s.now) (h1.turns (CXs.ext b k) ht h5) hp.pre hp.hx hp.own hp.ok).mono ?_
   rintro e w3 ⟨rfl, o3, h3, hs3⟩
   exact ⟨rfl, o3, ⟨_, _, rfl, h3, hk⟩, hs3⟩
theorem fsysX (b : Wp) (ps : List (List Ins)) (s2 : Wst) (k2 : Cs) : FSys b (RX b ps s2 k2) (StX b ps s2 k2) (fun w o => WW (CXs b k2) w b o ps s2) where
 rturns := fun now n S w w' o ⟨s, k, h1, h2, h3⟩ ht hn => ⟨s, k, h1, h2.turns (CXs.ext b k) ht hn, h3⟩
 rlt := fun now n w o ⟨s, k, h1, h2, h3⟩ => h2.lt
 rcell := fun now n w o ⟨s, k, h1, h2, h3⟩ => h2.cell5
 rnow := fun now n w o ⟨s, k, h1, h2, h3⟩ => by
  subst h1
  exact wnow_c h2
 rfire := fun now n w o ⟨s, k, h1, h2, h3⟩ => by
  subst h1
  exact wFire_x h2 h3
 sturns := fun n lo S w w' o fc ok ⟨⟨s, k, h1⟩, h2⟩ ht hn hl => ⟨⟨s, k, h1.turns (CXs.ext b k) ht hn⟩, fun S' w2 ht2 hn2 hl2 => h2 (fun j => S j ∨ S' j) w2 ((ht.mono (fun _ _ h => .inl h)).then ht2 (fun _ _ h => .inr h)) (fun j hj h => h.elim (hn j hj) (hn2 j hj)) (fun j hj hlt h => h.elim (hl j hj hlt) (hl2 j hj (Nat.lt_of_lt_of_le hlt ht.size)))⟩
 slow := fun n lo w o fc ok ⟨h1, h2⟩ => ⟨h1, fun S w2 ht hn hl => h2 S w2 ht hn (fun j _ hlt => hl j (Nat.zero_le _) hlt)⟩
 slt := fun n lo w o fc ok ⟨⟨s, k, h1⟩, _⟩ => h1.lt
 scell := fun n lo w o fc ok ⟨⟨s, k, h1⟩, _⟩ => h1.cell5
 sno := fun n lo w o fc ⟨_, h2⟩ => h2 (fun _ => False) w (Turns.refl _ w) (fun _ _ h => h) (fun _ _ _ h => h)
 syes := fun n lo w o fc ⟨_, h2⟩ => h2 (fun _ => False) w (Turns.refl _ w) (fun _ _ h => h) (fun _ _ _ h => h)
theorem wadvance_xc {d : Int} (h : WW (CXs b k) w b o ps s) (hd : 0 ≤ d) (hf : FiresX n { s with now := addZ s.now d } k s2 k2) :
  Calls Tryz.prog 25 #[.pointer (some ⟨b.pb, 0, none⟩), .int .i64 d] w fun e w' => e = .returned (.tuple #[]) ∧ ∃ o', WW (CXs b k2) w' b o' ps s2 ∧ Stp w w' (Own o) (Own o') := by
 obtain ⟨vp, vc, vl, ve, h⟩ := h
 refine wadvance_x (now0 := addZ s.now d) (n := n) (fsysX b ps s2 k2) (h.blk.cell 1) ((kadvance_c h.clk hd).mono ?_)
 rintro e w0 ⟨rfl, hk, ht⟩
 obtain ⟨oA, hA, hsA⟩ := h.stepClk (CXs.ext b k) hk (ht.mono (fun j _ e => by show o j = 2; rw [e]; exact h.ok))
 exact ⟨rfl, oA, ⟨{ s with now := addZ s.now d }, k, rfl, ⟨_, _, _, _, hA⟩, hf⟩, hsA⟩
end
section
variable {CX CX' : World → (Nat → Prop) → Prop} {w w' : World} {b : Wp} {o o' : Nat → Nat} {ps : List (List Ins)} {s : Wst} {vp vc vl ve : Value}
theorem WAt.stepCX2 (h : WAt CX w b o ps s vp vc vl ve) {F' : Nat → Prop} (ha : CX' w' F') (hb : ∀ k, F' k → k < w'.heap.size) (hs : Stp w w' (fun k => o k = 6) F') : ∃ o', WAt CX' w' b o' ps s vp vc vl ve ∧ (fun k => o' k = 6) = F' ∧ Stp w w' (Own o) (Own o') ∧ ∀ k, Own o' k → F' k ∨ Own o k := by
 obtain ⟨o', hlt, e, hne, hst⟩ := relabel h.lt (by omega) hs hb
 obtain ⟨ds, hd1, hd2⟩ := h.dls
 obtain ⟨ls, hl1, hl2⟩ := h.lrow
 refine ⟨o', { lt := hlt, cnd := h.cnd, blk := h.blk.turns hs.t (by rw [h.ob]; omega), ob := lab_is (hne 1 (by omega) (by omega)) h.ob, clk := h.clk.turns hs.t (by rw [h.ok]; omega), ok := lab_is (hne 2 (by omega) (by omega)) h.ok, tab := by rw [hne 3 (by omega) (by omega)]; exact h.tab.turns hs.t (fun k hk => by rw [hk]; omega), tms := by rw [hne 4 (by omega) (by omega)]; exact h.tms.turns hs.t (fun k hk => by rw [hk]; omega), dls := ⟨ds, hd1, by rw [hne 5 (by omega) (by omega)]; exact hd2.turns hs.t (fun k hk => by rw [hk]; omega)⟩, ctx := by rw [e]; exact ha, prs := h.prs.turns hs.t (fun k hk => by rw [hk]; omega) (fun k hk => lab_is (hne 7 (by omega) (by omega)) hk), crow := h.crow.turns hs.t (fun k hk => by rw [(h.co k).1 hk]; omega), co := fun k => (h.co k).trans (iff_of_eq (congrFun (hne 8 (by omega) (by omega)) k)).symm, lrow := ⟨ls, hl1, hl2.turns hs.t (fun k hk => by rw [(h.lo k).1 hk]; omega)⟩, lo := fun k => (h.lo k).trans (iff_of_eq (congrFun (hne 9 (by omega) (by omega)) k)).symm, erow := h.erow.turns hs.t (fun k hk => by rw [(h.eo k).1 hk]; omega), eo := fun k => (h.eo k).trans (iff_of_eq (congrFun (hne 10 (by omega) (by omega)) k)).symm, chn := fun p c hp => by rw [hne (16 + p) (by omega) (by omega)]; exact (h.chn p c hp).turns hs.t (fun k hk => by rw [hk]; omega) }, e, hst, fun k hk => ?_⟩
 by_cases h6 : o' k = 6
 ·exact .inl ((iff_of_eq (congrFun e k)).1 h6)
 ·refine .inr ?_
  have h7 := (iff_of_eq (congrFun (hne (o' k) hk h6) k)).1 rfl
  show o k ≠ 0
  rw [h7]
  exact hk
theorem WAt.stepCXT2 (h : WAt CX w b o ps s vp vc vl ve) {F' FT : Nat → Prop} {tms' : List Tk} {named' : Int} {L' : List It} {sq' : Int} (ha : CX' w' F') (hb : ∀ k, F' k → k < w'.heap.size) (hT : TsAt w' b.pm FT tms' named' L' sq') (ht : Turns (fun k => o k = 6 ∨ o k = 4) w w') (hf1 : ∀ k, F' k → o k = 6 ∨ w.heap.size ≤ k) (hf2 : ∀ k, FT k → o k = 4 ∨ w.heap.size ≤ k) (hd : ∀ k, FT k → ¬ F' k) : ∃ o', WAt CX' w' b o' ps { s with tms := tms', named := named', L := L', sq := sq' } vp vc vl ve ∧ (fun k => o' k = 6) = F' ∧ (fun k => o' k = 4) = FT ∧ Stp w w' (Own o) (Own o') ∧ ∀ k, Own o' k → F' k ∨ FT k ∨ Own o k := by
 obtain ⟨o', hlt, e1, e2, hne, hst⟩ := relabel2 h.lt (by omega) (by omega) (by omega) ht hf1 hf2 hd hb hT.fb
 obtain ⟨ds, hd1, hd2⟩ := h.dls
 obtain ⟨ls, hl1, hl2⟩ := h.lrow
 refine ⟨o', { lt := hlt, cnd := h.cnd, blk := h.blk.turns ht (by rw [h.ob]; omega), ob := lab_is (hne 1 (by omega) (by omega) (by omega)) h.ob, clk := h.clk.turns ht (by rw [h.ok]; omega), ok := lab_is (hne 2 (by omega) (by omega) (by omega)) h.ok, tab := by rw [hne 3 (by omega) (by omega) (by omega)]; exact h.tab.turns ht (fun k hk => by rw [hk]; omega), tms := by rw [e2]; exact hT, dls := ⟨ds, hd1, by rw [hne 5 (by omega) (by omega) (by omega)]; exact hd2.turns ht (fun k hk => by rw [hk]; omega)⟩, ctx := by rw [e1]; exact ha, prs := h.prs.turns ht (fun k hk => by rw [hk]; omega) (fun k hk => lab_is (hne 7 (by omega) (by omega) (by omega)) hk), crow := h.crow.turns ht (fun k hk => by rw [(h.co k).1 hk]; omega), co := fun k => (h.co k).trans (iff_of_eq (congrFun (hne 8 (by omega) (by omega) (by omega)) k)).symm, lrow := ⟨ls, hl1, hl2.turns ht (fun k hk => by rw [(h.lo k).1 hk]; omega)⟩, lo := fun k => (h.lo k).trans (iff_of_eq (congrFun (hne 9 (by omega) (by omega) (by omega)) k)).symm, erow := h.erow.turns ht (fun k hk => by rw [(h.eo k).1 hk]; omega), eo := fun k => (h.eo k).trans (iff_of_eq (congrFun (hne 10 (by omega) (by omega) (by omega)) k)).symm, chn := fun p c hp => by rw [hne (16 + p) (by omega) (by omega) (by omega)]; exact (h.chn p c hp).turns ht (fun k hk => by rw [hk]; omega) }, e1, e2, hst, fun k hk => ?_⟩
 by_cases h6 : o' k = 6
 ·exact .inl ((iff_of_eq (congrFun e1 k)).1 h6)
 ·by_cases h4 : o' k = 4
  ·exact .inr (.inl ((iff_of_eq (congrFun e2 k)).1 h4))
  ·refine .inr (.inr ?_)
   have h7 := (iff_of_eq (congrFun (hne (o' k) hk h6 h4) k)).1 rfl
   show o k ≠ 0
   rw [h7]
   exact hk
end
def MkP (b : Wp) (ps : List (List Ins)) (s' : Wst) (k' : Nat → Cs) (id : Nat) (w1 : World) (o1 : Nat → Nat) (e : Ending) (w2 : World) : Prop := ∃ (cp : Nat) (Fc : Nat → Prop) (o2 : Nat → Nat), e = .returned (.tuple #[.int .i64 id, .slice none 0 0, .int .i64 0]) ∧ WW (CXs b (k' cp)) w2 b o2 ps s' ∧ ChAt w2 cp Fc ⟨false, true, false, false, none, []⟩ ∧ Stp w1 w2 (Own o1) (Own o2) ∧ (∀ j, Fc j → w1.heap.size ≤ j) ∧ ∀ j, Fc j → ¬ Own o2 j
section
variable {w : World} {b : Wp} {o : Nat → Nat} {ps : List (List Ins)} {s : Wst} {k : Cs} {n0 : Nat} {x : Cx}
def mkC (k : Cs) (n0 : Nat) (wh : Int) (hs ow : Bool) (tm : Int) (cp : Nat) : Cs := ⟨k.cs ++ [⟨(n0 : Int) + 1, false, some cp, 0, 0, wh, hs, ow, tm⟩], n0 + 2⟩
theorem mkC_get {wh : Int} {hs ow : Bool} {tm : Int} (cp : Nat) (hlen : k.cs.length = n0 + 1) : ∃ y, (mkC k n0 wh hs ow tm cp).cs[n0 + 1]? = some y ∧ y.c = some cp := by
 refine ⟨⟨(n0 : Int) + 1, false, some cp, 0, 0, wh, hs, ow, tm⟩, ?_, rfl⟩
 show (k.cs ++ [_])[n0 + 1]? = _
 rw [List.getElem?_append_right (by omega), hlen, Nat.sub_self]
 rfl
theorem mkC_len {wh : Int} {hs ow : Bool} {tm : Int} (cp : Nat) : (mkC k n0 wh hs ow tm cp).cs.length = k.cs.length + 1 := by
 show (k.cs ++ [_]).length = _
 rw [List.length_append]
 rfl
theorem mk_as {vl : Value} {w2 : World} {vl' : Value} {F' Fc : Nat → Prop} {cp : Nat} {wh : Int} {hs : Bool} {vp vc vk ve : Value} (h : WAt (CXv b vl k.cs k.cut) w b o ps s vp vc vk ve) (hc : CtxAt w2 b.px b.pm F' vl' (k.cs ++ [⟨(n0 : Int) + 1, false, some cp, 0, 0, wh, hs, false, -1⟩]) (n0 + 2)) (hch : ChAt w2 cp Fc ⟨false, true, false, false, none, []⟩) (hs2 : Stp w w2 (fun j => o j = 6) F') (hf : ∀ j, Fc j → w.heap.size ≤ j) (hd : ∀ j, Fc j → ¬ F' j) : MkP b ps s (mkC k n0 wh hs false (-1)) (n0 + 1) w o (.returned (.tuple #[.int .i64 ((n0 : Int) + 1), .slice none 0 0, .int .i64 0])) w2 := by
 obtain ⟨o2, hw2, -, hst, hown⟩ := h.stepCX2 (CX' := CXv b vl' (k.cs ++ [⟨(n0 : Int) + 1, false, some cp, 0, 0, wh, hs, false, -1⟩]) (n0 + 2)) hc hc.fb hs2
 refine ⟨cp, Fc, o2, by rw [show ((n0 + 1 : Nat) : Int) = (n0 : Int) + 1 from by omega], ⟨_, _, _, _, hw2.up⟩, hch, hst, hf, fun j hj h0 => ?_⟩
 rcases hown j h0 with h1 | h1
 ·exact hd j hj h1
 ·exact absurd (h.lt j h1) (Nat.not_lt.2 (hf j hj))
theorem mk22 (h : WW (CXs b k) w b o ps s) (hlen : k.cs.length = n0 + 1) (hcut : k.cut = n0 + 1) (hn : n0 ≤ 50) (hx : k.cs[n0]? = some x) (he : x.err = 0) : Calls Tryz.prog 139 #[.pointer (some ⟨b.px, 0, none⟩), .int .i64 n0] w (MkP b ps s (mkC k n0 x.when x.has false (-1)) (n0 + 1) w o) := by
 obtain ⟨vp, vc, vk, ve, h⟩ := h
 obtain ⟨vl, h⟩ := h.down
 have hcx : CtxAt w b.px b.pm (fun j => o j = 6) vl k.cs k.cut := h.ctx
 have hnd := cx_node hcx hx
 rw [hcut] at hcx
 refine (cxcancels_c hcx hlen hn hx hnd he).mono ?_
 rintro e w2 ⟨cp, Fc, F', vl', rfl, h1, h2, h3, h4, h5⟩
 exact mk_as h h1 h2 h3 h4 h5
theorem mk23_0 {when_ now : Int} (h : WW (CXs b k) w b o ps s) (hlen : k.cs.length = n0 + 1) (hcut : k.cut = n0 + 1) (hn : n0 ≤ 50) (hx : k.cs[n0]? = some x) (he : x.err = 0) (hw : 0 ≤ when_ ∧ when_ ≤ 4611686018427387904) (hh : x.has = true) (hle : x.when ≤ when_) : Calls Tryz.prog 138 #[.pointer (some ⟨b.px, 0, none⟩), .int .i64 n0, .int .i64 when_, .int .i64 now] w (MkP b ps s (mkC k n0 x.when x.has false (-1)) (n0 + 1) w o) := by
 obtain ⟨vp, vc, vk, ve, h⟩ := h
 obtain ⟨vl, h⟩ := h.down
 have hcx : CtxAt w b.px b.pm (fun j => o j = 6) vl k.cs k.cut := h.ctx
 have hnd := cx_node hcx hx
 rw [hcut] at hcx
 refine (cxdeadline_0 now hcx hlen hn hx hnd he hw hh hle).mono ?_
 rintro e w2 ⟨cp, Fc, F', vl', rfl, h1, h2, h3, h4, h5⟩
 exact mk_as h h1 h2 h3 h4 h5
def dlS (s : Wst) (n0 : Nat) (when_ : Int) : Wst := { s with tms := s.tms ++ [⟨4, (n0 : Int) + 1, none⟩], L := insL ⟨s.tms.length, when_, s.sq + 1⟩ (delL s.tms.length s.L), sq := s.sq + 1 }
theorem mk23_1 {when_ now : Int} (h : WW (CXs b k) w b o ps s) (hlen : k.cs.length = n0 + 1) (hcut : k.cut = n0 + 1) (hn : n0 ≤ 50) (hx : k.cs[n0]? = some x) (he : x.err = 0) (hw : 0 ≤ when_ ∧ when_ ≤ 4611686018427387904) (hno : x.has = true → when_ < x.when) (hnow : now < when_) (htn : s.tms.length < 1000) (hnm : 0 ≤ s.named ∧ s.named ≤ 64) (hsq : s.sq < 1000000) : Calls Tryz.prog 138 #[.pointer (some ⟨b.px, 0, none⟩), .int .i64 n0, .int .i64 when_, .int .i64 now] w (MkP b ps (dlS s n0 when_) (mkC k n0 when_ true true s.tms.length) (n0 + 1) w o) := by
 obtain ⟨vp, vc, vk, ve, h⟩ := h
 obtain ⟨vl, h⟩ := h.down
 have hcx : CtxAt w b.px b.pm (fun j => o j = 6) vl k.cs k.cut := h.ctx
 have hnd := cx_node hcx hx
 rw [hcut] at hcx
 refine (cxdeadline_1 hcx hlen hn hx hnd he hw hno hnow h.tms (fun j h6 h4 => by have h7 : o j = 6 := h6; have h8 : o j = 4 := h4; omega) htn hnm hsq).mono ?_
 rintro e w2 ⟨cp, Fc, F', FT', vl', rfl, hd⟩
 obtain ⟨o2, hw2, -, -, hst, hown⟩ := h.stepCXT2 (CX' := CXv b vl' (k.cs ++ [⟨(n0 : Int) + 1, false, some cp, 0, 0, when_, true, true, s.tms.length⟩]) (n0 + 2)) hd.ctx hd.ctx.fb hd.tms hd.t hd.f1 hd.f2 (fun j h4 h6 => hd.d1 j h6 h4)
 refine ⟨cp, Fc, o2, by rw [show ((n0 + 1 : Nat) : Int) = (n0 : Int) + 1 from by omega], ⟨_, _, _, _, hw2.up⟩, hd.ch, hst, hd.f3, fun j hj h0 => ?_⟩
 rcases hown j h0 with h1 | h1 | h1
 ·exact hd.d2 j hj h1
 ·exact hd.d3 j hj h1
 ·exact absurd (h.lt j h1) (Nat.not_lt.2 (hd.f3 j hj))
end
theorem accontext_22 {w : World} {b : Wp} {o : Nat → Nat} {ps : List (List Ins)} {s s' : Wst} {k : Cs} {k' : Nat → Cs} {g a bb cc n0 id : Nat} {x : Ac} (h : WW (CXs b k) w b o ps s) (hb : Blk w g 131 (acA b.pb x)) (hg : ¬ Own o g) (hop : x.i.op = 22) (hxa : x.i.a = a) (hxb : x.i.b = bb) (hxc : x.i.c = cc) (ha : a < 8) (hbb : bb < 8) (hcc : cc < 8) (hi : x.was.get bb = n0) (hmk : ∀ w1, WW (CXs b k) w1 b o ps s → Calls Tryz.prog 139 #[.pointer (some ⟨b.px, 0, none⟩), .int .i64 n0] w1 (MkP b ps s' k' id w1 o)) (hk1 : ∀ cp, ∃ y, (k' cp).cs[id]? = some y ∧ y.c = some cp) (hk2 : ∀ cp, (k' cp).cs.length ≤ 60) (hcl : s'.chs.length ≤ 1000) :
  Calls Tryz.prog 82 #[.pointer (some ⟨g, 0, none⟩)] w fun e w' => e = .returned (.tuple #[]) ∧ ∃ o' cp, WW (CXs b (k' cp)) w' b o' ps { s' with chs := s'.chs ++ [(cp, ⟨false, true, false, false, none, []⟩)] } ∧ AStp w w' o o' g ∧ Blk w' g 131 (acA b.pb { x with regs := x.regs.set a id }) := by
 have HB := zh hb
 have HX := zh (And.intro hxa (And.intro hxb (And.intro hop hi)))
 have HXA := zh hxa
 have HG := zh hg
 have HGL := zh hb.lt
 have HLT := zh ha
 have HLB := zh hbb
 have HMKH := zh hmk
 have HK := zh (And.intro hk1 (And.intro hk2 hcl))
 have ja1 : (0 : Int) ≤ (a : Int) := by omega
 have ja2 : (a : Int) < 8 := by omega
 have HBD := zh (hb.turns (zT w).drew (fun h => h))
 have HWD := zh (h.made (CXs.ext b k) (zT w).drew)
 have HAC := zh (acc_c HBD.out hxc hcc)
 clear h hb hg hop hxa hxb hxc ha hbb hcc hi hmk hk1 hk2 hcl
 go_enter Tryz.func82, Tryz.ntmps82
 go_upto_region 3 with fail
 refine wp_region_held_drew (S := fun w' => Low w' g b.pb x ∧ w'.cell? ⟨b.pb, 6, none⟩ = some (.pointer (some ⟨b.px, 0, none⟩))) (by kernel_rfl) ?_ (fun hHeld => ?_)
 ·exact ⟨low_of HBD.out, HWD.out.cell6⟩
 refine tH 0 9 ?_ ?_ ?_;rotate_left
 ·intro w hSw
  go_simp
  try with_reducible rfl
 try simp only [zP]
 refine tH 1 10 ?_ ?_ ?_;rotate_left
 ·intro w hSw
  go_simp
  try with_reducible rfl
 try simp only [zP]
 refine tH 2 11 ?_ ?_ ?_;rotate_left
 ·intro w hSw
  go_simp
  try with_reducible rfl
 try simp only [zP]
 refine tH 3 12 ?_ ?_ ?_;rotate_left
 ·intro w hSw
  have q3 : w.cell? ⟨g, 0, none⟩ = some (.pointer (some ⟨b.pb, 0, none⟩)) := hSw.1 0 (by omega)
  go_simp
  try with_reducible rfl
 try simp only [zP]
 refine tH 4 13 ?_ ?_ ?_;rotate_left
 ·intro w hSw
  go_simp
  try with_reducible rfl
 try simp only [zP]
 refine tH 5 14 ?_ ?_ ?_;rotate_left
 ·intro w hSw
  go_simp
  try with_reducible rfl
 try simp only [zP]
 refine tH 6 15 ?_ ?_ ?_;rotate_left
 ·intro w hSw
  have q6 := hSw.2
  go_simp
  try with_reducible rfl
 try simp only [zP]
 refine tH 7 16 ?_ ?_ ?_;rotate_left
 ·intro w hSw
  go_simp
  try with_reducible rfl
 try simp only [zP]
 refine zR 8 fun K hK => ?_
 go_simp
 refine HAC.out.mono ?_
 rintro e w3 ⟨rfl, hm3⟩
 refine hK.out _ _ ?_ (fun hHeld => ?_)
 ·exact ⟨low_of (HBD.out.turns hm3 (fun h => h)), (HWD.out.made (CXs.ext b k) hm3).cell6⟩
 clear hK K
 try simp only [zP]
 refine tH 9 5 ?_ ?_ ?_;rotate_left
 ·intro w hSw
  go_simp
  try with_reducible rfl
 try simp only [zP]
 refine tH 10 6 ?_ ?_ ?_;rotate_left
 ·intro w hSw
  go_simp
  try with_reducible rfl
 try simp only [zP]
 refine wpAnyH_done (by kernel_rfl) ?_ _
 have HM3 : Hid (Made w w3) := zh ((zT w).drew.trans hm3)
 have HB3 := zh (HB.out.turns HM3.out (fun h => h))
 have HW3 := zh (HWD.out.made (CXs.ext b k) hm3)
 have q2 : w3.cell? ⟨g, 2, none⟩ = some (.int .i64 x.i.op) := HB3.out.cell 2
 rw [HX.out.2.2.1] at q2
 have q0 : w3.cell? ⟨g, 0, none⟩ = some (.pointer (some ⟨b.pb, 0, none⟩)) := HB3.out.cell 0
 clear hHeld hm3
 have HAB := zh (acb_c HB3.out HX.out.2.1 HLB.out)
 go_wp2_with fail
 refine HAB.out.mono ?_
 rintro e w4 ⟨rfl, hm4⟩
 rw [HX.out.2.2.2]
 have HM4 : Hid (Made w w4) := zh (HM3.out.trans hm4)
 have HW4 := zh (HW3.out.made (CXs.ext b k) hm4)
 have HMC := zh (HMKH.out w4 HW4.out)
 clear hm4 q0 q2
 go_wp2_with fail
 refine HMC.out.mono ?_
 rintro e w5 ⟨cp, Fc, o5, rfl, hw5, hch5, hs5, hf5, hd5⟩
 have HB4 := zh (HB.out.turns HM4.out (fun h => h))
 have HB5 := zh (HB4.out.turns hs5.t HG.out)
 obtain ⟨y, hy, hyc⟩ := HK.out.1 cp
 obtain ⟨vl5, hcx5⟩ := hw5.ctx
 have hdn := cxdone_c hcx5 hy (HK.out.2.1 cp)
 rw [hyc] at hdn
 simp only [pt, Option.map] at hdn
 have HDN := zh hdn
 obtain ⟨vp5, vc5, vk5, ve5, hw5b⟩ := hw5
 obtain ⟨o6, h6, he6, hown6, hnp6⟩ := hw5b.addCh hch5 hd5
 have HOP := zh (wopen_c (CXs.ext b (k' cp)) (show WW (CXs b (k' cp)) w5 b o6 ps s' from ⟨_, _, _, _, h6⟩) (show ChAt w5 cp (fun j => o6 j = 16 + cp) ⟨false, true, false, false, none, []⟩ from by rw [he6]; exact hch5) hnp6 HK.out.2.2)
 have HS5 := zh (And.intro hs5 (And.intro hf5 hown6))
 have HG6 := zh (show ¬ Own o6 g from fun h0 => (hown6 g h0).elim (fun h1 => (hs5.f g h1).elim HG.out (fun h2 => absurd HB4.out.lt (Nat.not_lt.2 h2))) (fun h1 => absurd HB4.out.lt (Nat.not_lt.2 (hf5 g h1))))
 have q0 : w5.cell? ⟨g, 0, none⟩ = some (.pointer (some ⟨b.pb, 0, none⟩)) := HB5.out.cell 0
 clear hy hyc hcx5 hdn hw5b h6 he6 hown6 hnp6 hch5 hs5 hf5 hd5
 go_wp2_with fail
 refine acbad_0.mono ?_
 rintro e w5b ⟨rfl, rfl⟩
 go_wp2_with fail
 refine HDN.out.mono ?_
 rintro e w5b ⟨rfl, rfl⟩
 go_wp2_with fail
 refine HOP.out.mono ?_
 rintro e w7 ⟨rfl, o7, hw7, hs7⟩
 have HW7 := zh hw7
 have HB7 := zh (HB5.out.turns hs7.t HG6.out)
 have HS7 : Hid (Stp w4 w7 (Own o) (Own o7)) := zh ⟨HS5.out.1.t.then hs7.t (fun j hj h6 => (HS5.out.2.2 j h6).elim (fun h1 => (HS5.out.1.f j h1).elim (fun h => h) (fun h2 => absurd hj (Nat.not_lt.2 h2))) (fun h1 => absurd hj (Nat.not_lt.2 (HS5.out.2.1 j h1)))), fun j h7 => (hs7.f j h7).elim (fun h6 => (HS5.out.2.2 j h6).elim (fun h1 => HS5.out.1.f j h1) (fun h1 => .inr (HS5.out.2.1 j h1))) (fun h2 => .inr (Nat.le_trans HS5.out.1.t.size h2))⟩
 have HA7 := zh (AStp.of g ((Stp.made (F := Own o) HM4.out).trans HS7.out))
 have HG7 := zh (show ¬ Own o7 g from HA7.out.no HG.out HGL.out)
 clear hw7 hs7 q0
 go_upto_region 16 with fail
 refine wp_region_held_drew (S := fun w' => Low w' g b.pb (x) ∧ (w' = w7.drew ∨ True)) (by kernel_rfl) ?_ (fun hHeld => ?_)
 ·exact ⟨low_of (HB7.out), .inr trivial⟩
 refine tH 0 82 ?_ ?_ ?_;rotate_left
 ·intro w hSw
  go_simp
  try with_reducible rfl
 try simp only [zP]
 refine tH 1 83 ?_ ?_ ?_;rotate_left
 ·intro w hSw
  go_simp
  try with_reducible rfl
 try simp only [zP]
 refine tH 2 84 ?_ ?_ ?_;rotate_left
 ·intro w hSw
  go_simp
  try with_reducible rfl
 try simp only [zP]
 refine tH 3 85 ?_ ?_ ?_;rotate_left
 ·intro w hSw
  go_simp
  try with_reducible rfl
 try simp only [zP]
 refine tH 4 86 ?_ ?_ ?_;rotate_left
 ·intro w hSw
  go_simp
  try with_reducible rfl
 try simp only [zP]
 refine tH 5 87 ?_ ?_ ?_;rotate_left
 ·intro w hSw
  have q3 : w.cell? ⟨g, 3, none⟩ = some (.int .i64 (x.i.a)) := hSw.1 3 (by omega)
  rw [HXA.out] at q3
  go_simp
  try with_reducible rfl
 try simp only [zP]
 refine tH 6 88 ?_ ?_ ?_;rotate_left
 ·intro w hSw
  go_simp
  try with_reducible rfl
 try simp only [zP]
 refine tH 7 89 ?_ ?_ ?_;rotate_left
 ·intro w hSw
  go_simp
  try with_reducible rfl
 try simp only [zP]
 refine tH 8 90 ?_ ?_ ?_;rotate_left
 ·intro w hSw
  go_simp
  try with_reducible rfl
 try simp only [zP]
 refine tH 9 91 ?_ ?_ ?_;rotate_left
 ·intro w hSw
  go_simp
  try with_reducible rfl
 try simp only [zP]
 refine zR 10 fun K hK => ?_
 have qz0 := (HB7.out).cell (16 + a)
 rw [ac_reg _ _ HLT.out] at qz0
 have qz1 : w7.drew.cell? ⟨g, 16 + a, none⟩ = _ := qz0
 have qf := (HB7.out).free (16 + a)
 have qf1 : w7.drew.frozen? ⟨g, 16 + a, none⟩ = false := qf
 go_simp
 refine hK.out _ _ ?_ (fun hHeld => ?_)
 ·exact ⟨low_regs (r := (x).regs.set a ((id : Int))) (low_of (by have hb4 := (show Blk w7.drew g 131 _ from HB7.out).put (16 + a) (.int .i64 ((id : Int))); rw [ac_set _ _ _ HLT.out] at hb4; exact hb4)), .inr trivial⟩
 clear hK K
 try simp only [zP]
 refine wpAnyH_done (by kernel_rfl) ?_ _
 have hb4 := (show Blk w7.drew g 131 _ from HB7.out).put (16 + a) (.int .i64 ((id : Int)))
 have ht4 : Turns (fun k => k = g) w7 (w7.drew.setCell ⟨g, 16 + a, none⟩ (.int .i64 ((id : Int)))) := ((Turns.refl (fun k => k = g) w7).drew).setCell (p := ⟨g, 16 + a, none⟩) (fun _ => rfl) _
 rw [ac_set _ _ _ HLT.out] at hb4
 clear hb4 ht4 hHeld
 have hb4 := HB7.out.put (16 + a) (.int .i64 (id : Int))
 have ht4 : Turns (fun k => k = g) w7 (w7.setCell ⟨g, 16 + a, none⟩ (.int .i64 (id : Int))) := (Turns.refl (fun k => k = g) w7).setCell (p := ⟨g, 16 + a, none⟩) (fun _ => rfl) _
 rw [ac_set _ _ _ HLT.out] at hb4
 generalize w7.setCell ⟨g, 16 + a, none⟩ (.int .i64 (id : Int)) = W8 at *
 have HE := zh (And.intro (hb4.turns (zT W8).drew (fun h => h)) ht4.drew)
 clear hb4 ht4
 have hw8 := HW7.out.turns (CXs.ext b (k' cp)) HE.out.2 (fun j hj e => HG7.out (by rw [← show j = g from e]; exact hj))
 have HLP := zh (wlapse_c (err := 0) (cause := 0) (CXs.ext b (k' cp)) hw8 (LpOut.nil _ o7 0 0) (by simp) trivial)
 have q0 : W8.cell? ⟨g, 0, none⟩ = some (.pointer (some ⟨b.pb, 0, none⟩)) := HE.out.1.cell 0
 clear hw8
 go_wp2_with fail
 refine HLP.out.mono ?_
 rintro e w9 ⟨rfl, o9, hw9, hs9⟩
 have HF := zh (And.intro hw9 hs9)
 clear hw9 hs9 q0
 go_wp2_with fail
 first | go_ret | go_returns | go_end0
 exact ⟨rfl, o9, cp, HF.out.1, (HA7.out.set HE.out.2).then HF.out.2, HE.out.1.turns HF.out.2.t HG7.out⟩
theorem accontext_23 {w : World} {b : Wp} {o : Nat → Nat} {ps : List (List Ins)} {s s' : Wst} {k : Cs} {k' : Nat → Cs} {g a bb cc n0 id : Nat} {x : Ac} (h : WW (CXs b k) w b o ps s) (hb : Blk w g 131 (acA b.pb x)) (hg : ¬ Own o g) (hop : x.i.op = 23) (hxa : x.i.a = a) (hxb : x.i.b = bb) (hxc : x.i.c = cc) (ha : a < 8) (hbb : bb < 8) (hcc : cc < 8) (hi : x.was.get bb = n0) (hmk : ∀ w1, WW (CXs b k) w1 b o ps s → Calls Tryz.prog 138 #[.pointer (some ⟨b.px, 0, none⟩), .int .i64 n0, .int .i64 (x.was.get cc), .int .i64 s.now] w1 (MkP b ps s' k' id w1 o)) (hk1 : ∀ cp, ∃ y, (k' cp).cs[id]? = some y ∧ y.c = some cp) (hk2 : ∀ cp, (k' cp).cs.length ≤ 60) (hcl : s'.chs.length ≤ 1000) :
  Calls Tryz.prog 82 #[.pointer (some ⟨g, 0, none⟩)] w fun e w' => e = .returned (.tuple #[]) ∧ ∃ o' cp, WW (CXs b (k' cp)) w' b o' ps { s' with chs := s'.chs ++ [(cp, ⟨false, true, false, false, none, []⟩)] } ∧ AStp w w' o o' g ∧ Blk w' g 131 (acA b.pb { x with regs := x.regs.set a id }) := by
 have HB := zh hb
 have HX := zh (And.intro hxa (And.intro hxb (And.intro hop hi)))
 have HXA := zh hxa
 have HG := zh hg
 have HGL := zh hb.lt
 have HLT := zh ha
 have HLB := zh hbb
 have HMKH := zh hmk
 have HK := zh (And.intro hk1 (And.intro hk2 hcl))
 have ja1 : (0 : Int) ≤ (a : Int) := by omega
 have ja2 : (a : Int) < 8 := by omega
 have HBD := zh (hb.turns (zT w).drew (fun h => h))
 have HWD := zh (h.made (CXs.ext b k) (zT w).drew)
 have HAC := zh (acc_c HBD.out hxc hcc)
 clear h hb hg hop hxa hxb hxc ha hbb hcc hi hmk hk1 hk2 hcl
 go_enter Tryz.func82, Tryz.ntmps82
 go_upto_region 3 with fail
 refine wp_region_held_drew (S := fun w' => Low w' g b.pb x ∧ w'.cell? ⟨b.pb, 6, none⟩ = some (.pointer (some ⟨b.px, 0, none⟩))) (by kernel_rfl) ?_ (fun hHeld => ?_)
 ·exact ⟨low_of HBD.out, HWD.out.cell6⟩
 refine tH 0 9 ?_ ?_ ?_;rotate_left
 ·intro w hSw
  go_simp
  try with_reducible rfl
 try simp only [zP]
 refine tH 1 10 ?_ ?_ ?_;rotate_left
 ·intro w hSw
  go_simp
  try with_reducible rfl
 try simp only [zP]
 refine tH 2 11 ?_ ?_ ?_;rotate_left
 ·intro w hSw
  go_simp
  try with_reducible rfl
 try simp only [zP]
 refine tH 3 12 ?_ ?_ ?_;rotate_left
 ·intro w hSw
  have q3 : w.cell? ⟨g, 0, none⟩ = some (.pointer (some ⟨b.pb, 0, none⟩)) := hSw.1 0 (by omega)
  go_simp
  try with_reducible rfl
 try simp only [zP]
 refine tH 4 13 ?_ ?_ ?_;rotate_left
 ·intro w hSw
  go_simp
  try with_reducible rfl
 try simp only [zP]
 refine tH 5 14 ?_ ?_ ?_;rotate_left
 ·intro w hSw
  go_simp
  try with_reducible rfl
 try simp only [zP]
 refine tH 6 15 ?_ ?_ ?_;rotate_left
 ·intro w hSw
  have q6 := hSw.2
  go_simp
  try with_reducible rfl
 try simp only [zP]
 refine tH 7 16 ?_ ?_ ?_;rotate_left
 ·intro w hSw
  go_simp
  try with_reducible rfl
 try simp only [zP]
 refine zR 8 fun K hK => ?_
 go_simp
 refine HAC.out.mono ?_
 rintro e w3 ⟨rfl, hm3⟩
 refine hK.out _ _ ?_ (fun hHeld => ?_)
 ·exact ⟨low_of (HBD.out.turns hm3 (fun h => h)), (HWD.out.made (CXs.ext b k) hm3).cell6⟩
 clear hK K
 try simp only [zP]
 refine tH 9 5 ?_ ?_ ?_;rotate_left
 ·intro w hSw
  go_simp
  try with_reducible rfl
 try simp only [zP]
 refine tH 10 6 ?_ ?_ ?_;rotate_left
 ·intro w hSw
  go_simp
  try with_reducible rfl
 try simp only [zP]
 refine wpAnyH_done (by kernel_rfl) ?_ _
 have HM3 : Hid (Made w w3) := zh ((zT w).drew.trans hm3)
 have HB3 := zh (HB.out.turns HM3.out (fun h => h))
 have HW3 := zh (HWD.out.made (CXs.ext b k) hm3)
 have q2 : w3.cell? ⟨g, 2, none⟩ = some (.int .i64 x.i.op) := HB3.out.cell 2
 rw [HX.out.2.2.1] at q2
 have q0 : w3.cell? ⟨g, 0, none⟩ = some (.pointer (some ⟨b.pb, 0, none⟩)) := HB3.out.cell 0
 clear hHeld hm3
 have HB3D := zh (HB3.out.turns (zT w3).drew (fun h => h))
 have HW3D := zh (HW3.out.made (CXs.ext b k) (zT w3).drew)
 have HAB := zh (acb_c HB3D.out HX.out.2.1 HLB.out)
 go_upto_region 9 with fail
 refine wp_region_held_drew (S := fun w' => Low w' g b.pb x ∧ (w' = w3.drew ∨ True)) (by kernel_rfl) ?_ (fun hHeld => ?_)
 ·exact ⟨low_of HB3D.out, .inr trivial⟩
 refine tH 0 37 ?_ ?_ ?_;rotate_left
 ·intro w hSw
  go_simp
  try with_reducible rfl
 try simp only [zP]
 refine tH 1 38 ?_ ?_ ?_;rotate_left
 ·intro w hSw
  go_simp
  try with_reducible rfl
 try simp only [zP]
 refine tH 3 40 ?_ ?_ ?_;rotate_left
 ·intro w hSw
  go_simp
  try with_reducible rfl
 try simp only [zP]
 refine tH 4 41 ?_ ?_ ?_;rotate_left
 ·intro w hSw
  go_simp
  try with_reducible rfl
 try simp only [zP]
 refine tH 5 42 ?_ ?_ ?_;rotate_left
 ·intro w hSw
  go_simp
  try with_reducible rfl
 try simp only [zP]
 refine tH 6 43 ?_ ?_ ?_;rotate_left
 ·intro w hSw
  go_simp
  try with_reducible rfl
 try simp only [zP]
 refine tH 7 44 ?_ ?_ ?_;rotate_left
 ·intro w hSw
  have q3 : w.cell? ⟨g, 0, none⟩ = some (.pointer (some ⟨b.pb, 0, none⟩)) := hSw.1 0 (by omega)
  go_simp
  try with_reducible rfl
 try simp only [zP]
 refine zR 2 fun K hK => ?_
 go_simp
 refine HAB.out.mono ?_
 rintro e w4 ⟨rfl, hm4⟩
 have HW4 := zh (HW3D.out.made (CXs.ext b k) hm4)
 refine hK.out _ _ ?_ (fun hHeld => ?_)
 ·exact ⟨low_of (HB3D.out.turns hm4 (fun h => h)), .inr trivial⟩
 clear hK K
 try simp only [zP]
 refine zR 8 fun K hK => ?_
 go_simp
 refine (wnow_c HW4.out).mono ?_
 rintro e w4b ⟨rfl, rfl⟩
 refine hK.out _ _ ?_ (fun hHeld => ?_)
 ·exact hHeld
 clear hK K
 try simp only [zP]
 refine zR 9 fun K hK => ?_
 have hmc := HMKH.out w4 HW4.out
 have hgi := HX.out.2.2.2
 go_simp
 try rw [hgi]
 refine hmc.mono ?_
 rintro e w5 ⟨cp, Fc, o5, rfl, hw5, hch5, hs5, hf5, hd5⟩
 clear hmc hgi
 refine hK.out _ _ ?_ (fun hHeld => ?_)
 ·exact ⟨low_of ((HB3D.out.turns hm4 (fun h => h)).turns hs5.t HG.out), .inr trivial⟩
 clear hK K
 try simp only [zP]
 refine tH 10 36 ?_ ?_ ?_;rotate_left
 ·intro w hSw
  go_simp
  try with_reducible rfl
 try simp only [zP]
 refine tH 11 47 ?_ ?_ ?_;rotate_left
 ·intro w hSw
  go_simp
  try with_reducible rfl
 try simp only [zP]
 refine tH 12 48 ?_ ?_ ?_;rotate_left
 ·intro w hSw
  go_simp
  try with_reducible rfl
 try simp only [zP]
 refine tH 13 49 ?_ ?_ ?_;rotate_left
 ·intro w hSw
  go_simp
  try with_reducible rfl
 try simp only [zP]
 refine tH 14 2 ?_ ?_ ?_;rotate_left
 ·intro w hSw
  go_simp
  try with_reducible rfl
 try simp only [zP]
 refine tH 15 3 ?_ ?_ ?_;rotate_left
 ·intro w hSw
  go_simp
  try with_reducible rfl
 try simp only [zP]
 refine tH 16 4 ?_ ?_ ?_;rotate_left
 ·intro w hSw
  go_simp
  try with_reducible rfl
 try simp only [zP]
 refine wpAnyH_done (by kernel_rfl) ?_ _
 have HM4 : Hid (Made w w4) := zh ((HM3.out.trans (zT w3).drew).trans hm4)
 clear hHeld hm4 q0 q2
 have HB4 := zh (HB.out.turns HM4.out (fun h => h))
 have HB5 := zh (HB4.out.turns hs5.t HG.out)
 obtain ⟨y, hy, hyc⟩ := HK.out.1 cp
 obtain ⟨vl5, hcx5⟩ := hw5.ctx
 have hdn := cxdone_c hcx5 hy (HK.out.2.1 cp)
 rw [hyc] at hdn
 simp only [pt, Option.map] at hdn
 have HDN := zh hdn
 obtain ⟨vp5, vc5, vk5, ve5, hw5b⟩ := hw5
 obtain ⟨o6, h6, he6, hown6, hnp6⟩ := hw5b.addCh hch5 hd5
 have HOP := zh (wopen_c (CXs.ext b (k' cp)) (show WW (CXs b (k' cp)) w5 b o6 ps s' from ⟨_, _, _, _, h6⟩) (show ChAt w5 cp (fun j => o6 j = 16 + cp) ⟨false, true, false, false, none, []⟩ from by rw [he6]; exact hch5) hnp6 HK.out.2.2)
 have HS5 := zh (And.intro hs5 (And.intro hf5 hown6))
 have HG6 := zh (show ¬ Own o6 g from fun h0 => (hown6 g h0).elim (fun h1 => (hs5.f g h1).elim HG.out (fun h2 => absurd HB4.out.lt (Nat.not_lt.2 h2))) (fun h1 => absurd HB4.out.lt (Nat.not_lt.2 (hf5 g h1))))
 have q0 : w5.cell? ⟨g, 0, none⟩ = some (.pointer (some ⟨b.pb, 0, none⟩)) := HB5.out.cell 0
 clear hy hyc hcx5 hdn hw5b h6 he6 hown6 hnp6 hch5 hs5 hf5 hd5
 go_wp2_with fail
 refine acbad_0.mono ?_
 rintro e w5b ⟨rfl, rfl⟩
 go_wp2_with fail
 refine HDN.out.mono ?_
 rintro e w5b ⟨rfl, rfl⟩
 go_wp2_with fail
 refine HOP.out.mono ?_
 rintro e w7 ⟨rfl, o7, hw7, hs7⟩
 have HW7 := zh hw7
 have HB7 := zh (HB5.out.turns hs7.t HG6.out)
 have HS7 : Hid (Stp w4 w7 (Own o) (Own o7)) := zh ⟨HS5.out.1.t.then hs7.t (fun j hj h6 => (HS5.out.2.2 j h6).elim (fun h1 => (HS5.out.1.f j h1).elim (fun h => h) (fun h2 => absurd hj (Nat.not_lt.2 h2))) (fun h1 => absurd hj (Nat.not_lt.2 (HS5.out.2.1 j h1)))), fun j h7 => (hs7.f j h7).elim (fun h6 => (HS5.out.2.2 j h6).elim (fun h1 => HS5.out.1.f j h1) (fun h1 => .inr (HS5.out.2.1 j h1))) (fun h2 => .inr (Nat.le_trans HS5.out.1.t.size h2))⟩
 have HA7 := zh (AStp.of g ((Stp.made (F := Own o) HM4.out).trans HS7.out))
 have HG7 := zh (show ¬ Own o7 g from HA7.out.no HG.out HGL.out)
 clear hw7 hs7 q0
 go_upto_region 16 with fail
 refine wp_region_held_drew (S := fun w' => Low w' g b.pb (x) ∧ (w' = w7.drew ∨ True)) (by kernel_rfl) ?_ (fun hHeld => ?_)
 ·exact ⟨low_of (HB7.out), .inr trivial⟩
 refine tH 0 82 ?_ ?_ ?_;rotate_left
 ·intro w hSw
  go_simp
  try with_reducible rfl
 try simp only [zP]
 refine tH 1 83 ?_ ?_ ?_;rotate_left
 ·intro w hSw
  go_simp
  try with_reducible rfl
 try simp only [zP]
 refine tH 2 84 ?_ ?_ ?_;rotate_left
 ·intro w hSw
  go_simp
  try with_reducible rfl
 try simp only [zP]
 refine tH 3 85 ?_ ?_ ?_;rotate_left
 ·intro w hSw
  go_simp
  try with_reducible rfl
 try simp only [zP]
 refine tH 4 86 ?_ ?_ ?_;rotate_left
 ·intro w hSw
  go_simp
  try with_reducible rfl
 try simp only [zP]
 refine tH 5 87 ?_ ?_ ?_;rotate_left
 ·intro w hSw
  have q3 : w.cell? ⟨g, 3, none⟩ = some (.int .i64 (x.i.a)) := hSw.1 3 (by omega)
  rw [HXA.out] at q3
  go_simp
  try with_reducible rfl
 try simp only [zP]
 refine tH 6 88 ?_ ?_ ?_;rotate_left
 ·intro w hSw
  go_simp
  try with_reducible rfl
 try simp only [zP]
 refine tH 7 89 ?_ ?_ ?_;rotate_left
 ·intro w hSw
  go_simp
  try with_reducible rfl
 try simp only [zP]
 refine tH 8 90 ?_ ?_ ?_;rotate_left
 ·intro w hSw
  go_simp
  try with_reducible rfl
 try simp only [zP]
 refine tH 9 91 ?_ ?_ ?_;rotate_left
 ·intro w hSw
  go_simp
  try with_reducible rfl
 try simp only [zP]
 refine zR 10 fun K hK => ?_
 have qz0 := (HB7.out).cell (16 + a)
 rw [ac_reg _ _ HLT.out] at qz0
 have qz1 : w7.drew.cell? ⟨g, 16 + a, none⟩ = _ := qz0
 have qf := (HB7.out).free (16 + a)
 have qf1 : w7.drew.frozen? ⟨g, 16 + a, none⟩ = false := qf
 go_simp
 refine hK.out _ _ ?_ (fun hHeld => ?_)
 ·exact ⟨low_regs (r := (x).regs.set a ((id : Int))) (low_of (by have hb4 := (show Blk w7.drew g 131 _ from HB7.out).put (16 + a) (.int .i64 ((id : Int))); rw [ac_set _ _ _ HLT.out] at hb4; exact hb4)), .inr trivial⟩
 clear hK K
 try simp only [zP]
 refine wpAnyH_done (by kernel_rfl) ?_ _
 have hb4 := (show Blk w7.drew g 131 _ from HB7.out).put (16 + a) (.int .i64 ((id : Int)))
 have ht4 : Turns (fun k => k = g) w7 (w7.drew.setCell ⟨g, 16 + a, none⟩ (.int .i64 ((id : Int)))) := ((Turns.refl (fun k => k = g) w7).drew).setCell (p := ⟨g, 16 + a, none⟩) (fun _ => rfl) _
 rw [ac_set _ _ _ HLT.out] at hb4
 clear hb4 ht4 hHeld
 have hb4 := HB7.out.put (16 + a) (.int .i64 (id : Int))
 have ht4 : Turns (fun k => k = g) w7 (w7.setCell ⟨g, 16 + a, none⟩ (.int .i64 (id : Int))) := (Turns.refl (fun k => k = g) w7).setCell (p := ⟨g, 16 + a, none⟩) (fun _ => rfl) _
 rw [ac_set _ _ _ HLT.out] at hb4
 generalize w7.setCell ⟨g, 16 + a, none⟩ (.int .i64 (id : Int)) = W8 at *
 have HE := zh (And.intro (hb4.turns (zT W8).drew (fun h => h)) ht4.drew)
 clear hb4 ht4
 have hw8 := HW7.out.turns (CXs.ext b (k' cp)) HE.out.2 (fun j hj e => HG7.out (by rw [← show j = g from e]; exact hj))
 have HLP := zh (wlapse_c (err := 0) (cause := 0) (CXs.ext b (k' cp)) hw8 (LpOut.nil _ o7 0 0) (by simp) trivial)
 have q0 : W8.cell? ⟨g, 0, none⟩ = some (.pointer (some ⟨b.pb, 0, none⟩)) := HE.out.1.cell 0
 clear hw8
 go_wp2_with fail
 refine HLP.out.mono ?_
 rintro e w9 ⟨rfl, o9, hw9, hs9⟩
 have HF := zh (And.intro hw9 hs9)
 clear hw9 hs9 q0
 go_wp2_with fail
 first | go_ret | go_returns | go_end0
 exact ⟨rfl, o9, cp, HF.out.1, (HA7.out.set HE.out.2).then HF.out.2, HE.out.1.turns HF.out.2.t HG7.out⟩
theorem accontext_24 {w : World} {b : Wp} {o : Nat → Nat} {ps : List (List Ins)} {s s' : Wst} {k : Cs} {k' : Nat → Cs} {g a bb cc n0 id : Nat} {x : Ac} (h : WW (CXs b k) w b o ps s) (hb : Blk w g 131 (acA b.pb x)) (hg : ¬ Own o g) (hop : x.i.op = 24) (hxa : x.i.a = a) (hxb : x.i.b = bb) (hxc : x.i.c = cc) (ha : a < 8) (hbb : bb < 8) (hcc : cc < 8) (hi : x.was.get bb = n0) (hmk : ∀ w1, WW (CXs b k) w1 b o ps s → Calls Tryz.prog 138 #[.pointer (some ⟨b.px, 0, none⟩), .int .i64 n0, .int .i64 (addZ s.now (x.was.get cc)), .int .i64 s.now] w1 (MkP b ps s' k' id w1 o)) (hk1 : ∀ cp, ∃ y, (k' cp).cs[id]? = some y ∧ y.c = some cp) (hk2 : ∀ cp, (k' cp).cs.length ≤ 60) (hcl : s'.chs.length ≤ 1000) :
  Calls Tryz.prog 82 #[.pointer (some ⟨g, 0, none⟩)] w fun e w' => e = .returned (.tuple #[]) ∧ ∃ o' cp, WW (CXs b (k' cp)) w' b o' ps { s' with chs := s'.chs ++ [(cp, ⟨false, true, false, false, none, []⟩)] } ∧ AStp w w' o o' g ∧ Blk w' g 131 (acA b.pb { x with regs := x.regs.set a id }) := by
 have HB := zh hb
 have HX := zh (And.intro hxa (And.intro hxb (And.intro hop hi)))
 have HXA := zh hxa
 have HG := zh hg
 have HGL := zh hb.lt
 have HLT := zh ha
 have HLB := zh hbb
 have HMKH := zh hmk
 have HK := zh (And.intro hk1 (And.intro hk2 hcl))
 have ja1 : (0 : Int) ≤ (a : Int) := by omega
 have ja2 : (a : Int) < 8 := by omega
 have HBD := zh (hb.turns (zT w).drew (fun h => h))
 have HWD := zh (h.made (CXs.ext b k) (zT w).drew)
 have HAC := zh (acc_c HBD.out hxc hcc)
 clear h hb hg hop hxa hxb hxc ha hbb hcc hi hmk hk1 hk2 hcl
 go_enter Tryz.func82, Tryz.ntmps82
 go_upto_region 3 with fail
 refine wp_region_held_drew (S := fun w' => Low w' g b.pb x ∧ w'.cell? ⟨b.pb, 6, none⟩ = some (.pointer (some ⟨b.px, 0, none⟩))) (by kernel_rfl) ?_ (fun hHeld => ?_)
 ·exact ⟨low_of HBD.out, HWD.out.cell6⟩
 refine tH 0 9 ?_ ?_ ?_;rotate_left
 ·intro w hSw
  go_simp
  try with_reducible rfl
 try simp only [zP]
 refine tH 1 10 ?_ ?_ ?_;rotate_left
 ·intro w hSw
  go_simp
  try with_reducible rfl
 try simp only [zP]
 refine tH 2 11 ?_ ?_ ?_;rotate_left
 ·intro w hSw
  go_simp
  try with_reducible rfl
 try simp only [zP]
 refine tH 3 12 ?_ ?_ ?_;rotate_left
 ·intro w hSw
  have q3 : w.cell? ⟨g, 0, none⟩ = some (.pointer (some ⟨b.pb, 0, none⟩)) := hSw.1 0 (by omega)
  go_simp
  try with_reducible rfl
 try simp only [zP]
 refine tH 4 13 ?_ ?_ ?_;rotate_left
 ·intro w hSw
  go_simp
  try with_reducible rfl
 try simp only [zP]
 refine tH 5 14 ?_ ?_ ?_;rotate_left
 ·intro w hSw
  go_simp
  try with_reducible rfl
 try simp only [zP]
 refine tH 6 15 ?_ ?_ ?_;rotate_left
 ·intro w hSw
  have q6 := hSw.2
  go_simp
  try with_reducible rfl
 try simp only [zP]
 refine tH 7 16 ?_ ?_ ?_;rotate_left
 ·intro w hSw
  go_simp
  try with_reducible rfl
 try simp only [zP]
 refine zR 8 fun K hK => ?_
 go_simp
 refine HAC.out.mono ?_
 rintro e w3 ⟨rfl, hm3⟩
 refine hK.out _ _ ?_ (fun hHeld => ?_)
 ·exact ⟨low_of (HBD.out.turns hm3 (fun h => h)), (HWD.out.made (CXs.ext b k) hm3).cell6⟩
 clear hK K
 try simp only [zP]
 refine tH 9 5 ?_ ?_ ?_;rotate_left
 ·intro w hSw
  go_simp
  try with_reducible rfl
 try simp only [zP]
 refine tH 10 6 ?_ ?_ ?_;rotate_left
 ·intro w hSw
  go_simp
  try with_reducible rfl
 try simp only [zP]
 refine wpAnyH_done (by kernel_rfl) ?_ _
 have HM3 : Hid (Made w w3) := zh ((zT w).drew.trans hm3)
 have HB3 := zh (HB.out.turns HM3.out (fun h => h))
 have HW3 := zh (HWD.out.made (CXs.ext b k) hm3)
 have q2 : w3.cell? ⟨g, 2, none⟩ = some (.int .i64 x.i.op) := HB3.out.cell 2
 rw [HX.out.2.2.1] at q2
 have q0 : w3.cell? ⟨g, 0, none⟩ = some (.pointer (some ⟨b.pb, 0, none⟩)) := HB3.out.cell 0
 clear hHeld hm3
 have HNW := zh (wnow_c HW3.out)
 have HAD := zh (add_c s.now (x.was.get cc))
 go_wp2_with fail
 refine HNW.out.mono ?_
 rintro e w3b ⟨rfl, rfl⟩
 go_wp2_with fail
 refine (HAD.out _).mono ?_
 rintro e w3b ⟨rfl, rfl⟩
 have HB3D := zh (HB3.out.turns (zT w3).drew (fun h => h))
 have HW3D := zh (HW3.out.made (CXs.ext b k) (zT w3).drew)
 have HAB := zh (acb_c HB3D.out HX.out.2.1 HLB.out)
 go_upto_region 9 with fail
 refine wp_region_held_drew (S := fun w' => Low w' g b.pb x ∧ (w' = w3.drew ∨ True)) (by kernel_rfl) ?_ (fun hHeld => ?_)
 ·exact ⟨low_of HB3D.out, .inr trivial⟩
 refine tH 0 37 ?_ ?_ ?_;rotate_left
 ·intro w hSw
  go_simp
  try with_reducible rfl
 try simp only [zP]
 refine tH 1 38 ?_ ?_ ?_;rotate_left
 ·intro w hSw
  go_simp
  try with_reducible rfl
 try simp only [zP]
 refine tH 3 40 ?_ ?_ ?_;rotate_left
 ·intro w hSw
  go_simp
  try with_reducible rfl
 try simp only [zP]
 refine tH 4 41 ?_ ?_ ?_;rotate_left
 ·intro w hSw
  go_simp
  try with_reducible rfl
 try simp only [zP]
 refine tH 5 42 ?_ ?_ ?_;rotate_left
 ·intro w hSw
  go_simp
  try with_reducible rfl
 try simp only [zP]
 refine tH 6 43 ?_ ?_ ?_;rotate_left
 ·intro w hSw
  go_simp
  try with_reducible rfl
 try simp only [zP]
 refine tH 7 44 ?_ ?_ ?_;rotate_left
 ·intro w hSw
  have q3 : w.cell? ⟨g, 0, none⟩ = some (.pointer (some ⟨b.pb, 0, none⟩)) := hSw.1 0 (by omega)
  go_simp
  try with_reducible rfl
 try simp only [zP]
 refine zR 2 fun K hK => ?_
 go_simp
 refine HAB.out.mono ?_
 rintro e w4 ⟨rfl, hm4⟩
 have HW4 := zh (HW3D.out.made (CXs.ext b k) hm4)
 refine hK.out _ _ ?_ (fun hHeld => ?_)
 ·exact ⟨low_of (HB3D.out.turns hm4 (fun h => h)), .inr trivial⟩
 clear hK K
 try simp only [zP]
 refine zR 8 fun K hK => ?_
 go_simp
 refine (wnow_c HW4.out).mono ?_
 rintro e w4b ⟨rfl, rfl⟩
 refine hK.out _ _ ?_ (fun hHeld => ?_)
 ·exact hHeld
 clear hK K
 try simp only [zP]
 refine zR 9 fun K hK => ?_
 have hmc := HMKH.out w4 HW4.out
 have hgi := HX.out.2.2.2
 go_simp
 try rw [hgi]
 refine hmc.mono ?_
 rintro e w5 ⟨cp, Fc, o5, rfl, hw5, hch5, hs5, hf5, hd5⟩
 clear hmc hgi
 refine hK.out _ _ ?_ (fun hHeld => ?_)
 ·exact ⟨low_of ((HB3D.out.turns hm4 (fun h => h)).turns hs5.t HG.out), .inr trivial⟩
 clear hK K
 try simp only [zP]
 refine tH 10 36 ?_ ?_ ?_;rotate_left
 ·intro w hSw
  go_simp
  try with_reducible rfl
 try simp only [zP]
 refine tH 11 47 ?_ ?_ ?_;rotate_left
 ·intro w hSw
  go_simp
  try with_reducible rfl
 try simp only [zP]
 refine tH 12 48 ?_ ?_ ?_;rotate_left
 ·intro w hSw
  go_simp
  try with_reducible rfl
 try simp only [zP]
 refine tH 13 49 ?_ ?_ ?_;rotate_left
 ·intro w hSw
  go_simp
  try with_reducible rfl
 try simp only [zP]
 refine tH 14 2 ?_ ?_ ?_;rotate_left
 ·intro w hSw
  go_simp
  try with_reducible rfl
 try simp only [zP]
 refine tH 15 3 ?_ ?_ ?_;rotate_left
 ·intro w hSw
  go_simp
  try with_reducible rfl
 try simp only [zP]
 refine tH 16 4 ?_ ?_ ?_;rotate_left
 ·intro w hSw
  go_simp
  try with_reducible rfl
 try simp only [zP]
 refine wpAnyH_done (by kernel_rfl) ?_ _
 have HM4 : Hid (Made w w4) := zh ((HM3.out.trans (zT w3).drew).trans hm4)
 clear hHeld hm4 q0 q2
 have HB4 := zh (HB.out.turns HM4.out (fun h => h))
 have HB5 := zh (HB4.out.turns hs5.t HG.out)
 obtain ⟨y, hy, hyc⟩ := HK.out.1 cp
 obtain ⟨vl5, hcx5⟩ := hw5.ctx
 have hdn := cxdone_c hcx5 hy (HK.out.2.1 cp)
 rw [hyc] at hdn
 simp only [pt, Option.map] at hdn
 have HDN := zh hdn
 obtain ⟨vp5, vc5, vk5, ve5, hw5b⟩ := hw5
 obtain ⟨o6, h6, he6, hown6, hnp6⟩ := hw5b.addCh hch5 hd5
 have HOP := zh (wopen_c (CXs.ext b (k' cp)) (show WW (CXs b (k' cp)) w5 b o6 ps s' from ⟨_, _, _, _, h6⟩) (show ChAt w5 cp (fun j => o6 j = 16 + cp) ⟨false, true, false, false, none, []⟩ from by rw [he6]; exact hch5) hnp6 HK.out.2.2)
 have HS5 := zh (And.intro hs5 (And.intro hf5 hown6))
 have HG6 := zh (show ¬ Own o6 g from fun h0 => (hown6 g h0).elim (fun h1 => (hs5.f g h1).elim HG.out (fun h2 => absurd HB4.out.lt (Nat.not_lt.2 h2))) (fun h1 => absurd HB4.out.lt (Nat.not_lt.2 (hf5 g h1))))
 have q0 : w5.cell? ⟨g, 0, none⟩ = some (.pointer (some ⟨b.pb, 0, none⟩)) := HB5.out.cell 0
 clear hy hyc hcx5 hdn hw5b h6 he6 hown6 hnp6 hch5 hs5 hf5 hd5
 go_wp2_with fail
 refine acbad_0.mono ?_
 rintro e w5b ⟨rfl, rfl⟩
 go_wp2_with fail
 refine HDN.out.mono ?_
 rintro e w5b ⟨rfl, rfl⟩
 go_wp2_with fail
 refine HOP.out.mono ?_
 rintro e w7 ⟨rfl, o7, hw7, hs7⟩
 have HW7 := zh hw7
 have HB7 := zh (HB5.out.turns hs7.t HG6.out)
 have HS7 : Hid (Stp w4 w7 (Own o) (Own o7)) := zh ⟨HS5.out.1.t.then hs7.t (fun j hj h6 => (HS5.out.2.2 j h6).elim (fun h1 => (HS5.out.1.f j h1).elim (fun h => h) (fun h2 => absurd hj (Nat.not_lt.2 h2))) (fun h1 => absurd hj (Nat.not_lt.2 (HS5.out.2.1 j h1)))), fun j h7 => (hs7.f j h7).elim (fun h6 => (HS5.out.2.2 j h6).elim (fun h1 => HS5.out.1.f j h1) (fun h1 => .inr (HS5.out.2.1 j h1))) (fun h2 => .inr (Nat.le_trans HS5.out.1.t.size h2))⟩
 have HA7 := zh (AStp.of g ((Stp.made (F := Own o) HM4.out).trans HS7.out))
 have HG7 := zh (show ¬ Own o7 g from HA7.out.no HG.out HGL.out)
 clear hw7 hs7 q0
 go_upto_region 16 with fail
 refine wp_region_held_drew (S := fun w' => Low w' g b.pb (x) ∧ (w' = w7.drew ∨ True)) (by kernel_rfl) ?_ (fun hHeld => ?_)
 ·exact ⟨low_of (HB7.out), .inr trivial⟩
 refine tH 0 82 ?_ ?_ ?_;rotate_left
 ·intro w hSw
  go_simp
  try with_reducible rfl
 try simp only [zP]
 refine tH 1 83 ?_ ?_ ?_;rotate_left
 ·intro w hSw
  go_simp
  try with_reducible rfl
 try simp only [zP]
 refine tH 2 84 ?_ ?_ ?_;rotate_left
 ·intro w hSw
  go_simp
  try with_reducible rfl
 try simp only [zP]
 refine tH 3 85 ?_ ?_ ?_;rotate_left
 ·intro w hSw
  go_simp
  try with_reducible rfl
 try simp only [zP]
 refine tH 4 86 ?_ ?_ ?_;rotate_left
 ·intro w hSw
  go_simp
  try with_reducible rfl
 try simp only [zP]
 refine tH 5 87 ?_ ?_ ?_;rotate_left
 ·intro w hSw
  have q3 : w.cell? ⟨g, 3, none⟩ = some (.int .i64 (x.i.a)) := hSw.1 3 (by omega)
  rw [HXA.out] at q3
  go_simp
  try with_reducible rfl
 try simp only [zP]
 refine tH 6 88 ?_ ?_ ?_;rotate_left
 ·intro w hSw
  go_simp
  try with_reducible rfl
 try simp only [zP]
 refine tH 7 89 ?_ ?_ ?_;rotate_left
 ·intro w hSw
  go_simp
  try with_reducible rfl
 try simp only [zP]
 refine tH 8 90 ?_ ?_ ?_;rotate_left
 ·intro w hSw
  go_simp
  try with_reducible rfl
 try simp only [zP]
 refine tH 9 91 ?_ ?_ ?_;rotate_left
 ·intro w hSw
  go_simp
  try with_reducible rfl
 try simp only [zP]
 refine zR 10 fun K hK => ?_
 have qz0 := (HB7.out).cell (16 + a)
 rw [ac_reg _ _ HLT.out] at qz0
 have qz1 : w7.drew.cell? ⟨g, 16 + a, none⟩ = _ := qz0
 have qf := (HB7.out).free (16 + a)
 have qf1 : w7.drew.frozen? ⟨g, 16 + a, none⟩ = false := qf
 go_simp
 refine hK.out _ _ ?_ (fun hHeld => ?_)
 ·exact ⟨low_regs (r := (x).regs.set a ((id : Int))) (low_of (by have hb4 := (show Blk w7.drew g 131 _ from HB7.out).put (16 + a) (.int .i64 ((id : Int))); rw [ac_set _ _ _ HLT.out] at hb4; exact hb4)), .inr trivial⟩
 clear hK K
 try simp only [zP]
 refine wpAnyH_done (by kernel_rfl) ?_ _
 have hb4 := (show Blk w7.drew g 131 _ from HB7.out).put (16 + a) (.int .i64 ((id : Int)))
 have ht4 : Turns (fun k => k = g) w7 (w7.drew.setCell ⟨g, 16 + a, none⟩ (.int .i64 ((id : Int)))) := ((Turns.refl (fun k => k = g) w7).drew).setCell (p := ⟨g, 16 + a, none⟩) (fun _ => rfl) _
 rw [ac_set _ _ _ HLT.out] at hb4
 clear hb4 ht4 hHeld
 have hb4 := HB7.out.put (16 + a) (.int .i64 (id : Int))
 have ht4 : Turns (fun k => k = g) w7 (w7.setCell ⟨g, 16 + a, none⟩ (.int .i64 (id : Int))) := (Turns.refl (fun k => k = g) w7).setCell (p := ⟨g, 16 + a, none⟩) (fun _ => rfl) _
 rw [ac_set _ _ _ HLT.out] at hb4
 generalize w7.setCell ⟨g, 16 + a, none⟩ (.int .i64 (id : Int)) = W8 at *
 have HE := zh (And.intro (hb4.turns (zT W8).drew (fun h => h)) ht4.drew)
 clear hb4 ht4
 have hw8 := HW7.out.turns (CXs.ext b (k' cp)) HE.out.2 (fun j hj e => HG7.out (by rw [← show j = g from e]; exact hj))
 have HLP := zh (wlapse_c (err := 0) (cause := 0) (CXs.ext b (k' cp)) hw8 (LpOut.nil _ o7 0 0) (by simp) trivial)
 have q0 : W8.cell? ⟨g, 0, none⟩ = some (.pointer (some ⟨b.pb, 0, none⟩)) := HE.out.1.cell 0
 clear hw8
 go_wp2_with fail
 refine HLP.out.mono ?_
 rintro e w9 ⟨rfl, o9, hw9, hs9⟩
 have HF := zh (And.intro hw9 hs9)
 clear hw9 hs9 q0
 go_wp2_with fail
 first | go_ret | go_returns | go_end0
 exact ⟨rfl, o9, cp, HF.out.1, (HA7.out.set HE.out.2).then HF.out.2, HE.out.1.turns HF.out.2.t HG7.out⟩
theorem acdo_22 {w : World} {g p : Nat} {x : Ac} {R : World → Prop} (hb : Blk w g 131 (acA p x)) (hop : x.i.op = 22) (H : Calls Tryz.prog 82 #[.pointer (some ⟨g, 0, none⟩)] w fun e w' => e = .returned (.tuple #[]) ∧ R w') :
  Calls Tryz.prog 50 #[.pointer (some ⟨g, 0, none⟩)] w fun e w' => e = .returned (.tuple #[]) ∧ R w' := by
 have q2 : w.cell? ⟨g, 2, none⟩ = some (.int .i64 x.i.op) := hb.cell 2
 rw [hop] at q2
 have HH := zh H
 clear H hb hop
 go_enter Tryz.func50, Tryz.ntmps50
 go_wp2_with fail
 refine HH.out.mono ?_
 rintro e w1 ⟨rfl, hr⟩
 have HR := zh hr
 clear hr q2
 go_wp2_with fail
 go_end0
 exact ⟨rfl, HR.out⟩
theorem acdo_23 {w : World} {g p : Nat} {x : Ac} {R : World → Prop} (hb : Blk w g 131 (acA p x)) (hop : x.i.op = 23) (H : Calls Tryz.prog 82 #[.pointer (some ⟨g, 0, none⟩)] w fun e w' => e = .returned (.tuple #[]) ∧ R w') :
  Calls Tryz.prog 50 #[.pointer (some ⟨g, 0, none⟩)] w fun e w' => e = .returned (.tuple #[]) ∧ R w' := by
 have q2 : w.cell? ⟨g, 2, none⟩ = some (.int .i64 x.i.op) := hb.cell 2
 rw [hop] at q2
 have HH := zh H
 clear H hb hop
 go_enter Tryz.func50, Tryz.ntmps50
 go_wp2_with fail
 refine HH.out.mono ?_
 rintro e w1 ⟨rfl, hr⟩
 have HR := zh hr
 clear hr q2
 go_wp2_with fail
 go_end0
 exact ⟨rfl, HR.out⟩
theorem acdo_24 {w : World} {g p : Nat} {x : Ac} {R : World → Prop} (hb : Blk w g 131 (acA p x)) (hop : x.i.op = 24) (H : Calls Tryz.prog 82 #[.pointer (some ⟨g, 0, none⟩)] w fun e w' => e = .returned (.tuple #[]) ∧ R w') :
  Calls Tryz.prog 50 #[.pointer (some ⟨g, 0, none⟩)] w fun e w' => e = .returned (.tuple #[]) ∧ R w' := by
 have q2 : w.cell? ⟨g, 2, none⟩ = some (.int .i64 x.i.op) := hb.cell 2
 rw [hop] at q2
 have HH := zh H
 clear H hb hop
 go_enter Tryz.func50, Tryz.ntmps50
 go_wp2_with fail
 refine HH.out.mono ?_
 rintro e w1 ⟨rfl, hr⟩
 have HR := zh hr
 clear hr q2
 go_wp2_with fail
 go_end0
 exact ⟨rfl, HR.out⟩
theorem acdo_27 {w : World} {g p : Nat} {x : Ac} {R : World → Prop} (hb : Blk w g 131 (acA p x)) (hop : x.i.op = 27) (H : Calls Tryz.prog 87 #[.pointer (some ⟨g, 0, none⟩)] w fun e w' => e = .returned (.tuple #[]) ∧ R w') :
  Calls Tryz.prog 50 #[.pointer (some ⟨g, 0, none⟩)] w fun e w' => e = .returned (.tuple #[]) ∧ R w' := by
 have q2 : w.cell? ⟨g, 2, none⟩ = some (.int .i64 x.i.op) := hb.cell 2
 rw [hop] at q2
 have HH := zh H
 clear H hb hop
 go_enter Tryz.func50, Tryz.ntmps50
 go_wp2_with fail
 refine HH.out.mono ?_
 rintro e w1 ⟨rfl, hr⟩
 have HR := zh hr
 clear hr q2
 go_wp2_with fail
 go_end0
 exact ⟨rfl, HR.out⟩
theorem acdo_29 {w : World} {g p : Nat} {x : Ac} {R : World → Prop} (hb : Blk w g 131 (acA p x)) (hop : x.i.op = 29) (H : Calls Tryz.prog 87 #[.pointer (some ⟨g, 0, none⟩)] w fun e w' => e = .returned (.tuple #[]) ∧ R w') :
  Calls Tryz.prog 50 #[.pointer (some ⟨g, 0, none⟩)] w fun e w' => e = .returned (.tuple #[]) ∧ R w' := by
 have q2 : w.cell? ⟨g, 2, none⟩ = some (.int .i64 x.i.op) := hb.cell 2
 rw [hop] at q2
 have HH := zh H
 clear H hb hop
 go_enter Tryz.func50, Tryz.ntmps50
 go_wp2_with fail
 refine HH.out.mono ?_
 rintro e w1 ⟨rfl, hr⟩
 have HR := zh hr
 clear hr q2
 go_wp2_with fail
 go_end0
 exact ⟨rfl, HR.out⟩
theorem acdo_30 {w : World} {g p : Nat} {x : Ac} {R : World → Prop} (hb : Blk w g 131 (acA p x)) (hop : x.i.op = 30) (H : Calls Tryz.prog 87 #[.pointer (some ⟨g, 0, none⟩)] w fun e w' => e = .returned (.tuple #[]) ∧ R w') :
  Calls Tryz.prog 50 #[.pointer (some ⟨g, 0, none⟩)] w fun e w' => e = .returned (.tuple #[]) ∧ R w' := by
 have q2 : w.cell? ⟨g, 2, none⟩ = some (.int .i64 x.i.op) := hb.cell 2
 rw [hop] at q2
 have HH := zh H
 clear H hb hop
 go_enter Tryz.func50, Tryz.ntmps50
 go_wp2_with fail
 refine HH.out.mono ?_
 rintro e w1 ⟨rfl, hr⟩
 have HR := zh hr
 clear hr q2
 go_wp2_with fail
 go_end0
 exact ⟨rfl, HR.out⟩
theorem acask_27 {w : World} {b : Wp} {o : Nat → Nat} {ps : List (List Ins)} {s : Wst} {k : Cs} {g a bb i : Nat} {x : Ac} {y : Cx} (h : WW (CXs b k) w b o ps s) (hb : Blk w g 131 (acA b.pb x)) (hg : ¬ Own o g) (hop : x.i.op = 27) (hxa : x.i.a = a) (hxb : x.i.b = bb) (ha : a < 8) (hbb : bb < 8) (hi : x.was.get a = i) (hy : k.cs[i]? = some y) (hn : k.cs.length ≤ 60) :
  Calls Tryz.prog 87 #[.pointer (some ⟨g, 0, none⟩)] w fun e w' => e = .returned (.tuple #[]) ∧ ∃ o', WW (CXs b k) w' b o' ps s ∧ AStp w w' o o' g ∧ Blk w' g 131 (acA b.pb { x with regs := x.regs.set bb y.err }) := by
 have HB := zh hb
 have HX := zh (And.intro hxb (And.intro hop hi))
 have HXB := zh hxb
 have HG := zh hg
 have HGL := zh hb.lt
 have HLT := zh hbb
 have HY := zh (And.intro hy hn)
 have jb1 : (0 : Int) ≤ (bb : Int) := by omega
 have jb2 : (bb : Int) < 8 := by omega
 have HBD := zh (hb.turns (zT w).drew (fun h => h))
 have HWD := zh (h.made (CXs.ext b k) (zT w).drew)
 have HAC := zh (aca_c HBD.out hxa ha)
 clear h hb hg hop hxa hxb ha hbb hi hy hn
 go_enter Tryz.func87, Tryz.ntmps87
 go_upto_region 0 with fail
 refine wp_region_held_drew (S := fun w' => Low w' g b.pb x ∧ w'.cell? ⟨b.pb, 6, none⟩ = some (.pointer (some ⟨b.px, 0, none⟩))) (by kernel_rfl) ?_ (fun hHeld => ?_)
 ·exact ⟨low_of HBD.out, HWD.out.cell6⟩
 refine tH 0 11 ?_ ?_ ?_;rotate_left
 ·intro w hSw
  go_simp
  try with_reducible rfl
 try simp only [zP]
 refine tH 1 12 ?_ ?_ ?_;rotate_left
 ·intro w hSw
  go_simp
  try with_reducible rfl
 try simp only [zP]
 refine tH 2 13 ?_ ?_ ?_;rotate_left
 ·intro w hSw
  go_simp
  try with_reducible rfl
 try simp only [zP]
 refine tH 3 14 ?_ ?_ ?_;rotate_left
 ·intro w hSw
  have q3 : w.cell? ⟨g, 0, none⟩ = some (.pointer (some ⟨b.pb, 0, none⟩)) := hSw.1 0 (by omega)
  go_simp
  try with_reducible rfl
 try simp only [zP]
 refine tH 4 15 ?_ ?_ ?_;rotate_left
 ·intro w hSw
  go_simp
  try with_reducible rfl
 try simp only [zP]
 refine tH 5 16 ?_ ?_ ?_;rotate_left
 ·intro w hSw
  go_simp
  try with_reducible rfl
 try simp only [zP]
 refine tH 6 17 ?_ ?_ ?_;rotate_left
 ·intro w hSw
  have q6 := hSw.2
  go_simp
  try with_reducible rfl
 try simp only [zP]
 refine tH 7 18 ?_ ?_ ?_;rotate_left
 ·intro w hSw
  go_simp
  try with_reducible rfl
 try simp only [zP]
 refine zR 8 fun K hK => ?_
 go_simp
 refine HAC.out.mono ?_
 rintro e w3 ⟨rfl, hm3⟩
 refine hK.out _ _ ?_ (fun hHeld => ?_)
 ·exact ⟨low_of (HBD.out.turns hm3 (fun h => h)), (HWD.out.made (CXs.ext b k) hm3).cell6⟩
 clear hK K
 try simp only [zP]
 refine tH 9 2 ?_ ?_ ?_;rotate_left
 ·intro w hSw
  go_simp
  try with_reducible rfl
 try simp only [zP]
 refine tH 10 3 ?_ ?_ ?_;rotate_left
 ·intro w hSw
  go_simp
  try with_reducible rfl
 try simp only [zP]
 refine wpAnyH_done (by kernel_rfl) ?_ _
 rw [HX.out.2.2]
 have HM3 : Hid (Made w w3) := zh ((zT w).drew.trans hm3)
 have HB3 := zh (HB.out.turns HM3.out (fun h => h))
 have HW3 := zh (HWD.out.made (CXs.ext b k) hm3)
 have q2 : w3.cell? ⟨g, 2, none⟩ = some (.int .i64 x.i.op) := HB3.out.cell 2
 rw [HX.out.2.1] at q2
 have q0 : w3.cell? ⟨g, 0, none⟩ = some (.pointer (some ⟨b.pb, 0, none⟩)) := HB3.out.cell 0
 obtain ⟨vl3, hcx3⟩ := HW3.out.ctx
 have HER := zh (cxerr_c hcx3 HY.out.1 HY.out.2)
 clear hHeld hm3 hcx3
 go_wp2_with fail
 refine HER.out.mono ?_
 rintro e w3b ⟨rfl, rfl⟩
 go_wp2_with fail
 refine acbad_0.mono ?_
 rintro e w5b ⟨rfl, rfl⟩
 go_upto_region 17 with fail
 refine wp_region_held_drew (S := fun w' => Low w' g b.pb (x) ∧ (w' = w3.drew ∨ True)) (by kernel_rfl) ?_ (fun hHeld => ?_)
 ·exact ⟨low_of (HB3.out), .inr trivial⟩
 refine tH 0 93 ?_ ?_ ?_;rotate_left
 ·intro w hSw
  go_simp
  try with_reducible rfl
 try simp only [zP]
 refine tH 1 94 ?_ ?_ ?_;rotate_left
 ·intro w hSw
  go_simp
  try with_reducible rfl
 try simp only [zP]
 refine tH 2 95 ?_ ?_ ?_;rotate_left
 ·intro w hSw
  go_simp
  try with_reducible rfl
 try simp only [zP]
 refine tH 3 96 ?_ ?_ ?_;rotate_left
 ·intro w hSw
  go_simp
  try with_reducible rfl
 try simp only [zP]
 refine tH 4 97 ?_ ?_ ?_;rotate_left
 ·intro w hSw
  go_simp
  try with_reducible rfl
 try simp only [zP]
 refine tH 5 98 ?_ ?_ ?_;rotate_left
 ·intro w hSw
  have q3 : w.cell? ⟨g, 4, none⟩ = some (.int .i64 (x.i.b)) := hSw.1 4 (by omega)
  rw [HXB.out] at q3
  go_simp
  try with_reducible rfl
 try simp only [zP]
 refine tH 6 99 ?_ ?_ ?_;rotate_left
 ·intro w hSw
  go_simp
  try with_reducible rfl
 try simp only [zP]
 refine tH 7 100 ?_ ?_ ?_;rotate_left
 ·intro w hSw
  go_simp
  try with_reducible rfl
 try simp only [zP]
 refine tH 8 101 ?_ ?_ ?_;rotate_left
 ·intro w hSw
  go_simp
  try with_reducible rfl
 try simp only [zP]
 refine tH 9 102 ?_ ?_ ?_;rotate_left
 ·intro w hSw
  go_simp
  try with_reducible rfl
 try simp only [zP]
 refine zR 10 fun K hK => ?_
 have qz0 := (HB3.out).cell (16 + bb)
 rw [ac_reg _ _ HLT.out] at qz0
 have qz1 : w3.drew.cell? ⟨g, 16 + bb, none⟩ = _ := qz0
 have qf := (HB3.out).free (16 + bb)
 have qf1 : w3.drew.frozen? ⟨g, 16 + bb, none⟩ = false := qf
 go_simp
 refine hK.out _ _ ?_ (fun hHeld => ?_)
 ·exact ⟨low_regs (r := (x).regs.set bb (y.err)) (low_of (by have hb4 := (show Blk w3.drew g 131 _ from HB3.out).put (16 + bb) (.int .i64 (y.err)); rw [ac_set _ _ _ HLT.out] at hb4; exact hb4)), .inr trivial⟩
 clear hK K
 try simp only [zP]
 refine wpAnyH_done (by kernel_rfl) ?_ _
 have hb4 := (show Blk w3.drew g 131 _ from HB3.out).put (16 + bb) (.int .i64 (y.err))
 have ht4 : Turns (fun k => k = g) w3 (w3.drew.setCell ⟨g, 16 + bb, none⟩ (.int .i64 (y.err))) := ((Turns.refl (fun k => k = g) w3).drew).setCell (p := ⟨g, 16 + bb, none⟩) (fun _ => rfl) _
 rw [ac_set _ _ _ HLT.out] at hb4
 have HE := zh (And.intro hb4 ht4)
 clear hb4 ht4 hHeld
 go_wp2_with fail
 go_end0
 exact ⟨rfl, o, HW3.out.turns (CXs.ext b k) HE.out.2 (fun q hq e => HG.out (by rw [← show q = g from e]; exact hq)), (AStp.made HM3.out).set HE.out.2, HE.out.1⟩
theorem acask_29 {w : World} {b : Wp} {o : Nat → Nat} {ps : List (List Ins)} {s : Wst} {k : Cs} {g a bb i : Nat} {x : Ac} {y : Cx} {p j : Nat} {c : Chn} (h : WW (CXs b k) w b o ps s) (hb : Blk w g 131 (acA b.pb x)) (hg : ¬ Own o g) (hop : x.i.op = 29) (hxa : x.i.a = a) (hxb : x.i.b = bb) (ha : a < 8) (hbb : bb < 8) (hi : x.was.get a = i) (hy : k.cs[i]? = some y) (hn : k.cs.length ≤ 60) (hyc : y.c = some p) (hch : s.chs[j]? = some (p, c)) (hcl : s.chs.length ≤ 1000) :
  Calls Tryz.prog 87 #[.pointer (some ⟨g, 0, none⟩)] w fun e w' => e = .returned (.tuple #[]) ∧ ∃ o', WW (CXs b k) w' b o' ps s ∧ AStp w w' o o' g ∧ Blk w' g 131 (acA b.pb { x with regs := x.regs.set bb j }) := by
 have HB := zh hb
 have HX := zh (And.intro hxb (And.intro hop hi))
 have HXB := zh hxb
 have HG := zh hg
 have HGL := zh hb.lt
 have HLT := zh hbb
 have HY := zh (And.intro hy hn)
 have jb1 : (0 : Int) ≤ (bb : Int) := by omega
 have jb2 : (bb : Int) < 8 := by omega
 have HBD := zh (hb.turns (zT w).drew (fun h => h))
 have HWD := zh (h.made (CXs.ext b k) (zT w).drew)
 have HAC := zh (aca_c HBD.out hxa ha)
 have HCH := zh (And.intro hyc (And.intro hch hcl))
 clear hyc hch hcl
 clear h hb hg hop hxa hxb ha hbb hi hy hn
 go_enter Tryz.func87, Tryz.ntmps87
 go_upto_region 0 with fail
 refine wp_region_held_drew (S := fun w' => Low w' g b.pb x ∧ w'.cell? ⟨b.pb, 6, none⟩ = some (.pointer (some ⟨b.px, 0, none⟩))) (by kernel_rfl) ?_ (fun hHeld => ?_)
 ·exact ⟨low_of HBD.out, HWD.out.cell6⟩
 refine tH 0 11 ?_ ?_ ?_;rotate_left
 ·intro w hSw
  go_simp
  try with_reducible rfl
 try simp only [zP]
 refine tH 1 12 ?_ ?_ ?_;rotate_left
 ·intro w hSw
  go_simp
  try with_reducible rfl
 try simp only [zP]
 refine tH 2 13 ?_ ?_ ?_;rotate_left
 ·intro w hSw
  go_simp
  try with_reducible rfl
 try simp only [zP]
 refine tH 3 14 ?_ ?_ ?_;rotate_left
 ·intro w hSw
  have q3 : w.cell? ⟨g, 0, none⟩ = some (.pointer (some ⟨b.pb, 0, none⟩)) := hSw.1 0 (by omega)
  go_simp
  try with_reducible rfl
 try simp only [zP]
 refine tH 4 15 ?_ ?_ ?_;rotate_left
 ·intro w hSw
  go_simp
  try with_reducible rfl
 try simp only [zP]
 refine tH 5 16 ?_ ?_ ?_;rotate_left
 ·intro w hSw
  go_simp
  try with_reducible rfl
 try simp only [zP]
 refine tH 6 17 ?_ ?_ ?_;rotate_left
 ·intro w hSw
  have q6 := hSw.2
  go_simp
  try with_reducible rfl
 try simp only [zP]
 refine tH 7 18 ?_ ?_ ?_;rotate_left
 ·intro w hSw
  go_simp
  try with_reducible rfl
 try simp only [zP]
 refine zR 8 fun K hK => ?_
 go_simp
 refine HAC.out.mono ?_
 rintro e w3 ⟨rfl, hm3⟩
 refine hK.out _ _ ?_ (fun hHeld => ?_)
 ·exact ⟨low_of (HBD.out.turns hm3 (fun h => h)), (HWD.out.made (CXs.ext b k) hm3).cell6⟩
 clear hK K
 try simp only [zP]
 refine tH 9 2 ?_ ?_ ?_;rotate_left
 ·intro w hSw
  go_simp
  try with_reducible rfl
 try simp only [zP]
 refine tH 10 3 ?_ ?_ ?_;rotate_left
 ·intro w hSw
  go_simp
  try with_reducible rfl
 try simp only [zP]
 refine wpAnyH_done (by kernel_rfl) ?_ _
 rw [HX.out.2.2]
 have HM3 : Hid (Made w w3) := zh ((zT w).drew.trans hm3)
 have HB3 := zh (HB.out.turns HM3.out (fun h => h))
 have HW3 := zh (HWD.out.made (CXs.ext b k) hm3)
 have q2 : w3.cell? ⟨g, 2, none⟩ = some (.int .i64 x.i.op) := HB3.out.cell 2
 rw [HX.out.2.1] at q2
 have q0 : w3.cell? ⟨g, 0, none⟩ = some (.pointer (some ⟨b.pb, 0, none⟩)) := HB3.out.cell 0
 obtain ⟨vl3, hcx3⟩ := HW3.out.ctx
 have hdn := cxdone_c hcx3 HY.out.1 HY.out.2
 rw [HCH.out.1] at hdn
 simp only [pt, Option.map] at hdn
 have HER := zh hdn
 have HHA := zh (whandle_c HW3.out HCH.out.2.1 HCH.out.2.2)
 clear hdn
 clear hHeld hm3 hcx3
 go_wp2_with fail
 refine HER.out.mono ?_
 rintro e w3b ⟨rfl, rfl⟩
 go_wp2_with fail
 refine HHA.out.mono ?_
 rintro e w3b ⟨rfl, rfl⟩
 go_wp2_with fail
 refine acbad_0.mono ?_
 rintro e w5b ⟨rfl, rfl⟩
 go_upto_region 17 with fail
 refine wp_region_held_drew (S := fun w' => Low w' g b.pb (x) ∧ (w' = w3.drew ∨ True)) (by kernel_rfl) ?_ (fun hHeld => ?_)
 ·exact ⟨low_of (HB3.out), .inr trivial⟩
 refine tH 0 93 ?_ ?_ ?_;rotate_left
 ·intro w hSw
  go_simp
  try with_reducible rfl
 try simp only [zP]
 refine tH 1 94 ?_ ?_ ?_;rotate_left
 ·intro w hSw
  go_simp
  try with_reducible rfl
 try simp only [zP]
 refine tH 2 95 ?_ ?_ ?_;rotate_left
 ·intro w hSw
  go_simp
  try with_reducible rfl
 try simp only [zP]
 refine tH 3 96 ?_ ?_ ?_;rotate_left
 ·intro w hSw
  go_simp
  try with_reducible rfl
 try simp only [zP]
 refine tH 4 97 ?_ ?_ ?_;rotate_left
 ·intro w hSw
  go_simp
  try with_reducible rfl
 try simp only [zP]
 refine tH 5 98 ?_ ?_ ?_;rotate_left
 ·intro w hSw
  have q3 : w.cell? ⟨g, 4, none⟩ = some (.int .i64 (x.i.b)) := hSw.1 4 (by omega)
  rw [HXB.out] at q3
  go_simp
  try with_reducible rfl
 try simp only [zP]
 refine tH 6 99 ?_ ?_ ?_;rotate_left
 ·intro w hSw
  go_simp
  try with_reducible rfl
 try simp only [zP]
 refine tH 7 100 ?_ ?_ ?_;rotate_left
 ·intro w hSw
  go_simp
  try with_reducible rfl
 try simp only [zP]
 refine tH 8 101 ?_ ?_ ?_;rotate_left
 ·intro w hSw
  go_simp
  try with_reducible rfl
 try simp only [zP]
 refine tH 9 102 ?_ ?_ ?_;rotate_left
 ·intro w hSw
  go_simp
  try with_reducible rfl
 try simp only [zP]
 refine zR 10 fun K hK => ?_
 have qz0 := (HB3.out).cell (16 + bb)
 rw [ac_reg _ _ HLT.out] at qz0
 have qz1 : w3.drew.cell? ⟨g, 16 + bb, none⟩ = _ := qz0
 have qf := (HB3.out).free (16 + bb)
 have qf1 : w3.drew.frozen? ⟨g, 16 + bb, none⟩ = false := qf
 go_simp
 refine hK.out _ _ ?_ (fun hHeld => ?_)
 ·exact ⟨low_regs (r := (x).regs.set bb ((j : Int))) (low_of (by have hb4 := (show Blk w3.drew g 131 _ from HB3.out).put (16 + bb) (.int .i64 ((j : Int))); rw [ac_set _ _ _ HLT.out] at hb4; exact hb4)), .inr trivial⟩
 clear hK K
 try simp only [zP]
 refine wpAnyH_done (by kernel_rfl) ?_ _
 have hb4 := (show Blk w3.drew g 131 _ from HB3.out).put (16 + bb) (.int .i64 ((j : Int)))
 have ht4 : Turns (fun k => k = g) w3 (w3.drew.setCell ⟨g, 16 + bb, none⟩ (.int .i64 ((j : Int)))) := ((Turns.refl (fun k => k = g) w3).drew).setCell (p := ⟨g, 16 + bb, none⟩) (fun _ => rfl) _
 rw [ac_set _ _ _ HLT.out] at hb4
 have HE := zh (And.intro hb4 ht4)
 clear hb4 ht4 hHeld
 go_wp2_with fail
 go_end0
 exact ⟨rfl, o, HW3.out.turns (CXs.ext b k) HE.out.2 (fun q hq e => HG.out (by rw [← show q = g from e]; exact hq)), (AStp.made HM3.out).set HE.out.2, HE.out.1⟩
theorem acask_30 {w : World} {b : Wp} {o : Nat → Nat} {ps : List (List Ins)} {s : Wst} {k : Cs} {g a bb i : Nat} {x : Ac} {y : Cx} {cc : Nat} (h : WW (CXs b k) w b o ps s) (hb : Blk w g 131 (acA b.pb x)) (hg : ¬ Own o g) (hop : x.i.op = 30) (hxa : x.i.a = a) (hxb : x.i.b = bb) (ha : a < 8) (hbb : bb < 8) (hi : x.was.get a = i) (hy : k.cs[i]? = some y) (hn : k.cs.length ≤ 60) (hxc : x.i.c = cc) (hcc : cc < 8) :
  Calls Tryz.prog 87 #[.pointer (some ⟨g, 0, none⟩)] w fun e w' => e = .returned (.tuple #[]) ∧ ∃ o', WW (CXs b k) w' b o' ps s ∧ AStp w w' o o' g ∧ Blk w' g 131 (acA b.pb { x with regs := (x.regs.set bb y.when).set cc (bitZ y.has) }) := by
 have HB := zh hb
 have HX := zh (And.intro hxb (And.intro hop hi))
 have HXB := zh hxb
 have HG := zh hg
 have HGL := zh hb.lt
 have HLT := zh hbb
 have HY := zh (And.intro hy hn)
 have jb1 : (0 : Int) ≤ (bb : Int) := by omega
 have jb2 : (bb : Int) < 8 := by omega
 have HBD := zh (hb.turns (zT w).drew (fun h => h))
 have HWD := zh (h.made (CXs.ext b k) (zT w).drew)
 have HAC := zh (aca_c HBD.out hxa ha)
 have HXC := zh hxc
 have HLC := zh hcc
 have jc1 : (0 : Int) ≤ (cc : Int) := by omega
 have jc2 : (cc : Int) < 8 := by omega
 clear hxc hcc
 obtain ⟨dd, hdd⟩ : ∃ dd, dd = y.has := ⟨_, rfl⟩
 rw [← hdd]
 obtain ⟨bz, hbz⟩ : ∃ bz, bz = bitZ dd := ⟨_, rfl⟩
 rw [← hbz]
 have HBT := zh (fun ww => (show Calls Tryz.prog 117 #[.bool dd] ww (fun e w' => e = .returned (.int .i64 bz) ∧ ww = w') from by rw [hbz]; exact bit_c dd ww))
 have HDD := zh hdd
 clear hbz hdd
 clear h hb hg hop hxa hxb ha hbb hi hy hn
 go_enter Tryz.func87, Tryz.ntmps87
 go_upto_region 0 with fail
 refine wp_region_held_drew (S := fun w' => Low w' g b.pb x ∧ w'.cell? ⟨b.pb, 6, none⟩ = some (.pointer (some ⟨b.px, 0, none⟩))) (by kernel_rfl) ?_ (fun hHeld => ?_)
 ·exact ⟨low_of HBD.out, HWD.out.cell6⟩
 refine tH 0 11 ?_ ?_ ?_;rotate_left
 ·intro w hSw
  go_simp
  try with_reducible rfl
 try simp only [zP]
 refine tH 1 12 ?_ ?_ ?_;rotate_left
 ·intro w hSw
  go_simp
  try with_reducible rfl
 try simp only [zP]
 refine tH 2 13 ?_ ?_ ?_;rotate_left
 ·intro w hSw
  go_simp
  try with_reducible rfl
 try simp only [zP]
 refine tH 3 14 ?_ ?_ ?_;rotate_left
 ·intro w hSw
  have q3 : w.cell? ⟨g, 0, none⟩ = some (.pointer (some ⟨b.pb, 0, none⟩)) := hSw.1 0 (by omega)
  go_simp
  try with_reducible rfl
 try simp only [zP]
 refine tH 4 15 ?_ ?_ ?_;rotate_left
 ·intro w hSw
  go_simp
  try with_reducible rfl
 try simp only [zP]
 refine tH 5 16 ?_ ?_ ?_;rotate_left
 ·intro w hSw
  go_simp
  try with_reducible rfl
 try simp only [zP]
 refine tH 6 17 ?_ ?_ ?_;rotate_left
 ·intro w hSw
  have q6 := hSw.2
  go_simp
  try with_reducible rfl
 try simp only [zP]
 refine tH 7 18 ?_ ?_ ?_;rotate_left
 ·intro w hSw
  go_simp
  try with_reducible rfl
 try simp only [zP]
 refine zR 8 fun K hK => ?_
 go_simp
 refine HAC.out.mono ?_
 rintro e w3 ⟨rfl, hm3⟩
 refine hK.out _ _ ?_ (fun hHeld => ?_)
 ·exact ⟨low_of (HBD.out.turns hm3 (fun h => h)), (HWD.out.made (CXs.ext b k) hm3).cell6⟩
 clear hK K
 try simp only [zP]
 refine tH 9 2 ?_ ?_ ?_;rotate_left
 ·intro w hSw
  go_simp
  try with_reducible rfl
 try simp only [zP]
 refine tH 10 3 ?_ ?_ ?_;rotate_left
 ·intro w hSw
  go_simp
  try with_reducible rfl
 try simp only [zP]
 refine wpAnyH_done (by kernel_rfl) ?_ _
 rw [HX.out.2.2]
 have HM3 : Hid (Made w w3) := zh ((zT w).drew.trans hm3)
 have HB3 := zh (HB.out.turns HM3.out (fun h => h))
 have HW3 := zh (HWD.out.made (CXs.ext b k) hm3)
 have q2 : w3.cell? ⟨g, 2, none⟩ = some (.int .i64 x.i.op) := HB3.out.cell 2
 rw [HX.out.2.1] at q2
 have q0 : w3.cell? ⟨g, 0, none⟩ = some (.pointer (some ⟨b.pb, 0, none⟩)) := HB3.out.cell 0
 obtain ⟨vl3, hcx3⟩ := HW3.out.ctx
 have hun := cxuntil_c hcx3 HY.out.1 HY.out.2
 rw [← HDD.out] at hun
 have HER := zh hun
 clear hun
 clear hHeld hm3 hcx3
 go_wp2_with fail
 refine HER.out.mono ?_
 rintro e w4 ⟨rfl, hm4⟩
 have HM4 : Hid (Made w w4) := zh (HM3.out.trans hm4)
 have HB4 := zh (HB3.out.turns hm4 (fun h => h))
 have HW4 := zh (HW3.out.made (CXs.ext b k) hm4)
 clear hm4 q0 q2
 go_upto_region 6 with fail
 refine wp_region_held_drew (S := fun w' => Low w' g b.pb (x) ∧ (w' = w4.drew ∨ True)) (by kernel_rfl) ?_ (fun hHeld => ?_)
 ·exact ⟨low_of (HB4.out), .inr trivial⟩
 refine tH 0 34 ?_ ?_ ?_;rotate_left
 ·intro w hSw
  go_simp
  try with_reducible rfl
 try simp only [zP]
 refine tH 1 35 ?_ ?_ ?_;rotate_left
 ·intro w hSw
  go_simp
  try with_reducible rfl
 try simp only [zP]
 refine tH 2 36 ?_ ?_ ?_;rotate_left
 ·intro w hSw
  go_simp
  try with_reducible rfl
 try simp only [zP]
 refine tH 3 37 ?_ ?_ ?_;rotate_left
 ·intro w hSw
  go_simp
  try with_reducible rfl
 try simp only [zP]
 refine tH 4 38 ?_ ?_ ?_;rotate_left
 ·intro w hSw
  go_simp
  try with_reducible rfl
 try simp only [zP]
 refine tH 5 39 ?_ ?_ ?_;rotate_left
 ·intro w hSw
  have q3 : w.cell? ⟨g, 4, none⟩ = some (.int .i64 (x.i.b)) := hSw.1 4 (by omega)
  rw [HXB.out] at q3
  go_simp
  try with_reducible rfl
 try simp only [zP]
 refine tH 6 40 ?_ ?_ ?_;rotate_left
 ·intro w hSw
  go_simp
  try with_reducible rfl
 try simp only [zP]
 refine tH 7 41 ?_ ?_ ?_;rotate_left
 ·intro w hSw
  go_simp
  try with_reducible rfl
 try simp only [zP]
 refine tH 8 42 ?_ ?_ ?_;rotate_left
 ·intro w hSw
  go_simp
  try with_reducible rfl
 try simp only [zP]
 refine tH 9 43 ?_ ?_ ?_;rotate_left
 ·intro w hSw
  go_simp
  try with_reducible rfl
 try simp only [zP]
 refine zR 10 fun K hK => ?_
 have qz0 := (HB4.out).cell (16 + bb)
 rw [ac_reg _ _ HLT.out] at qz0
 have qz1 : w4.drew.cell? ⟨g, 16 + bb, none⟩ = _ := qz0
 have qf := (HB4.out).free (16 + bb)
 have qf1 : w4.drew.frozen? ⟨g, 16 + bb, none⟩ = false := qf
 go_simp
 refine hK.out _ _ ?_ (fun hHeld => ?_)
 ·exact ⟨low_regs (r := (x).regs.set bb (y.when)) (low_of (by have hb4 := (show Blk w4.drew g 131 _ from HB4.out).put (16 + bb) (.int .i64 (y.when)); rw [ac_set _ _ _ HLT.out] at hb4; exact hb4)), .inr trivial⟩
 clear hK K
 try simp only [zP]
 refine wpAnyH_done (by kernel_rfl) ?_ _
 have hb4 := (show Blk w4.drew g 131 _ from HB4.out).put (16 + bb) (.int .i64 (y.when))
 have ht4 : Turns (fun k => k = g) w4 (w4.drew.setCell ⟨g, 16 + bb, none⟩ (.int .i64 (y.when))) := ((Turns.refl (fun k => k = g) w4).drew).setCell (p := ⟨g, 16 + bb, none⟩) (fun _ => rfl) _
 rw [ac_set _ _ _ HLT.out] at hb4
 clear hb4 ht4 hHeld
 have hb4 := HB4.out.put (16 + bb) (.int .i64 y.when)
 have ht4 : Turns (fun k => k = g) w4 (w4.setCell ⟨g, 16 + bb, none⟩ (.int .i64 y.when)) := (Turns.refl (fun k => k = g) w4).setCell (p := ⟨g, 16 + bb, none⟩) (fun _ => rfl) _
 rw [ac_set _ _ _ HLT.out] at hb4
 generalize w4.setCell ⟨g, 16 + bb, none⟩ (.int .i64 y.when) = W8 at *
 have HB8 := zh (hb4.turns (zT W8).drew (fun h => h))
 have HT8 := zh ht4.drew
 clear hb4 ht4
 have HA8 := zh ((AStp.made (o := o) (g := g) HM4.out).set HT8.out)
 have HW8 := zh (HW4.out.turns (CXs.ext b k) HT8.out (fun q hq e => HG.out (by rw [← show q = g from e]; exact hq)))
 have HLT0 := zh HLT.out
 have HLT := zh HLC.out
 go_upto_region 7 with fail
 refine wp_region_held_drew (S := fun w' => Low w' g b.pb ({ x with regs := x.regs.set bb y.when }) ∧ (w' = W8.drew.drew ∨ True)) (by kernel_rfl) ?_ (fun hHeld => ?_)
 ·exact ⟨low_of (HB8.out), .inr trivial⟩
 refine tH 0 44 ?_ ?_ ?_;rotate_left
 ·intro w hSw
  go_simp
  try with_reducible rfl
 try simp only [zP]
 refine tH 1 45 ?_ ?_ ?_;rotate_left
 ·intro w hSw
  go_simp
  try with_reducible rfl
 try simp only [zP]
 refine tH 2 46 ?_ ?_ ?_;rotate_left
 ·intro w hSw
  go_simp
  try with_reducible rfl
 try simp only [zP]
 refine tH 3 47 ?_ ?_ ?_;rotate_left
 ·intro w hSw
  go_simp
  try with_reducible rfl
 try simp only [zP]
 refine tH 4 48 ?_ ?_ ?_;rotate_left
 ·intro w hSw
  go_simp
  try with_reducible rfl
 try simp only [zP]
 refine tH 5 49 ?_ ?_ ?_;rotate_left
 ·intro w hSw
  have q3 : w.cell? ⟨g, 5, none⟩ = some (.int .i64 (x.i.c)) := hSw.1 5 (by omega)
  rw [HXC.out] at q3
  go_simp
  try with_reducible rfl
 try simp only [zP]
 refine tH 6 50 ?_ ?_ ?_;rotate_left
 ·intro w hSw
  go_simp
  try with_reducible rfl
 try simp only [zP]
 refine tH 8 52 ?_ ?_ ?_;rotate_left
 ·intro w hSw
  go_simp
  try with_reducible rfl
 try simp only [zP]
 refine tH 9 53 ?_ ?_ ?_;rotate_left
 ·intro w hSw
  go_simp
  try with_reducible rfl
 try simp only [zP]
 refine zR 7 fun K hK => ?_
 go_simp
 refine (HBT.out _).mono ?_
 rintro e w9 ⟨rfl, rfl⟩
 refine hK.out _ _ ?_ (fun hHeld => ?_)
 ·exact hHeld
 clear hK K
 try simp only [zP]
 refine tH 10 54 ?_ ?_ ?_;rotate_left
 ·intro w hSw
  go_simp
  try with_reducible rfl
 try simp only [zP]
 refine zR 11 fun K hK => ?_
 have qz0 := (HB8.out).cell (16 + cc)
 rw [ac_reg _ _ HLT.out] at qz0
 have qz1 : W8.drew.drew.cell? ⟨g, 16 + cc, none⟩ = _ := qz0
 have qf := (HB8.out).free (16 + cc)
 have qf1 : W8.drew.drew.frozen? ⟨g, 16 + cc, none⟩ = false := qf
 go_simp
 refine hK.out _ _ ?_ (fun hHeld => ?_)
 ·exact ⟨low_regs (r := ({ x with regs := x.regs.set bb y.when }).regs.set cc (bz)) (low_of (by have hb4 := (show Blk W8.drew.drew g 131 _ from HB8.out).put (16 + cc) (.int .i64 (bz)); rw [ac_set _ _ _ HLT.out] at hb4; exact hb4)), .inr trivial⟩
 clear hK K
 try simp only [zP]
 refine wpAnyH_done (by kernel_rfl) ?_ _
 have hb4 := (show Blk W8.drew.drew g 131 _ from HB8.out).put (16 + cc) (.int .i64 (bz))
 have ht4 : Turns (fun k => k = g) W8.drew (W8.drew.drew.setCell ⟨g, 16 + cc, none⟩ (.int .i64 (bz))) := ((Turns.refl (fun k => k = g) W8.drew).drew).setCell (p := ⟨g, 16 + cc, none⟩) (fun _ => rfl) _
 rw [ac_set _ _ _ HLT.out] at hb4
 have HE := zh (And.intro hb4 ht4)
 clear hb4 ht4 hHeld
 go_wp2_with fail
 refine acbad_0.mono ?_
 rintro e w9 ⟨rfl, rfl⟩
 go_wp2_with fail
 first | go_ret | go_returns | go_end0
 exact ⟨rfl, o, HW8.out.turns (CXs.ext b k) HE.out.2 (fun q hq e => HG.out (by rw [← show q = g from e]; exact hq)), HA8.out.set HE.out.2, HE.out.1⟩
theorem acdo_26 {w : World} {b : Wp} {o : Nat → Nat} {ps : List (List Ins)} {s s2 : Wst} {k k2 : Cs} {g a bb i : Nat} {x : Ac} {err cause : Int} {ys : List (Nat × List Wk)} (h : WW (CXs b k) w b o ps s) (hb : Blk w g 131 (acA b.pb x)) (hg : ¬ Own o g) (hop : x.i.op = 26) (hxa : x.i.a = a) (hxb : x.i.b = bb) (ha : a < 8) (hbb : bb < 8) (hi : x.was.get a = i) (hca : x.was.get bb = cause)
  (hc : ∀ w1, WW (CXs b k) w1 b o ps s → Calls Tryz.prog 83 #[.pointer (some ⟨b.px, 0, none⟩), .int .i64 i, .int .i64 cause] w1 fun e w' => ∃ v, e = .returned (.tuple #[v, .slice none 0 0, .int .i64 0]) ∧ ∃ o', WW (CXs b k2) w' b o' ps s2 ∧ LpOut w' o' err cause v ys ∧ Stp w1 w' (Own o) (Own o')) (hyl : ys.length ≤ 1000) (hok : LapOK err cause ys s2) :
  Calls Tryz.prog 50 #[.pointer (some ⟨g, 0, none⟩)] w fun e w' => e = .returned (.tuple #[]) ∧ ∃ o', WW (CXs b k2) w' b o' ps (lapS err cause ys s2) ∧ AStp w w' o o' g ∧ Blk w' g 131 (acA b.pb x) := by
 have q2 : w.cell? ⟨g, 2, none⟩ = some (.int .i64 x.i.op) := hb.cell 2
 rw [hop] at q2
 have HB := zh hb
 have HX := zh (And.intro hxb (And.intro hi hca))
 have HG := zh hg
 have HGL := zh hb.lt
 have HLT := zh hbb
 have HCC := zh hc
 have HOK := zh (And.intro hyl hok)
 have HBD := zh (hb.turns (zT w).drew (fun h => h))
 have HWD := zh (h.made (CXs.ext b k) (zT w).drew)
 have HAA := zh (aca_c HBD.out hxa ha)
 clear h hb hg hop hxa hxb ha hbb hi hca hc hyl hok
 go_enter Tryz.func50, Tryz.ntmps50
 go_upto_region 17 with fail
 refine wp_region_held_drew (S := fun w' => Low w' g b.pb x ∧ w'.cell? ⟨b.pb, 6, none⟩ = some (.pointer (some ⟨b.px, 0, none⟩))) (by kernel_rfl) ?_ (fun hHeld => ?_)
 ·exact ⟨low_of HBD.out, HWD.out.cell6⟩
 refine tH 0 68 ?_ ?_ ?_;rotate_left
 ·intro w hSw
  go_simp
  try with_reducible rfl
 try simp only [zP]
 refine tH 1 69 ?_ ?_ ?_;rotate_left
 ·intro w hSw
  go_simp
  try with_reducible rfl
 try simp only [zP]
 refine tH 2 70 ?_ ?_ ?_;rotate_left
 ·intro w hSw
  go_simp
  try with_reducible rfl
 try simp only [zP]
 refine tH 3 71 ?_ ?_ ?_;rotate_left
 ·intro w hSw
  have q3 : w.cell? ⟨g, 0, none⟩ = some (.pointer (some ⟨b.pb, 0, none⟩)) := hSw.1 0 (by omega)
  go_simp
  try with_reducible rfl
 try simp only [zP]
 refine tH 4 72 ?_ ?_ ?_;rotate_left
 ·intro w hSw
  go_simp
  try with_reducible rfl
 try simp only [zP]
 refine tH 5 73 ?_ ?_ ?_;rotate_left
 ·intro w hSw
  go_simp
  try with_reducible rfl
 try simp only [zP]
 refine tH 6 74 ?_ ?_ ?_;rotate_left
 ·intro w hSw
  have q6 := hSw.2
  go_simp
  try with_reducible rfl
 try simp only [zP]
 refine tH 7 75 ?_ ?_ ?_;rotate_left
 ·intro w hSw
  go_simp
  try with_reducible rfl
 try simp only [zP]
 refine tH 9 77 ?_ ?_ ?_;rotate_left
 ·intro w hSw
  go_simp
  try with_reducible rfl
 try simp only [zP]
 refine zR 8 fun K hK => ?_
 go_simp
 refine HAA.out.mono ?_
 rintro e w3 ⟨rfl, hm3⟩
 have HB3 := zh (HBD.out.turns hm3 (fun h => h))
 have HW3 := zh (HWD.out.made (CXs.ext b k) hm3)
 have HAB := zh (acb_c HB3.out HX.out.1 HLT.out)
 refine hK.out _ _ ?_ (fun hHeld => ?_)
 ·exact ⟨low_of HB3.out, HW3.out.cell6⟩
 clear hK K
 try simp only [zP]
 refine zR 10 fun K hK => ?_
 go_simp
 refine HAB.out.mono ?_
 rintro e w4 ⟨rfl, hm4⟩
 have HB4 := zh (HB3.out.turns hm4 (fun h => h))
 have HW4 := zh (HW3.out.made (CXs.ext b k) hm4)
 refine hK.out _ _ ?_ (fun hHeld => ?_)
 ·exact ⟨low_of HB4.out, HW4.out.cell6⟩
 clear hK K
 try simp only [zP]
 refine zR 11 fun K hK => ?_
 have hcc := HCC.out w4 HW4.out
 have he1 := HX.out.2.1
 have he2 := HX.out.2.2
 go_simp
 try rw [he1]
 try rw [he2]
 refine hcc.mono ?_
 rintro e w5 ⟨v5, rfl, o5, hw5, hlp5, hs5⟩
 clear hcc he1 he2
 refine hK.out _ _ ?_ (fun hHeld => ?_)
 ·exact ⟨low_of (HB4.out.turns hs5.t HG.out), hw5.cell6⟩
 clear hK K
 try simp only [zP]
 refine tH 12 67 ?_ ?_ ?_;rotate_left
 ·intro w hSw
  go_simp
  try with_reducible rfl
 try simp only [zP]
 refine tH 13 80 ?_ ?_ ?_;rotate_left
 ·intro w hSw
  go_simp
  try with_reducible rfl
 try simp only [zP]
 refine tH 14 81 ?_ ?_ ?_;rotate_left
 ·intro w hSw
  go_simp
  try with_reducible rfl
 try simp only [zP]
 refine tH 15 82 ?_ ?_ ?_;rotate_left
 ·intro w hSw
  go_simp
  try with_reducible rfl
 try simp only [zP]
 refine tH 16 3 ?_ ?_ ?_;rotate_left
 ·intro w hSw
  go_simp
  try with_reducible rfl
 try simp only [zP]
 refine tH 17 4 ?_ ?_ ?_;rotate_left
 ·intro w hSw
  go_simp
  try with_reducible rfl
 try simp only [zP]
 refine tH 18 5 ?_ ?_ ?_;rotate_left
 ·intro w hSw
  go_simp
  try with_reducible rfl
 try simp only [zP]
 refine wpAnyH_done (by kernel_rfl) ?_ _
 have HM4 : Hid (Made w w4) := zh (((zT w).drew.trans hm3).trans hm4)
 have HB5 := zh (HB4.out.turns hs5.t HG.out)
 have HA5 := zh (AStp.of g ((Stp.made (F := Own o) HM4.out).trans hs5))
 have HG5 := zh (show ¬ Own o5 g from HA5.out.no HG.out HGL.out)
 have HLP := zh (wlapse_c (CXs.ext b k2) hw5 hlp5 HOK.out.1 HOK.out.2)
 have q0 : w5.cell? ⟨g, 0, none⟩ = some (.pointer (some ⟨b.pb, 0, none⟩)) := HB5.out.cell 0
 clear hHeld hm3 hm4 hw5 hlp5 hs5 q2
 go_wp2_with fail
 refine acbad_0.mono ?_
 rintro e w5b ⟨rfl, rfl⟩
 go_wp2_with fail
 refine HLP.out.mono ?_
 rintro e w9 ⟨rfl, o9, hw9, hs9⟩
 have HF := zh (And.intro hw9 hs9)
 clear hw9 hs9 q0
 go_wp2_with fail
 go_end0
 exact ⟨rfl, o9, HF.out.1, HA5.out.then HF.out.2, HB5.out.turns HF.out.2.t HG5.out⟩
theorem wrun_actx {κ : Type} {CX : κ → World → (Nat → Prop) → Prop} {k0 : κ} {w : World} {b : Wp} {o : Nat → Nat} {ps : List (List Ins)} {s : Wst} {n d : Int} {j i pg pc : Nat} {x : Tsk} {p : List Ins} {ins : Ins} {Q : κ → Wst → Ac → Prop} (hx : ∀ k, Ext (CX k)) (h : WW (CX k0) w b o ps s) (hsl : Sel ps s n j i x p pg pc) (hins : p[pc]? = some ins) (hrl : s.rd.length ≤ 1000) (hnl : s.nl < 900000)
  (hl : ∀ (w1 : World) (a : Option Addr) (ci : Nat), RowIn insC 6 w1 a p.length p → Calls Tryz.prog 48 #[.slice a p.length ci, .int .i64 pc, regV x.regs, .int .i64 s.now] w1 fun e w' => e = .returned (.tuple #[.agg (outA ⟨0, ⟨0, 0, 0, 0, 0, 0, 0, 0⟩, false, 0, false⟩), .int .i64 7]) ∧ Made w1 w')
  (ha : ∀ (w1 : World) (o1 : Nat → Nat) (g : Nat), WW (CX k0) w1 b o1 ps { s with nl := s.nl + 1 } → Blk w1 g 131 (acA b.pb ⟨i, ins, x.regs, x.regs, d, 0, false⟩) → ¬ Own o1 g → Calls Tryz.prog 50 #[.pointer (some ⟨g, 0, none⟩)] w1 fun e w' => e = .returned (.tuple #[]) ∧ ∃ o' k2 s2 x2, Q k2 s2 x2 ∧ WW (CX k2) w' b o' ps s2 ∧ AStp w1 w' o1 o' g ∧ Blk w' g 131 (acA b.pb x2))
  (hq : ∀ k2 s2 x2, Q k2 s2 x2 → FinOK s2 i x x2) :
  Calls Tryz.prog 26 #[.pointer (some ⟨b.pb, 0, none⟩), .int .i64 n, .int .i64 d] w fun e w' => e = .returned (.tuple #[]) ∧ ∃ o' k2 s2 x2, Q k2 s2 x2 ∧ WW (CX k2) w' b o' ps (finS s2 i x x2) ∧ Stp w w' (Own o) (Own o') := by
 obtain ⟨i0, hi0, hz0, hz1, hz2⟩ := info_parts Tryz.infoLk
 have HLD := zh hl
 have HAC := zh ha
 have HQQ := zh hq
 have HIN := zh hins
 clear hl ha hq hins
 have HXX := zh hx
 have HH := zh h
 have q2 := h.cell2
 have HRL := zh hrl
 have HNL := zh hnl
 have HSL := zh hsl
 have HRY : Hid _ := zh (show Calls Tryz.prog 46 #[.pointer (some ⟨b.pt, 0, none⟩)] w _ from by obtain ⟨vp, vc, vl, ve, h1⟩ := h; exact tabready_c h1.tab hrl)
 clear h hx hrl hnl hsl
 go_enter Tryz.func26, Tryz.ntmps26
 go_wp2_with fail
 refine HRY.out.mono ?_
 rintro e w1 ⟨v1, rfl, hro1, hm1, hrf1⟩
 have HM1 := zh hm1
 have HW1 := zh (HH.out.made (HXX.out _) hm1)
 obtain ⟨a1, c1, rfl⟩ := owns_slice hro1
 have HR1 := zh (And.intro hro1 hrf1)
 have q2 := HW1.out.cell2
 clear hm1 hro1 hrf1
 have HPK : Hid _ := zh (show Calls Tryz.prog 47 #[.pointer (some ⟨b.pt, 0, none⟩), .int .i64 n] w1 _ from by obtain ⟨vp, vc, vl, ve, h1⟩ := HW1.out; exact tabpick_c n h1.tab HSL.out.hj HSL.out.hi HRL.out)
 go_wp2_with fail
 refine HPK.out.mono ?_
 rintro e w2 ⟨rfl, hm2⟩
 have HW2 := zh (HW1.out.made (HXX.out _) hm2)
 have HM2 := zh (HM1.out.trans hm2)
 have q2 := HW2.out.cell2
 clear hm2
 obtain ⟨vp, vc, vl, ve, h2⟩ := HW2.out
 obtain ⟨ls, hl1, hl2⟩ := h2.lrow
 have HL1 := zh hl1
 have q8 : w2.cell? ⟨b.pb, 8, none⟩ = some vl := h2.blk.cell 8
 have HMX := zh ((zT w2).alloc (.cells (lkC ⟨(a1, s.rd.length, c1), (i : Int)⟩).toArray 123))
 have HBX := zh (Blk.new w2 123 (lkC ⟨(a1, s.rd.length, c1), (i : Int)⟩).toArray)
 have HOX := zh (hl2.made HMX.out)
 have HA2 := zh h2
 have HLL := zh (show ls.length + 1 ≤ 1000000 from by rw [hl1]; have := HNL.out; omega)
 clear h2 hl1 hl2
 go_wp2_with (at_builtin; refine wpList_push rfl (.tmp 46) (.tmp 50) _ rfl i0 _ 32 Tryz.underlying63 hi0 hz0 hz1 hz2 rfl (by omega) lkC_len lkC_one rfl HOX.out ⟨(a1, s.rd.length, c1), (i : Int)⟩ rfl HBX.out HLL.out (by omega) ?_; intro v3 w3 hO3 hT3 hV3; have hb3 := (HA2.out.blk.turns HMX.out (fun h => h)).turns hT3 (fun e => by have h9 := (HA2.out.lo _).1 e; rw [HA2.out.ob] at h9; omega); have HR := zh (HA2.out.pushLk (HXX.out _) HL1.out HMX.out hO3 hT3 hV3); obtain ⟨a3, c3, rfl⟩ := owns_slice hO3; have r8 := hb3.cell 8; have f8 := hb3.free 8; have r2 := hb3.cell 2; simp only [zG] at r8 r2; clear hO3 hT3 hV3 hb3)
 obtain ⟨o3, hw3, hs3⟩ := HR.out
 simp only [List.length_append, List.length_cons, List.length_nil, Nat.zero_add] at hw3 hs3
 have HW3 := zh (show WW (CX k0) _ b o3 ps { s with nl := s.nl + 1 } from ⟨_, _, _, _, hw3⟩)
 have HS3 := zh ((Stp.made (F := Own o) HM2.out).trans hs3)
 have HGT := zh (tabget_c hw3.tab HSL.out.hx HSL.out.tl)
 clear hw3 hs3 HR r2 r8 f8 q8 q2
 generalize w3.setCell ⟨b.pb, 8, none⟩ (.slice a3 (ls.length + 1) c3) = W3 at *
 refine HGT.out.mono ?_
 rintro e w4 ⟨rfl, hm4⟩
 have HW4 := zh (HW3.out.made (HXX.out _) hm4)
 have HS4 := zh (HS3.out.then_made hm4)
 have HN4 := zh (show ¬ Own o3 w4.heap.size from fun h0 => absurd (HW4.out.lt _ h0) (Nat.lt_irrefl _))
 clear hm4
 go_upto_region 6 with (first
  | (refine wpList_store_blk (o := ⟨none, .store 38 (.tmp 9) (.tmp 61), _, _, _, _⟩) rfl _ _ _ rfl rfl _ rfl (tskC x) ([.int .i64 0, .int .i64 0, .int .i64 0, .int .i64 0, .int .i64 0, .int .i64 0, .int .i64 0, .int .i64 0, .int .i64 0, .int .i64 0, .int .i64 0, .int .i64 0, .int .i64 0, .int .i64 0, .int .i64 0, .int .i64 0, .slice none 0 0, .bool false]) 38 rfl (Blk.new _ _ _) rfl (tskC_one x) Tryz.sizeTsk ?_; intro w5 hb5 ht5; have HB5 := zh hb5; have HT5 := zh ht5; clear hb5 ht5)
  | fail)
 have HM5 := zh (show Made w4 w5 from ((zT w4).alloc _).then HT5.out (fun b hb e => by omega))
 obtain ⟨vp, vc5, vl5, ve5, hw5⟩ := HW4.out.made (HXX.out _) HM5.out
 obtain ⟨gp, cp, rfl, hog, hgl, hget⟩ := hw5.prs.ex
 obtain ⟨ap, ci, hcp, hrow, hown⟩ := hget pg p HSL.out.hps
 have HW5 := zh (show WW (CX k0) w5 b o3 ps { s with nl := s.nl + 1 } from ⟨_, _, _, _, hw5⟩)
 have HRW := zh hrow
 have qz0 : w5.cell? ⟨b.pb, 0, none⟩ = some (.slice (some ⟨gp, 0, none⟩) ps.length cp) := hw5.blk.cell 0
 have y0 : w5.cell? ⟨w4.heap.size, 0, none⟩ = some (.int .i64 x.prog) := HB5.out.cell 0
 rw [HSL.out.hp] at y0
 have hpg : pg < ps.length := (List.getElem?_eq_some_iff.1 HSL.out.hps).1
 have j1 : (0 : Int) ≤ (pg : Int) := by omega
 have j2 : (pg : Int) < (ps.length : Int) := by omega
 have HS5 := zh (HS4.out.then_made HM5.out)
 clear hw5 hog hgl hget hrow hown
 go_quiet (fail)
 go_upto_region 7 with fail
 have HWQ := zh (HW5.out.made (HXX.out _) ((Turns.refl _ w5).drewN nq))
 have HBQ := zh (HB5.out.turns ((zT w5).drewN nq) (fun h => h))
 have HRQ := zh (HRW.out.turns ((zT w5).drewN nq) (fun _ _ _ h => h))
 have HSQ := zh (HS5.out.then_made ((zT w5).drewN nq))
 have HPQ : Hid (w4.heap.size < (w5.drewN nq).heap.size) := zh HB5.out.lt
 clear y0 qz0 hcp HB5 HW5 HRW HS5 HM5
 generalize w5.drewN nq = W at *
 go_cut [12, 13] (fun v12 v13 wx => ∃ gO : Nat, v12 = .pointer (some ⟨gO, 0, none⟩) ∧ v13 = .int .i64 7 ∧ Made W wx ∧ Blk wx gO 125 (outA ⟨0, ⟨0, 0, 0, 0, 0, 0, 0, 0⟩, false, 0, false⟩) ∧ W.heap.size ≤ gO)
 case first =>
  refine wp_region_held_drew (S := fun w' => Blk w' w4.heap.size 38 (tskC x).toArray ∧ Made W w') (by kernel_rfl) ?_ (fun hHeld => ?_)
  ·exact ⟨HBQ.out, (zT W).drew⟩
  refine tH 0 72 ?_ ?_ ?_;rotate_left
  ·intro w hSw
   go_simp
   try with_reducible rfl
  try simp only [zP]
  refine tH 1 73 ?_ ?_ ?_;rotate_left
  ·intro w hSw
   go_simp
   try with_reducible rfl
  try simp only [zP]
  refine tH 2 74 ?_ ?_ ?_;rotate_left
  ·intro w hSw
   have q0 := hSw.1.cell 1
   simp only [tskC, zG] at q0
   rw [HSL.out.hpc] at q0
   go_simp
   try with_reducible rfl
  try simp only [zP]
  refine tH 3 75 ?_ ?_ ?_;rotate_left
  ·intro w hSw
   go_simp
   try with_reducible rfl
  try simp only [zP]
  refine tH 4 76 ?_ ?_ ?_;rotate_left
  ·intro w hSw
   refine exec_load_at (P := Tryz.prog) (x := .tmp 75) (n := 4) (cs := [.int .i64 x.regs.r0, .int .i64 x.regs.r1, .int .i64 x.regs.r2, .int .i64 x.regs.r3, .int .i64 x.regs.r4, .int .i64 x.regs.r5, .int .i64 x.regs.r6, .int .i64 x.regs.r7]) ?_ ?_ (fun j v hv => by have hj : j < 8 := (List.getElem?_eq_some_iff.1 hv).1; refine (hSw.1.cell (4 + j)).trans ?_; rw [← hv]; rcases lt8 hj with rfl | rfl | rfl | rfl | rfl | rfl | rfl | rfl <;> rfl) Tryz.underlying36 ?_ Tryz.sizeReg <;> rfl
  try simp only [zP]
  refine tH 5 77 ?_ ?_ ?_;rotate_left
  ·intro w hSw
   go_simp
   try with_reducible rfl
  try simp only [zP]
  refine wpAnyH_ready (rs := [6, 11]) (by kernel_rfl) (by simp) ?_
  refine AllReadyH.cons rfl (fun K hK => ?_) ?_
  ·as_aux_lemma =>
    go_simp
    refine (wnow_c (HWQ.out.made (HXX.out _) hHeld.2)).mono ?_
    rintro e wN ⟨rfl, rfl⟩
    refine hK.out _ _ ?_ (fun hHeld => ?_)
    ·exact hHeld
    clear hK K
    try simp only [zP]
    refine wpAnyH_ready (rs := [7, 11]) (by kernel_rfl) (by simp) ?_
    refine AllReadyH.cons rfl (fun K hK => ?_) ?_
    ·as_aux_lemma =>
      go_simp
      refine (HLD.out _ _ _ (HRQ.out.turns hHeld.2 (fun _ _ _ h => h))).mono ?_
      rintro e wG ⟨rfl, hmG⟩
      refine hK.out _ _ ?_ (fun hHeld => ?_)
      ·exact ⟨hHeld.1.turns hmG (fun h => h), hHeld.2.trans hmG⟩
      clear hK K
      try simp only [zP]
      refine tH 8 71 ?_ ?_ ?_;rotate_left
      ·intro w hSw
       go_simp
       try with_reducible rfl
      try simp only [zP]
      refine tH 9 80 ?_ ?_ ?_;rotate_left
      ·intro w hSw
       go_simp
       try with_reducible rfl
      try simp only [zP]
      refine tH 10 81 ?_ ?_ ?_;rotate_left
      ·intro w hSw
       go_simp
       try with_reducible rfl
      try simp only [zP]
      refine zR 11 fun K hK => ?_
      go_simp
      refine hK.out _ _ ?_ (fun hHeld => ?_)
      ·exact ⟨hHeld.1.alloc _, hHeld.2.alloc _⟩
      clear hK K
      try simp only [zP]
      have HZ := Blk.new wG 125 [.int .i64 0, .int .i64 0, .int .i64 0, .int .i64 0, .int .i64 0, .int .i64 0, .int .i64 0, .int .i64 0, .int .i64 0, .bool false, .int .i64 0, .bool false].toArray
      have HG6 : W.heap.size ≤ wG.heap.size := hmG.size
      refine zR 12 fun K hK => ?_
      refine step_store_mid rfl rfl _ _ _ (by rfl) (by rfl) (outC ⟨0, ⟨0, 0, 0, 0, 0, 0, 0, 0⟩, false, 0, false⟩) [] [.int .i64 0, .int .i64 0, .int .i64 0, .int .i64 0, .int .i64 0, .int .i64 0, .int .i64 0, .int .i64 0, .int .i64 0, .bool false, .int .i64 0, .bool false] [] (by rfl) (t := 125) (show Blk _ _ _ _ from by simpa using HZ) (by rfl) (by rfl) (outC_one _) Tryz.sizeOut ?_
      intro wS hbS htS
      refine hK.out _ _ ?_ (fun hHeld => ?_)
      ·exact ⟨hHeld.1.turns htS (fun e => by have := HPQ.out; omega), hHeld.2.then htS (fun k hk e => by omega)⟩
      clear hK K
      try simp only [zP]
      refine tH 13 13 ?_ ?_ ?_;rotate_left
      ·intro w hSw
       go_simp
       try with_reducible rfl
      try simp only [zP]
      refine wpAnyH_done (by kernel_rfl) ?_ _
      have HS := zh hHeld.2
      have HB6 : Hid (Blk wS _ 125 (outA ⟨0, ⟨0, 0, 0, 0, 0, 0, 0, 0⟩, false, 0, false⟩)) := zh (by simpa [outC] using hbS)
      have HG7 := zh HG6
      clear hHeld hbS htS HZ HG6
      go_wp2_with fail
      go_meet
      exact ⟨_, rfl, rfl, HS.out, HB6.out, HG7.out⟩
    refine AllReadyH.cons rfl (fun K hK => ?_) ?_
    ·as_aux_lemma =>
      go_simp
      refine hK.out _ _ ?_ (fun hHeld => ?_)
      ·exact ⟨hHeld.1.alloc _, hHeld.2.alloc _⟩
      clear hK K
      try simp only [zP]
      have HZ : Blk (W.drew.alloc (.cells [.int .i64 0, .int .i64 0, .int .i64 0, .int .i64 0, .int .i64 0, .int .i64 0, .int .i64 0, .int .i64 0, .int .i64 0, .bool false, .int .i64 0, .bool false].toArray 125)) W.drew.heap.size 125 [.int .i64 0, .int .i64 0, .int .i64 0, .int .i64 0, .int .i64 0, .int .i64 0, .int .i64 0, .int .i64 0, .int .i64 0, .bool false, .int .i64 0, .bool false].toArray := Blk.new W.drew 125 [.int .i64 0, .int .i64 0, .int .i64 0, .int .i64 0, .int .i64 0, .int .i64 0, .int .i64 0, .int .i64 0, .int .i64 0, .bool false, .int .i64 0, .bool false].toArray
      have HG6 : W.heap.size ≤ W.drew.heap.size := Nat.le_refl _
      refine zR 7 fun K hK => ?_
      go_simp
      refine (HLD.out _ _ _ (HRQ.out.turns hHeld.2 (fun _ _ _ h => h))).mono ?_
      rintro e wG ⟨rfl, hmG⟩
      refine hK.out _ _ ?_ (fun hHeld => ?_)
      ·exact ⟨hHeld.1.turns hmG (fun h => h), hHeld.2.trans hmG⟩
      clear hK K
      try simp only [zP]
      replace HZ := HZ.turns hmG (fun h => h)
      refine tH 8 71 ?_ ?_ ?_;rotate_left
      ·intro w hSw
       go_simp
       try with_reducible rfl
      try simp only [zP]
      refine tH 9 80 ?_ ?_ ?_;rotate_left
      ·intro w hSw
       go_simp
       try with_reducible rfl
      try simp only [zP]
      refine tH 10 81 ?_ ?_ ?_;rotate_left
      ·intro w hSw
       go_simp
       try with_reducible rfl
      try simp only [zP]
      refine zR 12 fun K hK => ?_
      refine step_store_mid rfl rfl _ _ _ (by rfl) (by rfl) (outC ⟨0, ⟨0, 0, 0, 0, 0, 0, 0, 0⟩, false, 0, false⟩) [] [.int .i64 0, .int .i64 0, .int .i64 0, .int .i64 0, .int .i64 0, .int .i64 0, .int .i64 0, .int .i64 0, .int .i64 0, .bool false, .int .i64 0, .bool false] [] (by rfl) (t := 125) (show Blk _ _ _ _ from by simpa using HZ) (by rfl) (by rfl) (outC_one _) Tryz.sizeOut ?_
      intro wS hbS htS
      refine hK.out _ _ ?_ (fun hHeld => ?_)
      ·exact ⟨hHeld.1.turns htS (fun e => by have := HPQ.out; omega), hHeld.2.then htS (fun k hk e => by omega)⟩
      clear hK K
      try simp only [zP]
      refine tH 13 13 ?_ ?_ ?_;rotate_left
      ·intro w hSw
       go_simp
       try with_reducible rfl
      try simp only [zP]
      refine wpAnyH_done (by kernel_rfl) ?_ _
      have HS := zh hHeld.2
      have HB6 : Hid (Blk wS _ 125 (outA ⟨0, ⟨0, 0, 0, 0, 0, 0, 0, 0⟩, false, 0, false⟩)) := zh (by simpa [outC] using hbS)
      have HG7 := zh HG6
      clear hHeld hbS htS HZ HG6
      go_wp2_with fail
      go_meet
      exact ⟨_, rfl, rfl, HS.out, HB6.out, HG7.out⟩
    exact AllReadyH.nil
  refine AllReadyH.cons rfl (fun K hK => ?_) ?_
  ·as_aux_lemma =>
    go_simp
    refine hK.out _ _ ?_ (fun hHeld => ?_)
    ·exact ⟨hHeld.1.alloc _, hHeld.2.alloc _⟩
    clear hK K
    try simp only [zP]
    have HZ : Blk (W.drew.alloc (.cells [.int .i64 0, .int .i64 0, .int .i64 0, .int .i64 0, .int .i64 0, .int .i64 0, .int .i64 0, .int .i64 0, .int .i64 0, .bool false, .int .i64 0, .bool false].toArray 125)) W.drew.heap.size 125 [.int .i64 0, .int .i64 0, .int .i64 0, .int .i64 0, .int .i64 0, .int .i64 0, .int .i64 0, .int .i64 0, .int .i64 0, .bool false, .int .i64 0, .bool false].toArray := Blk.new W.drew 125 [.int .i64 0, .int .i64 0, .int .i64 0, .int .i64 0, .int .i64 0, .int .i64 0, .int .i64 0, .int .i64 0, .int .i64 0, .bool false, .int .i64 0, .bool false].toArray
    have HG6 : W.heap.size ≤ W.drew.heap.size := Nat.le_refl _
    refine zR 6 fun K hK => ?_
    go_simp
    refine (wnow_c (HWQ.out.made (HXX.out _) hHeld.2)).mono ?_
    rintro e wN ⟨rfl, rfl⟩
    refine hK.out _ _ ?_ (fun hHeld => ?_)
    ·exact hHeld
    clear hK K
    try simp only [zP]
    refine zR 7 fun K hK => ?_
    go_simp
    refine (HLD.out _ _ _ (HRQ.out.turns hHeld.2 (fun _ _ _ h => h))).mono ?_
    rintro e wG ⟨rfl, hmG⟩
    refine hK.out _ _ ?_ (fun hHeld => ?_)
    ·exact ⟨hHeld.1.turns hmG (fun h => h), hHeld.2.trans hmG⟩
    clear hK K
    try simp only [zP]
    replace HZ := HZ.turns hmG (fun h => h)
    refine tH 8 71 ?_ ?_ ?_;rotate_left
    ·intro w hSw
     go_simp
     try with_reducible rfl
    try simp only [zP]
    refine tH 9 80 ?_ ?_ ?_;rotate_left
    ·intro w hSw
     go_simp
     try with_reducible rfl
    try simp only [zP]
    refine tH 10 81 ?_ ?_ ?_;rotate_left
    ·intro w hSw
     go_simp
     try with_reducible rfl
    try simp only [zP]
    refine zR 12 fun K hK => ?_
    refine step_store_mid rfl rfl _ _ _ (by rfl) (by rfl) (outC ⟨0, ⟨0, 0, 0, 0, 0, 0, 0, 0⟩, false, 0, false⟩) [] [.int .i64 0, .int .i64 0, .int .i64 0, .int .i64 0, .int .i64 0, .int .i64 0, .int .i64 0, .int .i64 0, .int .i64 0, .bool false, .int .i64 0, .bool false] [] (by rfl) (t := 125) (show Blk _ _ _ _ from by simpa using HZ) (by rfl) (by rfl) (outC_one _) Tryz.sizeOut ?_
    intro wS hbS htS
    refine hK.out _ _ ?_ (fun hHeld => ?_)
    ·exact ⟨hHeld.1.turns htS (fun e => by have := HPQ.out; omega), hHeld.2.then htS (fun k hk e => by omega)⟩
    clear hK K
    try simp only [zP]
    refine tH 13 13 ?_ ?_ ?_;rotate_left
    ·intro w hSw
     go_simp
     try with_reducible rfl
    try simp only [zP]
    refine wpAnyH_done (by kernel_rfl) ?_ _
    have HS := zh hHeld.2
    have HB6 : Hid (Blk wS _ 125 (outA ⟨0, ⟨0, 0, 0, 0, 0, 0, 0, 0⟩, false, 0, false⟩)) := zh (by simpa [outC] using hbS)
    have HG7 := zh HG6
    clear hHeld hbS htS HZ HG6
    go_wp2_with fail
    go_meet
    exact ⟨_, rfl, rfl, HS.out, HB6.out, HG7.out⟩
  exact AllReadyH.nil
 case rest =>
  obtain ⟨gO, rfl, rfl, hmC, hbO, hgO⟩ := hcut
  have HWC := zh (HWQ.out.made (HXX.out _) hmC)
  have HSC := zh (HSQ.out.then_made hmC)
  have HBC := zh (HBQ.out.turns hmC (fun h => h))
  obtain ⟨bp, off, rfl, hbp, hpl, -⟩ := ins_at (HRQ.out.turns hmC (fun _ _ _ h => h)) HIN.out
  have HLI : Hid (∀ w', Made wc w' → ∀ j v, (insC ins)[j]? = some v → w'.cell? ⟨bp, off + pc * 6 + j, none⟩ = some v) := zh (fun w' hm j v hv => by
   rcases (HRQ.out.turns hmC (fun _ _ _ h => h)).2 with h0 | ⟨b2, off2, e2, hb2, hli⟩
   ·have := (List.getElem?_eq_some_iff.1 HIN.out).1; omega
   ·cases e2
    exact (hm.cell (p := ⟨bp, off + pc * 6 + j, none⟩) hb2 (fun h => h)).trans (hli pc ins HIN.out j v hv))
  have j3 : (0 : Int) ≤ (pc : Int) := by omega
  have j4 : (pc : Int) < (p.length : Int) := by omega
  clear hmC hbO hgO hbp hpl
  go_wp2_with fail
  have HPB := zh HBC.out.lt
  have j3 : (0 : Int) ≤ (pc : Int) := by omega
  refine wp_region_held_drew (S := fun w' => Blk w' w4.heap.size 38 (tskC x).toArray ∧ Made wc w') (by kernel_rfl) ?_ (fun hHeld => ?_)
  ·exact ⟨HBC.out, (zT wc).drew⟩
  refine tH 0 88 ?_ ?_ ?_;rotate_left
  ·intro w hSw
   go_simp
   try with_reducible rfl
  try simp only [zP]
  refine tH 1 89 ?_ ?_ ?_;rotate_left
  ·intro w hSw
   go_simp
   try with_reducible rfl
  try simp only [zP]
  refine tH 2 90 ?_ ?_ ?_;rotate_left
  ·intro w hSw
   go_simp
   try with_reducible rfl
  try simp only [zP]
  refine tH 3 91 ?_ ?_ ?_;rotate_left
  ·intro w hSw
   go_simp
   try with_reducible rfl
  try simp only [zP]
  refine tH 4 92 ?_ ?_ ?_;rotate_left
  ·intro w hSw
   have q0 := hSw.1.cell 1
   simp only [tskC, zG] at q0
   rw [HSL.out.hpc] at q0
   go_simp
   try with_reducible rfl
  try simp only [zP]
  refine tH 5 93 ?_ ?_ ?_;rotate_left
  ·intro w hSw
   go_simp
   try with_reducible rfl
  try simp only [zP]
  refine tH 6 94 ?_ ?_ ?_;rotate_left
  ·intro w hSw
   refine exec_load_at (P := Tryz.prog) (x := .tmp 93) (n := off + pc * 6) (cs := [.int .i64 ins.op, .int .i64 ins.a, .int .i64 ins.b, .int .i64 ins.c, .slice none 0 0, .bool false]) ?_ ?_ (fun j v hv => HLI.out _ hSw.2 j v hv) Tryz.underlying25 ?_ Tryz.sizeIns <;> rfl
  try simp only [zP]
  refine tH 7 95 ?_ ?_ ?_;rotate_left
  ·intro w hSw
   go_simp
   try with_reducible rfl
  try simp only [zP]
  refine tH 8 96 ?_ ?_ ?_;rotate_left
  ·intro w hSw
   refine exec_load_at (P := Tryz.prog) (x := .tmp 95) (n := 4) (cs := [.int .i64 x.regs.r0, .int .i64 x.regs.r1, .int .i64 x.regs.r2, .int .i64 x.regs.r3, .int .i64 x.regs.r4, .int .i64 x.regs.r5, .int .i64 x.regs.r6, .int .i64 x.regs.r7]) ?_ ?_ (fun j v hv => by have hj : j < 8 := (List.getElem?_eq_some_iff.1 hv).1; refine (hSw.1.cell (4 + j)).trans ?_; rw [← hv]; rcases lt8 hj with rfl | rfl | rfl | rfl | rfl | rfl | rfl | rfl <;> rfl) Tryz.underlying36 ?_ Tryz.sizeReg <;> rfl
  try simp only [zP]
  refine tH 9 97 ?_ ?_ ?_;rotate_left
  ·intro w hSw
   go_simp
   try with_reducible rfl
  try simp only [zP]
  refine tH 10 98 ?_ ?_ ?_;rotate_left
  ·intro w hSw
   refine exec_load_at (P := Tryz.prog) (x := .tmp 97) (n := 4) (cs := [.int .i64 x.regs.r0, .int .i64 x.regs.r1, .int .i64 x.regs.r2, .int .i64 x.regs.r3, .int .i64 x.regs.r4, .int .i64 x.regs.r5, .int .i64 x.regs.r6, .int .i64 x.regs.r7]) ?_ ?_ (fun j v hv => by have hj : j < 8 := (List.getElem?_eq_some_iff.1 hv).1; refine (hSw.1.cell (4 + j)).trans ?_; rw [← hv]; rcases lt8 hj with rfl | rfl | rfl | rfl | rfl | rfl | rfl | rfl <;> rfl) Tryz.underlying36 ?_ Tryz.sizeReg <;> rfl
  try simp only [zP]
  refine tH 11 99 ?_ ?_ ?_;rotate_left
  ·intro w hSw
   go_simp
   try with_reducible rfl
  try simp only [zP]
  refine tH 12 100 ?_ ?_ ?_;rotate_left
  ·intro w hSw
   go_simp
   try with_reducible rfl
  try simp only [zP]
  refine zR 13 fun K hK => ?_
  go_simp
  refine hK.out _ _ ?_ (fun hHeld => ?_)
  ·exact ⟨hHeld.1.alloc _, hHeld.2.alloc _⟩
  clear hK K
  try simp only [zP]
  refine tH 14 14 ?_ ?_ ?_;rotate_left
  ·intro w hSw
   go_simp
   try with_reducible rfl
  try simp only [zP]
  refine wpAnyH_done (by kernel_rfl) ?_ _
  go_upto_region 11 with fail
  have HMA := zh ((((zT wc).alloc (.cells #[.pointer (some ⟨b.pb, 0, none⟩), .int .i64 i, .int .i64 ins.op, .int .i64 ins.a, .int .i64 ins.b, .int .i64 ins.c, .slice none 0 0, .bool false, .int .i64 x.regs.r0, .int .i64 x.regs.r1, .int .i64 x.regs.r2, .int .i64 x.regs.r3, .int .i64 x.regs.r4, .int .i64 x.regs.r5, .int .i64 x.regs.r6, .int .i64 x.regs.r7, .int .i64 x.regs.r0, .int .i64 x.regs.r1, .int .i64 x.regs.r2, .int .i64 x.regs.r3, .int .i64 x.regs.r4, .int .i64 x.regs.r5, .int .i64 x.regs.r6, .int .i64 x.regs.r7, .int .i64 d, .int .i64 0, .bool false] 131))).drew)
  have HBA : Hid (Blk (wc.alloc (.cells #[.pointer (some ⟨b.pb, 0, none⟩), .int .i64 i, .int .i64 ins.op, .int .i64 ins.a, .int .i64 ins.b, .int .i64 ins.c, .slice none 0 0, .bool false, .int .i64 x.regs.r0, .int .i64 x.regs.r1, .int .i64 x.regs.r2, .int .i64 x.regs.r3, .int .i64 x.regs.r4, .int .i64 x.regs.r5, .int .i64 x.regs.r6, .int .i64 x.regs.r7, .int .i64 x.regs.r0, .int .i64 x.regs.r1, .int .i64 x.regs.r2, .int .i64 x.regs.r3, .int .i64 x.regs.r4, .int .i64 x.regs.r5, .int .i64 x.regs.r6, .int .i64 x.regs.r7, .int .i64 d, .int .i64 0, .bool false] 131)).drew wc.heap.size 131 (acA b.pb ⟨i, ins, x.regs, x.regs, d, 0, false⟩)) := zh (Blk.new wc 131 #[.pointer (some ⟨b.pb, 0, none⟩), .int .i64 i, .int .i64 ins.op, .int .i64 ins.a, .int .i64 ins.b, .int .i64 ins.c, .slice none 0 0, .bool false, .int .i64 x.regs.r0, .int .i64 x.regs.r1, .int .i64 x.regs.r2, .int .i64 x.regs.r3, .int .i64 x.regs.r4, .int .i64 x.regs.r5, .int .i64 x.regs.r6, .int .i64 x.regs.r7, .int .i64 x.regs.r0, .int .i64 x.regs.r1, .int .i64 x.regs.r2, .int .i64 x.regs.r3, .int .i64 x.regs.r4, .int .i64 x.regs.r5, .int .i64 x.regs.r6, .int .i64 x.regs.r7, .int .i64 d, .int .i64 0, .bool false])
  have HNA : Hid (¬ Own o3 wc.heap.size) := zh (fun h0 => absurd (HWC.out.lt _ h0) (Nat.lt_irrefl _))
  have HLA : Hid (wc.heap.size < (wc.alloc (.cells #[.pointer (some ⟨b.pb, 0, none⟩), .int .i64 i, .int .i64 ins.op, .int .i64 ins.a, .int .i64 ins.b, .int .i64 ins.c, .slice none 0 0, .bool false, .int .i64 x.regs.r0, .int .i64 x.regs.r1, .int .i64 x.regs.r2, .int .i64 x.regs.r3, .int .i64 x.regs.r4, .int .i64 x.regs.r5, .int .i64 x.regs.r6, .int .i64 x.regs.r7, .int .i64 x.regs.r0, .int .i64 x.regs.r1, .int .i64 x.regs.r2, .int .i64 x.regs.r3, .int .i64 x.regs.r4, .int .i64 x.regs.r5, .int .i64 x.regs.r6, .int .i64 x.regs.r7, .int .i64 d, .int .i64 0, .bool false] 131)).drew.heap.size) := zh HBA.out.lt
  have HWA := zh (HWC.out.made (HXX.out _) HMA.out)
  have HTA := zh (HBC.out.turns HMA.out (fun h => h))
  have HSA := zh (HSC.out.then_made HMA.out)
  clear hHeld
  generalize (wc.alloc (.cells #[.pointer (some ⟨b.pb, 0, none⟩), .int .i64 i, .int .i64 ins.op, .int .i64 ins.a, .int .i64 ins.b, .int .i64 ins.c, .slice none 0 0, .bool false, .int .i64 x.regs.r0, .int .i64 x.regs.r1, .int .i64 x.regs.r2, .int .i64 x.regs.r3, .int .i64 x.regs.r4, .int .i64 x.regs.r5, .int .i64 x.regs.r6, .int .i64 x.regs.r7, .int .i64 x.regs.r0, .int .i64 x.regs.r1, .int .i64 x.regs.r2, .int .i64 x.regs.r3, .int .i64 x.regs.r4, .int .i64 x.regs.r5, .int .i64 x.regs.r6, .int .i64 x.regs.r7, .int .i64 d, .int .i64 0, .bool false] 131)).drew = WA at *
  go_wp2_with fail
  refine (HAC.out _ _ _ HWA.out HBA.out HNA.out).mono ?_
  rintro e w6 ⟨rfl, o6, k6, s6, x6, hq6, hw6, hst6, hb6⟩
  have HF := zh (HQQ.out _ _ _ hq6)
  have HQ6 := zh hq6
  have hn6 : ¬ Own o6 wc.heap.size := hst6.no HNA.out HLA.out
  have hn64 : ¬ Own o6 w4.heap.size := fun h0 => (hst6.f _ h0).elim HN4.out (fun h => absurd (Nat.lt_trans HPB.out HLA.out) (Nat.not_lt.2 h))
  have HN6 := zh (And.intro hn6 hn64)
  have HT6 := zh (HTA.out.turns hst6.t (fun e => e.elim HN4.out (fun e => by have := HPB.out; omega)))
  have HS6 := zh (show Stp w w6 (Own o) (Own o6) from ⟨HSA.out.t.then hst6.t (fun k hk e => e.elim (fun e => (HSA.out.f k e).elim id (fun h => absurd hk (Nat.not_lt.2 h))) (fun e => by have h1 := HSC.out.t.size; omega)), fun k hk => (hst6.f k hk).elim (HSA.out.f k) (fun h => .inr (Nat.le_trans HSA.out.t.size h))⟩)
  obtain ⟨xid, ⟨xo, xa, xb, xc⟩, xw, xr, xd, xh, xp⟩ := x6
  have hh : xh = 0 := HF.out.how
  subst hh
  obtain ⟨vp6, vc6, vl6, ve6, hw6⟩ := hw6
  have HW6 := zh hw6
  have HQB := zh hw6.blk
  have y25 : w6.cell? ⟨wc.heap.size, 25, none⟩ = some (.int .i64 0) := hb6.cell 25
  have y26 : w6.cell? ⟨wc.heap.size, 26, none⟩ = some (.bool xp) := hb6.cell 26
  have HNB := zh (show ¬ o6 b.pb = 3 from by rw [hw6.ob]; omega)
  have HNK := zh (show ¬ o6 wc.heap.size = 3 from fun e => hn6 (by show o6 wc.heap.size ≠ 0; omega))
  have HNT := zh (show ¬ o6 w4.heap.size = 3 from fun e => hn64 (by show o6 w4.heap.size ≠ 0; omega))
  have HB6 := zh hb6
  clear hq6 hst6 hb6 hn6 hn64 hw6
  cases xp
  case true =>
   obtain ⟨hop, hgd⟩ := HF.out.pk rfl
   have hop : xo = 11 := hop
   subst hop
   have HGD := zh hgd
   clear hgd
   go_wp2_with fail
   have HPK := zh (tabpark_c (w := w6.drew) (HW6.out.tab.made (zT w6).drew) HF.out.ts HF.out.tl HSL.out.st HGD.out HF.out.rd.1 HF.out.rd.2 HF.out.rl)
   refine wp_region_held_drew (S := fun w' => Blk w' (b.pb) 65 #[vp6, .pointer (some ⟨b.pk, 0, none⟩), .pointer (some ⟨b.pt, 0, none⟩), vc6, .int .i64 s6.made, .pointer (some ⟨b.pm, 0, none⟩), .pointer (some ⟨b.px, 0, none⟩), .pointer (some ⟨b.pd, 0, none⟩), vl6, .int .i64 s6.steps, ve6] ∧ Blk w' (wc.heap.size) 131 (acA b.pb ⟨xid, ⟨11, xa, xb, xc⟩, xw, xr, xd, 0, true⟩) ∧ Turns (fun k => o6 k = 3) w6 w') (by kernel_rfl) ?_ (fun hHeld => ?_)
   ·exact ⟨HQB.out, HB6.out, (Turns.refl _ w6).drew⟩
   refine tH 0 145 ?_ ?_ ?_;rotate_left
   ·intro w hSw
    go_simp
    try with_reducible rfl
   try simp only [zP]
   refine tH 1 146 ?_ ?_ ?_;rotate_left
   ·intro w hSw
    go_simp
    try with_reducible rfl
   try simp only [zP]
   refine tH 2 147 ?_ ?_ ?_;rotate_left
   ·intro w hSw
    go_simp
    try with_reducible rfl
   try simp only [zP]
   refine tH 3 148 ?_ ?_ ?_;rotate_left
   ·intro w hSw
    have q0_0 := hSw.1.cell 0
    have q0_1 := hSw.1.cell 1
    have q0_2 := hSw.1.cell 2
    have q0_3 := hSw.1.cell 3
    have q0_4 := hSw.1.cell 4
    have q0_5 := hSw.1.cell 5
    have q0_6 := hSw.1.cell 6
    have q0_7 := hSw.1.cell 7
    have q0_8 := hSw.1.cell 8
    have q0_9 := hSw.1.cell 9
    have q0_10 := hSw.1.cell 10
    simp only [zG] at q0_0 q0_1 q0_2 q0_3 q0_4 q0_5 q0_6 q0_7 q0_8 q0_9 q0_10
    go_simp
    try with_reducible rfl
   try simp only [zP]
   refine tH 4 149 ?_ ?_ ?_;rotate_left
   ·intro w hSw
    go_simp
    try with_reducible rfl
   try simp only [zP]
   refine tH 5 150 ?_ ?_ ?_;rotate_left
   ·intro w hSw
    go_simp
    try with_reducible rfl
   try simp only [zP]
   refine tH 6 151 ?_ ?_ ?_;rotate_left
   ·intro w hSw
    go_simp
    try with_reducible rfl
   try simp only [zP]
   refine tH 7 152 ?_ ?_ ?_;rotate_left
   ·intro w hSw
    go_simp
    try with_reducible rfl
   try simp only [zP]
   refine tH 8 153 ?_ ?_ ?_;rotate_left
   ·intro w hSw
    refine exec_load_at (P := Tryz.prog) (x := .tmp 152) (n := 2) (cs := [.int .i64 11, .int .i64 xa, .int .i64 xb, .int .i64 xc, .slice none 0 0, .bool false]) ?_ ?_ (fun j v hv => by have hj : j < 6 := (List.getElem?_eq_some_iff.1 hv).1; refine (hSw.2.1.cell (2 + j)).trans ?_; rw [← hv]; rcases lt6 hj with rfl | rfl | rfl | rfl | rfl | rfl <;> rfl) Tryz.underlying25 ?_ Tryz.sizeIns <;> rfl
   try simp only [zP]
   refine zR 9 fun K hK => ?_
   go_simp
   refine HPK.out.mono ?_
   rintro e w7 ⟨rfl, F7, hT7, hs7⟩
   refine hK.out _ _ ?_ (fun hHeld => ?_)
   ·exact ⟨hHeld.1.turns hs7.t HNB.out, hHeld.2.1.turns hs7.t HNK.out, hHeld.2.2.trans hs7.t⟩
   clear hK K
   try simp only [zP]
   refine wpAnyH_done (by kernel_rfl) ?_ _
   obtain ⟨o7, h7, _, hs7⟩ := (HW6.out.made (HXX.out _) (zT w6).drew).stepTab (HXX.out _) hT7 hs7
   have HE7 := zh (And.intro (show WW (CX k6) w7 b o7 ps { s6 with ts := _, rd := _ } from ⟨_, _, _, _, h7⟩) (HS6.out.trans ((Stp.made (F := Own o6) (zT w6).drew).trans hs7)))
   have HTL := zh (wtell_c (kind := 2) (who := (i : Int)) (ea := 0) (eb := 0) (ec := 0) (HXX.out _) HE7.out.1 HF.out.ev)
   clear hHeld hT7 hs7 h7 y25 y26
   go_wp2_with fail
   refine HTL.out.mono ?_
   rintro e w8 ⟨rfl, o8, hw8, hs8⟩
   have HE8 := zh (And.intro hw8 (HE7.out.2.trans hs8))
   clear hw8 hs8
   go_wp2_with fail
   go_end0
   exact ⟨rfl, o8, k6, s6, _, HQ6.out, HE8.out.1, HE8.out.2⟩
  case false =>
   have HPT := zh (tabput_c (w := w6.drew) (pc := (pc : Int) + 1) (r := xr) (HW6.out.tab.made (zT w6).drew) HF.out.ts HF.out.tl HSL.out.st)
   have HIL := zh (show (pc : Int) + 1 ≤ 1000 from by have := HSL.out.il; omega)
   go_wp2_with fail
   refine wp_region_held_drew (S := fun w' => Blk w' (b.pb) 65 #[vp6, .pointer (some ⟨b.pk, 0, none⟩), .pointer (some ⟨b.pt, 0, none⟩), vc6, .int .i64 s6.made, .pointer (some ⟨b.pm, 0, none⟩), .pointer (some ⟨b.px, 0, none⟩), .pointer (some ⟨b.pd, 0, none⟩), vl6, .int .i64 s6.steps, ve6] ∧ Blk w' (wc.heap.size) 131 (acA b.pb ⟨xid, ⟨xo, xa, xb, xc⟩, xw, xr, xd, 0, false⟩) ∧ Blk w' (w4.heap.size) 38 (tskC x).toArray ∧ Turns (fun k => o6 k = 3) w6 w') (by kernel_rfl) ?_ (fun hHeld => ?_)
   ·exact ⟨HQB.out, HB6.out, HT6.out, (Turns.refl _ w6).drew⟩
   refine tH 0 104 ?_ ?_ ?_;rotate_left
   ·intro w hSw
    go_simp
    try with_reducible rfl
   try simp only [zP]
   refine tH 1 105 ?_ ?_ ?_;rotate_left
   ·intro w hSw
    go_simp
    try with_reducible rfl
   try simp only [zP]
   refine tH 2 106 ?_ ?_ ?_;rotate_left
   ·intro w hSw
    go_simp
    try with_reducible rfl
   try simp only [zP]
   refine tH 3 107 ?_ ?_ ?_;rotate_left
   ·intro w hSw
    have q0_0 := hSw.1.cell 0
    have q0_1 := hSw.1.cell 1
    have q0_2 := hSw.1.cell 2
    have q0_3 := hSw.1.cell 3
    have q0_4 := hSw.1.cell 4
    have q0_5 := hSw.1.cell 5
    have q0_6 := hSw.1.cell 6
    have q0_7 := hSw.1.cell 7
    have q0_8 := hSw.1.cell 8
    have q0_9 := hSw.1.cell 9
    have q0_10 := hSw.1.cell 10
    simp only [zG] at q0_0 q0_1 q0_2 q0_3 q0_4 q0_5 q0_6 q0_7 q0_8 q0_9 q0_10
    go_simp
    try with_reducible rfl
   try simp only [zP]
   refine tH 4 108 ?_ ?_ ?_;rotate_left
   ·intro w hSw
    go_simp
    try with_reducible rfl
   try simp only [zP]
   refine tH 5 109 ?_ ?_ ?_;rotate_left
   ·intro w hSw
    go_simp
    try with_reducible rfl
   try simp only [zP]
   refine tH 6 110 ?_ ?_ ?_;rotate_left
   ·intro w hSw
    have q0 := hSw.2.2.1.cell 1
    simp only [tskC, zG] at q0
    rw [HSL.out.hpc] at q0
    go_simp
    try with_reducible rfl
   try simp only [zP]
   refine tH 7 111 ?_ ?_ ?_;rotate_left
   ·intro w hSw
    have hw := IntWalk.i64_in ((pc : Int) + 1) (by have := HIL.out; omega)
    go_simp
    try with_reducible rfl
   try simp only [zP]
   refine tH 8 112 ?_ ?_ ?_;rotate_left
   ·intro w hSw
    go_simp
    try with_reducible rfl
   try simp only [zP]
   refine tH 9 113 ?_ ?_ ?_;rotate_left
   ·intro w hSw
    go_simp
    try with_reducible rfl
   try simp only [zP]
   refine tH 10 114 ?_ ?_ ?_;rotate_left
   ·intro w hSw
    go_simp
    try with_reducible rfl
   try simp only [zP]
   refine tH 11 115 ?_ ?_ ?_;rotate_left
   ·intro w hSw
    refine exec_load_at (P := Tryz.prog) (x := .tmp 114) (n := 16) (cs := [.int .i64 xr.r0, .int .i64 xr.r1, .int .i64 xr.r2, .int .i64 xr.r3, .int .i64 xr.r4, .int .i64 xr.r5, .int .i64 xr.r6, .int .i64 xr.r7]) ?_ ?_ (fun j v hv => by have hj : j < 8 := (List.getElem?_eq_some_iff.1 hv).1; refine (hSw.2.1.cell (16 + j)).trans ?_; rw [← hv]; rcases lt8 hj with rfl | rfl | rfl | rfl | rfl | rfl | rfl | rfl <;> rfl) Tryz.underlying36 ?_ Tryz.sizeReg <;> rfl
   try simp only [zP]
   refine zR 12 fun K hK => ?_
   go_simp
   refine HPT.out.mono ?_
   rintro e w7 ⟨rfl, F7, hT7, hs7⟩
   refine hK.out _ _ ?_ (fun hHeld => ?_)
   ·exact ⟨hHeld.1.turns hs7.t HNB.out, hHeld.2.1.turns hs7.t HNK.out, hHeld.2.2.1.turns hs7.t HNT.out, hHeld.2.2.2.trans hs7.t⟩
   clear hK K
   try simp only [zP]
   refine wpAnyH_done (by kernel_rfl) ?_ _
   obtain ⟨o7, h7, _, hs7⟩ := (HW6.out.made (HXX.out _) (zT w6).drew).stepTab (HXX.out _) hT7 hs7
   have HE7 := zh (And.intro (show WW (CX k6) w7 b o7 ps { s6 with ts := s6.ts.set i ⟨x.prog, (pc : Int) + 1, x.st, x.how, xr, x.ins⟩ } from ⟨_, _, _, _, h7⟩) (HS6.out.trans ((Stp.made (F := Own o6) (zT w6).drew).trans hs7)))
   clear hHeld hT7 hs7 h7 y25 y26
   go_wp2_with fail
   go_end0
   refine ⟨rfl, o7, k6, s6, _, HQ6.out, ?_, HE7.out.2⟩
   have h9 := HE7.out.1
   rw [← HSL.out.hpc] at h9
   exact h9
theorem wstep_runx {κ : Type} {CX : κ → World → (Nat → Prop) → Prop} {k0 : κ} {w : World} {b : Wp} {o : Nat → Nat} {ps : List (List Ins)} {s : Wst} {n d : Int} {R : κ → Wst → Prop} (hx : ∀ k, Ext (CX k)) (h : WW (CX k0) w b o ps s)
  (hr : ∀ (w1 : World) (o1 : Nat → Nat), WW (CX k0) w1 b o1 ps { s with ev := [] } → Calls Tryz.prog 26 #[.pointer (some ⟨b.pb, 0, none⟩), .int .i64 n, .int .i64 d] w1 fun e w' => e = .returned (.tuple #[]) ∧ ∃ o' k2 s2, R k2 s2 ∧ WW (CX k2) w' b o' ps s2 ∧ Stp w1 w' (Own o1) (Own o'))
  (hR : ∀ k2 s2, R k2 s2 → 0 ≤ s2.steps ∧ s2.steps < 1000000 ∧ s2.ev.length ≤ 1000000) :
  Calls Tryz.prog 9 #[.pointer (some ⟨b.pb, 0, none⟩), .agg #[.int .i64 1, .int .i64 n, .int .i64 d]] w fun e w' => ∃ v, e = .returned v ∧ ∃ o' k2 s2, R k2 s2 ∧ WW (CX k2) w' b o' ps { s2 with steps := s2.steps + 1 } ∧ Owns evC 45 6 w' v s2.ev ∧ (∀ k, v.ownBlock = some k → ¬ Own o' k ∧ w.heap.size ≤ k) ∧ Stp w w' (Own o) (Own o') := by
 have HXX := zh hx
 have HRR := zh (And.intro hr hR)
 have hm0 := (zT w).alloc (.cells #[.int .i64 1, .int .i64 n, .int .i64 d] 35)
 have HB0 := zh (Blk.new w 35 #[.int .i64 1, .int .i64 n, .int .i64 d])
 have HM0 := zh hm0
 obtain ⟨vp, vc, vl, ve, h0⟩ := h
 have HH := zh (h0.made (hx _) hm0)
 have q10 := (h0.made (hx _) hm0).blk.cell 10
 have f10 := (h0.made (hx _) hm0).blk.free 10
 simp only [zG] at q10
 have HNE := zh (show ¬ Own o w.heap.size from fun e => absurd (h0.lt _ e) (Nat.lt_irrefl _))
 clear h0 hx hr hR hm0
 go_enter Tryz.func9, Tryz.ntmps9
 go_upto_region 5 with fail
 obtain ⟨o1, h1, hs1⟩ := HH.out.clearEv (HXX.out _)
 have HW1 := zh (show WW (CX k0) _ b o1 ps { s with ev := [] } from ⟨_, _, _, _, h1⟩)
 have HS1 := zh ((Stp.made (F := Own o) HM0.out).trans hs1)
 have HPL := zh (show b.pb ≠ w.heap.size from fun e => HNE.out (by show o w.heap.size ≠ 0; rw [← e, HH.out.ob]; omega))
 have HB1 := zh (HB0.out.turns (set1 _ b.pb 10 (.slice none 0 0)) (fun e => HPL.out e.symm))
 clear h1 hs1 q10 f10
 generalize (w.alloc (.cells #[.int .i64 1, .int .i64 n, .int .i64 d] 35)).setCell ⟨b.pb, 10, none⟩ (.slice none 0 0) = W1 at *
 have e0 := HB1.out.cell 0
 have e1 := HB1.out.cell 1
 have e2 := HB1.out.cell 2
 simp only [zG] at e0 e1 e2
 go_wp2_with fail
 refine (scheck_run n d _).mono ?_
 rintro e w1 ⟨rfl, hm1⟩
 have HM1 := zh hm1
 have e0 := (HB1.out.turns hm1 (fun h => h)).cell 0
 have e1 := (HB1.out.turns hm1 (fun h => h)).cell 1
 have e2 := (HB1.out.turns hm1 (fun h => h)).cell 2
 simp only [zG] at e0 e1 e2
 clear hm1
 go_wp2_with fail
 refine (HRR.out.1 w1 o1 (HW1.out.made (HXX.out _) HM1.out)).mono ?_
 rintro e w2 ⟨rfl, o2, k2, s2, hr2, hw2, hs2⟩
 obtain ⟨hb0, hb1, hb2⟩ := HRR.out.2 k2 s2 hr2
 have HR2 := zh hr2
 have HS2 := zh ((HS1.out.then_made HM1.out).trans hs2)
 have HL2 := zh hb2
 obtain ⟨vp2, vc2, vl2, ve2, hw2⟩ := hw2
 have HW2 := zh hw2
 have q9 := hw2.blk.cell 9
 have q10 := hw2.blk.cell 10
 have f9 := hw2.blk.free 9
 simp only [zG] at q9 q10
 have hwi := IntWalk.i64_in (s2.steps + 1) (by omega)
 clear hr2 hs2 hw2 hb2 e0 e1 e2
 go_upto_region 10 with fail
 obtain ⟨h3, hs3⟩ := HW2.out.incStep (HXX.out _) (s2.steps + 1)
 have HW3 := zh h3
 have HS3 := zh (HS2.out.trans hs3)
 have q10 : (w2.setCell ⟨b.pb, 9, none⟩ (.int .i64 (s2.steps + 1))).cell? ⟨b.pb, 10, none⟩ = some ve2 := h3.blk.cell 10
 have HC := zh (clone_ev ve2 s2.ev _ h3.erow HL2.out)
 clear h3 hs3 q9 f9 hwi
 generalize w2.setCell ⟨b.pb, 9, none⟩ (.int .i64 (s2.steps + 1)) = W3 at *
 go_wp2_with fail
 refine HC.out.mono ?_
 rintro e w4 ⟨v4, rfl, ho4, hm4, hf4⟩
 have HE := zh (And.intro ho4 (And.intro hm4 hf4))
 clear ho4 hm4 hf4
 go_wp2_with fail
 go_returns
 have hw4 := HW3.out.made (HXX.out _) HE.out.2.1
 exact ⟨v4, rfl, o2, k2, s2, HR2.out, ⟨_, _, _, _, hw4⟩, HE.out.1, fun k hk => ⟨fun h0 => absurd (HW3.out.lt _ h0) (Nat.not_lt.2 (HE.out.2.2 k hk)), Nat.le_trans HS3.out.t.size (HE.out.2.2 k hk)⟩, HS3.out.then_made HE.out.2.1⟩
theorem wstep_advx {κ : Type} {CX : κ → World → (Nat → Prop) → Prop} {k0 : κ} {w : World} {b : Wp} {o : Nat → Nat} {ps : List (List Ins)} {s : Wst} {n d : Int} {R : κ → Wst → Prop} (hx : ∀ k, Ext (CX k)) (h : WW (CX k0) w b o ps s) (hn : 0 ≤ n)
  (hr : ∀ (w1 : World) (o1 : Nat → Nat), WW (CX k0) w1 b o1 ps { s with ev := [] } → Calls Tryz.prog 25 #[.pointer (some ⟨b.pb, 0, none⟩), .int .i64 n] w1 fun e w' => e = .returned (.tuple #[]) ∧ ∃ o' k2 s2, R k2 s2 ∧ WW (CX k2) w' b o' ps s2 ∧ Stp w1 w' (Own o1) (Own o'))
  (hR : ∀ k2 s2, R k2 s2 → 0 ≤ s2.steps ∧ s2.steps < 1000000 ∧ s2.ev.length ≤ 1000000) :
  Calls Tryz.prog 9 #[.pointer (some ⟨b.pb, 0, none⟩), .agg #[.int .i64 2, .int .i64 n, .int .i64 0]] w fun e w' => ∃ v, e = .returned v ∧ ∃ o' k2 s2, R k2 s2 ∧ WW (CX k2) w' b o' ps { s2 with steps := s2.steps + 1 } ∧ Owns evC 45 6 w' v s2.ev ∧ (∀ k, v.ownBlock = some k → ¬ Own o' k ∧ w.heap.size ≤ k) ∧ Stp w w' (Own o) (Own o') := by
 have HXX := zh hx
 have HRR := zh (And.intro hr hR)
 have hm0 := (zT w).alloc (.cells #[.int .i64 2, .int .i64 n, .int .i64 0] 35)
 have HB0 := zh (Blk.new w 35 #[.int .i64 2, .int .i64 n, .int .i64 0])
 have HM0 := zh hm0
 obtain ⟨vp, vc, vl, ve, h0⟩ := h
 have HH := zh (h0.made (hx _) hm0)
 have q10 := (h0.made (hx _) hm0).blk.cell 10
 have f10 := (h0.made (hx _) hm0).blk.free 10
 simp only [zG] at q10
 have HNE := zh (show ¬ Own o w.heap.size from fun e => absurd (h0.lt _ e) (Nat.lt_irrefl _))
 have HN := zh hn
 clear h0 hx hr hR hm0 hn
 go_enter Tryz.func9, Tryz.ntmps9
 go_upto_region 5 with fail
 obtain ⟨o1, h1, hs1⟩ := HH.out.clearEv (HXX.out _)
 have HW1 := zh (show WW (CX k0) _ b o1 ps { s with ev := [] } from ⟨_, _, _, _, h1⟩)
 have HS1 := zh ((Stp.made (F := Own o) HM0.out).trans hs1)
 have HPL := zh (show b.pb ≠ w.heap.size from fun e => HNE.out (by show o w.heap.size ≠ 0; rw [← e, HH.out.ob]; omega))
 have HB1 := zh (HB0.out.turns (set1 _ b.pb 10 (.slice none 0 0)) (fun e => HPL.out e.symm))
 clear h1 hs1 q10 f10
 generalize (w.alloc (.cells #[.int .i64 2, .int .i64 n, .int .i64 0] 35)).setCell ⟨b.pb, 10, none⟩ (.slice none 0 0) = W1 at *
 have e0 := HB1.out.cell 0
 have e1 := HB1.out.cell 1
 have e2 := HB1.out.cell 2
 simp only [zG] at e0 e1 e2
 go_wp2_with fail
 refine (scheck_adv n _ HN.out).mono ?_
 rintro e w1 ⟨rfl, hm1⟩
 have HM1 := zh hm1
 have e0 := (HB1.out.turns hm1 (fun h => h)).cell 0
 have e1 := (HB1.out.turns hm1 (fun h => h)).cell 1
 have e2 := (HB1.out.turns hm1 (fun h => h)).cell 2
 simp only [zG] at e0 e1 e2
 clear hm1
 go_wp2_with fail
 refine (HRR.out.1 w1 o1 (HW1.out.made (HXX.out _) HM1.out)).mono ?_
 rintro e w2 ⟨rfl, o2, k2, s2, hr2, hw2, hs2⟩
 obtain ⟨hb0, hb1, hb2⟩ := HRR.out.2 k2 s2 hr2
 have HR2 := zh hr2
 have HS2 := zh ((HS1.out.then_made HM1.out).trans hs2)
 have HL2 := zh hb2
 obtain ⟨vp2, vc2, vl2, ve2, hw2⟩ := hw2
 have HW2 := zh hw2
 have q9 := hw2.blk.cell 9
 have q10 := hw2.blk.cell 10
 have f9 := hw2.blk.free 9
 simp only [zG] at q9 q10
 have hwi := IntWalk.i64_in (s2.steps + 1) (by omega)
 clear hr2 hs2 hw2 hb2 e0 e1 e2
 go_upto_region 10 with fail
 obtain ⟨h3, hs3⟩ := HW2.out.incStep (HXX.out _) (s2.steps + 1)
 have HW3 := zh h3
 have HS3 := zh (HS2.out.trans hs3)
 have q10 : (w2.setCell ⟨b.pb, 9, none⟩ (.int .i64 (s2.steps + 1))).cell? ⟨b.pb, 10, none⟩ = some ve2 := h3.blk.cell 10
 have HC := zh (clone_ev ve2 s2.ev _ h3.erow HL2.out)
 clear h3 hs3 q9 f9 hwi
 generalize w2.setCell ⟨b.pb, 9, none⟩ (.int .i64 (s2.steps + 1)) = W3 at *
 go_wp2_with fail
 refine HC.out.mono ?_
 rintro e w4 ⟨v4, rfl, ho4, hm4, hf4⟩
 have HE := zh (And.intro ho4 (And.intro hm4 hf4))
 clear ho4 hm4 hf4
 go_wp2_with fail
 go_returns
 have hw4 := HW3.out.made (HXX.out _) HE.out.2.1
 exact ⟨v4, rfl, o2, k2, s2, HR2.out, ⟨_, _, _, _, hw4⟩, HE.out.1, fun k hk => ⟨fun h0 => absurd (HW3.out.lt _ h0) (Nat.not_lt.2 (HE.out.2.2 k hk)), Nat.le_trans HS3.out.t.size (HE.out.2.2 k hk)⟩, HS3.out.then_made HE.out.2.1⟩
section
variable {CX : World → (Nat → Prop) → Prop} {w w' : World} {b : Wp} {o o' : Nat → Nat} {ps : List (List Ins)} {s : Wst}
def WAp (cps0 : List Nat) (CX : World → (Nat → Prop) → Prop) (w : World) (b : Wp) (o : Nat → Nat) (ps : List (List Ins)) (s : Wst) : Prop := AInv s ∧ ∃ cps : List Nat, cps0 <+: cps ∧ cps.length = s.chs.length ∧ WW CX w b o ps (conc cps s)
def ActPp (cps0 : List Nat) (CX : World → (Nat → Prop) → Prop) (b : Wp) (ps : List (List Ins)) (ins : Ins) (g : Nat) (w : World) (o : Nat → Nat) (s2 : Wst) (rr : Option Reg) (w' : World) : Prop :=
 ∃ o' x2, WAp cps0 CX w' b o' ps s2 ∧ AStp w w' o o' g ∧ Blk w' g 131 (acA b.pb x2) ∧ x2.how = 0 ∧ x2.parks = rr.isNone ∧ (rr = none → x2.i = ins) ∧ ∀ r2, rr = some r2 → x2.regs = r2
theorem act_Fp {cps : List Nat} {s2 : Wst} {rr : Option Reg} {g i : Nat} {ins : Ins} {r : Reg} {d : Int} (hx : Ext CX) (hi : AInv s) (hcl : cps.length = s.chs.length) (hw : WW CX w b o ps (conc cps s)) (hl : Lim s) (hb : Blk w g 131 (acA b.pb ⟨i, ins, r, r, d, 0, false⟩)) (hg : ¬ Own o g) (hf : actF s i ins r = some (s2, rr)) :
  Calls Tryz.prog 50 #[.pointer (some ⟨g, 0, none⟩)] w fun e w' => e = .returned (.tuple #[]) ∧ ActPp cps CX b ps ins g w o s2 rr w' := by
 obtain ⟨l1, l2, l3, l4, l5, l6, l7, l8, l9, l10, l11, l12, l13, l14, l15⟩ := hl
 have hcc : (conc cps s).chs.length = s.chs.length := by show (s.chs.map _).length = _; rw [List.length_map]
 have hct : (conc cps s).tms.length = s.tms.length := by show (s.tms.map _).length = _; rw [List.length_map]
 obtain ⟨xo, xa, xb, xc⟩ := ins
 unfold actF at hf
 split at hf
 ·rename_i hop
  have hop : xo = _ := hop
  subst hop
  unfold actGo at hf
  dsimp only at hf
  split at hf
  ·rename_i hc
   obtain ⟨⟨h1, h2⟩, h3, h4, h5⟩ := hc
   obtain ⟨a1, rfl⟩ := Int.eq_ofNat_of_zero_le h1
   cases hf
   refine acdo_go hb rfl ((acspawn_c hx hw hb hg rfl rfl (by omega) l3 h3 h5 (by show s.rd.length ≤ 1000; omega) (by show s.ev.length < 1000; omega)).mono ?_)
   rintro e w2 ⟨rfl, o2, h6, h7, h8⟩
   exact ⟨rfl, o2, _, ⟨⟨hi.idx, hi.tmc⟩, cps, List.prefix_rfl, hcl, h6⟩, h7, h8, rfl, rfl, (fun e => by cases e), fun r2 e => by cases e; rfl⟩
  ·cases hf
 split at hf
 ·rename_i hop
  have hop : xo = _ := hop
  subst hop
  unfold actRecv at hf
  dsimp only at hf
  split at hf
  ·rename_i hc
   obtain ⟨⟨h1, h2⟩, h3, h4, h5⟩ := hc
   obtain ⟨a1, rfl⟩ := Int.eq_ofNat_of_zero_le h1
   obtain ⟨c1, hc1⟩ := Int.eq_ofNat_of_zero_le h5
   simp only [Int.toNat_natCast] at hf hc1 h5
   rw [hc1] at hf
   simp only [Int.toNat_natCast] at hf
   split at hf
   ·cases hf
   ·rename_i q hq
    split at hf
    ·rename_i hc2
     obtain ⟨q1, qt, qs, qc, qr, qv, ql⟩ := q
     obtain ⟨k1, k2, k3⟩ := hc2
     simp only at k1 k2 k3
     subst k1 k2
     cases hf
     have hch := conc_chs (cps := cps) hq
     refine acdo_recv hb rfl (acchan_recv (i := c1) hx hw hb rfl rfl (by omega) hc1 hch (by omega) fun w1 hm1 => (acrecv_park hx (hw.made hx hm1) (hb.turns hm1 (fun h => h)) hg hch (by omega)).mono ?_)
     rintro e w2 ⟨rfl, o2, h6, h7, h8⟩
     refine ⟨rfl, o2, _, ⟨hi.set hq, cps, List.prefix_rfl, by simpa using hcl, ?_⟩, h7.pre hm1, h8, rfl, rfl, (fun _ => rfl), fun r2 e => by cases e⟩
     rw [conc_set]
     exact h6
    ·cases hf
  ·cases hf
 split at hf
 ·rename_i hop
  have hop : xo = _ := hop
  subst hop
  unfold actMake at hf
  dsimp only at hf
  split at hf
  ·rename_i hc
   obtain ⟨⟨h1, h2⟩, h3, h4, h5⟩ := hc
   obtain ⟨a1, rfl⟩ := Int.eq_ofNat_of_zero_le h1
   subst h3
   cases hf
   refine acdo_make hb rfl ((accreate_c (a := a1) hx hw hb hg rfl rfl (by omega) ⟨h4, h5⟩ (by omega)).mono ?_)
   rintro e w2 ⟨rfl, o2, cp, h6, h7, h8⟩
   refine ⟨rfl, o2, _, ⟨hi.snoc, cps ++ [cp], List.prefix_append _ _, by simp [hcl], ?_⟩, h7, h8, rfl, rfl, (fun e => by cases e), fun r2 e => ?_⟩
   ·rw [conc_snoc hi hcl]
    exact h6
   ·cases e
    rw [hcc]
    rfl
  ·cases hf
 split at hf
 ·rename_i hop
  have hop : xo = _ := hop
  subst hop
  unfold actClose at hf
  dsimp only at hf
  split at hf
  ·rename_i hc
   obtain ⟨⟨h1, h2⟩, h5⟩ := hc
   obtain ⟨a1, rfl⟩ := Int.eq_ofNat_of_zero_le h1
   simp only [Int.toNat_natCast] at hf h5
   obtain ⟨c1, hc1⟩ := Int.eq_ofNat_of_zero_le h5
   rw [hc1] at hf
   simp only [Int.toNat_natCast] at hf
   split at hf
   ·cases hf
   ·rename_i q hq
    split at hf
    ·rename_i hc2
     obtain ⟨q1, qt, qs, qc, qr, qv, ql⟩ := q
     obtain ⟨k1, k2, k3, k4, k5, k6⟩ := hc2
     simp only at k1 k2 k3 k4 k5 k6
     subst k1 k2 k3
     cases hf
     have hch := conc_chs (cps := cps) hq
     have hset := conc_set (s := s) cps c1 q1 ⟨false, false, true, qr, qv, []⟩
     have hok : WakesOK { conc cps s with chs := (conc cps s).chs.set c1 (cps.getD q1 0, ⟨false, false, true, qr, qv, []⟩) } (ql.map clW) := by
      rw [← hset]
      have h9 : WakesOK { s with chs := s.chs.set c1 (q1, ⟨false, false, true, qr, qv, []⟩) } (ql.map clW) := wakesB_ok k6 (by rw [List.length_map]; show s.rd.length + _ ≤ 1000; omega) (by show s.ts.length ≤ 64; omega) (by rw [List.length_map]; show s.nd + _ < 1000000; omega) (by rw [List.length_map]; show s.ev.length + _ < 1000; omega)
      exact (wakesOK_conc cps _ _).1 h9
     refine acdo_close hb rfl (acchan_close (i := c1) hx hw hb rfl rfl (by omega) hc1 hch (by omega) fun w1 hm1 => (acclose_c hx (hw.made hx hm1) (hb.turns hm1 (fun h => h)) hg hch k4 (by omega) hok).mono ?_)
     rintro e w2 ⟨rfl, o2, h6, h7, h8⟩
     have hwc := wakes_chs (ql.map clW) { s with chs := s.chs.set c1 (q1, ⟨false, false, true, qr, qv, []⟩) }
     refine ⟨rfl, o2, _, ⟨(hi.set hq).same hwc.1 hwc.2.1, cps, List.prefix_rfl, ?_, ?_⟩, h7.pre hm1, h8, rfl, rfl, (fun e => by cases e), fun r2 e => by cases e; rfl⟩
     ·rw [hwc.1]; simpa using hcl
     ·rw [conc_wakes, hset]
      exact h6
    ·cases hf
  ·cases hf
 split at hf
 ·rename_i hop
  have hop : xo = _ := hop
  subst hop
  unfold actTimer at hf
  dsimp only at hf
  split at hf
  ·rename_i hc
   obtain ⟨⟨h1, h2⟩, ⟨h3, h4⟩, ⟨h5, h6⟩, h7, h8⟩ := hc
   obtain ⟨a1, rfl⟩ := Int.eq_ofNat_of_zero_le h1
   obtain ⟨b1, rfl⟩ := Int.eq_ofNat_of_zero_le h3
   obtain ⟨c1, rfl⟩ := Int.eq_ofNat_of_zero_le h5
   simp only [Int.toNat_natCast] at hf h7 h8
   cases hf
   have hadd := addZ_small l12 (by omega) h7 (by omega)
   have hn1 : (0 : Int) ≤ addZ s.now (r.get b1) := by rw [hadd]; omega
   have hn2 : addZ s.now (r.get b1) ≤ 4611686018427387904 := by rw [hadd]; omega
   refine acdo_timer hb rfl ((actimer_c (a := a1) (bb := b1) (cc := c1) hx hw hb hg rfl rfl rfl rfl (by omega) (by omega) (by omega) h7 ⟨l12, by show s.now ≤ _; omega⟩ hn1 hn2 (by omega) ⟨l14, l15⟩ (by show s.sq < _; omega) (by omega)).mono ?_)
   rintro e w2 ⟨rfl, o2, cp, h9, h10, h11⟩
   refine ⟨rfl, o2, _, ⟨hi.timer, cps ++ [cp], List.prefix_append _ _, by simp [timerS, hcl], ?_⟩, h10, h11, rfl, rfl, (fun e => by cases e), fun r2 e => ?_⟩
   ·rw [conc_new hi hcl]
    exact h9
   ·cases e
    rw [hct, hcc]
  ·cases hf
 split at hf
 ·rename_i hop
  have hop : xo = _ := hop
  subst hop
  unfold actStop at hf
  dsimp only at hf
  split at hf
  ·rename_i hc
   obtain ⟨⟨h1, h2⟩, ⟨h3, h4⟩, h5⟩ := hc
   obtain ⟨a1, rfl⟩ := Int.eq_ofNat_of_zero_le h1
   obtain ⟨b1, rfl⟩ := Int.eq_ofNat_of_zero_le h3
   simp only [Int.toNat_natCast] at hf h5
   obtain ⟨i1, hi1⟩ := Int.eq_ofNat_of_zero_le h5
   rw [hi1] at hf
   simp only [Int.toNat_natCast] at hf
   split at hf
   ·cases hf
   ·rename_i t ht
    split at hf
    ·cases hf
    ·rename_i ci hci
     split at hf
     ·cases hf
     ·rename_i q hq
      split at hf
      ·rename_i hc2
       obtain ⟨k1, k2⟩ := hc2
       obtain ⟨tk, td, tc⟩ := t
       obtain ⟨q1, qt, qs, qc, qr, qv, ql⟩ := q
       simp only at k1 k2 hci
       subst k1 k2 hci
       have hq1 : q1 = ci := hi.idx ci _ hq
       subst hq1
       cases qv with
       | some v =>
        cases hf
        refine acdo_stop hb rfl ((acstop_1 (c := ⟨true, false, false, true, none, []⟩) (kd := 1) (cc := 0) (a := a1) (bb := b1) (i := i1) hx hw hb hg rfl rfl rfl (by omega) (by omega) hi1 (conc_tms ht) (conc_chs hq) (by omega) (by show s.sq ≤ _; omega)).mono ?_)
        rintro e w2 ⟨rfl, o2, h9, h10, h11⟩
        refine ⟨rfl, o2, _, ⟨(hi.set hq (c := ⟨true, qs, qc, qr, none, ql⟩)).same rfl rfl, cps, List.prefix_rfl, by simpa using hcl, ?_⟩, h10, h11, rfl, rfl, (fun e => by cases e), fun r2 e => by cases e; rfl⟩
        have e2 := conc_set (s := { s with L := delL i1 s.L }) cps q1 q1 ⟨true, qs, qc, qr, none, ql⟩
        rw [e2]
        exact h9
       | none =>
       cases hf
       refine acdo_stop hb rfl ((acstop_0 (c := ⟨true, false, false, true, none, []⟩) (kd := 1) (cc := 0) (a := a1) (bb := b1) (i := i1) hx hw hb hg rfl rfl rfl (by omega) (by omega) hi1 (conc_tms ht) (conc_chs hq) (by omega) (by show s.sq ≤ _; omega)).mono ?_)
       rintro e w2 ⟨rfl, o2, h9, h10, h11⟩
       exact ⟨rfl, o2, _, ⟨⟨hi.idx, hi.tmc⟩, cps, List.prefix_rfl, hcl, h9⟩, h10, h11, rfl, rfl, (fun e => by cases e), fun r2 e => by cases e; rfl⟩
      ·cases hf
  ·cases hf
 split at hf
 ·rename_i hop
  have hop : xo = _ := hop
  subst hop
  unfold actReset at hf
  dsimp only at hf
  split at hf
  ·rename_i hc
   obtain ⟨⟨h1, h2⟩, ⟨h3, h4⟩, ⟨h12, h13⟩, h5, h6, h7⟩ := hc
   obtain ⟨a1, rfl⟩ := Int.eq_ofNat_of_zero_le h1
   obtain ⟨b1, rfl⟩ := Int.eq_ofNat_of_zero_le h3
   obtain ⟨c1, rfl⟩ := Int.eq_ofNat_of_zero_le h12
   simp only [Int.toNat_natCast] at hf h5 h6 h7
   obtain ⟨i1, hi1⟩ := Int.eq_ofNat_of_zero_le h5
   rw [hi1] at hf
   simp only [Int.toNat_natCast] at hf
   have hadd := addZ_small l12 (by omega) h6 (by omega)
   have hn1 : (0 : Int) ≤ addZ s.now (r.get b1) := by rw [hadd]; omega
   have hn2 : addZ s.now (r.get b1) ≤ 4611686018427387904 := by rw [hadd]; omega
   split at hf
   ·cases hf
   ·rename_i t ht
    split at hf
    ·cases hf
    ·rename_i ci hci
     split at hf
     ·cases hf
     ·rename_i q hq
      split at hf
      ·rename_i hc2
       obtain ⟨k1, k2, k3⟩ := hc2
       obtain ⟨tk, td, tc⟩ := t
       obtain ⟨q1, qt, qs, qc, qr, qv, ql⟩ := q
       simp only at k1 k2 k3 hci
       subst k1 k2 k3 hci
       have hq1 : q1 = ci := hi.idx ci _ hq
       subst hq1
       cases hf
       refine acdo_reset hb rfl ((acreset_0 (a := a1) (bb := b1) (cc := c1) (i := i1) hx hw hb hg rfl rfl rfl rfl (by omega) (by omega) (by omega) hi1 (conc_tms ht) (conc_chs hq) (by omega) (by show s.sq < _; omega) h6 ⟨l12, by show s.now ≤ _; omega⟩ hn1 hn2).mono ?_)
       rintro e w2 ⟨rfl, o2, h9, h10, h11⟩
       have h9 : WW CX w2 b o2 ps { conc cps s with L := insL ⟨i1, addZ s.now (r.get b1), s.sq + 1⟩ (delL i1 (delL i1 s.L)), sq := s.sq + 1 } := h9
       rw [hadd] at h9
       exact ⟨rfl, o2, _, ⟨⟨hi.idx, hi.tmc⟩, cps, List.prefix_rfl, hcl, h9⟩, h10, h11, rfl, rfl, (fun e => by cases e), fun r2 e => by cases e; rfl⟩
      ·cases hf
  ·cases hf
 cases hf
end
theorem wrun_act2 {CX : World → (Nat → Prop) → Prop} {w : World} {b : Wp} {o : Nat → Nat} {ps : List (List Ins)} {s : Wst} {n d : Int} {j i pg pc : Nat} {x : Tsk} {p : List Ins} {ins : Ins} {Q : Wst → Ac → Prop} (hx : Ext CX) (h : WW CX w b o ps s) (hsl : Sel ps s n j i x p pg pc) (hins : p[pc]? = some ins) (hrl : s.rd.length ≤ 1000) (hnl : s.nl < 900000)
  (hl : ∀ (w1 : World) (a : Option Addr) (ci : Nat), RowIn insC 6 w1 a p.length p → Calls Tryz.prog 48 #[.slice a p.length ci, .int .i64 pc, regV x.regs, .int .i64 s.now] w1 fun e w' => e = .returned (.tuple #[.agg (outA ⟨0, ⟨0, 0, 0, 0, 0, 0, 0, 0⟩, false, 0, false⟩), .int .i64 7]) ∧ Made w1 w')
  (ha : ∀ (w1 : World) (o1 : Nat → Nat) (g : Nat), WW CX w1 b o1 ps { s with nl := s.nl + 1 } → Blk w1 g 131 (acA b.pb ⟨i, ins, x.regs, x.regs, d, 0, false⟩) → ¬ Own o1 g → Calls Tryz.prog 50 #[.pointer (some ⟨g, 0, none⟩)] w1 fun e w' => e = .returned (.tuple #[]) ∧ ∃ o' s2 x2, Q s2 x2 ∧ WW CX w' b o' ps s2 ∧ AStp w1 w' o1 o' g ∧ Blk w' g 131 (acA b.pb x2))
  (hq : ∀ s2 x2, Q s2 x2 → FinOK s2 i x x2) :
  Calls Tryz.prog 26 #[.pointer (some ⟨b.pb, 0, none⟩), .int .i64 n, .int .i64 d] w fun e w' => e = .returned (.tuple #[]) ∧ ∃ o' s2 x2, Q s2 x2 ∧ WW CX w' b o' ps (finS s2 i x x2) ∧ Stp w w' (Own o) (Own o') := by
 refine (wrun_actx (κ := Unit) (CX := fun _ => CX) (k0 := ()) (Q := fun _ => Q) (fun _ => hx) h hsl hins hrl hnl hl (fun w1 o1 g h1 h2 h3 => (ha w1 o1 g h1 h2 h3).mono ?_) (fun _ => hq)).mono ?_
 ·rintro e w' ⟨rfl, o', s2, x2, g1, g2, g3, g4⟩
  exact ⟨rfl, o', (), s2, x2, g1, g2, g3, g4⟩
 ·rintro e w' ⟨rfl, o', -, s2, x2, g1, g2, g3⟩
  exact ⟨rfl, o', s2, x2, g1, g2, g3⟩
def RO (CX : World → (Nat → Prop) → Prop) (b : Wp) (ps : List (List Ins)) (s2 : Wst) (now : Int) (n : Nat) (w : World) (o : Nat → Nat) : Prop := ∃ s, s.now = now ∧ WW CX w b o ps s ∧ Fires n s s2
theorem wakesS_now : ∀ (l : List Wk) (s : Wst), (wakesS s l).now = s.now
 | [], s => rfl
 | x :: l, s => by
  refine (wakesS_now l (wakeS s x)).trans ?_
  unfold wakeS
  cases s.ts[x.task.toNat]? <;> rfl
theorem fsysO {CX : World → (Nat → Prop) → Prop} (hx : Ext CX) (b : Wp) (ps : List (List Ins)) (s2 : Wst) : FSys b (RO CX b ps s2) (FSt CX b ps s2) (fun w o => WW CX w b o ps s2) where
 rturns := fun now n S w w' o ⟨s, h1, h2, h3⟩ ht hn => ⟨s, h1, h2.turns hx ht hn, h3⟩
 rlt := fun now n w o ⟨s, h1, h2, h3⟩ => h2.lt
 rcell := fun now n w o ⟨s, h1, h2, h3⟩ => h2.cell5
 rnow := fun now n w o ⟨s, h1, h2, h3⟩ => by
  subst h1
  exact wnow_c h2
 rfire := fun now n w o ⟨s, h1, h2, h3⟩ => by
  subst h1
  exact wFire_any hx h2 h3
 sturns := fun n lo S w w' o fc ok h ht hn hr => h.turns hx ht hn hr
 slow := fun n lo w o fc ok h => h.low
 slt := fun n lo w o fc ok h => h.lt
 scell := fun n lo w o fc ok h => h.cell5
 sno := fun n lo w o fc h => by
  rcases h with ⟨_, _, h⟩ | ⟨h1, _⟩
  ·exact h
  ·cases h1
 syes := fun n lo w o fc h => by
  rcases h with ⟨h1, _⟩ | ⟨h1, m, sm, i, wh, dt, ci, cp, c, c', l, ll, a, rfl, hp, hl, hc, hev, hnd, hok, hk, rfl, h2, hr, hu⟩
  ·cases h1
  ·refine ⟨m, sm.now, rfl, (wfire_c (i := i) (wh := wh) (now := sm.now) (dt := dt) (c := c') hx h2 hp.tm (by
      show (sm.chs.set ci (cp, c'))[ci]? = some (cp, c')
      exact List.getElem?_set_self (List.getElem?_eq_some_iff.1 hp.ch).1) hr (fun b' off e => ⟨(hu b' off e).1, (hu b' off e).2.1⟩) hl hp.tl (by show (sm.chs.set ci (cp, c')).length ≤ 1000; rw [List.length_set]; exact hc) hev hnd hok).mono ?_⟩
   rintro e w3 ⟨rfl, o3, h3, hs3⟩
   exact ⟨rfl, o3, ⟨wakesS (fireB { sm with L := ll, chs := sm.chs.set ci (cp, c') } i wh) l, (wakesS_now l _).trans rfl, h3, hk⟩, hs3⟩
theorem wadvance_c2 {CX : World → (Nat → Prop) → Prop} {w : World} {b : Wp} {o : Nat → Nat} {ps : List (List Ins)} {s : Wst} {n : Nat} {d : Int} {s2 : Wst} (hx : Ext CX) (h : WW CX w b o ps s) (hd : 0 ≤ d) (hf : Fires n { s with now := addZ s.now d } s2) (htl : s.tms.length ≤ 1000) :
  Calls Tryz.prog 25 #[.pointer (some ⟨b.pb, 0, none⟩), .int .i64 d] w fun e w' => e = .returned (.tuple #[]) ∧ ∃ o', WW CX w' b o' ps s2 ∧ Stp w w' (Own o) (Own o') := by
 obtain ⟨vp, vc, vl, ve, h⟩ := h
 refine wadvance_x (now0 := addZ s.now d) (n := n) (fsysO hx b ps s2) (h.blk.cell 1) ((kadvance_c h.clk hd).mono ?_)
 rintro e w0 ⟨rfl, hk, ht⟩
 obtain ⟨oA, hA, hsA⟩ := h.stepClk hx hk (ht.mono (fun j _ e => by show o j = 2; rw [e]; exact h.ok))
 exact ⟨rfl, oA, ⟨{ s with now := addZ s.now d }, rfl, ⟨_, _, _, _, hA⟩, hf⟩, hsA⟩
end Go.Proofs.YtjnkphhlkoapbaaGreat
