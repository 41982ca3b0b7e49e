/-
  Walks and laws under LawTopNested, part 4.
-/
import Derived.Test.YtjnkphhlkoapbaaGreatProg
import Derived.WalkKit
import Derived.Below
import Derived.Lib.Hide
import Derived.IntWalk
import Derived.WalkLawsBesides
import Derived.Laws.StructEq
import Derived.Test.YtjnkphhlkoapbaaGreatPn3
set_option linter.unusedVariables false
set_option linter.unusedSimpArgs false
set_option maxRecDepth 100000
set_option maxHeartbeats 16000000
namespace Go.Proofs.YtjnkphhlkoapbaaGreat
open Go.RowKit
structure Wk where
 task : Int
 kase : Int
 val : Int
 ok : Bool
 panic : Bool
def wkC (x : Wk) : List Value := [.int .i64 x.task, .int .i64 x.kase, .int .i64 x.val, .bool x.ok, .bool x.panic]
def WkRow (w w' : World) (F : Nat → Prop) (a : Option Addr) (l : List Wk) : Prop := RowIn wkC 5 w' a l.length l ∧ ∀ b off, a = some ⟨b, off, none⟩ → w.heap.size ≤ b ∧ ¬ F b
theorem wkRow_one {w w' : World} {F : Nat → Prop} {b : Nat} {t : TypeId} {x : Wk} (h : Blk w' b t (wkC x).toArray) (hb : w.heap.size ≤ b) (hn : ¬ F b) : WkRow w w' F (some ⟨b, 0, none⟩) [x] := by
 refine ⟨⟨rfl, .inr ⟨b, 0, rfl, h.lt, fun k z hz j v hv => ?_⟩⟩, fun b' off e => ?_⟩
 ·have hk : k = 0 := by
   have := (List.getElem?_eq_some_iff.1 hz).1
   simp at this
   omega
  subst hk
  simp only [List.getElem?_cons_zero, Option.some.injEq] at hz
  subst hz
  have := h.cell (0 + 0 * 5 + j)
  rw [this]
  simpa using hv
 ·simp only [Option.some.injEq, Addr.mk.injEq, and_true] at e
  rw [← e.1]
  exact ⟨hb, hn⟩
theorem chdeliver_0 {w : World} {p r q1 q2 : Nat} {lb : Nat → Nat} {t s cl rm : Bool} {v0 : Option Int} (v : Int) (h : ChIn w p r q1 q2 lb ⟨t, s, cl, rm, v0, []⟩) :
  Calls Tryz.prog 106 #[.pointer (some ⟨p, 0, none⟩), .int .i64 v] w fun e w' => e = .returned (.slice none 0 0) ∧ Made w w' := by
 have c1 := h.blk.cell 1
 simp only [zG] at c1
 have H := zh (wpop_nil h.qr)
 clear h
 go_enter Tryz.func106, Tryz.ntmps106
 go_wp2_with fail
 refine H.out.mono ?_
 rintro e w1 ⟨rfl, hm⟩
 have HM := zh hm
 clear hm
 go_wp2_with fail
 go_ret
 exact ⟨rfl, HM.out.alloc _⟩
theorem chdeliver_1 {w : World} {p r q1 q2 : Nat} {lb : Nat → Nat} {F : Nat → Prop} {t s cl rm : Bool} {v0 : Option Int} {x : Wt} {l : List Wt} (v : Int) (h : ChIn w p r q1 q2 lb ⟨t, s, cl, rm, v0, x :: l⟩) (hl : Lab w lb F) (hn : l.length ≤ 1000) :
  Calls Tryz.prog 106 #[.pointer (some ⟨p, 0, none⟩), .int .i64 v] w fun e w' => ∃ a F' lb', e = .returned (.slice a 1 1) ∧ WkRow w w' F' a [⟨x.task, x.kase, v, true, false⟩] ∧ ChIn w' p r q1 q2 lb' ⟨t, s, cl, rm, v0, l⟩ ∧ Lab w' lb' F' ∧ Stp w w' F F' := by
 have c1 := h.blk.cell 1
 simp only [zG] at c1
 have H := zh (wpop_c h.qr (by omega))
 have HC := zh h
 have HL := zh hl
 clear h hl
 go_enter Tryz.func106, Tryz.ntmps106
 go_wp2_with fail
 refine H.out.mono ?_
 rintro e w1 ⟨rfl, F1, hq, hs⟩
 obtain ⟨lb', FF, hc', hl', hst⟩ := HC.out.setQr HL.out hq hs
 have HE := zh (And.intro hc' (And.intro hl' hst))
 clear hq hs hc' hl' hst
 go_wp2_with fail
 go_ret
 obtain ⟨hc', hl', hst⟩ := HE.out
 have hm1 := (zT w1).alloc (.cells #[.int .i64 x.task, .int .i64 x.kase, .int .i64 x.val] 245)
 have hm2 := hm1.alloc (.cells #[.int .i64 x.task, .int .i64 x.kase, .int .i64 v, .bool true, .bool false] 207)
 have hb := Blk.new (w1.alloc (.cells #[.int .i64 x.task, .int .i64 x.kase, .int .i64 x.val] 245)) 207 #[.int .i64 x.task, .int .i64 x.kase, .int .i64 v, .bool true, .bool false]
 rw [World.size_alloc] at hb
 have hsz := hst.t.size
 refine ⟨_, FF, lb', rfl, wkRow_one (x := ⟨x.task, x.kase, v, true, false⟩) hb (by omega) (fun hk => ?_), hc'.made hm2, hl'.turns hm2, hst.then_made hm2⟩
 have := hl'.lt _ ((hl'.on _).1 hk)
 omega
theorem chput_0 {w : World} {p : Nat} {F : Nat → Prop} {s cl : Bool} (v : Int) (h : ChAt w p F ⟨true, s, cl, true, none, []⟩) :
  Calls Tryz.prog 64 #[.pointer (some ⟨p, 0, none⟩), .int .i64 v] w fun e w' => e = .returned (.tuple #[.slice none 0 0, .bool true]) ∧ ChAt w' p F ⟨true, s, cl, true, some v, []⟩ ∧ Turns F w w' := by
 obtain ⟨r, q1, q2, lb, h, hl⟩ := h
 have c3 := h.blk.cell 3
 simp only [zG] at c3
 have H := zh (chdeliver_0 v h)
 have HC := zh h
 have HL := zh hl
 clear h hl
 go_enter Tryz.func64, Tryz.ntmps64
 go_wp2_with fail
 refine H.out.mono ?_
 rintro e w1 ⟨rfl, hm⟩
 have HC1 := zh (HC.out.made hm)
 have HM := zh hm
 have c0 := HC1.out.blk.cell 0
 simp only [zG] at c0
 have HP := zh (rgpush_c v HC1.out.ring)
 clear hm c3
 go_wp2_with fail
 refine HP.out.mono ?_
 rintro e w2 ⟨rfl, hr, ht⟩
 have HE := zh (HC1.out.setRing (HL.out.turns HM.out) hr ht)
 clear hr ht
 go_wp2_with fail
 go_ret2
 exact ⟨rfl, ⟨r, q1, q2, lb, HE.out.1, HE.out.2.1⟩, (HM.out.mono (fun _ _ h => h.elim)).trans HE.out.2.2⟩
theorem chput_w {w : World} {p : Nat} {F : Nat → Prop} {s cl rm : Bool} {v0 : Option Int} {x : Wt} {l : List Wt} (v : Int) (h : ChAt w p F ⟨true, s, cl, rm, v0, x :: l⟩) (hn : l.length ≤ 1000) :
  Calls Tryz.prog 64 #[.pointer (some ⟨p, 0, none⟩), .int .i64 v] w fun e w' => ∃ a F', e = .returned (.tuple #[.slice a 1 1, .bool true]) ∧ WkRow w w' F' a [⟨x.task, x.kase, v, true, false⟩] ∧ ChAt w' p F' ⟨true, s, cl, rm, v0, l⟩ ∧ Stp w w' F F' := by
 obtain ⟨r, q1, q2, lb, h, hl⟩ := h
 have c3 := h.blk.cell 3
 simp only [zG] at c3
 have H := zh (chdeliver_1 v h hl hn)
 clear h hl
 go_enter Tryz.func64, Tryz.ntmps64
 go_wp2_with fail
 refine H.out.mono ?_
 rintro e w1 ⟨a, F', lb', rfl, h1, h2, h3, h4⟩
 have HE := zh (And.intro h1 (And.intro h2 (And.intro h3 h4)))
 clear h1 h2 h3 h4
 go_wp2_with fail
 go_ret2
 exact ⟨a, F', rfl, HE.out.1, ⟨r, q1, q2, lb', HE.out.2.1, HE.out.2.2.1⟩, HE.out.2.2.2⟩
theorem chdrop_0 {w : World} {p : Nat} {F : Nat → Prop} {s cl rm : Bool} {l : List Wt} (h : ChAt w p F ⟨true, s, cl, rm, none, l⟩) :
  Calls Tryz.prog 177 #[.pointer (some ⟨p, 0, none⟩)] w fun e w' => e = .returned (.bool false) ∧ w = w' := by
 obtain ⟨r, q1, q2, lb, h, hl⟩ := h
 have c3 := h.blk.cell 3
 have c0 := h.blk.cell 0
 simp only [zG] at c0 c3
 have H := zh (rgclear_none h.ring)
 clear h hl
 go_enter Tryz.func177, Tryz.ntmps177
 go_wp2_with fail
 refine H.out.mono ?_
 rintro e w1 ⟨rfl, rfl⟩
 go_wp2_with fail
 go_ret
 exact ⟨rfl, rfl⟩
theorem chdrop_1 {w : World} {p : Nat} {F : Nat → Prop} {s cl rm : Bool} {v : Int} {l : List Wt} (h : ChAt w p F ⟨true, s, cl, rm, some v, l⟩) :
  Calls Tryz.prog 177 #[.pointer (some ⟨p, 0, none⟩)] w fun e w' => e = .returned (.bool true) ∧ ChAt w' p F ⟨true, s, cl, rm, none, l⟩ ∧ Turns F w w' := by
 obtain ⟨r, q1, q2, lb, h, hl⟩ := h
 have c3 := h.blk.cell 3
 have c0 := h.blk.cell 0
 simp only [zG] at c0 c3
 have H := zh (rgclear_some h.ring)
 have HC := zh h
 have HL := zh hl
 clear h hl
 go_enter Tryz.func177, Tryz.ntmps177
 go_wp2_with fail
 refine H.out.mono ?_
 rintro e w1 ⟨rfl, hr, ht⟩
 have HE := zh (HC.out.setRing HL.out hr ht)
 clear hr ht
 go_wp2_with fail
 go_ret
 exact ⟨rfl, ⟨r, q1, q2, lb, HE.out.1, HE.out.2.1⟩, HE.out.2.2⟩
theorem chrecv_0 {w : World} {p : Nat} {F : Nat → Prop} {t s cl rm : Bool} {l : List Wt} (h : ChAt w p F ⟨t, s, cl, rm, none, l⟩) :
  Calls Tryz.prog 166 #[.pointer (some ⟨p, 0, none⟩)] w fun e w' => e = .returned (.tuple #[.int .i64 0, .bool false, .bool cl, .slice none 0 0]) ∧ Made w w' := by
 obtain ⟨r, q1, q2, lb, h, hl⟩ := h
 have c0 := h.blk.cell 0
 have c2 := h.blk.cell 2
 simp only [zG] at c0 c2
 have H := zh (rgpop_none h.ring)
 have HQ := zh (wpop_nil h.qs)
 have HC := zh h
 clear h hl
 go_enter Tryz.func166, Tryz.ntmps166
 go_wp2_with fail
 refine H.out.mono ?_
 rintro e w1 ⟨rfl, rfl⟩
 go_wp2_with fail
 refine HQ.out.mono ?_
 rintro e w2 ⟨rfl, hm⟩
 have HM := zh (hm.alloc (.cells #[.int .i64 0, .int .i64 0, .int .i64 0] 245))
 have c5 := (HC.out.made HM.out).blk.cell 5
 simp only [zG] at c5
 clear hm c0 c2
 go_wp2_with fail
 go_quiet (fail)
 go_wp2_with fail
 exact bodyPost_ret (v := .tuple #[.int .i64 0, .bool false, .bool cl, .slice none 0 0]) (by simp [results, Tryz.results166, go_sem]) rfl ⟨rfl, by first | exact HM.out | exact HM.out.drew | exact HM.out.drewN _⟩
theorem anyWait_c (f : Value) (w : World) : Calls Tryz.prog 197 #[.slice none 0 0, f] w fun e w' => e = .returned (.bool false) ∧ w = w' := by
 have H : ∀ w, Calls Tryz.prog 209 #[.slice none 0 0, f] w fun e w' => e = .returned (.int .i64 (-1)) ∧ w = w' := by
  intro w
  go_enter Tryz.func209, Tryz.ntmps209
  go_wp2_with fail
  refine wp_loop_rounds 1 ?_
  rw [rounds_succ]
  go_wp2_with fail
  go_ret
  exact ⟨rfl, rfl⟩
 have H := zh H
 go_enter Tryz.func197, Tryz.ntmps197
 go_wp2_with fail
 refine (H.out _).mono ?_
 rintro e w' ⟨rfl, rfl⟩
 go_wp2_with fail
 go_ret
 exact ⟨rfl, rfl⟩
theorem chwait_c {w : World} {p : Nat} {F : Nat → Prop} {t s rm : Bool} {l : List Wt} (x : Wt) (h : ChAt w p F ⟨t, s, false, rm, none, l⟩) (hn : l.length ≤ 1000) :
  Calls Tryz.prog 165 #[.pointer (some ⟨p, 0, none⟩), .agg #[.int .i64 x.task, .int .i64 x.kase, .int .i64 x.val], .bool false] w fun e w' => e = .returned (.int .i64 0) ∧ ∃ F', ChAt w' p F' ⟨t, s, false, rm, none, l ++ [x]⟩ ∧ Stp w w' F F' := by
 have HM := zh ((zT w).alloc (.cells #[.int .i64 x.task, .int .i64 x.kase, .int .i64 x.val] 245))
 have HX := zh (Blk.new w 245 #[.int .i64 x.task, .int .i64 x.kase, .int .i64 x.val])
 have HMu := zh (chmute_c (h.made HM.out))
 obtain ⟨r, q1, q2, lb, h0, hl0⟩ := h
 have HC := zh (h0.made HM.out)
 have HL := zh (hl0.turns HM.out)
 have HN := zh (show lb w.heap.size = 0 from by
  by_cases e : lb w.heap.size = 0
  ·exact e
  ·have := hl0.lt _ e; omega)
 have c5 := HC.out.blk.cell 5
 simp only [zG] at c5
 clear h0 hl0
 obtain ⟨ts, hts⟩ : ∃ ts, ts = (t || s) := ⟨_, rfl⟩
 rw [← hts] at HMu
 clear hts
 cases ts
 all_goals
  go_enter Tryz.func165, Tryz.ntmps165
  go_wp2_with fail
  generalize w.alloc (.cells #[.int .i64 x.task, .int .i64 x.kase, .int .i64 x.val] 245) = W at *
  refine HMu.out.mono ?_
  rintro e w1 ⟨rfl, rfl⟩
  go_wp2_with fail
  refine (chfree_r HC.out).mono ?_
  rintro e w1 ⟨rfl, rfl⟩
  go_wp2_with fail
  refine (chwaiting_s HC.out).mono ?_
  rintro e w1 ⟨rfl, rfl⟩
  go_wp2_with fail
  refine (anyWait_c _ _).mono ?_
  rintro e w1 ⟨rfl, rfl⟩
  go_upto_region 10 with fail
  have HQ := zh (chqueue_r (HC.out.made (zT W).drew))
  have HP := zh (wpush_c x (HC.out.qr.made (zT W).drew) (by show l.length ≤ 1000000; omega))
  clear c5
  refine wp_region_held_drew (S := fun w' => Blk w' (w.heap.size) 245 #[.int .i64 x.task, .int .i64 x.kase, .int .i64 x.val] ∧ Turns (fun k => lb k = 3) W w') (by kernel_rfl) ?_ (fun hHeld => ?_)
  ·exact ⟨HX.out, (Turns.refl _ W).drew⟩
  refine tH 0 34 ?_ ?_ ?_;rotate_left
  ·intro w hSw
   go_simp
   try with_reducible rfl
  try simp only [zP]
  refine tH 1 35 ?_ ?_ ?_;rotate_left
  ·intro w hSw
   go_simp
   try with_reducible rfl
  try simp only [zP]
  refine tH 3 37 ?_ ?_ ?_;rotate_left
  ·intro w hSw
   have q0_0 := hSw.1.cell 0
   have q0_1 := hSw.1.cell 1
   have q0_2 := hSw.1.cell 2
   simp only [zG] at q0_0 q0_1 q0_2
   go_simp
   try with_reducible rfl
  try simp only [zP]
  refine zR 2 fun K hK => ?_
  go_simp
  refine HQ.out.mono ?_
  rintro e w2 ⟨rfl, rfl⟩
  refine hK.out _ _ ?_ (fun hHeld => ?_)
  ·exact hHeld
  clear hK K
  try simp only [zP]
  refine zR 4 fun K hK => ?_
  go_simp
  refine HP.out.mono ?_
  rintro e w2 ⟨rfl, F2, hq2, hs2⟩
  refine hK.out _ _ ?_ (fun hHeld => ?_)
  ·exact ⟨hHeld.1.turns hs2.t (fun e => by rw [HN.out] at e; omega), hHeld.2.trans hs2.t⟩
  clear hK K
  try simp only [zP]
  refine wpAnyH_done (by kernel_rfl) ?_ _
  obtain ⟨lb2, FF, hc2, hl2, hst2⟩ := (HC.out.made (zT W).drew).setQr (HL.out.turns (zT W).drew) hq2 hs2
  have HE := zh (And.intro hc2 (And.intro hl2 (((Stp.made (F := F) HM.out).trans (Stp.made (zT W).drew)).trans hst2)))
  clear hHeld hq2 hs2 hc2 hl2 hst2
  go_wp2_with fail
  go_ret
  exact ⟨rfl, FF, ⟨r, q1, q2, lb2, HE.out.1, HE.out.2.1⟩, HE.out.2.2⟩
section
theorem mx2 (k k' : IntKind) (x y : Int) : Builtin.max2 (.int k x) (.int k' y) = pure (.int k (if x < y then y else x)) := by simp only [Builtin.max2, gt_iff_lt]
theorem mn2 (k k' : IntKind) (x y : Int) : Builtin.min2 (.int k x) (.int k' y) = pure (.int k (if y < x then y else x)) := by simp only [Builtin.min2]
theorem mx_two (ats : Array TypeId) (ty : TypeId) (a b : Value) : Builtin.max_ ats ty #[a, b] = (Builtin.max2 a b >>= fun s => pure s) := by simp only [Builtin.max_, List.foldlM_cons, List.foldlM_nil]
theorem mn_two (ats : Array TypeId) (ty : TypeId) (a b : Value) : Builtin.min_ ats ty #[a, b] = (Builtin.min2 a b >>= fun s => pure s) := by simp only [Builtin.min_, List.foldlM_cons, List.foldlM_nil]
theorem mx_three (ats : Array TypeId) (ty : TypeId) (a b c : Value) : Builtin.max_ ats ty #[a, b, c] = (Builtin.max2 a b >>= fun s => Builtin.max2 s c >>= fun s => pure s) := by simp only [Builtin.max_, List.foldlM_cons, List.foldlM_nil]
def heldZ (t : Int) : Int := if t < -4611686018427387904 then -4611686018427387904 else if 4611686018427387904 < t then 4611686018427387904 else t
theorem heldZ_bd (t : Int) : -4611686018427387904 ≤ heldZ t ∧ heldZ t ≤ 4611686018427387904 := by unfold heldZ; split <;> (try split) <;> omega
def addZ (t d : Int) : Int := heldZ (heldZ t + heldZ d)
section
attribute [local go_sem] mx2 mn2 mx_two mn_two mx_three
theorem held_c (t : Int) (w : World) : Calls Tryz.prog 101 #[.int .i64 t] w fun e w' => e = .returned (.int .i64 (heldZ t)) ∧ w = w' := by
 by_cases h1 : t < -4611686018427387904
 ·have e : heldZ t = -4611686018427387904 := by unfold heldZ; rw [if_pos h1]
  rw [e]; clear e
  go_enter Tryz.func101, Tryz.ntmps101
  go_wp2
  go_ret
  exact ⟨rfl, rfl⟩
 ·by_cases h2 : 4611686018427387904 < t
  ·have e : heldZ t = 4611686018427387904 := by unfold heldZ; rw [if_neg h1, if_pos h2]
   rw [e]; clear e
   go_enter Tryz.func101, Tryz.ntmps101
   go_wp2
   go_ret
   exact ⟨rfl, rfl⟩
  ·have e : heldZ t = t := by unfold heldZ; rw [if_neg h1, if_neg h2]
   rw [e]; clear e
   go_enter Tryz.func101, Tryz.ntmps101
   go_wp2
   go_ret
   exact ⟨rfl, rfl⟩
theorem add_c (t d : Int) (w : World) : Calls Tryz.prog 62 #[.int .i64 t, .int .i64 d] w fun e w' => e = .returned (.int .i64 (addZ t d)) ∧ w = w' := by
 obtain ⟨r, hr⟩ : ∃ r, addZ t d = r := ⟨_, rfl⟩
 rw [hr]
 have ht := held_c t w
 have hd := held_c d w
 have b1 := heldZ_bd t
 have b2 := heldZ_bd d
 unfold addZ at hr
 generalize heldZ t = x at *
 generalize heldZ d = y at *
 obtain ⟨b1, b1'⟩ := b1
 obtain ⟨b2, b2'⟩ := b2
 have Ht := zh ht
 have Hd := zh hd
 clear ht hd
 by_cases h1 : 0 < y
 ·by_cases h2 : 4611686018427387904 - y < x
  ·obtain rfl : 4611686018427387904 = r := by rw [← hr]; unfold heldZ; rw [if_neg (by omega), if_pos (by omega)]
   clear hr
   go_enter Tryz.func62, Tryz.ntmps62
   go_wp2_with (first | ((with_reducible refine Ht.out.mono ?_); rintro e w' ⟨rfl, rfl⟩) | ((with_reducible refine Hd.out.mono ?_); rintro e w' ⟨rfl, rfl⟩))
   go_ret
   exact ⟨rfl, rfl⟩
  ·obtain rfl : x + y = r := by rw [← hr]; unfold heldZ; rw [if_neg (by omega), if_neg (by omega)]
   clear hr
   go_enter Tryz.func62, Tryz.ntmps62
   go_wp2_with (first | ((with_reducible refine Ht.out.mono ?_); rintro e w' ⟨rfl, rfl⟩) | ((with_reducible refine Hd.out.mono ?_); rintro e w' ⟨rfl, rfl⟩))
   go_ret
   exact ⟨rfl, rfl⟩
 ·by_cases h2 : y < 0
  ·by_cases h3 : x < -4611686018427387904 - y
   ·obtain rfl : -4611686018427387904 = r := by rw [← hr]; unfold heldZ; rw [if_pos (by omega)]
    clear hr
    go_enter Tryz.func62, Tryz.ntmps62
    go_wp2_with (first | ((with_reducible refine Ht.out.mono ?_); rintro e w' ⟨rfl, rfl⟩) | ((with_reducible refine Hd.out.mono ?_); rintro e w' ⟨rfl, rfl⟩))
    go_ret
    exact ⟨rfl, rfl⟩
   ·obtain rfl : x + y = r := by rw [← hr]; unfold heldZ; rw [if_neg (by omega), if_neg (by omega)]
    clear hr
    go_enter Tryz.func62, Tryz.ntmps62
    go_wp2_with (first | ((with_reducible refine Ht.out.mono ?_); rintro e w' ⟨rfl, rfl⟩) | ((with_reducible refine Hd.out.mono ?_); rintro e w' ⟨rfl, rfl⟩))
    go_ret
    exact ⟨rfl, rfl⟩
  ·obtain rfl : 0 = y := by omega
   obtain rfl : x = r := by rw [← hr]; unfold heldZ; rw [if_neg (by omega), if_neg (by omega)]; omega
   clear hr
   go_enter Tryz.func62, Tryz.ntmps62
   go_wp2_with (first | ((with_reducible refine Ht.out.mono ?_); rintro e w' ⟨rfl, rfl⟩) | ((with_reducible refine Hd.out.mono ?_); rintro e w' ⟨rfl, rfl⟩))
   go_ret
   exact ⟨rfl, rfl⟩
def nextZ (when_ period now : Int) : Int × Int :=
 if period < 1 ∨ when_ < 0 ∨ now < 0 ∨ 4611686018427387904 < when_ ∨ 4611686018427387904 < period ∨ 4611686018427387904 < now then (0, 1)
 else if now < when_ then (when_, 0) else (addZ now (period - (now - when_) % period), 0)
theorem next_c (when_ period now : Int) (w : World) : Calls Tryz.prog 104 #[.int .i64 when_, .int .i64 period, .int .i64 now] w fun e w' => e = .returned (.tuple #[.int .i64 (nextZ when_ period now).1, .int .i64 (nextZ when_ period now).2]) ∧ w = w' := by
 by_cases hbad : period < 1 ∨ when_ < 0 ∨ now < 0 ∨ 4611686018427387904 < when_ ∨ 4611686018427387904 < period ∨ 4611686018427387904 < now
 ·have e : nextZ when_ period now = (0, 1) := by unfold nextZ; rw [if_pos hbad]
  rw [e]; clear e
  by_cases h1 : period < 1
  ·clear hbad
   go_enter Tryz.func104, Tryz.ntmps104
   go_wp2
   go_ret2
   exact ⟨rfl, rfl⟩
  ·by_cases h2 : when_ < 0 ∨ now < 0
   ·have h2' : (if now < when_ then now else when_) < 0 := by split <;> omega
    generalize hm : (if now < when_ then now else when_) = m at h2'
    clear h2 hbad
    go_enter Tryz.func104, Tryz.ntmps104
    go_wp2
    go_ret2
    exact ⟨rfl, rfl⟩
   ·have h2' : ¬ (if now < when_ then now else when_) < 0 := by split <;> omega
    generalize hm : (if now < when_ then now else when_) = m at h2'
    have h3 : 4611686018427387904 < (if (if when_ < period then period else when_) < now then now else (if when_ < period then period else when_)) := by
     by_cases q : when_ < period
     ·simp only [if_pos q]; split <;> omega
     ·simp only [if_neg q]; split <;> omega
    generalize hn : (if when_ < period then period else when_) = n at h3
    generalize hk : (if n < now then now else n) = k at h3
    clear h2 hbad
    go_enter Tryz.func104, Tryz.ntmps104
    go_wp2
    go_ret2
    exact ⟨rfl, rfl⟩
 ·have h1 : ¬ period < 1 := by omega
  have h2' : ¬ (if now < when_ then now else when_) < 0 := by split <;> omega
  generalize hm : (if now < when_ then now else when_) = m at h2'
  have h3 : ¬ 4611686018427387904 < (if (if when_ < period then period else when_) < now then now else (if when_ < period then period else when_)) := by
   by_cases q : when_ < period
   ·simp only [if_pos q]; split <;> omega
   ·simp only [if_neg q]; split <;> omega
  generalize hn : (if when_ < period then period else when_) = n at h3
  generalize hk : (if n < now then now else n) = k at h3
  by_cases h4 : now < when_
  ·have e : nextZ when_ period now = (when_, 0) := by unfold nextZ; rw [if_neg hbad, if_pos h4]
   rw [e]; clear e hbad
   go_enter Tryz.func104, Tryz.ntmps104
   go_wp2
   go_ret2
   exact ⟨rfl, rfl⟩
  ·have e : nextZ when_ period now = (addZ now (period - (now - when_) % period), 0) := by unfold nextZ; rw [if_neg hbad, if_neg h4]
   have q1 : 0 ≤ when_ := by omega
   have q2 : now ≤ 4611686018427387904 := by omega
   have q3 : period ≤ 4611686018427387904 := by omega
   have q4 : 0 ≤ (now - when_) % period := Int.emod_nonneg _ (by omega)
   have q5 : (now - when_) % period < period := Int.emod_lt_of_pos _ (by omega)
   have e1 : (now - when_).tmod period = (now - when_) % period := Int.tmod_eq_emod_of_nonneg (by omega)
   have e2 : wrap64 (now - when_) = now - when_ := by unfold wrap64; omega
   have e3 : wrap64 (period - (now - when_) % period) = period - (now - when_) % period := by
    generalize (now - when_) % period = z at *
    unfold wrap64; omega
   have e5 : (period == 0) = false := beq_eq_false_iff_ne.mpr (by omega)
   rw [e]; clear e hbad
   go_enter Tryz.func104, Tryz.ntmps104
   go_wp2_with (go_at_call 62; refine (add_c _ _ _).mono ?_; rintro e w' ⟨rfl, rfl⟩)
   go_ret2
   exact ⟨rfl, rfl⟩
end
end
theorem hrem_c {p : Nat} {F : Nat → Prop} {L : List It} {sq : Int} (id : Int) (w : World) (h : HeapAt w p F L sq) (hsq : sq ≤ 1000000) {x : It} (hx : findL id L = some x) :
  Calls Tryz.prog 151 #[.pointer (some ⟨p, 0, none⟩), .int .i64 id] w fun e w' => e = .returned (.tuple #[aggT x, .bool true]) ∧ HeapAt w' p F (delL id L) sq ∧ Stp w w' F F := by
 obtain ⟨mb, lv, ys, f, h⟩ := h
 have huL := h.uniq.perm h.perm.symm
 obtain ⟨hxL, hid⟩ := (findL_some huL id x).1 hx
 obtain ⟨k, hk⟩ := List.getElem?_of_mem (h.perm.mem_iff.2 hxL)
 refine (hrem_in id w h hsq hx hk hid).mono ?_
 rintro e w' ⟨rfl, lv', ys', f', hr, hp, ho, hpm, hlv, ht⟩
 have hdp := delL_perm huL hxL
 rw [hid] at hdp
 have hpm2 : ys'.Perm (delL id L) := ((hpm.trans h.perm).trans hdp).cons_inv
 have huy : Uniq ys' := by
  have h1 := h.uniq.perm hpm
  rw [Uniq.iff, List.map_cons, List.nodup_cons] at h1
  exact (Uniq.iff _).2 h1.2
 have ht' : Turns F w w' := ht.mono (fun b _ hb => by
  rcases hb with rfl | rfl | hb
  ·exact h.fp
  ·exact h.fm
  ·exact h.fl b hb)
 exact ⟨rfl, ⟨mb, lv', ys', f', { raw := hr, pos := hp, uniq := huy, ord := ho, perm := hpm2, rise := delL_rise h.rise id, seqs := fun z hz => h.seqs z (delL_mem.1 hz).1, len := by have := delL_le L id; have := h.len; omega, fp := h.fp, fm := h.fm, fl := fun b hb => h.fl b (by rw [← hlv]; exact hb), fb := fun b hb => Nat.lt_of_lt_of_le (h.fb b hb) ht.size }⟩, ⟨ht', fun b hb => .inl hb⟩⟩
theorem findL_del (id : Int) (L : List It) : findL id (delL id L) = none := (findL_none id).2 (fun x hx => (delL_mem.1 hx).2)
theorem delL_head {x : It} {l : List It} (hu : Uniq (x :: l)) : delL x.id (x :: l) = l := by
 have hn := (Uniq.iff _).1 hu
 rw [List.map_cons, List.nodup_cons] at hn
 unfold delL
 rw [List.filter_cons]
 simp only [bne_self_eq_false, Bool.false_eq_true, if_false]
 rw [List.filter_eq_self]
 intro z hz
 simp only [bne_iff_ne, ne_eq]
 exact fun e => hn.1 (by rw [← e]; exact List.mem_map_of_mem hz)
theorem hpop_c {p : Nat} {F : Nat → Prop} {x : It} {l : List It} {sq : Int} (w : World) (h : HeapAt w p F (x :: l) sq) (hsq : sq ≤ 1000000) :
  Calls Tryz.prog 103 #[.pointer (some ⟨p, 0, none⟩)] w fun e w' => e = .returned (.tuple #[aggT x, .bool true]) ∧ HeapAt w' p F l sq ∧ Stp w w' F F := by
 have H := zh (fun (w' : World) (hm : Made w w') => hmin_c w' (h.made hm))
 have hfx : findL x.id (x :: l) = some x := (findL_some h.uniq _ _).2 ⟨List.mem_cons_self .., rfl⟩
 have hde := delL_head h.uniq
 have H2 := zh (fun (w' : World) (hm : Made w w') => hrem_c x.id w' (h.made hm) hsq hfx)
 rw [hde] at H2
 have HM0 := zh (fun (o : Obj) => ((zT w).alloc o))
 have HF := zh h.fb
 clear h hfx hde
 simp only [List.getElem?_cons_zero, optT, Option.getD_some, Option.isSome_some] at H
 unfold aggT at *
 go_enter Tryz.func103, Tryz.ntmps103
 go_wp2_with fail
 refine (H.out _ (HM0.out _)).mono ?_
 rintro e w' ⟨rfl, hm⟩
 have hB1 := (Blk.new w 186 #[.int .i64 0, .int .i64 0, .int .i64 0]).turns hm (fun h => h)
 have HM := zh (((zT w).alloc _).trans hm)
 have HB := zh (hB1.alloc (.cells #[.int .i64 x.id, .int .i64 x.when, .int .i64 x.seq] 186))
 have HX := zh (Blk.new w' 186 #[.int .i64 x.id, .int .i64 x.when, .int .i64 x.seq])
 have hb1 := hB1.lt
 clear hm hB1 H
 go_wp2_with fail
 refine (H2.out _ (HM.out.alloc _)).mono ?_
 rintro e w2 ⟨rfl, hh, hs⟩
 have HH := zh hh
 have HS := zh hs
 have HB2 := zh (HB.out.turns hs.t (fun h => by have := HF.out _ h; omega))
 have HX2 := zh (HX.out.turns hs.t (fun h => by have := HF.out _ h; omega))
 have b0 := HB2.out.cell 0
 have b1 := HB2.out.cell 1
 have b2 := HB2.out.cell 2
 have g0 := HB2.out.free 0
 have g1 := HB2.out.free 1
 have g2 := HB2.out.free 2
 have k0 := HX2.out.cell 0
 have k1 := HX2.out.cell 1
 have k2 := HX2.out.cell 2
 simp only [zG] at b0 b1 b2 k0 k1 k2
 clear hh hs H2
 go_wp2_with fail
 refine bodyPost_ret (res_box rfl (HB2.out.put3 _ _ _) rfl rfl) rfl ?_
 refine ⟨rfl, HH.out.turns (set3 _ w.heap.size) (fun k hk e => ?_), ⟨?_, fun b hb => .inl hb⟩⟩
 ·have := HF.out _ hk; omega
 ·exact (((HM.out.alloc _).mono (fun _ _ h => h.elim)).then HS.out.t (fun _ _ h => h)).then (set3 _ w.heap.size) (fun b hb e => by omega)
theorem alloc_made (w : World) (o : Obj) : Made w (w.alloc o) := (Turns.refl _ _).alloc _
theorem Blk.made {w w' : World} {b : Nat} {t : TypeId} {cs : Array Value} (h : Blk w b t cs) (s : Made w w') : Blk w' b t cs := h.turns s (fun h => h)
section
def pv (pf : Int → Option Int) : Int → Option Value := fun k => (pf k).map (Value.int .i64)
def pdel (pf : Int → Option Int) (id : Int) : Int → Option Int := fun k => if k = id then none else pf k
def pset (pf : Int → Option Int) (id p : Int) : Int → Option Int := fun k => if k = id then some p else pf k
theorem pv_del (pf : Int → Option Int) (id : Int) : (fun j => if j = id then none else pv pf j) = pv (pdel pf id) := by
 funext j; unfold pv pdel; split <;> rfl
theorem pv_set (pf : Int → Option Int) (id p : Int) : (fun j => if j = id then some (.int .i64 p) else pv pf j) = pv (pset pf id p) := by
 funext j; unfold pv pset; split <;> rfl
structure TimIn (w : World) (q p mb : Nat) (F G : Nat → Prop) (L : List It) (sq : Int) (pf : Int → Option Int) : Prop where
 blk : Blk w q 145 #[.pointer (some ⟨p, 0, none⟩), .map (some mb)]
 heap : HeapAt w p F L sq
 map : MapI w mb (pv pf)
 nq : ¬ F q
 nm : ¬ F mb
 qm : q ≠ mb
 ga : ∀ k, F k → G k
 gq : G q
 gm : G mb
 gb : ∀ k, G k → k < w.heap.size
 per : ∀ id, pf id = none ↔ findL id L = none
def TimAt (w : World) (q : Nat) (G : Nat → Prop) (L : List It) (sq : Int) (pf : Int → Option Int) : Prop := ∃ p mb F, TimIn w q p mb F G L sq pf
theorem TimIn.turns {S : Nat → Prop} {w w' : World} {q p mb : Nat} {F G : Nat → Prop} {L : List It} {sq : Int} {pf : Int → Option Int} (h : TimIn w q p mb F G L sq pf) (ht : Turns S w w') (hn : ∀ k, G k → ¬ S k) : TimIn w' q p mb F G L sq pf :=
 { h with blk := h.blk.turns ht (hn _ h.gq), heap := h.heap.turns ht (fun k hk => hn k (h.ga k hk)), map := h.map.turns ht (hn _ h.gm), gb := fun k hk => Nat.lt_of_lt_of_le (h.gb k hk) ht.size }
theorem TimAt.turns {S : Nat → Prop} {w w' : World} {q : Nat} {G : Nat → Prop} {L : List It} {sq : Int} {pf : Int → Option Int} (h : TimAt w q G L sq pf) (ht : Turns S w w') (hn : ∀ k, G k → ¬ S k) : TimAt w' q G L sq pf := by
 obtain ⟨p, mb, F, h⟩ := h
 exact ⟨p, mb, F, h.turns ht hn⟩
theorem TimAt.made {w w' : World} {q : Nat} {G : Nat → Prop} {L : List It} {sq : Int} {pf : Int → Option Int} (h : TimAt w q G L sq pf) (ht : Made w w') : TimAt w' q G L sq pf := h.turns ht (fun _ _ h => h)
theorem TimIn.made {w w' : World} {q p mb : Nat} {F G : Nat → Prop} {L : List It} {sq : Int} {pf : Int → Option Int} (h : TimIn w q p mb F G L sq pf) (ht : Made w w') : TimIn w' q p mb F G L sq pf := h.turns ht (fun _ _ h => h)
theorem TimAt.gb {w : World} {q : Nat} {G : Nat → Prop} {L : List It} {sq : Int} {pf : Int → Option Int} (h : TimAt w q G L sq pf) : ∀ k, G k → k < w.heap.size := by obtain ⟨_, _, _, h⟩ := h; exact h.gb
theorem TimAt.per {w : World} {q : Nat} {G : Nat → Prop} {L : List It} {sq : Int} {pf : Int → Option Int} (h : TimAt w q G L sq pf) : ∀ id, pf id = none ↔ findL id L = none := by obtain ⟨_, _, _, h⟩ := h; exact h.per
attribute [local go_sem] run_mkmap
theorem tnew_c (w : World) : Calls Tryz.prog 35 #[] w fun e w' => ∃ (q : Nat) (G : Nat → Prop), e = .returned (.pointer (some ⟨q, 0, none⟩)) ∧ TimAt w' q G [] 0 (fun _ => none) ∧ Made w w' ∧ (∀ k, G k → w.heap.size ≤ k) := by
 have H := zh (hnew_c w)
 go_enter Tryz.func35, Tryz.ntmps35
 go_wp2_with fail
 refine H.out.mono ?_
 rintro e w1 ⟨p, F, rfl, hh, hm, hf⟩
 have HH := zh hh
 have HM := zh hm
 have HF := zh hf
 have HB := zh (Blk.new (w1.alloc (.map #[] 0)) 145 #[.pointer (some ⟨p, 0, none⟩), .map (some w1.heap.size)])
 have HP := zh ((MapI.new w1).alloc (.cells #[.pointer (some ⟨p, 0, none⟩), .map (some w1.heap.size)] 145))
 clear hh hm hf H
 go_wp2_with fail
 go_ret
 have hsz := HM.out.size
 refine ⟨w1.heap.size + 1, fun k => F k ∨ k = w1.heap.size + 1 ∨ k = w1.heap.size, by simp, ⟨p, w1.heap.size, F, { blk := by have := HB.out; rw [World.size_alloc] at this; exact this, heap := (HH.out.made (alloc_made _ _)).made (alloc_made _ _), map := HP.out, nq := fun h => by have := HH.out.fb _ h; omega, nm := fun h => by have := HH.out.fb _ h; omega, qm := by omega, ga := fun k h => .inl h, gq := .inr (.inl rfl), gm := .inr (.inr rfl), gb := ?_, per := fun id => ⟨fun _ => rfl, fun _ => rfl⟩ }⟩, (HM.out.alloc _).alloc _, ?_⟩
 ·intro k hk
  simp only [World.size_alloc]
  rcases hk with h | h | h
  ·have := HH.out.fb _ h; omega
  ·omega
  ·omega
 ·intro k hk
  rcases hk with h | h | h
  ·exact HF.out k h
  ·omega
  ·omega
theorem delL_none {L : List It} {id : Int} (h : findL id L = none) : delL id L = L := by
 unfold delL
 rw [List.filter_eq_self]
 intro x hx
 simpa using (findL_none id).1 h x hx
theorem hrem_any {p : Nat} {F : Nat → Prop} {L : List It} {sq : Int} (id : Int) (w : World) (h : HeapAt w p F L sq) (hsq : sq ≤ 1000000) :
  Calls Tryz.prog 151 #[.pointer (some ⟨p, 0, none⟩), .int .i64 id] w fun e w' => e = .returned (.tuple #[aggT (optT (findL id L)), .bool (findL id L).isSome]) ∧ HeapAt w' p F (delL id L) sq ∧ Stp w w' F F := by
 cases hf : findL id L with
 | none =>
  refine (hrem_none id w h hf).mono ?_
  rintro e w' ⟨rfl, hm⟩
  exact ⟨rfl, by rw [delL_none hf]; exact h.made hm, Stp.made hm⟩
 | some x =>
  refine (hrem_c id w h hsq hf).mono ?_
  rintro e w' ⟨rfl, hh, hs⟩
  exact ⟨rfl, hh, hs⟩
theorem per_del {L : List It} {pf : Int → Option Int} (hp : ∀ id, pf id = none ↔ findL id L = none) (id : Int) : ∀ i, pdel pf id i = none ↔ findL i (delL id L) = none := by
 intro i
 unfold pdel
 by_cases h : i = id
 ·subst h
  rw [if_pos rfl]
  exact ⟨fun _ => findL_del _ _, fun _ => rfl⟩
 ·rw [if_neg h, hp i, findL_none, findL_none]
  constructor
  ·intro h1 x hx
   exact h1 x (delL_mem.1 hx).1
  ·intro h1 x hx e
   exact h1 x (delL_mem.2 ⟨hx, by rw [e]; exact h⟩) e
theorem per_set {L : List It} {pf : Int → Option Int} (hp : ∀ id, pf id = none ↔ findL id L = none) (id p when sq : Int) : ∀ i, pset pf id p i = none ↔ findL i (insL ⟨id, when, sq⟩ L) = none := by
 intro i
 unfold pset
 by_cases h : i = id
 ·subst h
  rw [if_pos rfl, findL_none]
  refine ⟨fun h => (by cases h), fun h => absurd rfl (h ⟨i, when, sq⟩ ((insL_mem _ _ _).2 (.inl rfl)))⟩
 ·rw [if_neg h, hp i, findL_none, findL_none]
  constructor
  ·intro h1 x hx
   rcases (insL_mem _ _ _).1 hx with rfl | hx
   ·exact fun e => h e.symm
   ·exact h1 x hx
  ·intro h1 x hx
   exact h1 x ((insL_mem _ _ _).2 (.inr hx))
theorem tstop_in {q p mb : Nat} {F G : Nat → Prop} {L : List It} {sq : Int} {pf : Int → Option Int} (id : Int) (w : World) (h : TimIn w q p mb F G L sq pf) (hsq : sq ≤ 1000000) :
  Calls Tryz.prog 152 #[.pointer (some ⟨q, 0, none⟩), .int .i64 id] w fun e w' => e = .returned (.bool (findL id L).isSome) ∧ TimIn w' q p mb F G (delL id L) sq (pdel pf id) ∧ Turns G w w' := by
 have c0 := h.blk.cell 0
 simp only [zG] at c0
 have HT := zh h
 have HR := zh (hrem_any id w h.heap hsq)
 clear h
 unfold aggT at HR
 generalize optT (findL id L) = x at *
 go_enter Tryz.func152, Tryz.ntmps152
 go_wp2_with fail
 refine HR.out.mono ?_
 rintro e w1 ⟨rfl, hh, hs⟩
 have hb := (HT.out.blk.turns hs.t HT.out.nq).made (alloc_made _ (.cells #[.int .i64 x.id, .int .i64 x.when, .int .i64 x.seq] 186))
 have c1 := hb.cell 1
 simp only [zG] at c1
 have hmm := (HT.out.map.turns hs.t HT.out.nm).alloc (.cells #[.int .i64 x.id, .int .i64 x.when, .int .i64 x.seq] 186)
 obtain ⟨w4, hrun, hmap4, ht4, hsz4⟩ := hmm.drop (P := Tryz.prog) Tryz.underlying98 Tryz.underlying3 id 0
 rw [pv_del] at hmap4
 have HH := zh (hh.made (alloc_made _ (.cells #[.int .i64 x.id, .int .i64 x.when, .int .i64 x.seq] 186)))
 have HST := zh (hs.t.alloc (.cells #[.int .i64 x.id, .int .i64 x.when, .int .i64 x.seq] 186))
 have HB := zh hb
 have HM4 := zh hmap4
 have HT4 := zh ht4
 clear hh hs hb hmm hmap4 ht4 HR
 go_wp2_with fail
 go_ret
 have htt : Turns G w w4 := (HST.out.mono (fun k _ hk => HT.out.ga k hk)).then HT4.out (fun b _ e => by rw [e]; exact HT.out.gm)
 refine ⟨rfl, { blk := HB.out.turns HT4.out HT.out.qm, heap := HH.out.turns HT4.out (fun k hk e => HT.out.nm (by rw [← e]; exact hk)), map := HM4.out, nq := HT.out.nq, nm := HT.out.nm, qm := HT.out.qm, ga := HT.out.ga, gq := HT.out.gq, gm := HT.out.gm, gb := fun k hk => Nat.lt_of_lt_of_le (HT.out.gb k hk) htt.size, per := per_del HT.out.per id }, htt⟩
theorem tstop_c {q : Nat} {G : Nat → Prop} {L : List It} {sq : Int} {pf : Int → Option Int} (id : Int) (w : World) (h : TimAt w q G L sq pf) (hsq : sq ≤ 1000000) :
  Calls Tryz.prog 152 #[.pointer (some ⟨q, 0, none⟩), .int .i64 id] w fun e w' => e = .returned (.bool (findL id L).isSome) ∧ TimAt w' q G (delL id L) sq (pdel pf id) ∧ Stp w w' G G := by
 obtain ⟨p, mb, F, h⟩ := h
 refine (tstop_in id w h hsq).mono ?_
 rintro e w' ⟨rfl, hh, ht⟩
 exact ⟨rfl, ⟨p, mb, F, hh⟩, ⟨ht, fun k hk => .inl hk⟩⟩
theorem tnext_c {q : Nat} {G : Nat → Prop} {L : List It} {sq : Int} {pf : Int → Option Int} (w : World) (h : TimAt w q G L sq pf) :
  Calls Tryz.prog 102 #[.pointer (some ⟨q, 0, none⟩)] w fun e w' => e = .returned (.tuple #[.int .i64 (optT L[0]?).when, .bool L[0]?.isSome]) ∧ Made w w' := by
 obtain ⟨p, mb, F, h⟩ := h
 have c0 := h.blk.cell 0
 simp only [zG] at c0
 have H := zh (hmin_c w h.heap)
 clear h
 unfold aggT at H
 generalize optT L[0]? = x at *
 generalize L[0]?.isSome = r at *
 go_enter Tryz.func102, Tryz.ntmps102
 go_wp2_with fail
 refine H.out.mono ?_
 rintro e w' ⟨rfl, hm⟩
 have HM := zh (hm.alloc (.cells #[.int .i64 x.id, .int .i64 x.when, .int .i64 x.seq] 186))
 clear hm
 go_wp2_with fail
 go_ret2
 exact ⟨rfl, HM.out⟩
end
section
section
attribute [local go_sem] mx2 mn2 mx_two mn_two
theorem pset_del (pf : Int → Option Int) (id p : Int) : pset (pdel pf id) id p = pset pf id p := by
 funext j; unfold pset pdel; split <;> rfl
theorem tarm_c {q : Nat} {G : Nat → Prop} {L : List It} {sq : Int} {pf : Int → Option Int} (id when period : Int) (w : World) (h : TimAt w q G L sq pf) (hsq : sq < 1000000) (h1 : 0 ≤ when) (h2 : 0 ≤ period) (h3 : when ≤ 4611686018427387904) (h4 : period ≤ 4611686018427387904) :
  Calls Tryz.prog 105 #[.pointer (some ⟨q, 0, none⟩), .int .i64 id, .int .i64 when, .int .i64 period] w fun e w' => e = .returned (.int .i64 0) ∧ ∃ G', TimAt w' q G' (insL ⟨id, when, sq + 1⟩ (delL id L)) (sq + 1) (pset pf id period) ∧ Stp w w' G G' := by
 obtain ⟨p, mb, F, h⟩ := h
 have h2' : ¬ (if period < when then period else when) < 0 := by split <;> omega
 have h3' : ¬ 4611686018427387904 < (if when < period then period else when) := by split <;> omega
 generalize hm : (if period < when then period else when) = m at h2'
 generalize hx : (if when < period then period else when) = x at h3'
 have HST := zh (tstop_in id w h (by omega))
 have HG := zh h.gb
 clear h
 go_enter Tryz.func105, Tryz.ntmps105
 go_wp2_with fail
 refine HST.out.mono ?_
 rintro e w1 ⟨rfl, hh, ht⟩
 have c0 := hh.blk.cell 0
 have c1 := hh.blk.cell 1
 simp only [zG] at c0 c1
 obtain ⟨w2, hrun, hmap2, ht2, -⟩ := hh.map.store (P := Tryz.prog) Tryz.underlying98 Tryz.underlying3 id (.int .i64 period)
 rw [pv_set, pset_del] at hmap2
 have hb2 := hh.blk.turns ht2 hh.qm
 have hh2 : HeapAt w2 p F (delL id L) sq := hh.heap.turns ht2 (fun k hk e => hh.nm (by rw [← e]; exact hk))
 have c3 := hb2.cell 0
 simp only [zG] at c3
 have HA := zh (hadd_c id when w2 hh2 (findL_del id L) hsq)
 have HB2 := zh hb2
 have HM2 := zh hmap2
 have HT2 := zh ht2
 have HT := zh ht
 have HH := zh hh
 clear hh ht hmap2 ht2 hb2 hh2 HST
 go_wp2_with fail
 refine HA.out.mono ?_
 rintro e w3 ⟨rfl, F3, hh3, hs3⟩
 have HH3 := zh hh3
 have HS3 := zh hs3
 clear hh3 hs3 HA
 go_wp2_with fail
 go_ret
 have htw : Turns G w w2 := HT.out.then HT2.out (fun b _ e => by rw [e]; exact HH.out.gm)
 have htf : Turns G w w3 := htw.then HS3.out.t (fun b hb hf => HH.out.ga b hf)
 have hmlt := HM2.out.lt
 have hqlt := HB2.out.lt
 have hnf : ∀ b, b < w2.heap.size → ¬ F b → ¬ F3 b := fun b hb hn h3 => (HS3.out.f b h3).elim hn (fun h => by omega)
 refine ⟨rfl, fun k => G k ∨ F3 k, ⟨p, mb, F3, { blk := HB2.out.turns HS3.out.t HH.out.nq, heap := HH3.out, map := HM2.out.turns HS3.out.t HH.out.nm, nq := hnf q hqlt HH.out.nq, nm := hnf mb hmlt HH.out.nm, qm := HH.out.qm, ga := fun k hk => .inr hk, gq := .inl HH.out.gq, gm := .inl HH.out.gm, gb := ?_, per := ?_ }⟩, ⟨htf, ?_⟩⟩
 ·intro k hk
  rcases hk with hk | hk
  ·exact Nat.lt_of_lt_of_le (HG.out k hk) htf.size
  ·exact HH3.out.fb k hk
 ·rw [← pset_del]
  exact per_set HH.out.per id period when (sq + 1)
 ·intro k hk
  rcases hk with hk | hk
  ·exact .inl hk
  ·rcases HS3.out.f k hk with h | h
   ·exact .inl (HH.out.ga k h)
   ·exact .inr (by have := htw.size; omega)
end
end
theorem res_boxD {fn : Func} {p u : Tmp} (hr : fn.results = #[.cell p 152, .tmp u]) {tmps : Array Value} {w : World} {g : Nat} {a b c v : Value} (hb : Blk w g 152 #[a, b, c]) (hp : tmps.getD p undef = .pointer (some ⟨g, 0, none⟩)) (hv : tmps.getD u undef = v) :
  (results fn tmps).run Tryz.prog w = .ok (.tuple #[.agg #[a, b, c], v]) w := by
 have c0 := hb.cell 0
 have c1 := hb.cell 1
 have c2 := hb.cell 2
 simp only [zG] at c0 c1 c2
 rw [results_cell_tmp hr, hp, hv]
 go_simp
def dueV (id when now : Int) : Value := .agg #[.int .i64 id, .int .i64 when, .int .i64 now]
theorem ttake_none {q : Nat} {G : Nat → Prop} {L : List It} {sq : Int} {pf : Int → Option Int} (now : Int) (w : World) (h : TimAt w q G L sq pf) (hn : ∀ x, L[0]? = some x → now < 0 ∨ now < x.when) :
  Calls Tryz.prog 63 #[.pointer (some ⟨q, 0, none⟩), .int .i64 now] w fun e w' => e = .returned (.tuple #[dueV 0 0 0, .bool false]) ∧ Made w w' := by
 have H := zh (fun (w' : World) (hm : Made w w') => tnext_c w' (h.made hm))
 clear h
 unfold dueV
 cases hL : L[0]? with
 | none =>
  rw [hL] at H
  simp only [optT, Option.getD_none, zeroT, Option.isSome_none] at H
  clear hn hL
  go_enter Tryz.func63, Tryz.ntmps63
  go_wp2_with fail
  refine (H.out _ (alloc_made _ _)).mono ?_
  rintro e w1 ⟨rfl, hm⟩
  have hB1 := (Blk.new w 152 #[.int .i64 0, .int .i64 0, .int .i64 0]).turns hm (fun h => h)
  have b0 := hB1.cell 0
  have b1 := hB1.cell 1
  have b2 := hB1.cell 2
  have g0 := hB1.free 0
  have g1 := hB1.free 1
  have g2 := hB1.free 2
  have hb4 := hB1.lt
  simp only [zG] at b0 b1 b2
  have HM := zh ((alloc_made w _).trans hm)
  have HB := zh hB1
  clear hm hB1 H
  go_wp2_with fail
  refine bodyPost_ret (res_boxD rfl (HB.out.put3 _ _ _) rfl rfl) rfl ?_
  exact ⟨rfl, HM.out.then (set3 _ w.heap.size) (fun b hb e => by omega)⟩
 | some x =>
  have hx := hn x hL
  rw [hL] at H
  simp only [optT, Option.getD_some, Option.isSome_some] at H
  clear hn hL
  by_cases hneg : now < 0
  ·clear hx
   go_enter Tryz.func63, Tryz.ntmps63
   go_wp2_with fail
   refine (H.out _ (alloc_made _ _)).mono ?_
   rintro e w1 ⟨rfl, hm⟩
   have hB1 := (Blk.new w 152 #[.int .i64 0, .int .i64 0, .int .i64 0]).turns hm (fun h => h)
   have b0 := hB1.cell 0
   have b1 := hB1.cell 1
   have b2 := hB1.cell 2
   have g0 := hB1.free 0
   have g1 := hB1.free 1
   have g2 := hB1.free 2
   have hb4 := hB1.lt
   simp only [zG] at b0 b1 b2
   have HM := zh ((alloc_made w _).trans hm)
   have HB := zh hB1
   clear hm hB1 H
   go_wp2_with fail
   refine bodyPost_ret (res_boxD rfl (HB.out.put3 _ _ _) rfl rfl) rfl ?_
   exact ⟨rfl, HM.out.then (set3 _ w.heap.size) (fun b hb e => by omega)⟩
  ·have hx2 : now < x.when := by omega
   clear hx
   go_enter Tryz.func63, Tryz.ntmps63
   go_wp2_with fail
   refine (H.out _ (alloc_made _ _)).mono ?_
   rintro e w1 ⟨rfl, hm⟩
   have hB1 := (Blk.new w 152 #[.int .i64 0, .int .i64 0, .int .i64 0]).turns hm (fun h => h)
   have b0 := hB1.cell 0
   have b1 := hB1.cell 1
   have b2 := hB1.cell 2
   have g0 := hB1.free 0
   have g1 := hB1.free 1
   have g2 := hB1.free 2
   have hb4 := hB1.lt
   simp only [zG] at b0 b1 b2
   have HM := zh ((alloc_made w _).trans hm)
   have HB := zh hB1
   clear hm hB1 H
   go_wp2_with fail
   refine bodyPost_ret (res_boxD rfl (HB.out.put3 _ _ _) rfl rfl) rfl ?_
   exact ⟨rfl, HM.out.then (set3 _ w.heap.size) (fun b hb e => by omega)⟩
def again (x : It) (pd now : Int) : Prop := (nextZ x.when pd now).2 = 0 ∧ now < (nextZ x.when pd now).1
theorem again_bd {x : It} {pd now : Int} (h : again x pd now) (h0 : 0 ≤ now) : 0 ≤ (nextZ x.when pd now).1 ∧ (nextZ x.when pd now).1 ≤ 4611686018427387904 ∧ 1 ≤ pd ∧ pd ≤ 4611686018427387904 := by
 obtain ⟨h1, h2⟩ := h
 unfold nextZ at h1 h2 ⊢
 by_cases hb : pd < 1 ∨ x.when < 0 ∨ now < 0 ∨ 4611686018427387904 < x.when ∨ 4611686018427387904 < pd ∨ 4611686018427387904 < now
 ·rw [if_pos hb] at h1; cases h1
 ·rw [if_neg hb] at h2 ⊢
  by_cases hw : now < x.when
  ·rw [if_pos hw] at h2 ⊢
   simp only at h2 ⊢
   omega
  ·rw [if_neg hw] at h2 ⊢
   simp only at h2 ⊢
   have := heldZ_bd (heldZ now + heldZ (pd - (now - x.when) % pd))
   unfold addZ at h2 ⊢
   omega
theorem ttake_c {q : Nat} {G : Nat → Prop} {x : It} {l : List It} {sq : Int} {pf : Int → Option Int} (now pd : Int) (w : World) (h : TimAt w q G (x :: l) sq pf) (hsq : sq < 1000000) (hn : 0 ≤ now) (hx : x.when ≤ now) (hpd : pf x.id = some pd) :
  Calls Tryz.prog 63 #[.pointer (some ⟨q, 0, none⟩), .int .i64 now] w fun e w' => e = .returned (.tuple #[dueV x.id x.when now, .bool true]) ∧
   ∃ G', (again x pd now → TimAt w' q G' (insL ⟨x.id, (nextZ x.when pd now).1, sq + 1⟩ l) (sq + 1) (pset pf x.id pd)) ∧ (¬ again x pd now → TimAt w' q G' l sq (pdel pf x.id)) ∧ Stp w w' G G' := by
 have HG := zh h.gb
 obtain ⟨p, mb, F, h⟩ := h
 have hde := delL_head h.heap.uniq
 have HNX := zh (fun (w' : World) (hm : Made w w') => tnext_c w' (TimAt.made ⟨p, mb, F, h⟩ hm))
 simp only [List.getElem?_cons_zero, optT, Option.getD_some, Option.isSome_some] at HNX
 have HT := zh h
 have hfnl : findL x.id l = none := by rw [← hde]; exact findL_del _ _
 have HDE := zh hde
 have HFN := zh hfnl
 have hpv : (pv pf x.id).getD (.int .i64 0) = .int .i64 pd := by unfold pv; rw [hpd]; rfl
 have HPV := zh hpv
 have HPD := zh hpd
 have hq0 := h.blk.lt
 clear h hde hfnl hpv hpd
 have n1 : ¬ now < 0 := by omega
 have n2 : ¬ now < x.when := by omega
 unfold dueV
 go_enter Tryz.func63, Tryz.ntmps63
 go_wp2_with fail
 refine (HNX.out _ (alloc_made _ _)).mono ?_
 rintro e w1 ⟨rfl, hm⟩
 have HB := zh ((Blk.new w 152 #[.int .i64 0, .int .i64 0, .int .i64 0]).turns hm (fun h => h))
 have HM1 := zh ((alloc_made w (.cells #[.int .i64 0, .int .i64 0, .int .i64 0] 152)).trans hm)
 have HT1 := zh (HT.out.made HM1.out)
 have c0 := HT1.out.blk.cell 0
 simp only [zG] at c0
 have HPO := zh (hpop_c w1 HT1.out.heap (by omega))
 unfold aggT at HPO
 clear hm HNX
 go_wp2_with fail
 refine HPO.out.mono ?_
 rintro e w2 ⟨rfl, hh, hs⟩
 have hbx : Blk (w2.alloc (.cells #[.int .i64 x.id, .int .i64 x.when, .int .i64 x.seq] 186)) w2.heap.size 186 #[.int .i64 x.id, .int .i64 x.when, .int .i64 x.seq] := Blk.new w2 _ _
 have ht2 : Turns F w1 (w2.alloc (.cells #[.int .i64 x.id, .int .i64 x.when, .int .i64 x.seq] 186)) := hs.t.alloc _
 have hb1 := HB.out.lt
 have hbF : ¬ F w.heap.size := fun hf => by have := HT.out.heap.fb _ hf; omega
 have HB2 := zh (HB.out.turns ht2 hbF)
 have HQ2 := zh (HT1.out.blk.turns ht2 HT.out.nq)
 have HP2 := zh (HT1.out.map.turns ht2 HT.out.nm)
 have HH2 := zh (hh.made (alloc_made w2 (.cells #[.int .i64 x.id, .int .i64 x.when, .int .i64 x.seq] 186)))
 have HT2 := zh (HM1.out.mono (S' := G) (fun _ _ h => h.elim) |>.then ht2 (fun b _ hf => HT.out.ga b hf))
 have HX2 := zh hbx
 have hsz2 := ht2.size
 have hq8 : w1.heap.size ≤ w2.heap.size := hs.t.size
 clear hh hs hbx ht2 HB HT1 HPO c0 HM1
 go_wp2_with fail
 generalize hbq : w2.heap.size = bx at *
 generalize w2.alloc (.cells #[.int .i64 x.id, .int .i64 x.when, .int .i64 x.seq] 186) = W at *
 clear hbq w2
 refine wp_region_held_drew (S := (fun w' => Made W w')) (by kernel_rfl) ?_ (fun hHeld => ?_)
 ·exact (Turns.refl _ _).drew
 refine tH 0 38 ?_ ?_ ?_;rotate_left
 ·intro w hSw
  go_simp
  try with_reducible rfl
 try simp only [zP]
 refine tH 1 39 ?_ ?_ ?_;rotate_left
 ·intro w hSw
  go_simp
  try with_reducible rfl
 try simp only [zP]
 refine tH 2 40 ?_ ?_ ?_;rotate_left
 ·intro w hSw
  go_simp
  try with_reducible rfl
 try simp only [zP]
 refine tH 3 41 ?_ ?_ ?_;rotate_left
 ·intro w hSw
  have hb2 := HQ2.out.made hSw
  have d0 := hb2.cell 1
  simp only [zG] at d0
  clear hb2
  go_simp
  try with_reducible rfl
 try simp only [zP]
 refine tH 4 42 ?_ ?_ ?_;rotate_left
 ·intro w hSw
  go_simp
  try with_reducible rfl
 try simp only [zP]
 refine tH 5 43 ?_ ?_ ?_;rotate_left
 ·intro w hSw
  have hb2 := HX2.out.made hSw
  have d0 := hb2.cell 0
  simp only [zG] at d0
  clear hb2
  go_simp
  try with_reducible rfl
 try simp only [zP]
 refine tH 6 44 ?_ ?_ ?_;rotate_left
 ·intro w hSw
  have hlk := (HP2.out.turns hSw (fun h => h)).look (P := Tryz.prog) Tryz.underlying98 Tryz.underlying3 (zero_int _) x.id false
  simp only [Bool.false_eq_true, if_false] at hlk
  rw [HPV.out] at hlk
  go_simp
  try with_reducible rfl
 try simp only [zP]
 refine tH 7 10 ?_ ?_ ?_;rotate_left
 ·intro w hSw
  go_simp
  try with_reducible rfl
 try simp only [zP]
 refine wpAnyH_done (by kernel_rfl) ?_ _
 have HB3 := zh (HB2.out.made hHeld)
 have HQ3 := zh (HQ2.out.made hHeld)
 have HP3 := zh (HP2.out.turns hHeld (fun h => h))
 have HH3 := zh (HH2.out.made hHeld)
 have HT3 := zh (HT2.out.then hHeld (fun _ _ h => h.elim))
 have HX3 := zh (HX2.out.made hHeld)
 clear hHeld HB2 HQ2 HP2 HH2 HT2 HX2
 try clear hHeld
 go_wp2_with fail
 generalize W.drew = W3 at *
 refine wp_region_held_drew (S := (fun w' => Blk w' q 145 #[.pointer (some ⟨p, 0, none⟩), .map (some mb)] ∧ Blk w' bx 186 #[.int .i64 x.id, .int .i64 x.when, .int .i64 x.seq])) (by kernel_rfl) ?_ (fun hHeld => ?_)
 ·exact ⟨HQ3.out.made ((Turns.refl _ _).drew), HX3.out.made ((Turns.refl _ _).drew)⟩
 refine tH 0 45 ?_ ?_ ?_;rotate_left
 ·intro w hSw
  go_simp
  try with_reducible rfl
 try simp only [zP]
 refine tH 1 46 ?_ ?_ ?_;rotate_left
 ·intro w hSw
  go_simp
  try with_reducible rfl
 try simp only [zP]
 refine tH 2 47 ?_ ?_ ?_;rotate_left
 ·intro w hSw
  go_simp
  try with_reducible rfl
 try simp only [zP]
 refine tH 3 48 ?_ ?_ ?_;rotate_left
 ·intro w hSw
  have d0 := hSw.1.cell 1
  simp only [zG] at d0
  go_simp
  try with_reducible rfl
 try simp only [zP]
 refine tH 4 49 ?_ ?_ ?_;rotate_left
 ·intro w hSw
  go_simp
  try with_reducible rfl
 try simp only [zP]
 refine tH 5 50 ?_ ?_ ?_;rotate_left
 ·intro w hSw
  have d0 := hSw.2.cell 0
  simp only [zG] at d0
  go_simp
  try with_reducible rfl
 try simp only [zP]
 refine zR 6 fun K hK => ?_
 obtain ⟨w4, hrun, hmap4, ht4, -⟩ := (HP3.out.turns ((zT W3).drew) (fun h => h)).drop (P := Tryz.prog) Tryz.underlying98 Tryz.underlying3 x.id 0
 go_simp
 refine hK.out _ _ ?_ (fun hHeld => ?_)
 ·exact ⟨(HQ3.out.made ((Turns.refl _ _).drew)).turns ht4 HT.out.qm, (HX3.out.made ((Turns.refl _ _).drew)).turns ht4 (by have := HT.out.map.lt; omega)⟩
 clear hK K
 try simp only [zP]
 refine wpAnyH_done (by kernel_rfl) ?_ _
 have hd : Made W3 W3.drew := (Turns.refl _ _).drew
 have hmw := HT.out.map.lt
 rw [pv_del] at hmap4
 have hm4n : ¬ w.heap.size = mb := by omega
 have HB4 := zh ((HB3.out.made hd).turns ht4 hm4n)
 have HX4 := zh (hHeld.2)
 have HTM := zh ({ blk := hHeld.1, heap := (HH3.out.made hd).turns ht4 (fun k hk e => HT.out.nm (by rw [← e]; exact hk)), map := hmap4, nq := HT.out.nq, nm := HT.out.nm, qm := HT.out.qm, ga := HT.out.ga, gq := HT.out.gq, gm := HT.out.gm, gb := fun k hk => Nat.lt_of_lt_of_le (HG.out k hk) (Nat.le_trans HT3.out.size (Nat.le_trans hd.size ht4.size)), per := (by have := per_del HT.out.per x.id; rw [HDE.out] at this; exact this) : TimIn w4 q p mb F G l sq (pdel pf x.id) })
 have HT4 := zh ((HT3.out.then hd (fun _ _ h => h.elim)).then ht4 (fun b _ e => by rw [e]; exact HT.out.gm))
 clear hHeld hmap4 ht4 hrun HB3 HQ3 HP3 HH3 HT3 HX3 hd
 try clear hHeld
 have hnx := next_c x.when pd now w4
 generalize hz : nextZ x.when pd now = nz at *
 obtain ⟨nx, er⟩ := nz
 simp only at hnx
 have HNX := zh hnx
 have HZ := zh hz
 clear hnx hz
 have hb4l := HB4.out.lt
 have hx4l := HX4.out.lt
 have d0 := HX4.out.cell 0
 simp only [zG] at d0
 by_cases hag : again x pd now
 ·have hbd := again_bd hag hn
  have hag2 := hag
  unfold again at hag2
  rw [HZ.out] at hag2 hbd
  simp only at hag2 hbd
  obtain ⟨rfl, hlt⟩ := hag2
  have HAR := zh (tarm_c x.id nx pd w4 ⟨p, mb, F, HTM.out⟩ hsq hbd.1 (by omega) hbd.2.1 hbd.2.2.2)
  have HAG := zh hag
  clear hag hbd
  go_wp2_with fail
  refine HNX.out.mono ?_
  rintro e w5 ⟨rfl, rfl⟩
  go_wp2_with fail
  refine HAR.out.mono ?_
  rintro e w5 ⟨rfl, G5, ht5, hs5⟩
  rw [delL_none HFN.out, pset_del] at ht5
  have HTT := zh ht5
  have HS5 := zh hs5
  have HB5 := zh (HB4.out.turns hs5.t (fun hf => by have := HG.out _ hf; omega))
  have HX5 := zh (HX4.out.turns hs5.t (fun hf => by have := HG.out _ hf; omega))
  clear ht5 hs5 d0 HAR HNX
  have d0 := HX5.out.cell 0
  have b0 := HB5.out.cell 0
  have b1 := HB5.out.cell 1
  have b2 := HB5.out.cell 2
  have g0 := HB5.out.free 0
  have g1 := HB5.out.free 1
  have g2 := HB5.out.free 2
  simp only [zG] at b0 b1 b2 d0
  go_wp2_with fail
  refine bodyPost_ret (res_boxD rfl (HB5.out.put3 _ _ _) rfl rfl) rfl ?_
  have hng : ∀ k, G5 k → k ≠ w.heap.size := fun k hk e => by
   subst e
   rcases HS5.out.f _ hk with h | h
   ·have := HG.out _ h; omega
   ·omega
  refine ⟨rfl, G5, fun _ => ?_, fun h => absurd HAG.out h, ⟨?_, fun k hk => ?_⟩⟩
  ·rw [HZ.out]
   exact HTT.out.turns (set3 _ w.heap.size) hng
  ·exact (HT4.out.then HS5.out.t (fun _ _ h => h)).then (set3 _ w.heap.size) (fun b hb e => by omega)
  ·rcases HS5.out.f k hk with h | h
   ·exact .inl h
   ·exact .inr (Nat.le_trans HT4.out.size h)
 ·have HAG := zh hag
  have b0 := HB4.out.cell 0
  have b1 := HB4.out.cell 1
  have b2 := HB4.out.cell 2
  have g0 := HB4.out.free 0
  have g1 := HB4.out.free 1
  have g2 := HB4.out.free 2
  simp only [zG] at b0 b1 b2
  unfold again at hag
  rw [HZ.out] at hag
  simp only at hag
  by_cases her : er = 0
  ·have hlt : ¬ now < nx := fun h => hag ⟨her, h⟩
   subst her
   clear hag
   go_wp2_with fail
   refine HNX.out.mono ?_
   rintro e w5 ⟨rfl, rfl⟩
   go_wp2_with fail
   refine bodyPost_ret (res_boxD rfl (HB4.out.put3 _ _ _) rfl rfl) rfl ?_
   refine ⟨rfl, G, fun h => absurd h HAG.out, fun _ => TimAt.turns ⟨p, mb, F, HTM.out⟩ (set3 _ w.heap.size) (fun k hk e => ?_), ⟨?_, fun k hk => .inl hk⟩⟩
   ·have := HG.out k hk; omega
   ·exact HT4.out.then (set3 _ w.heap.size) (fun b hb e => by omega)
  ·have herb : (er == 0) = false := beq_eq_false_iff_ne.mpr her
   clear hag
   go_wp2_with fail
   refine HNX.out.mono ?_
   rintro e w5 ⟨rfl, rfl⟩
   go_wp2_with fail
   refine bodyPost_ret (res_boxD rfl (HB4.out.put3 _ _ _) rfl rfl) rfl ?_
   refine ⟨rfl, G, fun h => absurd h HAG.out, fun _ => TimAt.turns ⟨p, mb, F, HTM.out⟩ (set3 _ w.heap.size) (fun k hk e => ?_), ⟨?_, fun k hk => .inl hk⟩⟩
   ·have := HG.out k hk; omega
   ·exact HT4.out.then (set3 _ w.heap.size) (fun b hb e => by omega)
section
structure Tk where
 kind : Int
 data : Int
 c : Option Nat
def tkC (x : Tk × Int) : List Value := [.int .i64 x.1.kind, .int .i64 x.1.data, .pointer (pt x.1.c), .int .i64 x.2]
theorem tkC_len (x : Tk × Int) : (tkC x).length = 4 := rfl
theorem tkC_one (x : Tk × Int) : ∀ u ∈ tkC x, u.oneCell' = true := by
 intro u hu
 simp only [tkC, List.mem_cons, List.not_mem_nil, or_false] at hu
 rcases hu with rfl | rfl | rfl | rfl <;> rfl
theorem Tryz.infoTk : (Tryz.prog.info? 156).map (fun i => (i.zero, i.size, i.bytes)) = some (some (.agg #[.int .i64 0, .int .i64 0, .pointer none, .int .i64 0]), 4, 32) := by kernel_rfl
theorem fillTk {i : TypeInfo} (h : i.size = 4) (a b c d : Value) : Instr.fill (fun k => some (k * i.size, i.size)) ((Array.range (1 * i.size)).map ((Value.agg #[.int .i64 0, .int .i64 0, .pointer none, .int .i64 0]).cells[· % (Value.agg #[.int .i64 0, .int .i64 0, .pointer none, .int .i64 0]).cells.size]!)) [(0, .agg #[a, b, c, d])] = some #[a, b, c, d] := by
 rw [h]
 first | kernel_rfl | simp [Instr.fill]
structure TsIn (w : World) (p q : Nat) (lb : Nat → Nat) (v : Value) (gs : List (Tk × Int)) (named : Int) (L : List It) (sq : Int) (pf : Int → Option Int) : Prop where
 blk : Blk w p 92 #[v, .pointer (some ⟨q, 0, none⟩), .int .i64 named]
 lp : lb p = 1
 own : Owns tkC 156 4 w v gs
 lv : ∀ k, v.ownBlock = some k ↔ lb k = 2
 tim : TimAt w q (fun k => lb k = 3) L sq pf
def Flat0 (pf : Int → Option Int) : Prop := ∀ id p, pf id = some p → p = 0
theorem Flat0.set {pf : Int → Option Int} (h : Flat0 pf) (i : Int) : Flat0 (pset pf i 0) := by
 intro id p hp
 unfold pset at hp
 split at hp
 ·cases hp; rfl
 ·exact h id p hp
theorem Flat0.nil : Flat0 (fun _ => none) := fun id p hp => (by cases hp)
theorem Flat0.del {pf : Int → Option Int} (h : Flat0 pf) (i : Int) : Flat0 (pdel pf i) := by
 intro id p hp
 unfold pdel at hp
 split at hp
 ·cases hp
 ·exact h id p hp
def TsAt (w : World) (p : Nat) (F : Nat → Prop) (ts : List Tk) (named : Int) (L : List It) (sq : Int) : Prop := ∃ q lb v gs pf, TsIn w p q lb v gs named L sq pf ∧ gs.map Prod.fst = ts ∧ Flat0 pf ∧ Lab w lb F
theorem TsIn.turns {S : Nat → Prop} {w w' : World} {p q : Nat} {lb : Nat → Nat} {v : Value} {gs : List (Tk × Int)} {named : Int} {L : List It} {sq : Int} {pf : Int → Option Int} (h : TsIn w p q lb v gs named L sq pf) (ht : Turns S w w') (hn : ∀ k, lb k ≠ 0 → ¬ S k) : TsIn w' p q lb v gs named L sq pf :=
 ⟨h.blk.turns ht (hn p (by rw [h.lp]; omega)), h.lp, h.own.turns ht (fun k hk => hn k (by rw [(h.lv k).1 hk]; omega)), h.lv, h.tim.turns ht (fun k hk => hn k (by rw [hk]; omega))⟩
theorem TsIn.made {w w' : World} {p q : Nat} {lb : Nat → Nat} {v : Value} {gs : List (Tk × Int)} {named : Int} {L : List It} {sq : Int} {pf : Int → Option Int} (h : TsIn w p q lb v gs named L sq pf) (ht : Made w w') : TsIn w' p q lb v gs named L sq pf := h.turns ht (fun _ _ h => h)
section
variable {w w' : World} {p : Nat} {F : Nat → Prop} {ts : List Tk} {named : Int} {L : List It} {sq : Int}
theorem TsAt.turns {S : Nat → Prop} (h : TsAt w p F ts named L sq) (ht : Turns S w w') (hn : ∀ k, F k → ¬ S k) : TsAt w' p F ts named L sq := by
 obtain ⟨q, lb, v, gs, pf, h, hg, hz, hl⟩ := h
 exact ⟨q, lb, v, gs, pf, h.turns ht (fun k hk => hn k ((hl.on k).2 hk)), hg, hz, hl.turns ht⟩
theorem TsAt.made (h : TsAt w p F ts named L sq) (ht : Made w w') : TsAt w' p F ts named L sq := h.turns ht (fun _ _ h => h)
theorem TsAt.fb (h : TsAt w p F ts named L sq) : ∀ k, F k → k < w.heap.size := by
 obtain ⟨q, lb, v, gs, pf, h, hg, hz, hl⟩ := h
 exact fun k hk => hl.lt k ((hl.on k).1 hk)
end
theorem TsIn.setTim {w w' : World} {p q : Nat} {lb : Nat → Nat} {F F' : Nat → Prop} {v : Value} {gs : List (Tk × Int)} {named : Int} {L L' : List It} {sq sq' : Int} {pf pf' : Int → Option Int} (h : TsIn w p q lb v gs named L sq pf) (hl : Lab w lb F) (ht : TimAt w' q F' L' sq' pf') (hs : Stp w w' (fun k => lb k = 3) F') :
  ∃ lb' FF, TsIn w' p q lb' v gs named L' sq' pf' ∧ Lab w' lb' FF ∧ Stp w w' F FF := by
 obtain ⟨lb', FF, hl', e3, hne, hst⟩ := hl.step 3 (by omega) hs ht.gb
 refine ⟨lb', FF, ⟨h.blk.turns hs.t (by rw [h.lp]; omega), lab_is (hne 1 (by omega) (by omega)) h.lp, h.own.turns hs.t (fun k hk => by rw [(h.lv k).1 hk]; omega), fun k => (h.lv k).trans ?_, by rw [e3]; exact ht⟩, hl', hst⟩
 have := congrFun (hne 2 (by omega) (by omega)) k
 exact (iff_of_eq this).symm
theorem set_same {α : Type} {l : List α} {i : Nat} {x : α} (h : l[i]? = some x) : l.set i x = l := by
 obtain ⟨hi, rfl⟩ := List.getElem?_eq_some_iff.1 h
 exact List.set_getElem_self hi
theorem tsnew_c (w : World) : Calls Tryz.prog 18 #[] w fun e w' => ∃ p F, e = .returned (.pointer (some ⟨p, 0, none⟩)) ∧ TsAt w' p F [] 0 [] 0 ∧ Made w w' ∧ ∀ k, F k → w.heap.size ≤ k := by
 go_enter Tryz.func18, Tryz.ntmps18
 go_wp2_with fail
 refine (tnew_c w).mono ?_
 rintro e w1 ⟨q, G, rfl, h1, m1, f1⟩
 have H1 := zh (And.intro h1 (And.intro m1 f1))
 clear h1 m1 f1
 go_wp2_with fail
 go_ret
 obtain ⟨h1, m1, f1⟩ := H1.out
 have m2 := (zT w1).alloc (.cells #[.slice none 0 0, .pointer (some ⟨q, 0, none⟩), .int .i64 0] 92)
 obtain ⟨l1, hl1, e1, n1⟩ := (Lab.nil w).add (w' := w1) 3 (by omega) m1.size h1.gb (fun _ _ h => h) (fun _ => by omega)
 obtain ⟨l2, hl2, e2, n2⟩ := hl1.add (w' := w1.alloc (.cells #[.slice none 0 0, .pointer (some ⟨q, 0, none⟩), .int .i64 0] 92)) 1 (by omega) m2.size (G := fun k => k = w1.heap.size) (fun k hk => by simp; omega) (fun k hk h => by
  have := hl1.lt k ((hl1.on k).1 h)
  omega) (lab_no (n1 1 (by omega) (by omega)) (fun _ => by omega))
 have hno2 := lab_no (n2 2 (by omega) (by omega)) (lab_no (n1 2 (by omega) (by omega)) (fun _ => by omega))
 refine ⟨w1.heap.size, _, rfl, ⟨q, l2, .slice none 0 0, [], fun _ => none, ⟨Blk.new w1 _ _, ?_, Owns.nil, fun k => ?_, ?_⟩, rfl, Flat0.nil, hl2⟩, m1.trans m2, fun k hk => ?_⟩
 ·have := congrFun e2 w1.heap.size
  simpa using this
 ·simp [Value.ownBlock, hno2 k]
 ·rw [n2 3 (by omega) (by omega), e1]
  exact h1.made m2
 ·have := m1.size
  rcases hk with (hk | hk) | hk
  ·exact hk.elim
  ·exact f1 k hk
  ·omega
theorem tshas_c {w : World} {p i : Nat} {F : Nat → Prop} {ts : List Tk} {named : Int} {L : List It} {sq : Int} (h : TsAt w p F ts named L sq) (hi : i < ts.length) :
  Calls Tryz.prog 112 #[.pointer (some ⟨p, 0, none⟩), .int .i64 i] w fun e w' => e = .returned (.bool true) ∧ w = w' := by
 obtain ⟨q, lb, v, gs, pf, h, hg, hz, hl⟩ := h
 have hlen : gs.length = ts.length := by rw [← hg, List.length_map]
 obtain ⟨a, c, rfl⟩ := owns_slice h.own
 have q0 := h.blk.cell 0
 simp only [zG] at q0
 have hi2 : i < gs.length := by omega
 clear h hg hz hl hlen hi
 go_enter Tryz.func112, Tryz.ntmps112
 go_wp2_with fail
 go_ret
 refine ⟨?_, rfl⟩
 simp
 try omega
theorem tshas_no {w : World} {p : Nat} {F : Nat → Prop} {ts : List Tk} {named : Int} {L : List It} {sq : Int} (h : TsAt w p F ts named L sq) :
  Calls Tryz.prog 112 #[.pointer (some ⟨p, 0, none⟩), .int .i64 (-1)] w fun e w' => e = .returned (.bool false) ∧ w = w' := by
 obtain ⟨q, lb, v, gs, pf, h, hg, hz, hl⟩ := h
 obtain ⟨a, c, rfl⟩ := owns_slice h.own
 have q0 := h.blk.cell 0
 simp only [zG] at q0
 clear h hg hz hl
 go_enter Tryz.func112, Tryz.ntmps112
 go_wp2_with fail
 go_ret
 exact ⟨rfl, rfl⟩
attribute [local go_sem] mx2 mn2 mx_two mn_two
theorem own_tk {w : World} {g c i : Nat} {gs : List (Tk × Int)} {x : Tk × Int} (h : Owns tkC 156 4 w (.slice (some ⟨g, 0, none⟩) gs.length c) gs) (hx : gs[i]? = some x) : w.cell? ⟨g, i * 4, none⟩ = some (.int .i64 x.1.kind) ∧ w.cell? ⟨g, i * 4 + 1, none⟩ = some (.int .i64 x.1.data) ∧ w.cell? ⟨g, i * 4 + 2, none⟩ = some (.pointer (pt x.1.c)) ∧ w.cell? ⟨g, i * 4 + 3, none⟩ = some (.int .i64 x.2) := by
 have h := fun j u hu => Owns.cell tkC_len h hx (j := j) (u := u) hu
 exact ⟨h 0 _ rfl, h 1 _ rfl, h 2 _ rfl, h 3 _ rfl⟩
theorem tsarm_c {w : World} {p i : Nat} {F : Nat → Prop} {ts : List Tk} {named : Int} {L : List It} {sq : Int} {x : Tk} {now d when_ : Int} (h : TsAt w p F ts named L sq) (hx : ts[i]? = some x) (hk : x.kind ≠ 2) (hn : ts.length ≤ 1000) (hsq : sq < 1000000) (hd : 0 ≤ d) (hw : addZ now d = when_) (h1 : 0 ≤ when_) (h2 : when_ ≤ 4611686018427387904) :
  Calls Tryz.prog 179 #[.pointer (some ⟨p, 0, none⟩), .int .i64 i, .int .i64 now, .int .i64 d] w fun e w' => e = .returned (.tuple #[]) ∧ ∃ F', TsAt w' p F' ts named (insL ⟨i, when_, sq + 1⟩ (delL i L)) (sq + 1) ∧ Stp w w' F F' := by
 obtain ⟨q, lb, v, gs, pf, h, hg, hz, hl⟩ := h
 have hlen : gs.length = ts.length := by rw [← hg, List.length_map]
 obtain ⟨gx, hgx, hgf⟩ : ∃ gx, gs[i]? = some gx ∧ gx.1 = x := by
  rw [← hg, List.getElem?_map, Option.map_eq_some_iff] at hx
  exact hx
 have hi : i < gs.length := (List.getElem?_eq_some_iff.1 hgx).1
 rcases h.own.form with ⟨_, h0⟩ | ⟨g, c, rfl, hgb, hlc, hcm⟩
 ·subst h0
  simp at hi
 have HG := zh hg
 have HZ := zh hz
 have HGX := zh hgx
 obtain ⟨k0, k1, k2, k3⟩ := own_tk h.own hgx
 have q0 := h.blk.cell 0
 simp only [zG] at q0
 have hk2 : (gx.1.kind == 2) = false := by
  rw [hgf]
  simpa using hk
 have hnl : gs.length ≤ 1000 := by omega
 have HW := zh hw
 have HLV := zh h.lv
 have HC := zh h
 have HL := zh hl
 clear hg hz hgx hgf hlen hx hk hl h hw
 have hdn : ¬ d < 0 := by omega
 go_enter Tryz.func179, Tryz.ntmps179
 go_wp2_with fail
 have HB := zh HC.out.blk
 have HAD := zh (add_c now d)
 have HT := zh (fun when_ h1 h2 => tarm_c (i : Int) when_ 0 w.drew (HC.out.tim.made (zT w).drew) hsq h1 (by omega) h2 (by omega))
 have HN1 := zh (show ¬ lb p = 3 from by rw [HC.out.lp]; omega)
 have hdn2 : (d < 0) = False := eq_false (by omega)
 clear k0 k1 k2 k3 q0
 refine wp_region_held_drew (S := fun w' => Blk w' (p) 92 #[.slice (some ⟨g, 0, none⟩) gs.length c, .pointer (some ⟨q, 0, none⟩), .int .i64 named] ∧ Turns (fun k => lb k = 3) w w') (by kernel_rfl) ?_ (fun hHeld => ?_)
 ·exact ⟨HB.out, (Turns.refl _ w).drew⟩
 refine tH 0 20 ?_ ?_ ?_;rotate_left
 ·intro w hSw
  go_simp
  try with_reducible rfl
 try simp only [zP]
 refine tH 1 21 ?_ ?_ ?_;rotate_left
 ·intro w hSw
  go_simp
  try with_reducible rfl
 try simp only [zP]
 refine tH 2 22 ?_ ?_ ?_;rotate_left
 ·intro w hSw
  go_simp
  try with_reducible rfl
 try simp only [zP]
 refine tH 3 23 ?_ ?_ ?_;rotate_left
 ·intro w hSw
  have q0_0 := hSw.1.cell 0
  have q0_1 := hSw.1.cell 1
  have q0_2 := hSw.1.cell 2
  simp only [zG] at q0_0 q0_1 q0_2
  go_simp
  try with_reducible rfl
 try simp only [zP]
 refine tH 4 24 ?_ ?_ ?_;rotate_left
 ·intro w hSw
  go_simp
  try with_reducible rfl
 try simp only [zP]
 refine tH 5 25 ?_ ?_ ?_;rotate_left
 ·intro w hSw
  go_simp
  try with_reducible rfl
 try simp only [zP]
 refine tH 6 26 ?_ ?_ ?_;rotate_left
 ·intro w hSw
  go_simp
  try with_reducible rfl
 try simp only [zP]
 refine tH 7 27 ?_ ?_ ?_;rotate_left
 ·intro w hSw
  go_simp
  try with_reducible rfl
 try simp only [zP]
 refine tH 9 29 ?_ ?_ ?_;rotate_left
 ·intro w hSw
  go_simp
  try with_reducible rfl
 try simp only [zP]
 refine zR 8 fun K hK => ?_
 go_simp
 refine (HAD.out _).mono ?_
 rintro e w2 ⟨rfl, rfl⟩
 rw [HW.out]
 refine hK.out _ _ ?_ (fun hHeld => ?_)
 ·exact hHeld
 clear hK K
 try simp only [zP]
 refine zR 10 fun K hK => ?_
 go_simp
 refine (HT.out _ h1 h2).mono ?_
 rintro e w2 ⟨rfl, F2, ht2, hs2⟩
 refine hK.out _ _ ?_ (fun hHeld => ?_)
 ·exact ⟨hHeld.1.turns hs2.t HN1.out, hHeld.2.trans hs2.t⟩
 clear hK K
 try simp only [zP]
 refine wpAnyH_done (by kernel_rfl) ?_ _
 obtain ⟨lb2, FF, hc2, hl2, hst2⟩ := (HC.out.made (zT w).drew).setTim (HL.out.turns (zT w).drew) ht2 hs2
 have HE := zh (And.intro hc2 (And.intro hl2 ((Stp.made (F := F) (zT w).drew).trans hst2)))
 obtain ⟨k0, k1, k2, k3⟩ := own_tk hc2.own HGX.out
 have q0 := hc2.blk.cell 0
 simp only [zG] at q0
 have f3 := hc2.own.free (i * 4 + 3)
 clear hHeld ht2 hs2 hc2 hl2 hst2 k0 k1 k2
 go_wp2_with fail
 go_end0
 obtain ⟨hc2, hl2, hst2⟩ := HE.out
 have hp := hc2.own.put tkC_len HGX.out (x' := (gx.1, wrap64 (gx.2 + 1))) (j := 3) (u := .int .i64 (wrap64 (gx.2 + 1))) rfl (by omega)
 have hpg : ¬ p = g := fun e => by
  have h3 := (hc2.lv g).1 rfl
  rw [← e, hc2.lp] at h3
  omega
 have htg := (Turns.refl (fun k => lb2 k = 2) w2).setCell (p := ⟨g, i * 4 + 3, none⟩) (fun _ => (hc2.lv g).1 rfl) (.int .i64 (wrap64 (gx.2 + 1)))
 refine ⟨rfl, FF, ⟨q, lb2, _, gs.set i (gx.1, wrap64 (gx.2 + 1)), _, ⟨hc2.blk.turns htg (by rw [hc2.lp]; omega), hc2.lp, hp, hc2.lv, hc2.tim.turns htg (fun k hk => by rw [hk]; omega)⟩, ?_, HZ.out.set i, hl2.turns htg⟩, hst2.trans (Stp.same (htg.mono (fun k _ hk => (hl2.on k).2 (by rw [hk]; omega))))⟩
 rw [List.map_set, HG.out]
 exact set_same (by rw [← HG.out, List.getElem?_map, HGX.out]; rfl)
end
theorem tsmake1_c {w : World} {p : Nat} {F : Nat → Prop} {ts : List Tk} {named : Int} {L : List It} {sq : Int} {now d when_ data : Int} {cp : Option Nat} (h : TsAt w p F ts named L sq) (hn : ts.length < 1000) (hnm : 0 ≤ named ∧ named < 64) (hsq : sq < 1000000) (hdt : 0 ≤ data) (hnow : 0 ≤ now ∧ now ≤ 4611686018427387904) (hd : 0 ≤ d) (hw : addZ now d = when_) (h1 : 0 ≤ when_) (h2 : when_ ≤ 4611686018427387904) :
  Calls Tryz.prog 176 #[.pointer (some ⟨p, 0, none⟩), .agg #[.int .i64 1, .int .i64 data, .pointer (pt cp), .int .i64 0], .int .i64 now, .int .i64 d] w fun e w' => e = .returned (.tuple #[.int .i64 ts.length, .int .i64 0]) ∧ ∃ F', TsAt w' p F' (ts ++ [⟨1, data, cp⟩]) (named + 1) (insL ⟨ts.length, when_, sq + 1⟩ (delL ts.length L)) (sq + 1) ∧ Stp w w' F F' := by
 obtain ⟨hnow1, hnow2⟩ := hnow
 obtain ⟨hnm1, hnm2⟩ := hnm
 have HM := zh ((zT w).alloc (.cells #[.int .i64 1, .int .i64 data, .pointer (pt cp), .int .i64 0] 156))
 have HX := zh (Blk.new w 156 #[.int .i64 1, .int .i64 data, .pointer (pt cp), .int .i64 0])
 obtain ⟨q, lb, v, gs, pf, h, hg, hz, hl⟩ := h
 have HLEN := zh (show gs.length = ts.length from by rw [← hg, List.length_map])
 have HC := zh (h.made HM.out)
 have HL := zh (hl.turns HM.out)
 have HN0 := zh (show lb w.heap.size = 0 from by
  by_cases e : lb w.heap.size = 0
  ·exact e
  ·have := hl.lt _ e; omega)
 have HG := zh (And.intro hg hz)
 have q2 := HC.out.blk.cell 2
 have f2 := HC.out.blk.free 2
 simp only [zG] at q2
 have HW := zh hw
 clear h hg hz hl hw
 go_enter Tryz.func176, Tryz.ntmps176
 go_wp2_with fail
 refine (tbad_c now _ hnow1 hnow2).mono ?_
 rintro e w1 ⟨rfl, rfl⟩
 go_upto_region 8 with fail
 have HP2 := HC.out.blk.put 2 (.int .i64 (named + 1))
 simp only [List.setIfInBounds_toArray, List.set_cons_zero, List.set_cons_succ] at HP2
 have HP := zh HP2
 have ht0 := set1 (w.alloc (.cells #[.int .i64 1, .int .i64 data, .pointer (pt cp), .int .i64 0] 156)) p 2 (.int .i64 (named + 1))
 have HT0 := zh ht0
 have HNP := zh (show ∀ k, lb k ≠ 0 → lb k ≠ 1 → ¬ k = p from fun k h0 h1 e => h1 (by rw [e, HC.out.lp]))
 have hpne : ¬ w.heap.size = p := fun e => by have h3 := HC.out.lp; rw [← e, HN0.out] at h3; omega
 have HX2 := zh (HX.out.turns ht0 hpne)
 have HO := zh (HC.out.own.turns ht0 (fun k hk e => by have h3 := (HC.out.lv k).1 hk; rw [e, HC.out.lp] at h3; omega))
 have HTI := zh (HC.out.tim.turns ht0 (fun k hk e => by rw [e, HC.out.lp] at hk; omega))
 have HL2 := zh (HL.out.turns ht0)
 have HS0 := zh (show Turns F w ((w.alloc (.cells #[.int .i64 1, .int .i64 data, .pointer (pt cp), .int .i64 0] 156)).setCell ⟨p, 2, none⟩ (.int .i64 (named + 1))) from (HM.out.mono (fun _ _ h => h.elim)).then ht0 (fun k hk e => (HL.out.on k).2 (by rw [e, HC.out.lp]; omega)))
 clear HP2 ht0 hpne q2 f2
 generalize (w.alloc (.cells #[.int .i64 1, .int .i64 data, .pointer (pt cp), .int .i64 0] 156)).setCell ⟨p, 2, none⟩ (.int .i64 (named + 1)) = W at *
 have HNP1 := zh (show ∀ k, v.ownBlock = some k → k ≠ p from fun k hk e => by have h3 := (HC.out.lv k).1 hk; rw [e, HC.out.lp] at h3; omega)
 have HNX1 := zh (show ∀ k, v.ownBlock = some k → k ≠ w.heap.size from fun k hk e => by have h3 := (HC.out.lv k).1 hk; rw [e, HN0.out] at h3; omega)
 obtain ⟨i0, hi0, hz0, hz1, hz2⟩ := info_parts Tryz.infoTk
 refine wp_region_z (S := fun w' => Blk w' (p) 92 #[v, .pointer (some ⟨q, 0, none⟩), .int .i64 (named + 1)] ∧ Blk w' (w.heap.size) 156 #[.int .i64 1, .int .i64 data, .pointer (pt cp), .int .i64 0] ∧ Turns (fun k => (v).ownBlock = some k) W w') 10 (by kernel_rfl) ?_ (fun hHeld => ?_)
 ·exact ⟨HP.out, HX2.out, (Turns.refl _ W).drew⟩
 refine tZ 0 50 ?_ ?_ ?_;rotate_left
 ·intro w hSw
  go_simp
  try with_reducible rfl
 try simp only [zP]
 refine tZ 1 51 ?_ ?_ ?_;rotate_left
 ·intro w hSw
  go_simp
  try with_reducible rfl
 try simp only [zP]
 refine tZ 2 52 ?_ ?_ ?_;rotate_left
 ·intro w hSw
  go_simp
  try with_reducible rfl
 try simp only [zP]
 refine tZ 3 53 ?_ ?_ ?_;rotate_left
 ·intro w hSw
  go_simp
  try with_reducible rfl
 try simp only [zP]
 refine tZ 4 54 ?_ ?_ ?_;rotate_left
 ·intro w hSw
  have q0_0 := hSw.1.cell 0
  have q0_1 := hSw.1.cell 1
  have q0_2 := hSw.1.cell 2
  have q1_0 := hSw.2.1.cell 0
  have q1_1 := hSw.2.1.cell 1
  have q1_2 := hSw.2.1.cell 2
  have q1_3 := hSw.2.1.cell 3
  simp only [zG] at q0_0 q0_1 q0_2 q1_0 q1_1 q1_2 q1_3
  go_simp
  try with_reducible rfl
 try simp only [zP]
 refine tZ 5 55 ?_ ?_ ?_;rotate_left
 ·intro w hSw
  have q0_0 := hSw.1.cell 0
  have q0_1 := hSw.1.cell 1
  have q0_2 := hSw.1.cell 2
  have q1_0 := hSw.2.1.cell 0
  have q1_1 := hSw.2.1.cell 1
  have q1_2 := hSw.2.1.cell 2
  have q1_3 := hSw.2.1.cell 3
  simp only [zG] at q0_0 q0_1 q0_2 q1_0 q1_1 q1_2 q1_3
  go_simp
  try with_reducible rfl
 try simp only [zP]
 refine wpAnyZ_ready (rs := [6]) (by kernel_rfl) (by simp) ?_
 refine AllReadyZ.cons rfl (fun K hK => ?_) AllReadyZ.nil
 refine step_single rfl _ (.tmp 55) (by rfl) i0 _ Tryz.underlying90 hi0 hz0 (by rw [hz1]; decide) (by rw [hz1]; decide) #[.int .i64 1, .int .i64 data, .pointer (pt cp), .int .i64 0] (by rfl) (fillTk hz1 _ _ _ _) ?_
 intro bX wX hTX hBX hLX
 refine hK.out _ _ ?_ (fun hHeld => ?_)
 ·exact ⟨hHeld.1.turns hTX (fun h => h), hHeld.2.1.turns hTX (fun h => h), (hHeld.2.2).trans (hTX.mono (fun _ _ h => h.elim))⟩
 clear hK K
 try simp only [zP]
 refine wpAnyZ_ready (rs := [7]) (by kernel_rfl) (by simp) ?_
 refine AllReadyZ.cons rfl (fun K hK => ?_) AllReadyZ.nil
 refine step_push rfl _ _ _ (by rfl) i0 _ 32 Tryz.underlying90 hi0 hz0 hz1 hz2 rfl (by omega) tkC_len tkC_one (by rfl) ((HO.out.drew).turns hTX (fun _ _ h => h)) ((⟨1, data, cp⟩, 0)) (by rfl) hBX (by rw [HLEN.out]; omega) (by omega) ?_
 intro v2 w2 hO2 hT2 hV2
 obtain ⟨a3, c3, rfl⟩ := owns_slice hO2
 refine hK.out _ _ ?_ (fun hHeld => ?_)
 ·exact ⟨hHeld.1.turns hT2 (fun e => HNP1.out _ e rfl), hHeld.2.1.turns hT2 (fun e => HNX1.out _ e rfl), (hHeld.2.2).trans hT2⟩
 clear hK K
 try simp only [zP]
 refine wpAnyZ_ready (rs := [8]) (by kernel_rfl) (by simp) ?_
 refine AllReadyZ.cons rfl (fun K hK => ?_) AllReadyZ.nil
 go_simp
 refine hK.out _ _ hHeld (fun hHeld => ?_)
 clear hK K
 try simp only [zP]
 refine tZ 9 59 ?_ ?_ ?_;rotate_left
 ·intro w hSw
  go_simp
  try with_reducible rfl
 try simp only [zP]
 refine wpAnyZ_ready (rs := [10]) (by kernel_rfl) (by simp) ?_
 refine AllReadyZ.last rfl (fun K hK => ?_) AllReadyZ.nil
 have qz0 := hHeld.1.cell 0
 have qf := hHeld.1.free 0
 simp only [zG] at qz0
 go_simp
 refine hK.out _ _ ?_
 clear hK K
 try simp only [zP]
 refine wpAnyZ_done (by kernel_rfl) ?_ _
 have hp2 := hHeld.1.put 0 (.slice a3 (gs.length + 1) c3)
 simp only [List.setIfInBounds_toArray, List.set_cons_zero, List.set_cons_succ] at hp2
 have hsz : W.heap.size ≤ wX.heap.size := hTX.size
 have hne2 : ∀ k, (Value.slice a3 (gs.length + 1) c3).ownBlock = some k → k ≠ p := fun k hk e => by
  subst e
  rcases hV2 _ (by simpa using hk) with h4 | h4
  ·exact HNP1.out _ h4 rfl
  ·have := HP.out.lt; omega
 have ho2 : Owns tkC 156 4 (w2.setCell ⟨p, 0, none⟩ (.slice a3 (gs.length + 1) c3)) (.slice a3 (gs.length + 1) c3) (gs ++ [(⟨1, data, cp⟩, 0)]) := by
  have := hO2.turns (set1 w2 p 0 (.slice a3 (gs.length + 1) c3)) (fun k hk => hne2 k (by simpa using hk))
  simpa using this
 have ht2 : Turns (fun k => lb k = 1 ∨ lb k = 2) W (w2.setCell ⟨p, 0, none⟩ (.slice a3 (gs.length + 1) c3)) := by
  refine (hHeld.2.2.mono (S' := fun k => lb k = 1 ∨ lb k = 2) (fun k _ hk => .inr ((HC.out.lv k).1 hk))).trans ((set1 w2 p 0 _).mono (fun k _ e => .inl (by rw [e]; exact HC.out.lp)))
 have hst2 : Stp W (w2.setCell ⟨p, 0, none⟩ (.slice a3 (gs.length + 1) c3)) (fun k => lb k = 2) (fun k => (Value.slice a3 (gs.length + 1) c3).ownBlock = some k) ∨ True := .inr trivial
 have hTI2 := HTI.out.turns ht2 (fun k hk h => by rw [hk] at h; omega)
 have hlab : ∃ lb' FF, (∀ k, (Value.slice a3 (gs.length + 1) c3).ownBlock = some k ↔ lb' k = 2) ∧ lb' p = 1 ∧ (fun k => lb' k = 3) = (fun k => lb k = 3) ∧ Lab (w2.setCell ⟨p, 0, none⟩ (.slice a3 (gs.length + 1) c3)) lb' FF ∧ Stp w (w2.setCell ⟨p, 0, none⟩ (.slice a3 (gs.length + 1) c3)) F FF := by
  have hmid : Turns (fun k => lb k = 2) W w2 := hHeld.2.2.mono (fun k _ hk => (HC.out.lv k).1 hk)
  obtain ⟨lb', FF, hl', e2, hne, hst⟩ := HL2.out.step 2 (by omega) (w' := w2) (F' := fun k => (Value.slice a3 (gs.length + 1) c3).ownBlock = some k) ⟨hmid, fun k hk => by
   rcases hV2 k (by simpa using hk) with h4 | h4
   ·exact .inl ((HC.out.lv k).1 h4)
   ·exact .inr (by omega)⟩ (fun k hk => hO2.lt (by simpa using hk))
  have hlp := lab_is (hne 1 (by omega) (by omega)) HC.out.lp
  refine ⟨lb', FF, fun k => (iff_of_eq (congrFun e2 k)).symm, hlp, hne 3 (by omega) (by omega), hl'.turns (set1 w2 p 0 _), ?_⟩
  refine ⟨(HS0.out.then hst.t (fun k hk h => h)).trans ((set1 w2 p 0 _).mono (fun k _ e => (HL.out.on k).2 (by rw [e, HC.out.lp]; omega))), fun k hk => ?_⟩
  rcases hst.f k hk with h4 | h4
  ·exact .inl h4
  ·have := HS0.out.size; exact .inr (by omega)
 obtain ⟨lb', FF, hlv, hlp, hl3, hl', hs'⟩ := hlab
 have hin : TsIn (w2.setCell ⟨p, 0, none⟩ (.slice a3 (gs.length + 1) c3)) p q lb' (.slice a3 (gs.length + 1) c3) (gs ++ [(⟨1, data, cp⟩, 0)]) (named + 1) L sq pf := ⟨hp2, hlp, ho2, hlv, by rw [hl3]; exact hTI2⟩
 have hgl : (gs ++ [((⟨1, data, cp⟩ : Tk), (0 : Int))]).map Prod.fst = ts ++ [⟨1, data, cp⟩] := by rw [List.map_append, HG.out.1]; rfl
 have hat : TsAt (w2.setCell ⟨p, 0, none⟩ (.slice a3 (gs.length + 1) c3)) p FF (ts ++ [⟨1, data, cp⟩]) (named + 1) L sq := ⟨q, lb', _, _, pf, hin, hgl, HG.out.2, hl'⟩
 have q0 := hin.blk.cell 0
 simp only [zG] at q0
 have HARM := zh (tsarm_c (i := ts.length) (x := ⟨1, data, cp⟩) hat (by simp) (by show (1 : Int) ≠ 2; decide) (by simp; omega) hsq hd HW.out h1 h2)
 have HS2 := zh hs'
 clear hHeld hO2 hT2 hV2 hTX hBX hLX hp2 hsz hne2 ho2 ht2 hst2 hTI2 hlv hlp hl3 hl' hs' hin hgl hat
 generalize w2.setCell ⟨p, 0, none⟩ (.slice a3 (gs.length + 1) c3) = V at *
 rw [HLEN.out] at *
 go_wp2_with fail
 refine HARM.out.mono ?_
 rintro e w3 ⟨rfl, F3, h3, hs3⟩
 obtain ⟨q', lb3, v3, gs3, pf3, hin3, hg3, hz3, hl3⟩ := h3
 obtain ⟨a4, c4, rfl⟩ := owns_slice hin3.own
 have hlen3 : gs3.length = ts.length + 1 := by
  have := congrArg List.length hg3
  simpa using this
 have q0 := hin3.blk.cell 0
 simp only [zG] at q0
 rw [hlen3] at q0
 have HE := zh (show TsAt w3 p F3 _ _ _ _ from ⟨q', lb3, _, gs3, pf3, hin3, hg3, hz3, hl3⟩)
 have HS3 := zh (HS2.out.trans hs3)
 clear hin3 hg3 hz3 hl3 hs3 hlen3
 go_wp2_with fail
 go_ret2
 refine ⟨?_, F3, HE.out, HS3.out⟩
 simp
theorem tsmake4_c {w : World} {p : Nat} {F : Nat → Prop} {ts : List Tk} {named : Int} {L : List It} {sq : Int} {now d when_ data : Int} {cp : Option Nat} (h : TsAt w p F ts named L sq) (hn : ts.length < 1000) (hnm : 0 ≤ named ∧ named ≤ 64) (hsq : sq < 1000000) (hdt : 0 ≤ data) (hnow : 0 ≤ now ∧ now ≤ 4611686018427387904) (hd : 0 ≤ d) (hw : addZ now d = when_) (h1 : 0 ≤ when_) (h2 : when_ ≤ 4611686018427387904) :
  Calls Tryz.prog 176 #[.pointer (some ⟨p, 0, none⟩), .agg #[.int .i64 4, .int .i64 data, .pointer (pt cp), .int .i64 0], .int .i64 now, .int .i64 d] w fun e w' => e = .returned (.tuple #[.int .i64 ts.length, .int .i64 0]) ∧ ∃ F', TsAt w' p F' (ts ++ [⟨4, data, cp⟩]) (named) (insL ⟨ts.length, when_, sq + 1⟩ (delL ts.length L)) (sq + 1) ∧ Stp w w' F F' := by
 obtain ⟨hnow1, hnow2⟩ := hnow
 obtain ⟨hnm1, hnm2⟩ := hnm
 have HM := zh ((zT w).alloc (.cells #[.int .i64 4, .int .i64 data, .pointer (pt cp), .int .i64 0] 156))
 have HX := zh (Blk.new w 156 #[.int .i64 4, .int .i64 data, .pointer (pt cp), .int .i64 0])
 obtain ⟨q, lb, v, gs, pf, h, hg, hz, hl⟩ := h
 have HLEN := zh (show gs.length = ts.length from by rw [← hg, List.length_map])
 have HC := zh (h.made HM.out)
 have HL := zh (hl.turns HM.out)
 have HN0 := zh (show lb w.heap.size = 0 from by
  by_cases e : lb w.heap.size = 0
  ·exact e
  ·have := hl.lt _ e; omega)
 have HG := zh (And.intro hg hz)
 have q2 := HC.out.blk.cell 2
 have f2 := HC.out.blk.free 2
 simp only [zG] at q2
 have HW := zh hw
 clear h hg hz hl hw
 go_enter Tryz.func176, Tryz.ntmps176
 go_wp2_with fail
 refine (tbad_c now _ hnow1 hnow2).mono ?_
 rintro e w1 ⟨rfl, rfl⟩
 go_upto_region 8 with fail
 have HP := zh HC.out.blk
 have HX2 := HX
 have HO := zh HC.out.own
 have HTI := zh HC.out.tim
 have HL2 := HL
 have HS0 := zh (show Turns F w (w.alloc (.cells #[.int .i64 4, .int .i64 data, .pointer (pt cp), .int .i64 0] 156)) from HM.out.mono (fun _ _ h => h.elim))
 clear q2 f2
 generalize w.alloc (.cells #[.int .i64 4, .int .i64 data, .pointer (pt cp), .int .i64 0] 156) = W at *
 have HNP1 := zh (show ∀ k, v.ownBlock = some k → k ≠ p from fun k hk e => by have h3 := (HC.out.lv k).1 hk; rw [e, HC.out.lp] at h3; omega)
 have HNX1 := zh (show ∀ k, v.ownBlock = some k → k ≠ w.heap.size from fun k hk e => by have h3 := (HC.out.lv k).1 hk; rw [e, HN0.out] at h3; omega)
 obtain ⟨i0, hi0, hz0, hz1, hz2⟩ := info_parts Tryz.infoTk
 refine wp_region_z (S := fun w' => Blk w' (p) 92 #[v, .pointer (some ⟨q, 0, none⟩), .int .i64 named] ∧ Blk w' (w.heap.size) 156 #[.int .i64 4, .int .i64 data, .pointer (pt cp), .int .i64 0] ∧ Turns (fun k => (v).ownBlock = some k) W w') 10 (by kernel_rfl) ?_ (fun hHeld => ?_)
 ·exact ⟨HP.out, HX2.out, (Turns.refl _ W).drew⟩
 refine tZ 0 50 ?_ ?_ ?_;rotate_left
 ·intro w hSw
  go_simp
  try with_reducible rfl
 try simp only [zP]
 refine tZ 1 51 ?_ ?_ ?_;rotate_left
 ·intro w hSw
  go_simp
  try with_reducible rfl
 try simp only [zP]
 refine tZ 2 52 ?_ ?_ ?_;rotate_left
 ·intro w hSw
  go_simp
  try with_reducible rfl
 try simp only [zP]
 refine tZ 3 53 ?_ ?_ ?_;rotate_left
 ·intro w hSw
  go_simp
  try with_reducible rfl
 try simp only [zP]
 refine tZ 4 54 ?_ ?_ ?_;rotate_left
 ·intro w hSw
  have q0_0 := hSw.1.cell 0
  have q0_1 := hSw.1.cell 1
  have q0_2 := hSw.1.cell 2
  have q1_0 := hSw.2.1.cell 0
  have q1_1 := hSw.2.1.cell 1
  have q1_2 := hSw.2.1.cell 2
  have q1_3 := hSw.2.1.cell 3
  simp only [zG] at q0_0 q0_1 q0_2 q1_0 q1_1 q1_2 q1_3
  go_simp
  try with_reducible rfl
 try simp only [zP]
 refine tZ 5 55 ?_ ?_ ?_;rotate_left
 ·intro w hSw
  have q0_0 := hSw.1.cell 0
  have q0_1 := hSw.1.cell 1
  have q0_2 := hSw.1.cell 2
  have q1_0 := hSw.2.1.cell 0
  have q1_1 := hSw.2.1.cell 1
  have q1_2 := hSw.2.1.cell 2
  have q1_3 := hSw.2.1.cell 3
  simp only [zG] at q0_0 q0_1 q0_2 q1_0 q1_1 q1_2 q1_3
  go_simp
  try with_reducible rfl
 try simp only [zP]
 refine wpAnyZ_ready (rs := [6]) (by kernel_rfl) (by simp) ?_
 refine AllReadyZ.cons rfl (fun K hK => ?_) AllReadyZ.nil
 refine step_single rfl _ (.tmp 55) (by rfl) i0 _ Tryz.underlying90 hi0 hz0 (by rw [hz1]; decide) (by rw [hz1]; decide) #[.int .i64 4, .int .i64 data, .pointer (pt cp), .int .i64 0] (by rfl) (fillTk hz1 _ _ _ _) ?_
 intro bX wX hTX hBX hLX
 refine hK.out _ _ ?_ (fun hHeld => ?_)
 ·exact ⟨hHeld.1.turns hTX (fun h => h), hHeld.2.1.turns hTX (fun h => h), (hHeld.2.2).trans (hTX.mono (fun _ _ h => h.elim))⟩
 clear hK K
 try simp only [zP]
 refine wpAnyZ_ready (rs := [7]) (by kernel_rfl) (by simp) ?_
 refine AllReadyZ.cons rfl (fun K hK => ?_) AllReadyZ.nil
 refine step_push rfl _ _ _ (by rfl) i0 _ 32 Tryz.underlying90 hi0 hz0 hz1 hz2 rfl (by omega) tkC_len tkC_one (by rfl) ((HO.out.drew).turns hTX (fun _ _ h => h)) ((⟨4, data, cp⟩, 0)) (by rfl) hBX (by rw [HLEN.out]; omega) (by omega) ?_
 intro v2 w2 hO2 hT2 hV2
 obtain ⟨a3, c3, rfl⟩ := owns_slice hO2
 refine hK.out _ _ ?_ (fun hHeld => ?_)
 ·exact ⟨hHeld.1.turns hT2 (fun e => HNP1.out _ e rfl), hHeld.2.1.turns hT2 (fun e => HNX1.out _ e rfl), (hHeld.2.2).trans hT2⟩
 clear hK K
 try simp only [zP]
 refine wpAnyZ_ready (rs := [8]) (by kernel_rfl) (by simp) ?_
 refine AllReadyZ.cons rfl (fun K hK => ?_) AllReadyZ.nil
 go_simp
 refine hK.out _ _ hHeld (fun hHeld => ?_)
 clear hK K
 try simp only [zP]
 refine tZ 9 59 ?_ ?_ ?_;rotate_left
 ·intro w hSw
  go_simp
  try with_reducible rfl
 try simp only [zP]
 refine wpAnyZ_ready (rs := [10]) (by kernel_rfl) (by simp) ?_
 refine AllReadyZ.last rfl (fun K hK => ?_) AllReadyZ.nil
 have qz0 := hHeld.1.cell 0
 have qf := hHeld.1.free 0
 simp only [zG] at qz0
 go_simp
 refine hK.out _ _ ?_
 clear hK K
 try simp only [zP]
 refine wpAnyZ_done (by kernel_rfl) ?_ _
 have hp2 := hHeld.1.put 0 (.slice a3 (gs.length + 1) c3)
 simp only [List.setIfInBounds_toArray, List.set_cons_zero, List.set_cons_succ] at hp2
 have hsz : W.heap.size ≤ wX.heap.size := hTX.size
 have hne2 : ∀ k, (Value.slice a3 (gs.length + 1) c3).ownBlock = some k → k ≠ p := fun k hk e => by
  subst e
  rcases hV2 _ (by simpa using hk) with h4 | h4
  ·exact HNP1.out _ h4 rfl
  ·have := HP.out.lt; omega
 have ho2 : Owns tkC 156 4 (w2.setCell ⟨p, 0, none⟩ (.slice a3 (gs.length + 1) c3)) (.slice a3 (gs.length + 1) c3) (gs ++ [(⟨4, data, cp⟩, 0)]) := by
  have := hO2.turns (set1 w2 p 0 (.slice a3 (gs.length + 1) c3)) (fun k hk => hne2 k (by simpa using hk))
  simpa using this
 have ht2 : Turns (fun k => lb k = 1 ∨ lb k = 2) W (w2.setCell ⟨p, 0, none⟩ (.slice a3 (gs.length + 1) c3)) := by
  refine (hHeld.2.2.mono (S' := fun k => lb k = 1 ∨ lb k = 2) (fun k _ hk => .inr ((HC.out.lv k).1 hk))).trans ((set1 w2 p 0 _).mono (fun k _ e => .inl (by rw [e]; exact HC.out.lp)))
 have hst2 : Stp W (w2.setCell ⟨p, 0, none⟩ (.slice a3 (gs.length + 1) c3)) (fun k => lb k = 2) (fun k => (Value.slice a3 (gs.length + 1) c3).ownBlock = some k) ∨ True := .inr trivial
 have hTI2 := HTI.out.turns ht2 (fun k hk h => by rw [hk] at h; omega)
 have hlab : ∃ lb' FF, (∀ k, (Value.slice a3 (gs.length + 1) c3).ownBlock = some k ↔ lb' k = 2) ∧ lb' p = 1 ∧ (fun k => lb' k = 3) = (fun k => lb k = 3) ∧ Lab (w2.setCell ⟨p, 0, none⟩ (.slice a3 (gs.length + 1) c3)) lb' FF ∧ Stp w (w2.setCell ⟨p, 0, none⟩ (.slice a3 (gs.length + 1) c3)) F FF := by
  have hmid : Turns (fun k => lb k = 2) W w2 := hHeld.2.2.mono (fun k _ hk => (HC.out.lv k).1 hk)
  obtain ⟨lb', FF, hl', e2, hne, hst⟩ := HL2.out.step 2 (by omega) (w' := w2) (F' := fun k => (Value.slice a3 (gs.length + 1) c3).ownBlock = some k) ⟨hmid, fun k hk => by
   rcases hV2 k (by simpa using hk) with h4 | h4
   ·exact .inl ((HC.out.lv k).1 h4)
   ·exact .inr (by omega)⟩ (fun k hk => hO2.lt (by simpa using hk))
  have hlp := lab_is (hne 1 (by omega) (by omega)) HC.out.lp
  refine ⟨lb', FF, fun k => (iff_of_eq (congrFun e2 k)).symm, hlp, hne 3 (by omega) (by omega), hl'.turns (set1 w2 p 0 _), ?_⟩
  refine ⟨(HS0.out.then hst.t (fun k hk h => h)).trans ((set1 w2 p 0 _).mono (fun k _ e => (HL.out.on k).2 (by rw [e, HC.out.lp]; omega))), fun k hk => ?_⟩
  rcases hst.f k hk with h4 | h4
  ·exact .inl h4
  ·have := HS0.out.size; exact .inr (by omega)
 obtain ⟨lb', FF, hlv, hlp, hl3, hl', hs'⟩ := hlab
 have hin : TsIn (w2.setCell ⟨p, 0, none⟩ (.slice a3 (gs.length + 1) c3)) p q lb' (.slice a3 (gs.length + 1) c3) (gs ++ [(⟨4, data, cp⟩, 0)]) (named) L sq pf := ⟨hp2, hlp, ho2, hlv, by rw [hl3]; exact hTI2⟩
 have hgl : (gs ++ [((⟨4, data, cp⟩ : Tk), (0 : Int))]).map Prod.fst = ts ++ [⟨4, data, cp⟩] := by rw [List.map_append, HG.out.1]; rfl
 have hat : TsAt (w2.setCell ⟨p, 0, none⟩ (.slice a3 (gs.length + 1) c3)) p FF (ts ++ [⟨4, data, cp⟩]) (named) L sq := ⟨q, lb', _, _, pf, hin, hgl, HG.out.2, hl'⟩
 have q0 := hin.blk.cell 0
 simp only [zG] at q0
 have HARM := zh (tsarm_c (i := ts.length) (x := ⟨4, data, cp⟩) hat (by simp) (by show (4 : Int) ≠ 2; decide) (by simp; omega) hsq hd HW.out h1 h2)
 have HS2 := zh hs'
 clear hHeld hO2 hT2 hV2 hTX hBX hLX hp2 hsz hne2 ho2 ht2 hst2 hTI2 hlv hlp hl3 hl' hs' hin hgl hat
 generalize w2.setCell ⟨p, 0, none⟩ (.slice a3 (gs.length + 1) c3) = V at *
 rw [HLEN.out] at *
 go_wp2_with fail
 refine HARM.out.mono ?_
 rintro e w3 ⟨rfl, F3, h3, hs3⟩
 obtain ⟨q', lb3, v3, gs3, pf3, hin3, hg3, hz3, hl3⟩ := h3
 obtain ⟨a4, c4, rfl⟩ := owns_slice hin3.own
 have hlen3 : gs3.length = ts.length + 1 := by
  have := congrArg List.length hg3
  simpa using this
 have q0 := hin3.blk.cell 0
 simp only [zG] at q0
 rw [hlen3] at q0
 have HE := zh (show TsAt w3 p F3 _ _ _ _ from ⟨q', lb3, _, gs3, pf3, hin3, hg3, hz3, hl3⟩)
 have HS3 := zh (HS2.out.trans hs3)
 clear hin3 hg3 hz3 hl3 hs3 hlen3
 go_wp2_with fail
 go_ret2
 refine ⟨?_, F3, HE.out, HS3.out⟩
 simp
theorem tstimer_c {w : World} {p : Nat} {F : Nat → Prop} {ts : List Tk} {named : Int} {L : List It} {sq : Int} {now d when_ : Int} (h : TsAt w p F ts named L sq) (hn : ts.length < 1000) (hnm : 0 ≤ named ∧ named < 64) (hsq : sq < 1000000) (hnow : 0 ≤ now ∧ now ≤ 4611686018427387904) (hd : 0 ≤ d) (hw : addZ now d = when_) (h1 : 0 ≤ when_) (h2 : when_ ≤ 4611686018427387904) :
  Calls Tryz.prog 131 #[.pointer (some ⟨p, 0, none⟩), .int .i64 now, .int .i64 d] w fun e w' => ∃ cp Fc F', e = .returned (.tuple #[.int .i64 ts.length, .pointer (some ⟨cp, 0, none⟩), .int .i64 0]) ∧ TsAt w' p F' (ts ++ [⟨1, 0, some cp⟩]) (named + 1) (insL ⟨ts.length, when_, sq + 1⟩ (delL ts.length L)) (sq + 1) ∧ ChAt w' cp Fc ⟨true, false, false, true, none, []⟩ ∧ Stp w w' F F' ∧ (∀ k, Fc k → w.heap.size ≤ k) ∧ ∀ k, Fc k → ¬ F' k := by
 have H : Calls Tryz.prog 175 #[.pointer (some ⟨p, 0, none⟩), .int .i64 1, .int .i64 now, .int .i64 d] w fun e w' => ∃ cp Fc F', e = .returned (.tuple #[.int .i64 ts.length, .pointer (some ⟨cp, 0, none⟩), .int .i64 0]) ∧ TsAt w' p F' (ts ++ [⟨1, 0, some cp⟩]) (named + 1) (insL ⟨ts.length, when_, sq + 1⟩ (delL ts.length L)) (sq + 1) ∧ ChAt w' cp Fc ⟨true, false, false, true, none, []⟩ ∧ Stp w w' F F' ∧ (∀ k, Fc k → w.heap.size ≤ k) ∧ ∀ k, Fc k → ¬ F' k := by
  have HA := zh h
  have HW := zh hw
  clear h hw
  go_enter Tryz.func175, Tryz.ntmps175
  go_wp2_with fail
  refine (chtimed_c w).mono ?_
  rintro e w1 ⟨cp, Fc, rfl, hc, m1, f1⟩
  have HC := zh (And.intro hc (And.intro m1 f1))
  have HMK := zh (tsmake1_c (data := 0) (cp := some cp) (HA.out.made m1) hn hnm hsq (by omega) hnow hd HW.out h1 h2)
  simp only [pt, Option.map] at HMK
  clear hc m1 f1
  go_wp2_with fail
  refine HMK.out.mono ?_
  rintro e w2 ⟨rfl, F2, h2, hs2⟩
  have HE := zh (And.intro h2 hs2)
  clear h2 hs2
  go_wp2_with fail
  obtain ⟨hc, m1, f1⟩ := HC.out
  obtain ⟨h2, hs2⟩ := HE.out
  have hdis : ∀ k, Fc k → ¬ F k := fun k hk h => by have := HA.out.fb k h; have := f1 k hk; omega
  exact bodyPost_ret (v := .tuple #[.int .i64 ts.length, .pointer (some ⟨cp, 0, none⟩), .int .i64 0]) (by simp [results, Tryz.results175, go_sem]) rfl ⟨cp, Fc, F2, rfl, h2, hc.turns hs2.t hdis, (Stp.made m1).trans hs2, f1, fun k hk h => by
   rcases hs2.f k h with h3 | h3
   ·exact hdis k hk h3
   ·have := hc.fb k hk; omega⟩
 have H := zh H
 clear h hw
 go_enter Tryz.func131, Tryz.ntmps131
 go_wp2_with fail
 refine H.out.mono ?_
 rintro e w1 ⟨cp, Fc, F2, rfl, h3⟩
 have HE := zh h3
 clear h3
 go_wp2_with fail
 exact bodyPost_ret (v := .tuple #[.int .i64 ts.length, .pointer (some ⟨cp, 0, none⟩), .int .i64 0]) (by simp [results, Tryz.results131, go_sem]) rfl ⟨cp, Fc, F2, rfl, HE.out⟩
theorem tslapse_c {w : World} {p : Nat} {F : Nat → Prop} {ts : List Tk} {named : Int} {L : List It} {sq : Int} {when_ id : Int} (h : TsAt w p F ts named L sq) (hn : ts.length < 1000) (hnm : 0 ≤ named ∧ named ≤ 64) (hsq : sq < 1000000) (hid : 0 ≤ id) (h1 : 0 ≤ when_) (h2 : when_ ≤ 4611686018427387904) :
  Calls Tryz.prog 183 #[.pointer (some ⟨p, 0, none⟩), .int .i64 when_, .int .i64 id] w fun e w' => e = .returned (.tuple #[.int .i64 ts.length, .int .i64 0]) ∧ ∃ F', TsAt w' p F' (ts ++ [⟨4, id, none⟩]) named (insL ⟨ts.length, when_, sq + 1⟩ (delL ts.length L)) (sq + 1) ∧ Stp w w' F F' := by
 have H := zh (tsmake4_c (data := id) (cp := none) (now := 0) (d := when_) (when_ := when_) h hn hnm hsq hid (by omega) h1 (by unfold addZ heldZ; repeat' split; all_goals omega) h1 h2)
 simp only [pt, Option.map] at H
 clear h
 go_enter Tryz.func183, Tryz.ntmps183
 go_wp2_with fail
 refine H.out.mono ?_
 rintro e w1 ⟨rfl, h3⟩
 have HE := zh h3
 clear h3
 go_wp2_with fail
 go_ret2
 exact ⟨rfl, HE.out⟩
theorem ts_row {w : World} {p : Nat} {F : Nat → Prop} {ts : List Tk} {named : Int} {L : List It} {sq : Int} {i : Nat} {x : Tk} (h : TsAt w p F ts named L sq) (hx : ts[i]? = some x) : ∃ q g c n, w.cell? ⟨p, 0, none⟩ = some (.slice (some ⟨g, 0, none⟩) n c) ∧ w.cell? ⟨p, 1, none⟩ = some (.pointer (some ⟨q, 0, none⟩)) ∧ i < n ∧ w.cell? ⟨g, i * 4, none⟩ = some (.int .i64 x.kind) ∧ w.cell? ⟨g, i * 4 + 1, none⟩ = some (.int .i64 x.data) ∧ w.cell? ⟨g, i * 4 + 2, none⟩ = some (.pointer (pt x.c)) ∧ n = ts.length := by
 obtain ⟨q, lb, v, gs, pf, h, hg, hz, hl⟩ := h
 have hlen : gs.length = ts.length := by rw [← hg, List.length_map]
 obtain ⟨gx, hgx, hgf⟩ : ∃ gx, gs[i]? = some gx ∧ gx.1 = x := by
  rw [← hg, List.getElem?_map, Option.map_eq_some_iff] at hx
  exact hx
 have hi : i < gs.length := (List.getElem?_eq_some_iff.1 hgx).1
 rcases h.own.form with ⟨_, h0⟩ | ⟨g, c, rfl, hgb, hlc, hcm⟩
 ·subst h0
  simp at hi
 obtain ⟨k0, k1, k2, k3⟩ := own_tk h.own hgx
 have q0 := h.blk.cell 0
 have q1 := h.blk.cell 1
 simp only [zG] at q0 q1
 rw [hgf] at k0 k1 k2
 exact ⟨q, g, c, gs.length, q0, q1, hi, k0, k1, k2, hlen⟩
theorem tskind_c {w : World} {p : Nat} {F : Nat → Prop} {ts : List Tk} {named : Int} {L : List It} {sq : Int} {i : Nat} {x : Tk} (h : TsAt w p F ts named L sq) (hx : ts[i]? = some x) (hn : ts.length ≤ 1000) :
  Calls Tryz.prog 134 #[.pointer (some ⟨p, 0, none⟩), .int .i64 i] w fun e w' => e = .returned (.int .i64 x.kind) ∧ w = w' := by
 have H := zh (tshas_c h (List.getElem?_eq_some_iff.1 hx).1)
 obtain ⟨q, g, c, n, q0, q1, hi, k0, k1, k2, hnn⟩ := ts_row h hx
 have hn2 : n ≤ 1000 := by omega
 clear h hx hnn
 go_enter Tryz.func134, Tryz.ntmps134
 go_wp2_with fail
 refine H.out.mono ?_
 rintro e w1 ⟨rfl, rfl⟩
 go_wp2_with fail
 go_ret
 exact ⟨rfl, rfl⟩
theorem tschan_c {w : World} {p : Nat} {F : Nat → Prop} {ts : List Tk} {named : Int} {L : List It} {sq : Int} {i : Nat} {x : Tk} (h : TsAt w p F ts named L sq) (hx : ts[i]? = some x) (hn : ts.length ≤ 1000) :
  Calls Tryz.prog 71 #[.pointer (some ⟨p, 0, none⟩), .int .i64 i] w fun e w' => e = .returned (.pointer (pt x.c)) ∧ w = w' := by
 have H := zh (tshas_c h (List.getElem?_eq_some_iff.1 hx).1)
 obtain ⟨q, g, c, n, q0, q1, hi, k0, k1, k2, hnn⟩ := ts_row h hx
 have hn2 : n ≤ 1000 := by omega
 generalize pt x.c = cc at *
 clear h hx hnn
 go_enter Tryz.func71, Tryz.ntmps71
 go_wp2_with fail
 refine H.out.mono ?_
 rintro e w1 ⟨rfl, rfl⟩
 go_wp2_with fail
 go_ret
 exact ⟨rfl, rfl⟩
theorem tsstop_no {w : World} {p : Nat} {F : Nat → Prop} {ts : List Tk} {named : Int} {L : List It} {sq : Int} (h : TsAt w p F ts named L sq) :
  Calls Tryz.prog 135 #[.pointer (some ⟨p, 0, none⟩), .int .i64 (-1)] w fun e w' => e = .returned (.tuple #[.bool false, .int .i64 4]) ∧ w = w' := by
 have H := zh (tshas_no h)
 clear h
 go_enter Tryz.func135, Tryz.ntmps135
 go_wp2_with fail
 refine H.out.mono ?_
 rintro e w1 ⟨rfl, rfl⟩
 go_wp2_with fail
 go_ret2
 exact ⟨rfl, rfl⟩
theorem chdrop_nil (w : World) : Calls Tryz.prog 177 #[.pointer none] w fun e w' => e = .returned (.bool false) ∧ w = w' := by
 go_enter Tryz.func177, Tryz.ntmps177
 go_wp2_with fail
 go_ret
 exact ⟨rfl, rfl⟩
theorem tsstop_t {w : World} {p : Nat} {F : Nat → Prop} {ts : List Tk} {named : Int} {L : List It} {sq : Int} (i : Nat) (h : TsAt w p F ts named L sq) (hsq : sq ≤ 1000000) : ∃ q, w.cell? ⟨p, 1, none⟩ = some (.pointer (some ⟨q, 0, none⟩)) ∧ Calls Tryz.prog 152 #[.pointer (some ⟨q, 0, none⟩), .int .i64 i] w fun e w' => e = .returned (.bool (findL (i : Int) L).isSome) ∧ TsAt w' p F ts named (delL i L) sq ∧ Turns F w w' := by
 obtain ⟨q, lb, v, gs, pf, h, hg, hz, hl⟩ := h
 have q1 := h.blk.cell 1
 simp only [zG] at q1
 refine ⟨q, q1, (tstop_c (i : Int) w h.tim hsq).mono ?_⟩
 rintro e w' ⟨rfl, ht, hs⟩
 have hst : Turns F w w' := hs.t.mono (fun k _ hk => (hl.on k).2 (by rw [hk]; omega))
 refine ⟨rfl, ⟨q, lb, v, gs, _, ⟨h.blk.turns hs.t (by rw [h.lp]; omega), h.lp, h.own.turns hs.t (fun k hk => by rw [(h.lv k).1 hk]; omega), h.lv, ht⟩, hg, hz.del i, hl.turns hst⟩, hst⟩
theorem tsstop_n {w : World} {p : Nat} {F : Nat → Prop} {ts : List Tk} {named : Int} {L : List It} {sq : Int} {i : Nat} {kd dt : Int} (h : TsAt w p F ts named L sq) (hx : ts[i]? = some ⟨kd, dt, none⟩) (hn : ts.length ≤ 1000) (hsq : sq ≤ 1000000) :
  Calls Tryz.prog 135 #[.pointer (some ⟨p, 0, none⟩), .int .i64 i] w fun e w' => e = .returned (.tuple #[.bool (findL (i : Int) L).isSome, .int .i64 0]) ∧ TsAt w' p F ts named (delL i L) sq ∧ Turns F w w' := by
 have H := zh (tshas_c h (List.getElem?_eq_some_iff.1 hx).1)
 obtain ⟨q, hq1, hst⟩ := tsstop_t i h hsq
 have HST := zh hst
 have HX := zh hx
 have HA := zh h
 obtain ⟨b, hb⟩ : ∃ b, (findL (i : Int) L).isSome = b := ⟨_, rfl⟩
 rw [hb] at HST ⊢
 clear h hx hst hb
 go_enter Tryz.func135, Tryz.ntmps135
 go_wp2_with fail
 refine H.out.mono ?_
 rintro e w1 ⟨rfl, rfl⟩
 go_wp2_with fail
 refine HST.out.mono ?_
 rintro e w2 ⟨rfl, h2, ht2⟩
 obtain ⟨q', g, c, n, q0, q1, hi, k0, k1, k2, hnn⟩ := ts_row h2 HX.out
 simp only [pt, Option.map] at k2
 have hn2 : n ≤ 1000 := by omega
 have HE := zh (And.intro h2 ht2)
 clear h2 ht2 hnn hq1 H HST
 go_wp2_with fail
 refine (chdrop_nil _).mono ?_
 rintro e w3 ⟨rfl, rfl⟩
 go_wp2_with fail
 go_ret2
 first
 | exact ⟨rfl, HE.out.1, HE.out.2⟩
 | (refine ⟨by simp, HE.out.1, HE.out.2⟩)
theorem tsstop_0 {w : World} {p : Nat} {F : Nat → Prop} {ts : List Tk} {named : Int} {L : List It} {sq : Int} {i : Nat} {kd dt : Int} {cp : Nat} {Fc : Nat → Prop} {s cl rm : Bool} {l : List Wt} (h : TsAt w p F ts named L sq) (hx : ts[i]? = some ⟨kd, dt, some cp⟩) (hc : ChAt w cp Fc ⟨true, s, cl, rm, none, l⟩) (hd : ∀ k, Fc k → ¬ F k) (hn : ts.length ≤ 1000) (hsq : sq ≤ 1000000) :
  Calls Tryz.prog 135 #[.pointer (some ⟨p, 0, none⟩), .int .i64 i] w fun e w' => e = .returned (.tuple #[.bool (findL (i : Int) L).isSome, .int .i64 0]) ∧ TsAt w' p F ts named (delL i L) sq ∧ ChAt w' cp Fc ⟨true, s, cl, rm, none, l⟩ ∧ Turns F w w' := by
 have H := zh (tshas_c h (List.getElem?_eq_some_iff.1 hx).1)
 obtain ⟨q, hq1, hst⟩ := tsstop_t i h hsq
 have HST := zh hst
 have HX := zh hx
 have HA := zh h
 obtain ⟨b, hb⟩ : ∃ b, (findL (i : Int) L).isSome = b := ⟨_, rfl⟩
 rw [hb] at HST ⊢
 clear h hx hst hb
 go_enter Tryz.func135, Tryz.ntmps135
 go_wp2_with fail
 refine H.out.mono ?_
 rintro e w1 ⟨rfl, rfl⟩
 go_wp2_with fail
 refine HST.out.mono ?_
 rintro e w2 ⟨rfl, h2, ht2⟩
 obtain ⟨q', g, c, n, q0, q1, hi, k0, k1, k2, hnn⟩ := ts_row h2 HX.out
 simp only [pt, Option.map] at k2
 have hn2 : n ≤ 1000 := by omega
 have HE := zh (And.intro h2 ht2)
 have HCH := zh (hc.turns ht2 hd)
 clear h2 ht2 hnn hq1 H HST
 go_wp2_with fail
 refine (chdrop_0 HCH.out).mono ?_
 rintro e w3 ⟨rfl, rfl⟩
 go_wp2_with fail
 go_ret2
 first
 | exact ⟨rfl, HE.out.1, HCH.out, HE.out.2⟩
 | (refine ⟨by simp, HE.out.1, HCH.out, HE.out.2⟩)
theorem tsstop_1 {w : World} {p : Nat} {F : Nat → Prop} {ts : List Tk} {named : Int} {L : List It} {sq : Int} {i : Nat} {kd dt : Int} {cp : Nat} {Fc : Nat → Prop} {s cl rm : Bool} {l : List Wt} {v : Int} (h : TsAt w p F ts named L sq) (hx : ts[i]? = some ⟨kd, dt, some cp⟩) (hc : ChAt w cp Fc ⟨true, s, cl, rm, some v, l⟩) (hd : ∀ k, Fc k → ¬ F k) (hn : ts.length ≤ 1000) (hsq : sq ≤ 1000000) :
  Calls Tryz.prog 135 #[.pointer (some ⟨p, 0, none⟩), .int .i64 i] w fun e w' => e = .returned (.tuple #[.bool true, .int .i64 0]) ∧ TsAt w' p F ts named (delL i L) sq ∧ ChAt w' cp Fc ⟨true, s, cl, rm, none, l⟩ ∧ Turns (fun k => F k ∨ Fc k) w w' := by
 have H := zh (tshas_c h (List.getElem?_eq_some_iff.1 hx).1)
 obtain ⟨q, hq1, hst⟩ := tsstop_t i h hsq
 have HST := zh hst
 have HX := zh hx
 have HA := zh h
 obtain ⟨b, hb⟩ : ∃ b, (findL (i : Int) L).isSome = b := ⟨_, rfl⟩
 rw [hb] at HST
 clear h hx hst hb
 go_enter Tryz.func135, Tryz.ntmps135
 go_wp2_with fail
 refine H.out.mono ?_
 rintro e w1 ⟨rfl, rfl⟩
 go_wp2_with fail
 refine HST.out.mono ?_
 rintro e w2 ⟨rfl, h2, ht2⟩
 obtain ⟨q', g, c, n, q0, q1, hi, k0, k1, k2, hnn⟩ := ts_row h2 HX.out
 simp only [pt, Option.map] at k2
 have hn2 : n ≤ 1000 := by omega
 have HE := zh (And.intro h2 ht2)
 have HCH := zh (hc.turns ht2 hd)
 clear h2 ht2 hnn hq1 H HST
 go_wp2_with fail
 refine (chdrop_1 HCH.out).mono ?_
 rintro e w3 ⟨rfl, h3, ht3⟩
 have HE3 := zh (And.intro (HE.out.1.turns ht3 (fun k hk hf => hd k hf hk)) (And.intro h3 ((HE.out.2.mono (S' := fun k => F k ∨ Fc k) (fun k _ h => .inl h)).trans (ht3.mono (S' := fun k => F k ∨ Fc k) (fun k _ h => .inr h)))))
 clear h3 ht3
 go_wp2_with fail
 go_ret2
 exact ⟨rfl, HE3.out⟩
theorem tsreset_0 {w : World} {p : Nat} {F : Nat → Prop} {ts : List Tk} {named : Int} {L : List It} {sq : Int} {i : Nat} {dt now d when_ : Int} {cp : Nat} {Fc : Nat → Prop} {s cl rm : Bool} {l : List Wt} (h : TsAt w p F ts named L sq) (hx : ts[i]? = some ⟨1, dt, some cp⟩) (hc : ChAt w cp Fc ⟨true, s, cl, rm, none, l⟩) (hdis : ∀ k, Fc k → ¬ F k) (hn : ts.length ≤ 1000) (hsq : sq < 1000000) (hnow : 0 ≤ now ∧ now ≤ 4611686018427387904) (hd : 0 ≤ d) (hw : addZ now d = when_) (h1 : 0 ≤ when_) (h2 : when_ ≤ 4611686018427387904) :
  Calls Tryz.prog 136 #[.pointer (some ⟨p, 0, none⟩), .int .i64 i, .int .i64 now, .int .i64 d] w fun e w' => e = .returned (.tuple #[.bool (findL (i : Int) L).isSome, .int .i64 0]) ∧ ∃ F', TsAt w' p F' ts named (insL ⟨i, when_, sq + 1⟩ (delL i (delL i L))) (sq + 1) ∧ ChAt w' cp Fc ⟨true, s, cl, rm, none, l⟩ ∧ Turns (fun k => F k ∨ Fc k) w w' ∧ (∀ k, F' k → F k ∨ w.heap.size ≤ k) ∧ ∀ k, Fc k → ¬ F' k := by
 obtain ⟨hnow1, hnow2⟩ := hnow
 have H := zh (tshas_c h (List.getElem?_eq_some_iff.1 hx).1)
 have HST := zh (tsstop_0 h hx hc hdis hn (by omega))
 obtain ⟨q, g, c, n, q0, q1, hi, k0, k1, k2, hnn⟩ := ts_row h hx
 have hn2 : n ≤ 1000 := by omega
 have HX := zh hx
 have HW := zh hw
 have HFB := zh (And.intro h.fb hc.fb)
 obtain ⟨b, hb⟩ : ∃ b, (findL (i : Int) L).isSome = b := ⟨_, rfl⟩
 rw [hb] at HST ⊢
 clear h hx hw hc hnn hb
 go_enter Tryz.func136, Tryz.ntmps136
 go_wp2_with fail
 refine H.out.mono ?_
 rintro e w1 ⟨rfl, rfl⟩
 go_wp2_with fail
 refine (tbad_c now _ hnow1 hnow2).mono ?_
 rintro e w1 ⟨rfl, rfl⟩
 go_wp2_with fail
 refine HST.out.mono ?_
 rintro e w2 ⟨rfl, ha, hch, ht⟩
 have HE := zh (And.intro ha (And.intro hch ht))
 have HAR := zh (tsarm_c ha HX.out (by show (1 : Int) ≠ 2; decide) hn hsq hd HW.out h1 h2)
 clear ha hch ht q0 q1 k0 k1 k2
 go_wp2_with fail
 refine HAR.out.mono ?_
 rintro e w3 ⟨rfl, F3, h3, hs3⟩
 have HE3 := zh (And.intro h3 hs3)
 clear h3 hs3
 go_wp2_with fail
 go_ret2
 obtain ⟨ha, hch, ht⟩ := HE.out
 obtain ⟨h3, hs3⟩ := HE3.out
 have ht2 : Turns (fun k => F k ∨ Fc k) w w2 := ht.mono (fun k _ h => .inl h)
 have hsz := ht2.size
 refine ⟨rfl, F3, h3, hch.turns hs3.t hdis, ht2.trans (hs3.t.mono (fun k _ h => .inl h)), fun k hk => ?_, fun k hk h => ?_⟩
 ·rcases hs3.f k hk with h4 | h4
  ·exact .inl h4
  ·exact .inr (by omega)
 ·rcases hs3.f k h with h4 | h4
  ·exact hdis k hk h4
  ·have := HFB.out.2 k hk; omega
theorem Tryz.sizeFired : (Tryz.prog.info? 114).map (·.size) = some 7 := by kernel_rfl
theorem chput_nil (v : Int) (w : World) : Calls Tryz.prog 64 #[.pointer none, .int .i64 v] w fun e w' => e = .returned (.tuple #[.slice none 0 0, .bool false]) ∧ w = w' := by
 go_enter Tryz.func64, Tryz.ntmps64
 go_wp2_with fail
 go_ret2
 exact ⟨rfl, rfl⟩
theorem tstake_t {w : World} {p : Nat} {F : Nat → Prop} {ts : List Tk} {named : Int} {L : List It} {sq : Int} {i : Nat} {wh se now : Int} {l : List It} (h : TsAt w p F ts named (⟨i, wh, se⟩ :: l) sq) (hsq : sq < 1000000) (hn : 0 ≤ now) (hx : wh ≤ now) : ∃ q, w.cell? ⟨p, 1, none⟩ = some (.pointer (some ⟨q, 0, none⟩)) ∧ Calls Tryz.prog 63 #[.pointer (some ⟨q, 0, none⟩), .int .i64 now] w fun e w' => e = .returned (.tuple #[.agg #[.int .i64 i, .int .i64 wh, .int .i64 now], .bool true]) ∧ ∃ F', TsAt w' p F' ts named l sq ∧ Stp w w' F F' := by
 obtain ⟨q, lb, v, gs, pf, h, hg, hz, hl⟩ := h
 have q1 := h.blk.cell 1
 simp only [zG] at q1
 have hpf : pf (i : Int) = some 0 := by
  cases hq : pf (i : Int) with
  | none =>
   have := (h.tim.per (i : Int)).1 hq
   rw [findL_none] at this
   exact absurd rfl (this ⟨i, wh, se⟩ (List.mem_cons_self ..))
  | some z => rw [hz _ _ hq]
 refine ⟨q, q1, (ttake_c now 0 w h.tim hsq hn hx hpf).mono ?_⟩
 rintro e w' ⟨rfl, G', _, ht, hs⟩
 have hna : ¬ again (⟨i, wh, se⟩ : It) 0 now := fun ha => by have := (again_bd ha hn).2.2.1; omega
 obtain ⟨lb', FF, hin, hl', hst⟩ := h.setTim hl (ht hna) hs
 exact ⟨rfl, FF, ⟨q, lb', v, gs, _, hin, hg, hz.del _, hl'⟩, hst⟩
theorem tsnone_t {w : World} {p : Nat} {F : Nat → Prop} {ts : List Tk} {named : Int} {L : List It} {sq : Int} {now : Int} (h : TsAt w p F ts named L sq) (hn : ∀ x, L[0]? = some x → now < 0 ∨ now < x.when) : ∃ q, w.cell? ⟨p, 1, none⟩ = some (.pointer (some ⟨q, 0, none⟩)) ∧ Calls Tryz.prog 63 #[.pointer (some ⟨q, 0, none⟩), .int .i64 now] w fun e w' => e = .returned (.tuple #[.agg #[.int .i64 0, .int .i64 0, .int .i64 0], .bool false]) ∧ Made w w' := by
 obtain ⟨q, lb, v, gs, pf, h, hg, hz, hl⟩ := h
 have q1 := h.blk.cell 1
 simp only [zG] at q1
 exact ⟨q, q1, ttake_none now w h.tim hn⟩
theorem tsfire_none {w : World} {p : Nat} {F : Nat → Prop} {ts : List Tk} {named : Int} {L : List It} {sq : Int} {now : Int} (h : TsAt w p F ts named L sq) (hn : ∀ x, L[0]? = some x → now < 0 ∨ now < x.when) :
  Calls Tryz.prog 43 #[.pointer (some ⟨p, 0, none⟩), .int .i64 now] w fun e w' => e = .returned (.tuple #[.agg #[.int .i64 0, .int .i64 0, .int .i64 0, .int .i64 0, .int .i64 0, .slice none 0 0, .bool false], .bool false]) ∧ Made w w' := by
 have HM := zh ((zT w).alloc (.cells #[.int .i64 0, .int .i64 0, .int .i64 0, .int .i64 0, .int .i64 0, .slice none 0 0, .bool false] 114))
 have HB := zh (Blk.new w 114 #[.int .i64 0, .int .i64 0, .int .i64 0, .int .i64 0, .int .i64 0, .slice none 0 0, .bool false])
 obtain ⟨q, hq1, hst⟩ := tsnone_t (h.made HM.out) hn
 have HST := zh hst
 have HN := zh hn
 clear h hst hn
 go_enter Tryz.func43, Tryz.ntmps43
 go_wp2_with fail
 refine HST.out.mono ?_
 rintro e w1 ⟨rfl, hm⟩
 have hm2 := hm.alloc (.cells #[.int .i64 0, .int .i64 0, .int .i64 0] 152)
 have hb := HB.out.turns hm2 (fun h => h)
 have HM2 := zh (HM.out.trans hm2)
 have HB2 := zh hb
 have b0 := hb.cell 0
 have b1 := hb.cell 1
 have b2 := hb.cell 2
 have b3 := hb.cell 3
 have b4 := hb.cell 4
 have b5 := hb.cell 5
 have b6 := hb.cell 6
 have f0 := hb.free 0
 have f1 := hb.free 1
 have f2 := hb.free 2
 have f3 := hb.free 3
 have f4 := hb.free 4
 have f5 := hb.free 5
 have f6 := hb.free 6
 simp only [zG] at b0 b1 b2 b3 b4 b5 b6
 clear hm hm2 hb hq1
 go_wp2_with fail
 have hb3 := ((((((HB2.out.put 0 (.int .i64 0)).put 1 (.int .i64 0)).put 2 (.int .i64 0)).put 3 (.int .i64 0)).put 4 (.int .i64 0)).put 5 (.slice none 0 0)).put 6 (.bool false)
 simp only [List.setIfInBounds_toArray, List.set_cons_zero, List.set_cons_succ] at hb3
 refine bodyPost_ret (res_row rfl hb3 rfl rfl Tryz.underlying114 rfl Tryz.sizeFired) rfl ⟨rfl, ?_⟩
 exact HM2.out.then (((((((set1 _ _ 0 _).trans (set1 _ _ 1 _)).trans (set1 _ _ 2 _)).trans (set1 _ _ 3 _)).trans (set1 _ _ 4 _)).trans (set1 _ _ 5 _)).trans (set1 _ _ 6 _)) (fun k hk (e : k = w.heap.size) => by omega)
theorem tsfire_0 {w : World} {p : Nat} {F : Nat → Prop} {ts : List Tk} {named : Int} {L : List It} {sq : Int} {i : Nat} {wh se now kd dt : Int} {ll : List It} {cp : Nat} {Fc : Nat → Prop} {s cl : Bool} (h : TsAt w p F ts named (⟨i, wh, se⟩ :: ll) sq) (hxx : ts[i]? = some ⟨kd, dt, some cp⟩) (hc : ChAt w cp Fc ⟨true, s, cl, true, none, []⟩) (hdis : ∀ k, Fc k → ¬ F k) (hnl : ts.length ≤ 1000) (hsq : sq < 1000000) (hn : 0 ≤ now) (hx : wh ≤ now) :
  Calls Tryz.prog 43 #[.pointer (some ⟨p, 0, none⟩), .int .i64 now] w fun e w' => e = .returned (.tuple #[.agg #[.int .i64 i, .int .i64 kd, .int .i64 wh, .int .i64 now, .int .i64 dt, .slice none 0 0, .bool true], .bool true]) ∧ ∃ F', TsAt w' p F' ts named ll sq ∧ ChAt w' cp Fc ⟨true, s, cl, true, some now, []⟩ ∧ Turns (fun k => F k ∨ Fc k) w w' ∧ (∀ k, F' k → F k ∨ w.heap.size ≤ k) ∧ ∀ k, Fc k → ¬ F' k := by
 have HM := zh ((zT w).alloc (.cells #[.int .i64 0, .int .i64 0, .int .i64 0, .int .i64 0, .int .i64 0, .slice none 0 0, .bool false] 114))
 have HB := zh (Blk.new w 114 #[.int .i64 0, .int .i64 0, .int .i64 0, .int .i64 0, .int .i64 0, .slice none 0 0, .bool false])
 obtain ⟨q, hq1, hst⟩ := tstake_t (L := []) (h.made HM.out) hsq hn hx
 have HST := zh hst
 have HXX := zh hxx
 have HFB0 := zh h.fb
 have HCH := zh (And.intro hc hdis)
 clear h hst hn hx hxx
 go_enter Tryz.func43, Tryz.ntmps43
 go_wp2_with fail
 refine HST.out.mono ?_
 rintro e w1 ⟨rfl, F1, ha1, hs1⟩
 have HA1 := zh ha1
 have HS1 := zh ((Stp.made (F := F) HM.out).trans hs1)
 have HST1 := zh hs1
 have hnf : ¬ F w.heap.size := fun hk => by have := HFB0.out _ hk; omega
 have HB1 := zh (HB.out.turns hs1.t hnf)
 have hnf1 : ¬ F1 w.heap.size := fun hk => by
  rcases hs1.f _ hk with h4 | h4
  ·exact hnf h4
  ·simp only [World.size_alloc] at h4; omega
 have HNF1 := zh hnf1
 clear ha1 hs1 hq1 hnf hnf1
 go_upto_region 6 with fail
 have hmd := (zT w1).alloc (.cells #[.int .i64 i, .int .i64 wh, .int .i64 now] 152)
 have HD := zh (Blk.new w1 152 #[.int .i64 i, .int .i64 wh, .int .i64 now])
 obtain ⟨q2, lb, v, gs, pf, h, hg, hz, hl⟩ := HA1.out.made hmd
 have hlen : gs.length = ts.length := by rw [← hg, List.length_map]
 obtain ⟨gx, hgx⟩ : ∃ gx, gs[i]? = some (⟨kd, dt, some cp⟩, gx) := by
  have h9 := HXX.out
  rw [← hg, List.getElem?_map, Option.map_eq_some_iff] at h9
  obtain ⟨z, h8, h7⟩ := h9
  exact ⟨z.2, by rw [h8, ← h7]⟩
 have hi : i < gs.length := (List.getElem?_eq_some_iff.1 hgx).1
 rcases h.own.form with ⟨_, h0⟩ | ⟨g, c, rfl, hgb, hlc, hcm⟩
 ·subst h0
  simp at hi
 have HP := zh h.blk
 have HO := zh h.own
 have HGX := zh hgx
 have HMD := zh hmd
 have HSZ := zh hgb
 have HLEN := zh hlen
 have hgl : gs.length ≤ 1000 := by omega
 clear h hg hz hl hgx hmd hlen
 have hsz1 : w1.heap.size < (w1.alloc (.cells #[.int .i64 i, .int .i64 wh, .int .i64 now] 152)).heap.size := by simp
 have HSZ1 := zh hsz1
 clear hsz1
 generalize w1.alloc (.cells #[.int .i64 i, .int .i64 wh, .int .i64 now] 152) = W at *
 have ib1 : (0 : Int) ≤ (i : Int) := by omega
 have ib2 : (i : Int) < (gs.length : Int) := by omega
 refine wp_region_held_drew (S := fun w' => Blk w' (p) 92 #[.slice (some ⟨g, 0, none⟩) gs.length c, .pointer (some ⟨q2, 0, none⟩), .int .i64 named] ∧ Blk w' (w1.heap.size) 152 #[.int .i64 i, .int .i64 wh, .int .i64 now] ∧ Owns tkC 156 4 w' (.slice (some ⟨g, 0, none⟩) gs.length c) gs ∧ Made W w') (by kernel_rfl) ?_ (fun hHeld => ?_)
 ·exact ⟨HP.out, HD.out, HO.out.drew, (zT W).drew⟩
 refine tH 0 25 ?_ ?_ ?_;rotate_left
 ·intro w hSw
  go_simp
  try with_reducible rfl
 try simp only [zP]
 refine tH 1 26 ?_ ?_ ?_;rotate_left
 ·intro w hSw
  go_simp
  try with_reducible rfl
 try simp only [zP]
 refine tH 2 27 ?_ ?_ ?_;rotate_left
 ·intro w hSw
  go_simp
  try with_reducible rfl
 try simp only [zP]
 refine tH 3 28 ?_ ?_ ?_;rotate_left
 ·intro w hSw
  have q0_0 := hSw.1.cell 0
  have q0_1 := hSw.1.cell 1
  have q0_2 := hSw.1.cell 2
  have q1_0 := hSw.2.1.cell 0
  have q1_1 := hSw.2.1.cell 1
  have q1_2 := hSw.2.1.cell 2
  simp only [zG] at q0_0 q0_1 q0_2 q1_0 q1_1 q1_2
  obtain ⟨k0, k1, k2, k3⟩ := own_tk hSw.2.2.1 HGX.out
  simp only [pt, Option.map] at k2
  go_simp
  try with_reducible rfl
 try simp only [zP]
 refine tH 4 29 ?_ ?_ ?_;rotate_left
 ·intro w hSw
  go_simp
  try with_reducible rfl
 try simp only [zP]
 refine tH 5 30 ?_ ?_ ?_;rotate_left
 ·intro w hSw
  have q0_0 := hSw.1.cell 0
  have q0_1 := hSw.1.cell 1
  have q0_2 := hSw.1.cell 2
  have q1_0 := hSw.2.1.cell 0
  have q1_1 := hSw.2.1.cell 1
  have q1_2 := hSw.2.1.cell 2
  simp only [zG] at q0_0 q0_1 q0_2 q1_0 q1_1 q1_2
  obtain ⟨k0, k1, k2, k3⟩ := own_tk hSw.2.2.1 HGX.out
  simp only [pt, Option.map] at k2
  go_simp
  try with_reducible rfl
 try simp only [zP]
 refine tH 6 31 ?_ ?_ ?_;rotate_left
 ·intro w hSw
  go_simp
  try with_reducible rfl
 try simp only [zP]
 refine tH 7 32 ?_ ?_ ?_;rotate_left
 ·intro w hSw
  have q0_0 := hSw.1.cell 0
  have q0_1 := hSw.1.cell 1
  have q0_2 := hSw.1.cell 2
  have q1_0 := hSw.2.1.cell 0
  have q1_1 := hSw.2.1.cell 1
  have q1_2 := hSw.2.1.cell 2
  simp only [zG] at q0_0 q0_1 q0_2 q1_0 q1_1 q1_2
  obtain ⟨k0, k1, k2, k3⟩ := own_tk hSw.2.2.1 HGX.out
  simp only [pt, Option.map] at k2
  go_simp
  try with_reducible rfl
 try simp only [zP]
 refine zR 8 fun K hK => ?_
 go_simp
 refine hK.out _ _ ?_ (fun hHeld => ?_)
 ·exact ⟨HP.out.drew.alloc _, HD.out.drew.alloc _, HO.out.drew.made ((zT _).alloc _), (zT W).drew.alloc _⟩
 clear hK K
 try simp only [zP]
 refine zR 9 fun K hK => ?_
 go_simp
 refine hK.out _ _ ?_ (fun hHeld => ?_)
 ·exact ⟨HP.out.drew.alloc _, HD.out.drew.alloc _, HO.out.drew.made ((zT _).alloc _), (zT W).drew.alloc _⟩
 clear hK K
 try simp only [zP]
 refine wpAnyH_done (by kernel_rfl) ?_ _
 clear hHeld
 have HD2 : Hid (Blk (W.alloc (.cells #[.int .i64 kd, .int .i64 dt, .pointer (some ⟨cp, 0, none⟩), .int .i64 gx] 156)).drew w1.heap.size 152 #[.int .i64 i, .int .i64 wh, .int .i64 now]) := zh (HD.out.alloc _)
 have HO2 : Hid (Blk (W.alloc (.cells #[.int .i64 kd, .int .i64 dt, .pointer (some ⟨cp, 0, none⟩), .int .i64 gx] 156)).drew W.heap.size 156 #[.int .i64 kd, .int .i64 dt, .pointer (some ⟨cp, 0, none⟩), .int .i64 gx]) := zh (Blk.new W _ _)
 have HMV : Hid (Made w1 (W.alloc (.cells #[.int .i64 kd, .int .i64 dt, .pointer (some ⟨cp, 0, none⟩), .int .i64 gx] 156)).drew) := zh ((HMD.out.alloc _).drew)
 clear ib1 ib2
 generalize (W.alloc (.cells #[.int .i64 kd, .int .i64 dt, .pointer (some ⟨cp, 0, none⟩), .int .i64 gx] 156)).drew = V at *
 have d0 := HD2.out.cell 0
 have d1 := HD2.out.cell 1
 have d2 := HD2.out.cell 2
 have o0 := HO2.out.cell 0
 have o1 := HO2.out.cell 1
 have o2 := HO2.out.cell 2
 have hvw : W.heap.size < V.heap.size := HO2.out.lt
 simp only [zG] at d0 d1 d2 o0 o1 o2
 have HS1V := zh (HMV.out.alloc (.cells #[.int .i64 i, .int .i64 kd, .int .i64 wh, .int .i64 now, .int .i64 dt, .slice none 0 0, .bool false] 114))
 have HF9 := zh (Blk.new V 114 #[.int .i64 i, .int .i64 kd, .int .i64 wh, .int .i64 now, .int .i64 dt, .slice none 0 0, .bool false])
 have HB4 := zh (HB1.out.turns HS1V.out (fun h => h))
 have HA4 := zh (HA1.out.made HS1V.out)
 have HCV := zh (((HCH.out.1.made HM.out).turns (HST1.out.t) (fun k hk hf => HCH.out.2 k hk hf)).made HS1V.out)
 have HCFB := zh HCH.out.1.fb
 have hvs : w.heap.size < V.heap.size := by have h1 := HB1.out.lt; have h2 := HMV.out.size; omega
 go_wp2_with fail
 refine (chput_0 now HCV.out).mono ?_
 rintro e w5 ⟨rfl, hc5, ht5⟩
 have HF92 := zh (HF9.out.turns ht5 (fun hk => by have := HCFB.out _ hk; omega))
 have HB42 := zh (HB4.out.turns ht5 (fun hk => by have := HCFB.out _ hk; omega))
 have HC5 := zh (And.intro hc5 ht5)
 clear hc5 ht5
 have u5 := HF92.out.cell 5
 have u6 := HF92.out.cell 6
 have fu5 := HF92.out.free 5
 have fu6 := HF92.out.free 6
 simp only [zG] at u5 u6
 go_upto_region 9 with fail
 have hf93 := (HF92.out.put 5 (.slice none 0 0)).put 6 (.bool true)
 simp only [List.setIfInBounds_toArray, List.set_cons_zero, List.set_cons_succ] at hf93
 have hne94 : ¬ w.heap.size = V.heap.size := by omega
 have hb93 := (HB42.out.far (p := ⟨V.heap.size, 5, none⟩) hne94 (.slice none 0 0)).far (p := ⟨V.heap.size, 6, none⟩) hne94 (.bool true)
 have ht93 := (set1 w5 V.heap.size 5 (.slice none 0 0)).trans (set1 _ V.heap.size 6 (.bool true))
 have HT93 := zh ht93
 have HF93 := zh hf93
 have HB93 := zh hb93
 clear hne94 ht93 u5 u6 fu5 fu6 hf93 hb93
 generalize (w5.setCell ⟨V.heap.size, 5, none⟩ (.slice none 0 0)).setCell ⟨V.heap.size, 6, none⟩ (.bool true) = U at *
 have u0 := HF93.out.cell 0
 have u1 := HF93.out.cell 1
 have u2 := HF93.out.cell 2
 have u3 := HF93.out.cell 3
 have u4 := HF93.out.cell 4
 have u5 := HF93.out.cell 5
 have u6 := HF93.out.cell 6
 have b0 := HB93.out.cell 0
 have fb0 := HB93.out.free 0
 have b1 := HB93.out.cell 1
 have fb1 := HB93.out.free 1
 have b2 := HB93.out.cell 2
 have fb2 := HB93.out.free 2
 have b3 := HB93.out.cell 3
 have fb3 := HB93.out.free 3
 have b4 := HB93.out.cell 4
 have fb4 := HB93.out.free 4
 have b5 := HB93.out.cell 5
 have fb5 := HB93.out.free 5
 have b6 := HB93.out.cell 6
 have fb6 := HB93.out.free 6
 simp only [zG] at u0 u1 u2 u3 u4 u5 u6 b0 b1 b2 b3 b4 b5 b6
 have hbf := ((((((HB93.out.put 0 (.int .i64 i)).put 1 (.int .i64 kd)).put 2 (.int .i64 wh)).put 3 (.int .i64 now)).put 4 (.int .i64 dt)).put 5 (.slice none 0 0)).put 6 (.bool true)
 simp only [List.setIfInBounds_toArray, List.set_cons_zero, List.set_cons_succ] at hbf
 have HBF := zh hbf
 clear hbf
 go_wp2_with fail
 refine bodyPost_ret (res_row rfl HBF.out rfl rfl Tryz.underlying114 rfl Tryz.sizeFired) rfl ?_
 have ht7 := ((((((set1 U w.heap.size 0 (.int .i64 i)).trans (set1 _ _ 1 (.int .i64 kd))).trans (set1 _ _ 2 (.int .i64 wh))).trans (set1 _ _ 3 (.int .i64 now))).trans (set1 _ _ 4 (.int .i64 dt))).trans (set1 _ _ 5 (.slice none 0 0))).trans (set1 _ _ 6 (.bool true))
 obtain ⟨hc5, ht5⟩ := HC5.out
 have hd1 : ∀ k, Fc k → ¬ F1 k := fun k hk h => by
  rcases HS1.out.f k h with h4 | h4
  ·exact HCH.out.2 k hk h4
  ·have := HCFB.out k hk; omega
 have hgo : Turns (fun k => k = V.heap.size ∨ k = w.heap.size) w5 _ := ((HT93.out.mono (S' := fun k => k = V.heap.size ∨ k = w.heap.size) (fun k _ h => .inl h)).trans (ht7.mono (S' := fun k => k = V.heap.size ∨ k = w.heap.size) (fun k _ h => .inr h)))
 have hf1 : ∀ k, F1 k → ¬ (k = V.heap.size ∨ k = w.heap.size) := fun k hk e => by
  rcases e with e | e
  ·have := HA1.out.fb k hk; have := HMV.out.size; omega
  ·exact HNF1.out (by rw [← e]; exact hk)
 have hs1 := HS1.out.t.size
 refine ⟨rfl, F1, (HA4.out.turns ht5 (fun k hk hc => hd1 k hc hk)).turns hgo hf1, hc5.turns hgo (fun k hk e => by have := HCFB.out k hk; omega), ?_, fun k hk => HS1.out.f k hk, hd1⟩
 have hx1 : Turns (fun k => F k ∨ Fc k) w w5 := ((HS1.out.t.mono (S' := fun k => F k ∨ Fc k) (fun k _ h => .inl h)).trans (HS1V.out.mono (fun _ _ h => h.elim))).trans (ht5.mono (fun k _ h => .inr h))
 exact hx1.then hgo (fun k hk e => by have := HMV.out.size; omega)
theorem tsfire_w {w : World} {p : Nat} {F : Nat → Prop} {ts : List Tk} {named : Int} {L : List It} {sq : Int} {i : Nat} {wh se now kd dt : Int} {ll : List It} {cp : Nat} {Fc : Nat → Prop} {s cl : Bool} {v0 : Option Int} {x : Wt} {lw : List Wt} (h : TsAt w p F ts named (⟨i, wh, se⟩ :: ll) sq) (hxx : ts[i]? = some ⟨kd, dt, some cp⟩) (hc : ChAt w cp Fc ⟨true, s, cl, true, v0, x :: lw⟩) (hdis : ∀ k, Fc k → ¬ F k) (hll : lw.length ≤ 1000) (hnl : ts.length ≤ 1000) (hsq : sq < 1000000) (hn : 0 ≤ now) (hx : wh ≤ now) :
  Calls Tryz.prog 43 #[.pointer (some ⟨p, 0, none⟩), .int .i64 now] w fun e w' => ∃ a F' Fc', e = .returned (.tuple #[.agg #[.int .i64 i, .int .i64 kd, .int .i64 wh, .int .i64 now, .int .i64 dt, .slice a 1 1, .bool true], .bool true]) ∧ WkRow w w' (fun k => F' k ∨ Fc' k) a [⟨x.task, x.kase, now, true, false⟩] ∧ TsAt w' p F' ts named ll sq ∧ ChAt w' cp Fc' ⟨true, s, cl, true, v0, lw⟩ ∧ Turns (fun k => F k ∨ Fc k) w w' ∧ (∀ k, F' k → F k ∨ w.heap.size ≤ k) ∧ (∀ k, Fc' k → Fc k ∨ w.heap.size ≤ k) ∧ ∀ k, Fc' k → ¬ F' k := by
 have HM := zh ((zT w).alloc (.cells #[.int .i64 0, .int .i64 0, .int .i64 0, .int .i64 0, .int .i64 0, .slice none 0 0, .bool false] 114))
 have HB := zh (Blk.new w 114 #[.int .i64 0, .int .i64 0, .int .i64 0, .int .i64 0, .int .i64 0, .slice none 0 0, .bool false])
 obtain ⟨q, hq1, hst⟩ := tstake_t (L := []) (h.made HM.out) hsq hn hx
 have HST := zh hst
 have HXX := zh hxx
 have HFB0 := zh h.fb
 have HCH := zh (And.intro hc hdis)
 clear h hst hn hx hxx
 go_enter Tryz.func43, Tryz.ntmps43
 go_wp2_with fail
 refine HST.out.mono ?_
 rintro e w1 ⟨rfl, F1, ha1, hs1⟩
 have HA1 := zh ha1
 have HS1 := zh ((Stp.made (F := F) HM.out).trans hs1)
 have HST1 := zh hs1
 have hnf : ¬ F w.heap.size := fun hk => by have := HFB0.out _ hk; omega
 have HB1 := zh (HB.out.turns hs1.t hnf)
 have hnf1 : ¬ F1 w.heap.size := fun hk => by
  rcases hs1.f _ hk with h4 | h4
  ·exact hnf h4
  ·simp only [World.size_alloc] at h4; omega
 have HNF1 := zh hnf1
 clear ha1 hs1 hq1 hnf hnf1
 go_upto_region 6 with fail
 have hmd := (zT w1).alloc (.cells #[.int .i64 i, .int .i64 wh, .int .i64 now] 152)
 have HD := zh (Blk.new w1 152 #[.int .i64 i, .int .i64 wh, .int .i64 now])
 obtain ⟨q2, lb, v, gs, pf, h, hg, hz, hl⟩ := HA1.out.made hmd
 have hlen : gs.length = ts.length := by rw [← hg, List.length_map]
 obtain ⟨gx, hgx⟩ : ∃ gx, gs[i]? = some (⟨kd, dt, some cp⟩, gx) := by
  have h9 := HXX.out
  rw [← hg, List.getElem?_map, Option.map_eq_some_iff] at h9
  obtain ⟨z, h8, h7⟩ := h9
  exact ⟨z.2, by rw [h8, ← h7]⟩
 have hi : i < gs.length := (List.getElem?_eq_some_iff.1 hgx).1
 rcases h.own.form with ⟨_, h0⟩ | ⟨g, c, rfl, hgb, hlc, hcm⟩
 ·subst h0
  simp at hi
 have HP := zh h.blk
 have HO := zh h.own
 have HGX := zh hgx
 have HMD := zh hmd
 have HSZ := zh hgb
 have HLEN := zh hlen
 have hgl : gs.length ≤ 1000 := by omega
 clear h hg hz hl hgx hmd hlen
 have hsz1 : w1.heap.size < (w1.alloc (.cells #[.int .i64 i, .int .i64 wh, .int .i64 now] 152)).heap.size := by simp
 have HSZ1 := zh hsz1
 clear hsz1
 generalize w1.alloc (.cells #[.int .i64 i, .int .i64 wh, .int .i64 now] 152) = W at *
 have ib1 : (0 : Int) ≤ (i : Int) := by omega
 have ib2 : (i : Int) < (gs.length : Int) := by omega
 refine wp_region_held_drew (S := fun w' => Blk w' (p) 92 #[.slice (some ⟨g, 0, none⟩) gs.length c, .pointer (some ⟨q2, 0, none⟩), .int .i64 named] ∧ Blk w' (w1.heap.size) 152 #[.int .i64 i, .int .i64 wh, .int .i64 now] ∧ Owns tkC 156 4 w' (.slice (some ⟨g, 0, none⟩) gs.length c) gs ∧ Made W w') (by kernel_rfl) ?_ (fun hHeld => ?_)
 ·exact ⟨HP.out, HD.out, HO.out.drew, (zT W).drew⟩
 refine tH 0 25 ?_ ?_ ?_;rotate_left
 ·intro w hSw
  go_simp
  try with_reducible rfl
 try simp only [zP]
 refine tH 1 26 ?_ ?_ ?_;rotate_left
 ·intro w hSw
  go_simp
  try with_reducible rfl
 try simp only [zP]
 refine tH 2 27 ?_ ?_ ?_;rotate_left
 ·intro w hSw
  go_simp
  try with_reducible rfl
 try simp only [zP]
 refine tH 3 28 ?_ ?_ ?_;rotate_left
 ·intro w hSw
  have q0_0 := hSw.1.cell 0
  have q0_1 := hSw.1.cell 1
  have q0_2 := hSw.1.cell 2
  have q1_0 := hSw.2.1.cell 0
  have q1_1 := hSw.2.1.cell 1
  have q1_2 := hSw.2.1.cell 2
  simp only [zG] at q0_0 q0_1 q0_2 q1_0 q1_1 q1_2
  obtain ⟨k0, k1, k2, k3⟩ := own_tk hSw.2.2.1 HGX.out
  simp only [pt, Option.map] at k2
  go_simp
  try with_reducible rfl
 try simp only [zP]
 refine tH 4 29 ?_ ?_ ?_;rotate_left
 ·intro w hSw
  go_simp
  try with_reducible rfl
 try simp only [zP]
 refine tH 5 30 ?_ ?_ ?_;rotate_left
 ·intro w hSw
  have q0_0 := hSw.1.cell 0
  have q0_1 := hSw.1.cell 1
  have q0_2 := hSw.1.cell 2
  have q1_0 := hSw.2.1.cell 0
  have q1_1 := hSw.2.1.cell 1
  have q1_2 := hSw.2.1.cell 2
  simp only [zG] at q0_0 q0_1 q0_2 q1_0 q1_1 q1_2
  obtain ⟨k0, k1, k2, k3⟩ := own_tk hSw.2.2.1 HGX.out
  simp only [pt, Option.map] at k2
  go_simp
  try with_reducible rfl
 try simp only [zP]
 refine tH 6 31 ?_ ?_ ?_;rotate_left
 ·intro w hSw
  go_simp
  try with_reducible rfl
 try simp only [zP]
 refine tH 7 32 ?_ ?_ ?_;rotate_left
 ·intro w hSw
  have q0_0 := hSw.1.cell 0
  have q0_1 := hSw.1.cell 1
  have q0_2 := hSw.1.cell 2
  have q1_0 := hSw.2.1.cell 0
  have q1_1 := hSw.2.1.cell 1
  have q1_2 := hSw.2.1.cell 2
  simp only [zG] at q0_0 q0_1 q0_2 q1_0 q1_1 q1_2
  obtain ⟨k0, k1, k2, k3⟩ := own_tk hSw.2.2.1 HGX.out
  simp only [pt, Option.map] at k2
  go_simp
  try with_reducible rfl
 try simp only [zP]
 refine zR 8 fun K hK => ?_
 go_simp
 refine hK.out _ _ ?_ (fun hHeld => ?_)
 ·exact ⟨HP.out.drew.alloc _, HD.out.drew.alloc _, HO.out.drew.made ((zT _).alloc _), (zT W).drew.alloc _⟩
 clear hK K
 try simp only [zP]
 refine zR 9 fun K hK => ?_
 go_simp
 refine hK.out _ _ ?_ (fun hHeld => ?_)
 ·exact ⟨HP.out.drew.alloc _, HD.out.drew.alloc _, HO.out.drew.made ((zT _).alloc _), (zT W).drew.alloc _⟩
 clear hK K
 try simp only [zP]
 refine wpAnyH_done (by kernel_rfl) ?_ _
 clear hHeld
 have HD2 : Hid (Blk (W.alloc (.cells #[.int .i64 kd, .int .i64 dt, .pointer (some ⟨cp, 0, none⟩), .int .i64 gx] 156)).drew w1.heap.size 152 #[.int .i64 i, .int .i64 wh, .int .i64 now]) := zh (HD.out.alloc _)
 have HO2 : Hid (Blk (W.alloc (.cells #[.int .i64 kd, .int .i64 dt, .pointer (some ⟨cp, 0, none⟩), .int .i64 gx] 156)).drew W.heap.size 156 #[.int .i64 kd, .int .i64 dt, .pointer (some ⟨cp, 0, none⟩), .int .i64 gx]) := zh (Blk.new W _ _)
 have HMV : Hid (Made w1 (W.alloc (.cells #[.int .i64 kd, .int .i64 dt, .pointer (some ⟨cp, 0, none⟩), .int .i64 gx] 156)).drew) := zh ((HMD.out.alloc _).drew)
 clear ib1 ib2
 generalize (W.alloc (.cells #[.int .i64 kd, .int .i64 dt, .pointer (some ⟨cp, 0, none⟩), .int .i64 gx] 156)).drew = V at *
 have d0 := HD2.out.cell 0
 have d1 := HD2.out.cell 1
 have d2 := HD2.out.cell 2
 have o0 := HO2.out.cell 0
 have o1 := HO2.out.cell 1
 have o2 := HO2.out.cell 2
 have hvw : W.heap.size < V.heap.size := HO2.out.lt
 simp only [zG] at d0 d1 d2 o0 o1 o2
 have HS1V := zh (HMV.out.alloc (.cells #[.int .i64 i, .int .i64 kd, .int .i64 wh, .int .i64 now, .int .i64 dt, .slice none 0 0, .bool false] 114))
 have HF9 := zh (Blk.new V 114 #[.int .i64 i, .int .i64 kd, .int .i64 wh, .int .i64 now, .int .i64 dt, .slice none 0 0, .bool false])
 have HB4 := zh (HB1.out.turns HS1V.out (fun h => h))
 have HA4 := zh (HA1.out.made HS1V.out)
 have HCV := zh (((HCH.out.1.made HM.out).turns (HST1.out.t) (fun k hk hf => HCH.out.2 k hk hf)).made HS1V.out)
 have HCFB := zh HCH.out.1.fb
 have hvs : w.heap.size < V.heap.size := by have h1 := HB1.out.lt; have h2 := HMV.out.size; omega
 go_wp2_with fail
 refine (chput_w now HCV.out hll).mono ?_
 rintro e w5 ⟨ra, Fc5, rfl, hrow, hc5, hs5⟩
 have HF92 := zh (HF9.out.turns hs5.t (fun hk => by have := HCFB.out _ hk; omega))
 have HB42 := zh (HB4.out.turns hs5.t (fun hk => by have := HCFB.out _ hk; omega))
 have HC5 := zh (And.intro hc5 (And.intro hs5 hrow))
 clear hc5 hs5 hrow
 have u5 := HF92.out.cell 5
 have u6 := HF92.out.cell 6
 have fu5 := HF92.out.free 5
 have fu6 := HF92.out.free 6
 simp only [zG] at u5 u6
 go_upto_region 9 with fail
 have hf93 := (HF92.out.put 5 (.slice ra 1 1)).put 6 (.bool true)
 simp only [List.setIfInBounds_toArray, List.set_cons_zero, List.set_cons_succ] at hf93
 have hne94 : ¬ w.heap.size = V.heap.size := by omega
 have hb93 := (HB42.out.far (p := ⟨V.heap.size, 5, none⟩) hne94 (.slice ra 1 1)).far (p := ⟨V.heap.size, 6, none⟩) hne94 (.bool true)
 have ht93 := (set1 w5 V.heap.size 5 (.slice ra 1 1)).trans (set1 _ V.heap.size 6 (.bool true))
 have HT93 := zh ht93
 have HF93 := zh hf93
 have HB93 := zh hb93
 clear hne94 ht93 u5 u6 fu5 fu6 hf93 hb93
 generalize (w5.setCell ⟨V.heap.size, 5, none⟩ (.slice ra 1 1)).setCell ⟨V.heap.size, 6, none⟩ (.bool true) = U at *
 have u0 := HF93.out.cell 0
 have u1 := HF93.out.cell 1
 have u2 := HF93.out.cell 2
 have u3 := HF93.out.cell 3
 have u4 := HF93.out.cell 4
 have u5 := HF93.out.cell 5
 have u6 := HF93.out.cell 6
 have b0 := HB93.out.cell 0
 have fb0 := HB93.out.free 0
 have b1 := HB93.out.cell 1
 have fb1 := HB93.out.free 1
 have b2 := HB93.out.cell 2
 have fb2 := HB93.out.free 2
 have b3 := HB93.out.cell 3
 have fb3 := HB93.out.free 3
 have b4 := HB93.out.cell 4
 have fb4 := HB93.out.free 4
 have b5 := HB93.out.cell 5
 have fb5 := HB93.out.free 5
 have b6 := HB93.out.cell 6
 have fb6 := HB93.out.free 6
 simp only [zG] at u0 u1 u2 u3 u4 u5 u6 b0 b1 b2 b3 b4 b5 b6
 have hbf := ((((((HB93.out.put 0 (.int .i64 i)).put 1 (.int .i64 kd)).put 2 (.int .i64 wh)).put 3 (.int .i64 now)).put 4 (.int .i64 dt)).put 5 (.slice ra 1 1)).put 6 (.bool true)
 simp only [List.setIfInBounds_toArray, List.set_cons_zero, List.set_cons_succ] at hbf
 have HBF := zh hbf
 clear hbf
 go_wp2_with fail
 refine bodyPost_ret (res_row rfl HBF.out rfl rfl Tryz.underlying114 rfl Tryz.sizeFired) rfl ?_
 have ht7 := ((((((set1 U w.heap.size 0 (.int .i64 i)).trans (set1 _ _ 1 (.int .i64 kd))).trans (set1 _ _ 2 (.int .i64 wh))).trans (set1 _ _ 3 (.int .i64 now))).trans (set1 _ _ 4 (.int .i64 dt))).trans (set1 _ _ 5 (.slice ra 1 1))).trans (set1 _ _ 6 (.bool true))
 obtain ⟨hc5, hs5, hrow⟩ := HC5.out
 have hd1 : ∀ k, Fc k → ¬ F1 k := fun k hk h => by
  rcases HS1.out.f k h with h4 | h4
  ·exact HCH.out.2 k hk h4
  ·have := HCFB.out k hk; omega
 have hd5 : ∀ k, Fc5 k → ¬ F1 k := fun k hk h => by
  rcases hs5.f k hk with h4 | h4
  ·exact hd1 k h4 h
  ·have := HA4.out.fb k h; omega
 have hgo : Turns (fun k => k = V.heap.size ∨ k = w.heap.size) w5 _ := ((HT93.out.mono (S' := fun k => k = V.heap.size ∨ k = w.heap.size) (fun k _ h => .inl h)).trans (ht7.mono (S' := fun k => k = V.heap.size ∨ k = w.heap.size) (fun k _ h => .inr h)))
 have hf1 : ∀ k, F1 k → ¬ (k = V.heap.size ∨ k = w.heap.size) := fun k hk e => by
  rcases e with e | e
  ·have := HA1.out.fb k hk; have := HMV.out.size; omega
  ·exact HNF1.out (by rw [← e]; exact hk)
 have hsv : (V.alloc (.cells #[.int .i64 i, .int .i64 kd, .int .i64 wh, .int .i64 now, .int .i64 dt, .slice none 0 0, .bool false] 114)).heap.size = V.heap.size + 1 := by simp
 have hf5 : ∀ k, Fc5 k → ¬ (k = V.heap.size ∨ k = w.heap.size) := fun k hk e => by
  rcases hs5.f k hk with h4 | h4
  ·have := HCFB.out k h4; omega
  ·omega
 have hs1 := HS1.out.t.size
 refine ⟨ra, F1, Fc5, rfl, ⟨hrow.1.turns hgo (fun b off e h => ?_), fun b off e => ⟨?_, fun h => ?_⟩⟩, (HA4.out.turns hs5.t (fun k hk hc => hd1 k hc hk)).turns hgo hf1, hc5.turns hgo hf5, ?_, fun k hk => HS1.out.f k hk, fun k hk => ?_, hd5⟩
 ·have := (hrow.2 b off e).1
  omega
 ·have := (hrow.2 b off e).1
  omega
 ·rcases h with h | h
  ·have h5 := HA4.out.fb b h
   have := (hrow.2 b off e).1
   omega
  ·exact (hrow.2 b off e).2 h
 ·have hx1 : Turns (fun k => F k ∨ Fc k) w w5 := ((HS1.out.t.mono (S' := fun k => F k ∨ Fc k) (fun k _ h => .inl h)).trans (HS1V.out.mono (fun _ _ h => h.elim))).trans (hs5.t.mono (fun k _ h => .inr h))
  exact hx1.then hgo (fun k hk e => by have := HMV.out.size; omega)
 ·rcases hs5.f k hk with h4 | h4
  ·exact .inl h4
  ·exact .inr (by omega)
theorem tsfire_n {w : World} {p : Nat} {F : Nat → Prop} {ts : List Tk} {named : Int} {L : List It} {sq : Int} {i : Nat} {wh se now kd dt : Int} {ll : List It} (h : TsAt w p F ts named (⟨i, wh, se⟩ :: ll) sq) (hxx : ts[i]? = some ⟨kd, dt, none⟩) (hnl : ts.length ≤ 1000) (hsq : sq < 1000000) (hn : 0 ≤ now) (hx : wh ≤ now) :
  Calls Tryz.prog 43 #[.pointer (some ⟨p, 0, none⟩), .int .i64 now] w fun e w' => e = .returned (.tuple #[.agg #[.int .i64 i, .int .i64 kd, .int .i64 wh, .int .i64 now, .int .i64 dt, .slice none 0 0, .bool false], .bool true]) ∧ ∃ F', TsAt w' p F' ts named ll sq ∧ Turns F w w' ∧ ∀ k, F' k → F k ∨ w.heap.size ≤ k := by
 have HM := zh ((zT w).alloc (.cells #[.int .i64 0, .int .i64 0, .int .i64 0, .int .i64 0, .int .i64 0, .slice none 0 0, .bool false] 114))
 have HB := zh (Blk.new w 114 #[.int .i64 0, .int .i64 0, .int .i64 0, .int .i64 0, .int .i64 0, .slice none 0 0, .bool false])
 obtain ⟨q, hq1, hst⟩ := tstake_t (L := []) (h.made HM.out) hsq hn hx
 have HST := zh hst
 have HXX := zh hxx
 have HFB0 := zh h.fb
 clear h hst hn hx hxx
 go_enter Tryz.func43, Tryz.ntmps43
 go_wp2_with fail
 refine HST.out.mono ?_
 rintro e w1 ⟨rfl, F1, ha1, hs1⟩
 have HA1 := zh ha1
 have HS1 := zh ((Stp.made (F := F) HM.out).trans hs1)
 have HST1 := zh hs1
 have hnf : ¬ F w.heap.size := fun hk => by have := HFB0.out _ hk; omega
 have HB1 := zh (HB.out.turns hs1.t hnf)
 have hnf1 : ¬ F1 w.heap.size := fun hk => by
  rcases hs1.f _ hk with h4 | h4
  ·exact hnf h4
  ·simp only [World.size_alloc] at h4; omega
 have HNF1 := zh hnf1
 clear ha1 hs1 hq1 hnf hnf1
 go_upto_region 6 with fail
 have hmd := (zT w1).alloc (.cells #[.int .i64 i, .int .i64 wh, .int .i64 now] 152)
 have HD := zh (Blk.new w1 152 #[.int .i64 i, .int .i64 wh, .int .i64 now])
 obtain ⟨q2, lb, v, gs, pf, h, hg, hz, hl⟩ := HA1.out.made hmd
 have hlen : gs.length = ts.length := by rw [← hg, List.length_map]
 obtain ⟨gx, hgx⟩ : ∃ gx, gs[i]? = some (⟨kd, dt, none⟩, gx) := by
  have h9 := HXX.out
  rw [← hg, List.getElem?_map, Option.map_eq_some_iff] at h9
  obtain ⟨z, h8, h7⟩ := h9
  exact ⟨z.2, by rw [h8, ← h7]⟩
 have hi : i < gs.length := (List.getElem?_eq_some_iff.1 hgx).1
 rcases h.own.form with ⟨_, h0⟩ | ⟨g, c, rfl, hgb, hlc, hcm⟩
 ·subst h0
  simp at hi
 have HP := zh h.blk
 have HO := zh h.own
 have HGX := zh hgx
 have HMD := zh hmd
 have HSZ := zh hgb
 have HLEN := zh hlen
 have hgl : gs.length ≤ 1000 := by omega
 clear h hg hz hl hgx hmd hlen
 have hsz1 : w1.heap.size < (w1.alloc (.cells #[.int .i64 i, .int .i64 wh, .int .i64 now] 152)).heap.size := by simp
 have HSZ1 := zh hsz1
 clear hsz1
 generalize w1.alloc (.cells #[.int .i64 i, .int .i64 wh, .int .i64 now] 152) = W at *
 have ib1 : (0 : Int) ≤ (i : Int) := by omega
 have ib2 : (i : Int) < (gs.length : Int) := by omega
 refine wp_region_held_drew (S := fun w' => Blk w' (p) 92 #[.slice (some ⟨g, 0, none⟩) gs.length c, .pointer (some ⟨q2, 0, none⟩), .int .i64 named] ∧ Blk w' (w1.heap.size) 152 #[.int .i64 i, .int .i64 wh, .int .i64 now] ∧ Owns tkC 156 4 w' (.slice (some ⟨g, 0, none⟩) gs.length c) gs ∧ Made W w') (by kernel_rfl) ?_ (fun hHeld => ?_)
 ·exact ⟨HP.out, HD.out, HO.out.drew, (zT W).drew⟩
 refine tH 0 25 ?_ ?_ ?_;rotate_left
 ·intro w hSw
  go_simp
  try with_reducible rfl
 try simp only [zP]
 refine tH 1 26 ?_ ?_ ?_;rotate_left
 ·intro w hSw
  go_simp
  try with_reducible rfl
 try simp only [zP]
 refine tH 2 27 ?_ ?_ ?_;rotate_left
 ·intro w hSw
  go_simp
  try with_reducible rfl
 try simp only [zP]
 refine tH 3 28 ?_ ?_ ?_;rotate_left
 ·intro w hSw
  have q0_0 := hSw.1.cell 0
  have q0_1 := hSw.1.cell 1
  have q0_2 := hSw.1.cell 2
  have q1_0 := hSw.2.1.cell 0
  have q1_1 := hSw.2.1.cell 1
  have q1_2 := hSw.2.1.cell 2
  simp only [zG] at q0_0 q0_1 q0_2 q1_0 q1_1 q1_2
  obtain ⟨k0, k1, k2, k3⟩ := own_tk hSw.2.2.1 HGX.out
  simp only [pt, Option.map] at k2
  go_simp
  try with_reducible rfl
 try simp only [zP]
 refine tH 4 29 ?_ ?_ ?_;rotate_left
 ·intro w hSw
  go_simp
  try with_reducible rfl
 try simp only [zP]
 refine tH 5 30 ?_ ?_ ?_;rotate_left
 ·intro w hSw
  have q0_0 := hSw.1.cell 0
  have q0_1 := hSw.1.cell 1
  have q0_2 := hSw.1.cell 2
  have q1_0 := hSw.2.1.cell 0
  have q1_1 := hSw.2.1.cell 1
  have q1_2 := hSw.2.1.cell 2
  simp only [zG] at q0_0 q0_1 q0_2 q1_0 q1_1 q1_2
  obtain ⟨k0, k1, k2, k3⟩ := own_tk hSw.2.2.1 HGX.out
  simp only [pt, Option.map] at k2
  go_simp
  try with_reducible rfl
 try simp only [zP]
 refine tH 6 31 ?_ ?_ ?_;rotate_left
 ·intro w hSw
  go_simp
  try with_reducible rfl
 try simp only [zP]
 refine tH 7 32 ?_ ?_ ?_;rotate_left
 ·intro w hSw
  have q0_0 := hSw.1.cell 0
  have q0_1 := hSw.1.cell 1
  have q0_2 := hSw.1.cell 2
  have q1_0 := hSw.2.1.cell 0
  have q1_1 := hSw.2.1.cell 1
  have q1_2 := hSw.2.1.cell 2
  simp only [zG] at q0_0 q0_1 q0_2 q1_0 q1_1 q1_2
  obtain ⟨k0, k1, k2, k3⟩ := own_tk hSw.2.2.1 HGX.out
  simp only [pt, Option.map] at k2
  go_simp
  try with_reducible rfl
 try simp only [zP]
 refine zR 8 fun K hK => ?_
 go_simp
 refine hK.out _ _ ?_ (fun hHeld => ?_)
 ·exact ⟨HP.out.drew.alloc _, HD.out.drew.alloc _, HO.out.drew.made ((zT _).alloc _), (zT W).drew.alloc _⟩
 clear hK K
 try simp only [zP]
 refine zR 9 fun K hK => ?_
 go_simp
 refine hK.out _ _ ?_ (fun hHeld => ?_)
 ·exact ⟨HP.out.drew.alloc _, HD.out.drew.alloc _, HO.out.drew.made ((zT _).alloc _), (zT W).drew.alloc _⟩
 clear hK K
 try simp only [zP]
 refine wpAnyH_done (by kernel_rfl) ?_ _
 clear hHeld
 have HD2 : Hid (Blk (W.alloc (.cells #[.int .i64 kd, .int .i64 dt, .pointer none, .int .i64 gx] 156)).drew w1.heap.size 152 #[.int .i64 i, .int .i64 wh, .int .i64 now]) := zh (HD.out.alloc _)
 have HO2 : Hid (Blk (W.alloc (.cells #[.int .i64 kd, .int .i64 dt, .pointer none, .int .i64 gx] 156)).drew W.heap.size 156 #[.int .i64 kd, .int .i64 dt, .pointer none, .int .i64 gx]) := zh (Blk.new W _ _)
 have HMV : Hid (Made w1 (W.alloc (.cells #[.int .i64 kd, .int .i64 dt, .pointer none, .int .i64 gx] 156)).drew) := zh ((HMD.out.alloc _).drew)
 clear ib1 ib2
 generalize (W.alloc (.cells #[.int .i64 kd, .int .i64 dt, .pointer none, .int .i64 gx] 156)).drew = V at *
 have d0 := HD2.out.cell 0
 have d1 := HD2.out.cell 1
 have d2 := HD2.out.cell 2
 have o0 := HO2.out.cell 0
 have o1 := HO2.out.cell 1
 have o2 := HO2.out.cell 2
 have hvw : W.heap.size < V.heap.size := HO2.out.lt
 simp only [zG] at d0 d1 d2 o0 o1 o2
 have HS1V := zh (HMV.out.alloc (.cells #[.int .i64 i, .int .i64 kd, .int .i64 wh, .int .i64 now, .int .i64 dt, .slice none 0 0, .bool false] 114))
 have HF9 := zh (Blk.new V 114 #[.int .i64 i, .int .i64 kd, .int .i64 wh, .int .i64 now, .int .i64 dt, .slice none 0 0, .bool false])
 have HB4 := zh (HB1.out.turns HS1V.out (fun h => h))
 have HA4 := zh (HA1.out.made HS1V.out)
 have hvs : w.heap.size < V.heap.size := by have h1 := HB1.out.lt; have h2 := HMV.out.size; omega
 go_wp2_with fail
 refine (chput_nil now _).mono ?_
 rintro e w5 ⟨rfl, rfl⟩
 have HF92 := HF9
 have HB42 := HB4
 go_upto_region 9 with fail
 have HF93 := HF9
 have HB93 := HB4
 have HT93 := zh (Turns.refl (fun k => k = V.heap.size) (V.alloc (.cells #[.int .i64 i, .int .i64 kd, .int .i64 wh, .int .i64 now, .int .i64 dt, .slice none 0 0, .bool false] 114)))
 generalize V.alloc (.cells #[.int .i64 i, .int .i64 kd, .int .i64 wh, .int .i64 now, .int .i64 dt, .slice none 0 0, .bool false] 114) = U at *
 have u0 := HF93.out.cell 0
 have u1 := HF93.out.cell 1
 have u2 := HF93.out.cell 2
 have u3 := HF93.out.cell 3
 have u4 := HF93.out.cell 4
 have u5 := HF93.out.cell 5
 have u6 := HF93.out.cell 6
 have b0 := HB93.out.cell 0
 have fb0 := HB93.out.free 0
 have b1 := HB93.out.cell 1
 have fb1 := HB93.out.free 1
 have b2 := HB93.out.cell 2
 have fb2 := HB93.out.free 2
 have b3 := HB93.out.cell 3
 have fb3 := HB93.out.free 3
 have b4 := HB93.out.cell 4
 have fb4 := HB93.out.free 4
 have b5 := HB93.out.cell 5
 have fb5 := HB93.out.free 5
 have b6 := HB93.out.cell 6
 have fb6 := HB93.out.free 6
 simp only [zG] at u0 u1 u2 u3 u4 u5 u6 b0 b1 b2 b3 b4 b5 b6
 have hbf := ((((((HB93.out.put 0 (.int .i64 i)).put 1 (.int .i64 kd)).put 2 (.int .i64 wh)).put 3 (.int .i64 now)).put 4 (.int .i64 dt)).put 5 (.slice none 0 0)).put 6 (.bool false)
 simp only [List.setIfInBounds_toArray, List.set_cons_zero, List.set_cons_succ] at hbf
 have HBF := zh hbf
 clear hbf
 go_wp2_with fail
 refine bodyPost_ret (res_row rfl HBF.out rfl rfl Tryz.underlying114 rfl Tryz.sizeFired) rfl ?_
 have ht7 := ((((((set1 U w.heap.size 0 (.int .i64 i)).trans (set1 _ _ 1 (.int .i64 kd))).trans (set1 _ _ 2 (.int .i64 wh))).trans (set1 _ _ 3 (.int .i64 now))).trans (set1 _ _ 4 (.int .i64 dt))).trans (set1 _ _ 5 (.slice none 0 0))).trans (set1 _ _ 6 (.bool false))
 have hgo : Turns (fun k => k = V.heap.size ∨ k = w.heap.size) _ _ := ((HT93.out.mono (S' := fun k => k = V.heap.size ∨ k = w.heap.size) (fun k _ h => .inl h)).trans (ht7.mono (S' := fun k => k = V.heap.size ∨ k = w.heap.size) (fun k _ h => .inr h)))
 have hf1 : ∀ k, F1 k → ¬ (k = V.heap.size ∨ k = w.heap.size) := fun k hk e => by
  rcases e with e | e
  ·have := HA1.out.fb k hk; have := HMV.out.size; omega
  ·exact HNF1.out (by rw [← e]; exact hk)
 have hs1 := HS1.out.t.size
 refine ⟨rfl, F1, HA4.out.turns hgo hf1, ?_, fun k hk => HS1.out.f k hk⟩
 exact (HS1.out.t.trans (HS1V.out.mono (fun _ _ h => h.elim))).then hgo (fun k hk e => by have := HMV.out.size; omega)
end Go.Proofs.YtjnkphhlkoapbaaGreat
