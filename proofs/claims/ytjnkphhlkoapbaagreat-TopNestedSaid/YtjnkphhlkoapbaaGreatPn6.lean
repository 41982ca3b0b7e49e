/-
  Walks and laws under LawTopNested, part 6.
-/
import Derived.Deep.LoopGhost
import Derived.Deep.DeepCutAuto
import Derived.LaidEqlPtr
import Derived.Test.YtjnkphhlkoapbaaGreatPn5
set_option linter.unusedVariables false
set_option linter.unusedSimpArgs false
set_option maxRecDepth 100000
set_option maxHeartbeats 16000000
namespace Go.Proofs.YtjnkphhlkoapbaaGreat
open Go.RowKit
theorem FSt.low {CX : World → (Nat → Prop) → Prop} {w : World} {b : Wp} {o : Nat → Nat} {ps : List (List Ins)} {s2 : Wst} {n lo : Nat} {fc : List Value} {ok : Bool} (h : FSt CX b ps s2 n lo w o fc ok) : FSt CX b ps s2 n 0 w o fc ok := by
 rcases h with h | ⟨h1, m, sm, i, wh, dt, ci, cp, c, c', l, ll, a, e1, e2, e3, e4, e5, e6, e7, e8, e9, e10, e11, e12⟩
 ·exact .inl h
 ·exact .inr ⟨h1, m, sm, i, wh, dt, ci, cp, c, c', l, ll, a, e1, e2, e3, e4, e5, e6, e7, e8, e9, e10, e11, fun b' off e => ⟨(e12 b' off e).1, (e12 b' off e).2.1, Nat.zero_le _⟩⟩
theorem FSt.ww {CX : World → (Nat → Prop) → Prop} {w : World} {b : Wp} {o : Nat → Nat} {ps : List (List Ins)} {s2 : Wst} {n lo : Nat} {fc : List Value} {ok : Bool} (h : FSt CX b ps s2 n lo w o fc ok) : ∃ s, WW CX w b o ps s := by
 rcases h with ⟨_, _, h⟩ | ⟨h1, m, sm, i, wh, dt, ci, cp, c, c', l, ll, a, e1, e2, e3, e4, e5, e6, e7, e8, e9, e10, e11, e12⟩
 ·exact ⟨_, h⟩
 ·exact ⟨_, e10⟩
theorem WW.cell5 {CX : World → (Nat → Prop) → Prop} {w : World} {b : Wp} {o : Nat → Nat} {ps : List (List Ins)} {s : Wst} (h : WW CX w b o ps s) : w.cell? ⟨b.pb, 5, none⟩ = some (.pointer (some ⟨b.pm, 0, none⟩)) := by
 obtain ⟨_, _, _, _, h⟩ := h
 exact h.blk.cell 5
theorem WW.lt {CX : World → (Nat → Prop) → Prop} {w : World} {b : Wp} {o : Nat → Nat} {ps : List (List Ins)} {s : Wst} (h : WW CX w b o ps s) : ∀ k, Own o k → k < w.heap.size := by
 obtain ⟨_, _, _, _, h⟩ := h
 exact h.lt
theorem FSt.cell5 {CX : World → (Nat → Prop) → Prop} {w : World} {b : Wp} {o : Nat → Nat} {ps : List (List Ins)} {s2 : Wst} {n lo : Nat} {fc : List Value} {ok : Bool} (h : FSt CX b ps s2 n lo w o fc ok) : w.cell? ⟨b.pb, 5, none⟩ = some (.pointer (some ⟨b.pm, 0, none⟩)) := by
 obtain ⟨s, h⟩ := h.ww
 exact h.cell5
theorem FSt.lt {CX : World → (Nat → Prop) → Prop} {w : World} {b : Wp} {o : Nat → Nat} {ps : List (List Ins)} {s2 : Wst} {n lo : Nat} {fc : List Value} {ok : Bool} (h : FSt CX b ps s2 n lo w o fc ok) : ∀ k, Own o k → k < w.heap.size := by
 obtain ⟨s, h⟩ := h.ww
 exact h.lt
structure Ac where
 id : Int
 i : Ins
 was : Reg
 regs : Reg
 draw : Int
 how : Int
 parks : Bool
def acA (p : Nat) (x : Ac) : Array Value := #[.pointer (some ⟨p, 0, none⟩), .int .i64 x.id, .int .i64 x.i.op, .int .i64 x.i.a, .int .i64 x.i.b, .int .i64 x.i.c, .slice none 0 0, .bool false, .int .i64 x.was.r0, .int .i64 x.was.r1, .int .i64 x.was.r2, .int .i64 x.was.r3, .int .i64 x.was.r4, .int .i64 x.was.r5, .int .i64 x.was.r6, .int .i64 x.was.r7, .int .i64 x.regs.r0, .int .i64 x.regs.r1, .int .i64 x.regs.r2, .int .i64 x.regs.r3, .int .i64 x.regs.r4, .int .i64 x.regs.r5, .int .i64 x.regs.r6, .int .i64 x.regs.r7, .int .i64 x.draw, .int .i64 x.how, .bool x.parks]
theorem ac_was (p : Nat) (x : Ac) {j : Nat} (hj : j < 8) : (acA p x)[8 + j]? = some (.int .i64 (x.was.get j)) := by
 rcases lt8 hj with rfl | rfl | rfl | rfl | rfl | rfl | rfl | rfl <;> rfl
theorem ac_set (p : Nat) (x : Ac) {j : Nat} (v : Int) (hj : j < 8) : (acA p x).setIfInBounds (16 + j) (.int .i64 v) = acA p { x with regs := x.regs.set j v } := by
 rcases lt8 hj with rfl | rfl | rfl | rfl | rfl | rfl | rfl | rfl <;> rfl
theorem aca_c {w : World} {g p a : Nat} {x : Ac} (hb : Blk w g 131 (acA p x)) (hx : x.i.a = a) (ha : a < 8) :
  Calls Tryz.prog 84 #[.pointer (some ⟨g, 0, none⟩)] w fun e w' => e = .returned (.int .i64 (x.was.get a)) ∧ Made w w' := by
 have HB := zh hb
 have HX := zh hx
 have jb1 : (0 : Int) ≤ (a : Int) := by omega
 have jb2 : (a : Int) < 8 := by omega
 clear hb hx
 go_enter Tryz.func84, Tryz.ntmps84
 go_wp2_with fail
 refine wp_region_held_drew (S := fun w' => Blk w' (g) 131 (acA p x) ∧ Made w w') (by kernel_rfl) ?_ (fun hHeld => ?_)
 ·exact ⟨HB.out, (zT w).drew⟩
 refine tH 0 3 ?_ ?_ ?_;rotate_left
 ·intro w hSw
  go_simp
  try with_reducible rfl
 try simp only [zP]
 refine tH 1 4 ?_ ?_ ?_;rotate_left
 ·intro w hSw
  go_simp
  try with_reducible rfl
 try simp only [zP]
 refine tH 2 5 ?_ ?_ ?_;rotate_left
 ·intro w hSw
  go_simp
  try with_reducible rfl
 try simp only [zP]
 refine tH 3 6 ?_ ?_ ?_;rotate_left
 ·intro w hSw
  go_simp
  try with_reducible rfl
 try simp only [zP]
 refine tH 4 7 ?_ ?_ ?_;rotate_left
 ·intro w hSw
  go_simp
  try with_reducible rfl
 try simp only [zP]
 refine tH 5 8 ?_ ?_ ?_;rotate_left
 ·intro w hSw
  have q3 : w.cell? ⟨g, 3, none⟩ = some (.int .i64 (x.i.a)) := hSw.1.cell 3
  rw [HX.out] at q3
  go_simp
  try with_reducible rfl
 try simp only [zP]
 refine tH 6 9 ?_ ?_ ?_;rotate_left
 ·intro w hSw
  go_simp
  try with_reducible rfl
 try simp only [zP]
 refine tH 7 10 ?_ ?_ ?_;rotate_left
 ·intro w hSw
  go_simp
  try with_reducible rfl
 try simp only [zP]
 refine tH 8 11 ?_ ?_ ?_;rotate_left
 ·intro w hSw
  go_simp
  try with_reducible rfl
 try simp only [zP]
 refine tH 9 12 ?_ ?_ ?_;rotate_left
 ·intro w hSw
  have qq := hSw.1.cell (8 + a)
  rw [ac_was _ _ ha] at qq
  go_simp
  try with_reducible rfl
 try simp only [zP]
 refine tH 10 2 ?_ ?_ ?_;rotate_left
 ·intro w hSw
  go_simp
  try with_reducible rfl
 try simp only [zP]
 refine wpAnyH_done (by kernel_rfl) ?_ _
 have HE := zh hHeld.2
 clear hHeld
 go_wp2_with fail
 go_ret
 exact ⟨rfl, HE.out⟩
theorem acb_c {w : World} {g p a : Nat} {x : Ac} (hb : Blk w g 131 (acA p x)) (hx : x.i.b = a) (ha : a < 8) :
  Calls Tryz.prog 85 #[.pointer (some ⟨g, 0, none⟩)] w fun e w' => e = .returned (.int .i64 (x.was.get a)) ∧ Made w w' := by
 have HB := zh hb
 have HX := zh hx
 have jb1 : (0 : Int) ≤ (a : Int) := by omega
 have jb2 : (a : Int) < 8 := by omega
 clear hb hx
 go_enter Tryz.func85, Tryz.ntmps85
 go_wp2_with fail
 refine wp_region_held_drew (S := fun w' => Blk w' (g) 131 (acA p x) ∧ Made w w') (by kernel_rfl) ?_ (fun hHeld => ?_)
 ·exact ⟨HB.out, (zT w).drew⟩
 refine tH 0 3 ?_ ?_ ?_;rotate_left
 ·intro w hSw
  go_simp
  try with_reducible rfl
 try simp only [zP]
 refine tH 1 4 ?_ ?_ ?_;rotate_left
 ·intro w hSw
  go_simp
  try with_reducible rfl
 try simp only [zP]
 refine tH 2 5 ?_ ?_ ?_;rotate_left
 ·intro w hSw
  go_simp
  try with_reducible rfl
 try simp only [zP]
 refine tH 3 6 ?_ ?_ ?_;rotate_left
 ·intro w hSw
  go_simp
  try with_reducible rfl
 try simp only [zP]
 refine tH 4 7 ?_ ?_ ?_;rotate_left
 ·intro w hSw
  go_simp
  try with_reducible rfl
 try simp only [zP]
 refine tH 5 8 ?_ ?_ ?_;rotate_left
 ·intro w hSw
  have q3 : w.cell? ⟨g, 4, none⟩ = some (.int .i64 (x.i.b)) := hSw.1.cell 4
  rw [HX.out] at q3
  go_simp
  try with_reducible rfl
 try simp only [zP]
 refine tH 6 9 ?_ ?_ ?_;rotate_left
 ·intro w hSw
  go_simp
  try with_reducible rfl
 try simp only [zP]
 refine tH 7 10 ?_ ?_ ?_;rotate_left
 ·intro w hSw
  go_simp
  try with_reducible rfl
 try simp only [zP]
 refine tH 8 11 ?_ ?_ ?_;rotate_left
 ·intro w hSw
  go_simp
  try with_reducible rfl
 try simp only [zP]
 refine tH 9 12 ?_ ?_ ?_;rotate_left
 ·intro w hSw
  have qq := hSw.1.cell (8 + a)
  rw [ac_was _ _ ha] at qq
  go_simp
  try with_reducible rfl
 try simp only [zP]
 refine tH 10 2 ?_ ?_ ?_;rotate_left
 ·intro w hSw
  go_simp
  try with_reducible rfl
 try simp only [zP]
 refine wpAnyH_done (by kernel_rfl) ?_ _
 have HE := zh hHeld.2
 clear hHeld
 go_wp2_with fail
 go_ret
 exact ⟨rfl, HE.out⟩
theorem acc_c {w : World} {g p a : Nat} {x : Ac} (hb : Blk w g 131 (acA p x)) (hx : x.i.c = a) (ha : a < 8) :
  Calls Tryz.prog 137 #[.pointer (some ⟨g, 0, none⟩)] w fun e w' => e = .returned (.int .i64 (x.was.get a)) ∧ Made w w' := by
 have HB := zh hb
 have HX := zh hx
 have jb1 : (0 : Int) ≤ (a : Int) := by omega
 have jb2 : (a : Int) < 8 := by omega
 clear hb hx
 go_enter Tryz.func137, Tryz.ntmps137
 go_wp2_with fail
 refine wp_region_held_drew (S := fun w' => Blk w' (g) 131 (acA p x) ∧ Made w w') (by kernel_rfl) ?_ (fun hHeld => ?_)
 ·exact ⟨HB.out, (zT w).drew⟩
 refine tH 0 3 ?_ ?_ ?_;rotate_left
 ·intro w hSw
  go_simp
  try with_reducible rfl
 try simp only [zP]
 refine tH 1 4 ?_ ?_ ?_;rotate_left
 ·intro w hSw
  go_simp
  try with_reducible rfl
 try simp only [zP]
 refine tH 2 5 ?_ ?_ ?_;rotate_left
 ·intro w hSw
  go_simp
  try with_reducible rfl
 try simp only [zP]
 refine tH 3 6 ?_ ?_ ?_;rotate_left
 ·intro w hSw
  go_simp
  try with_reducible rfl
 try simp only [zP]
 refine tH 4 7 ?_ ?_ ?_;rotate_left
 ·intro w hSw
  go_simp
  try with_reducible rfl
 try simp only [zP]
 refine tH 5 8 ?_ ?_ ?_;rotate_left
 ·intro w hSw
  have q3 : w.cell? ⟨g, 5, none⟩ = some (.int .i64 (x.i.c)) := hSw.1.cell 5
  rw [HX.out] at q3
  go_simp
  try with_reducible rfl
 try simp only [zP]
 refine tH 6 9 ?_ ?_ ?_;rotate_left
 ·intro w hSw
  go_simp
  try with_reducible rfl
 try simp only [zP]
 refine tH 7 10 ?_ ?_ ?_;rotate_left
 ·intro w hSw
  go_simp
  try with_reducible rfl
 try simp only [zP]
 refine tH 8 11 ?_ ?_ ?_;rotate_left
 ·intro w hSw
  go_simp
  try with_reducible rfl
 try simp only [zP]
 refine tH 9 12 ?_ ?_ ?_;rotate_left
 ·intro w hSw
  have qq := hSw.1.cell (8 + a)
  rw [ac_was _ _ ha] at qq
  go_simp
  try with_reducible rfl
 try simp only [zP]
 refine tH 10 2 ?_ ?_ ?_;rotate_left
 ·intro w hSw
  go_simp
  try with_reducible rfl
 try simp only [zP]
 refine wpAnyH_done (by kernel_rfl) ?_ _
 have HE := zh hHeld.2
 clear hHeld
 go_wp2_with fail
 go_ret
 exact ⟨rfl, HE.out⟩
theorem acbad_0 {w : World} {g : Nat} : Calls Tryz.prog 86 #[.pointer (some ⟨g, 0, none⟩), .int .i64 0] w fun e w' => e = .returned (.bool false) ∧ w = w' := by
 go_enter Tryz.func86, Tryz.ntmps86
 go_wp2_with fail
 go_ret
 exact ⟨rfl, rfl⟩
theorem ac_wasrow {w : World} {g p : Nat} {x : Ac} (hb : Blk w g 131 (acA p x)) : ∀ j v, ([.int .i64 x.was.r0, .int .i64 x.was.r1, .int .i64 x.was.r2, .int .i64 x.was.r3, .int .i64 x.was.r4, .int .i64 x.was.r5, .int .i64 x.was.r6, .int .i64 x.was.r7] : List Value)[j]? = some v → w.cell? ⟨g, 8 + j, none⟩ = some v := fun j v hv => by
 have hj : j < 8 := (List.getElem?_eq_some_iff.1 hv).1
 refine (hb.cell (8 + j)).trans ?_
 rw [← hv]
 rcases lt8 hj with rfl | rfl | rfl | rfl | rfl | rfl | rfl | rfl <;> rfl
theorem ac_reg (p : Nat) (x : Ac) {j : Nat} (hj : j < 8) : (acA p x)[16 + j]? = some (.int .i64 (x.regs.get j)) := by
 rcases lt8 hj with rfl | rfl | rfl | rfl | rfl | rfl | rfl | rfl <;> rfl
def Low (w : World) (g p : Nat) (x : Ac) : Prop := ∀ j, j < 8 → w.cell? ⟨g, j, none⟩ = (acA p x)[j]?
theorem low_of {w : World} {g p : Nat} {x : Ac} (hb : Blk w g 131 (acA p x)) : Low w g p x := fun j _ => hb.cell j
theorem low_regs {w : World} {g p : Nat} {x : Ac} {r : Reg} (h : Low w g p { x with regs := r }) : Low w g p x := fun j hj => by
 refine (h j hj).trans ?_
 rcases lt8 hj with rfl | rfl | rfl | rfl | rfl | rfl | rfl | rfl <;> rfl
structure AStp (w w' : World) (o o' : Nat → Nat) (g : Nat) : Prop where
 t : Turns (fun k => Own o k ∨ k = g) w w'
 f : ∀ k, Own o' k → Own o k ∨ w.heap.size ≤ k
theorem AStp.of {w w' : World} {o o' : Nat → Nat} (g : Nat) (h : Stp w w' (Own o) (Own o')) : AStp w w' o o' g := ⟨h.t.mono (fun _ _ h => .inl h), h.f⟩
theorem AStp.set {w w' w'' : World} {o o' : Nat → Nat} {g : Nat} (h : AStp w w' o o' g) (k : Turns (fun k => k = g) w' w'') : AStp w w'' o o' g := ⟨h.t.then k (fun _ _ e => .inr e), h.f⟩
theorem AStp.then {w w' w'' : World} {o o' o'' : Nat → Nat} {g : Nat} (h : AStp w w' o o' g) (k : Stp w' w'' (Own o') (Own o'')) : AStp w w'' o o'' g :=
 ⟨h.t.then k.t (fun b hb hs => (h.f b hs).elim .inl (fun h => by omega)), fun b hb => (k.f b hb).elim (fun h2 => h.f b h2) (fun h2 => .inr (Nat.le_trans h.t.size h2))⟩
theorem AStp.made {w w' : World} {o : Nat → Nat} {g : Nat} (h : Made w w') : AStp w w' o o g := ⟨h.mono (fun _ _ h => h.elim), fun _ h => .inl h⟩
theorem AStp.no {w w' : World} {o o' : Nat → Nat} {g : Nat} (h : AStp w w' o o' g) (hg : ¬ Own o g) (hl : g < w.heap.size) : ¬ Own o' g := fun h0 => (h.f g h0).elim hg (fun h => absurd hl (Nat.not_lt.2 h))
theorem acspawn_c {CX : World → (Nat → Prop) → Prop} {w : World} {b : Wp} {o : Nat → Nat} {ps : List (List Ins)} {s : Wst} {g a : Nat} {x : Ac} {pg : Int} (hx : Ext CX) (h : WW CX w b o ps s) (hb : Blk w g 131 (acA b.pb x)) (hg : ¬ Own o g) (hxa : x.i.a = a) (hxb : x.i.b = pg) (ha : a < 8) (hl : s.ts.length < 64) (hpg : 0 ≤ pg) (hni : (s.ts.length : Int) ∉ s.rd) (hrl : s.rd.length ≤ 1000) (hev : s.ev.length < 1000) :
  Calls Tryz.prog 76 #[.pointer (some ⟨g, 0, none⟩)] w fun e w' => e = .returned (.tuple #[]) ∧ ∃ o', WW CX w' b o' ps (startS s pg x.was) ∧ AStp w w' o o' g ∧ Blk w' g 131 (acA b.pb { x with regs := x.regs.set a s.ts.length }) := by
 have HB := zh hb
 have HXX := zh hx
 have HLT := zh ha
 have HXA := zh hxa
 have HXB := zh hxb
 have HG := zh hg
 have HGL := zh hb.lt
 have jb1 : (0 : Int) ≤ (a : Int) := by omega
 have jb2 : (a : Int) < 8 := by omega
 have HST := zh (wstart_c (pg := pg) (r := x.was) hx (h.made hx (zT w).drew) hl hpg hni hrl hev)
 clear h hb hx hxa hxb hg hl hpg hni hrl hev
 go_enter Tryz.func76, Tryz.ntmps76
 go_wp2_with fail
 refine wp_region_held_drew (S := fun w' => Blk w' (g) 131 (acA b.pb x) ∧ Turns (Own o) w w') (by kernel_rfl) ?_ (fun hHeld => ?_)
 ·exact ⟨HB.out, (Turns.refl _ w).drew⟩
 refine tH 0 5 ?_ ?_ ?_;rotate_left
 ·intro w hSw
  go_simp
  try with_reducible rfl
 try simp only [zP]
 refine tH 1 6 ?_ ?_ ?_;rotate_left
 ·intro w hSw
  go_simp
  try with_reducible rfl
 try simp only [zP]
 refine tH 2 7 ?_ ?_ ?_;rotate_left
 ·intro w hSw
  go_simp
  try with_reducible rfl
 try simp only [zP]
 refine tH 3 8 ?_ ?_ ?_;rotate_left
 ·intro w hSw
  have q3 : w.cell? ⟨g, 0, none⟩ = some (.pointer (some ⟨b.pb, 0, none⟩)) := hSw.1.cell 0
  go_simp
  try with_reducible rfl
 try simp only [zP]
 refine tH 4 9 ?_ ?_ ?_;rotate_left
 ·intro w hSw
  go_simp
  try with_reducible rfl
 try simp only [zP]
 refine tH 5 10 ?_ ?_ ?_;rotate_left
 ·intro w hSw
  go_simp
  try with_reducible rfl
 try simp only [zP]
 refine tH 6 11 ?_ ?_ ?_;rotate_left
 ·intro w hSw
  go_simp
  try with_reducible rfl
 try simp only [zP]
 refine tH 7 12 ?_ ?_ ?_;rotate_left
 ·intro w hSw
  go_simp
  try with_reducible rfl
 try simp only [zP]
 refine tH 8 13 ?_ ?_ ?_;rotate_left
 ·intro w hSw
  have q3 : w.cell? ⟨g, 4, none⟩ = some (.int .i64 (x.i.b)) := hSw.1.cell 4
  rw [HXB.out] at q3
  go_simp
  try with_reducible rfl
 try simp only [zP]
 refine tH 9 14 ?_ ?_ ?_;rotate_left
 ·intro w hSw
  go_simp
  try with_reducible rfl
 try simp only [zP]
 refine tH 10 15 ?_ ?_ ?_;rotate_left
 ·intro w hSw
  go_simp
  try with_reducible rfl
 try simp only [zP]
 refine tH 11 16 ?_ ?_ ?_;rotate_left
 ·intro w hSw
  go_simp
  try with_reducible rfl
 try simp only [zP]
 refine tH 12 17 ?_ ?_ ?_;rotate_left
 ·intro w hSw
  refine exec_load_at (P := Tryz.prog) (x := .tmp 16) (n := 8) (cs := [.int .i64 x.was.r0, .int .i64 x.was.r1, .int .i64 x.was.r2, .int .i64 x.was.r3, .int .i64 x.was.r4, .int .i64 x.was.r5, .int .i64 x.was.r6, .int .i64 x.was.r7]) ?_ ?_ (ac_wasrow hSw.1) Tryz.underlying36 ?_ Tryz.sizeReg <;> rfl
 try simp only [zP]
 refine zR 13 fun K hK => ?_
 go_simp
 refine HST.out.mono ?_
 rintro e w2 ⟨rfl, o2, h2, hs2⟩
 refine hK.out _ _ ?_ (fun hHeld => ?_)
 ·exact ⟨hHeld.1.turns hs2.t HG.out, hHeld.2.trans hs2.t⟩
 clear hK K
 try simp only [zP]
 refine tH 14 4 ?_ ?_ ?_;rotate_left
 ·intro w hSw
  go_simp
  try with_reducible rfl
 try simp only [zP]
 refine tH 15 19 ?_ ?_ ?_;rotate_left
 ·intro w hSw
  go_simp
  try with_reducible rfl
 try simp only [zP]
 refine tH 16 20 ?_ ?_ ?_;rotate_left
 ·intro w hSw
  go_simp
  try with_reducible rfl
 try simp only [zP]
 refine tH 17 2 ?_ ?_ ?_;rotate_left
 ·intro w hSw
  go_simp
  try with_reducible rfl
 try simp only [zP]
 refine tH 18 3 ?_ ?_ ?_;rotate_left
 ·intro w hSw
  go_simp
  try with_reducible rfl
 try simp only [zP]
 refine wpAnyH_done (by kernel_rfl) ?_ _
 have HB2 := zh hHeld.1
 have HH2 := zh (And.intro h2 ((Stp.made (F := Own o) (zT w).drew).trans hs2))
 clear hHeld h2 hs2
 go_wp2_with fail
 refine acbad_0.mono ?_
 rintro e w3 ⟨rfl, rfl⟩
 go_upto_region 2 with fail
 have HF2 := zh (HB2.out.free (16 + a))
 refine wp_region_held_drew (S := fun w' => Low w' g b.pb (x) ∧ (w' = w2.drew ∨ True)) (by kernel_rfl) ?_ (fun hHeld => ?_)
 ·exact ⟨low_of (HB2.out), .inr trivial⟩
 refine tH 0 25 ?_ ?_ ?_;rotate_left
 ·intro w hSw
  go_simp
  try with_reducible rfl
 try simp only [zP]
 refine tH 1 26 ?_ ?_ ?_;rotate_left
 ·intro w hSw
  go_simp
  try with_reducible rfl
 try simp only [zP]
 refine tH 2 27 ?_ ?_ ?_;rotate_left
 ·intro w hSw
  go_simp
  try with_reducible rfl
 try simp only [zP]
 refine tH 3 28 ?_ ?_ ?_;rotate_left
 ·intro w hSw
  go_simp
  try with_reducible rfl
 try simp only [zP]
 refine tH 4 29 ?_ ?_ ?_;rotate_left
 ·intro w hSw
  go_simp
  try with_reducible rfl
 try simp only [zP]
 refine tH 5 30 ?_ ?_ ?_;rotate_left
 ·intro w hSw
  have q3 : w.cell? ⟨g, 3, none⟩ = some (.int .i64 (x.i.a)) := hSw.1 3 (by omega)
  rw [HXA.out] at q3
  go_simp
  try with_reducible rfl
 try simp only [zP]
 refine tH 6 31 ?_ ?_ ?_;rotate_left
 ·intro w hSw
  go_simp
  try with_reducible rfl
 try simp only [zP]
 refine tH 7 32 ?_ ?_ ?_;rotate_left
 ·intro w hSw
  go_simp
  try with_reducible rfl
 try simp only [zP]
 refine tH 8 33 ?_ ?_ ?_;rotate_left
 ·intro w hSw
  go_simp
  try with_reducible rfl
 try simp only [zP]
 refine tH 9 34 ?_ ?_ ?_;rotate_left
 ·intro w hSw
  go_simp
  try with_reducible rfl
 try simp only [zP]
 refine zR 10 fun K hK => ?_
 have qz0 := (HB2.out).cell (16 + a)
 rw [ac_reg _ _ HLT.out] at qz0
 have qz1 : w2.drew.cell? ⟨g, 16 + a, none⟩ = _ := qz0
 have qf := (HB2.out).free (16 + a)
 have qf1 : w2.drew.frozen? ⟨g, 16 + a, none⟩ = false := qf
 go_simp
 refine hK.out _ _ ?_ (fun hHeld => ?_)
 ·exact ⟨low_regs (r := (x).regs.set a ((s.ts.length : Int))) (low_of (by have hb4 := (show Blk w2.drew g 131 _ from HB2.out).put (16 + a) (.int .i64 ((s.ts.length : Int))); rw [ac_set _ _ _ HLT.out] at hb4; exact hb4)), .inr trivial⟩
 clear hK K
 try simp only [zP]
 refine wpAnyH_done (by kernel_rfl) ?_ _
 have hb4 := (show Blk w2.drew g 131 _ from HB2.out).put (16 + a) (.int .i64 ((s.ts.length : Int)))
 have ht4 : Turns (fun k => k = g) w2 (w2.drew.setCell ⟨g, 16 + a, none⟩ (.int .i64 ((s.ts.length : Int)))) := ((Turns.refl (fun k => k = g) w2).drew).setCell (p := ⟨g, 16 + a, none⟩) (fun _ => rfl) _
 rw [ac_set _ _ _ HLT.out] at hb4
 have HE := zh (And.intro hb4 ht4)
 clear hb4 ht4 hHeld
 go_wp2_with fail
 go_end0
 exact ⟨rfl, o2, HH2.out.1.turns HXX.out HE.out.2 (fun k hk e => (AStp.of g HH2.out.2).no HG.out HGL.out (by rw [← show k = g from e]; exact hk)), (AStp.of g HH2.out.2).set HE.out.2, HE.out.1⟩
theorem acrecv_park {CX : World → (Nat → Prop) → Prop} {w : World} {b : Wp} {o : Nat → Nat} {ps : List (List Ins)} {s : Wst} {g i p : Nat} {x : Ac} {t sg rm : Bool} {l : List Wt} (hx : Ext CX) (h : WW CX w b o ps s) (hb : Blk w g 131 (acA b.pb x)) (hg : ¬ Own o g) (hi : s.chs[i]? = some (p, ⟨t, sg, false, rm, none, l⟩)) (hl : l.length ≤ 1000) :
  Calls Tryz.prog 125 #[.pointer (some ⟨g, 0, none⟩), .pointer (some ⟨p, 0, none⟩)] w fun e w' => e = .returned (.tuple #[]) ∧ ∃ o', WW CX w' b o' ps { s with chs := s.chs.set i (p, ⟨t, sg, false, rm, none, l ++ [⟨x.id, 0, 0⟩]⟩) } ∧ AStp w w' o o' g ∧ Blk w' g 131 (acA b.pb { x with parks := true }) := by
 obtain ⟨vp, vc, vl, ve, h⟩ := h
 have HXX := zh hx
 have HG := zh hg
 have HI := zh hi
 have HRC := zh (chrecv_0 (h.chn p _ (List.mem_of_getElem? hi)))
 have HH := zh h
 have HB := zh hb
 clear h hb hx hg hi
 go_enter Tryz.func125, Tryz.ntmps125
 go_wp2_with fail
 refine HRC.out.mono ?_
 rintro e w1 ⟨rfl, hm⟩
 have hb1 := HB.out.turns hm (fun h => h)
 have HH1 := zh (And.intro (HH.out.made HXX.out hm) hm)
 have HB1 := zh hb1
 have q26 : w1.cell? ⟨g, 26, none⟩ = some (.bool x.parks) := hb1.cell 26
 have f26 := hb1.free 26
 clear hb1 hm
 go_upto_region 4 with fail
 have HB2 := zh (show Blk _ g 131 (acA b.pb { x with parks := true }) from HB1.out.put 26 (.bool true))
 have HT2 := zh ((Turns.refl (fun k => k = g) w1).setCell (p := ⟨g, 26, none⟩) (fun _ => rfl) (.bool true))
 clear q26 f26
 generalize w1.setCell ⟨g, 26, none⟩ (.bool true) = W2 at *
 have HW2 := zh (HH1.out.1.turns HXX.out HT2.out (fun k hk e => HG.out (by rw [← show k = g from e]; exact hk)))
 have HWT := zh (chwait_c ⟨x.id, 0, 0⟩ (HW2.out.chn p _ (List.mem_of_getElem? HI.out)) hl)
 have q1 : W2.cell? ⟨g, 1, none⟩ = some (.int .i64 x.id) := HB2.out.cell 1
 go_wp2_with fail
 refine HWT.out.mono ?_
 rintro e w3 ⟨rfl, F3, hc3, hs3⟩
 obtain ⟨o3, h3, _, hst⟩ := HW2.out.stepCh HXX.out HI.out hc3 hs3
 have HE := zh (And.intro h3 hst)
 clear hc3 hs3 h3 hst q1
 go_wp2_with fail
 go_end0
 exact ⟨rfl, o3, ⟨_, _, _, _, HE.out.1⟩, ((AStp.made (o := o) (g := g) HH1.out.2).set HT2.out).then HE.out.2, HB2.out.turns HE.out.2.t HG.out⟩
section
variable {CX : World → (Nat → Prop) → Prop} {w w' : World} {b : Wp} {o o' : Nat → Nat} {ps : List (List Ins)} {s : Wst} {vp vc vl ve : Value}
theorem WAt.newTm (hx : Ext CX) (h : WAt CX w b o ps s vp vc vl ve) {p : Nat} {Fc : Nat → Prop} {c : Chn} {FT : Nat → Prop} {tms' : List Tk} {named' : Int} {L' : List It} {sq' : Int} (hT : TsAt w' b.pm FT tms' named' L' sq') (hsT : Stp w w' (fun k => o k = 4) FT) (hc : ChAt w' p Fc c) (hf : ∀ k, Fc k → w.heap.size ≤ k) (hd : ∀ k, Fc k → ¬ FT k) : ∃ o', WAt CX w' b o' ps { s with tms := tms', named := named', L := L', sq := sq' } vp vc vl ve ∧ (fun k => o' k = 16 + p) = Fc ∧ Stp w w' (Own o) (Own o') ∧ p ∉ s.chs.map Prod.fst := by
 have ht : Turns (fun k => o k = 4 ∨ o k = 16 + p) w w' := hsT.t.mono (fun _ _ h => .inl h)
 obtain ⟨o', hlt, e4, e, hne, hst⟩ := relabel2 h.lt (by omega) (by omega) (by omega) ht hsT.f (fun k hk => .inr (hf k hk)) hd hT.fb hc.fb
 obtain ⟨ds, hd1, hd2⟩ := h.dls
 obtain ⟨ls, hl1, hl2⟩ := h.lrow
 have hnp : p ∉ s.chs.map Prod.fst := fun hp => by
  obtain ⟨⟨p2, c2⟩, h2, rfl⟩ := List.mem_map.1 hp
  have h3 := h.lt p2 (by have h9 : o p2 = 16 + p2 := (h.chn p2 c2 h2).self; omega)
  have h4 := hf p2 hc.self
  omega
 refine ⟨o', { lt := hlt, cnd := h.cnd, chn := fun p2 c2 hp2 => ?_, blk := h.blk.turns ht (by rw [h.ob]; omega), ob := lab_is (hne 1 (by omega) (by omega) (by omega)) h.ob, clk := h.clk.turns ht (by rw [h.ok]; omega), ok := lab_is (hne 2 (by omega) (by omega) (by omega)) h.ok, tab := by rw [hne 3 (by omega) (by omega) (by omega)]; exact h.tab.turns ht (fun k hk => by rw [hk]; omega), tms := by rw [e4]; exact hT, dls := ⟨ds, hd1, by rw [hne 5 (by omega) (by omega) (by omega)]; exact hd2.turns ht (fun k hk => by rw [hk]; omega)⟩, ctx := by rw [hne 6 (by omega) (by omega) (by omega)]; exact hx.turns _ w w' _ h.ctx ht (fun k hk => by rw [hk]; omega), prs := h.prs.turns ht (fun k hk => by rw [hk]; omega) (fun k hk => lab_is (hne 7 (by omega) (by omega) (by omega)) hk), crow := h.crow.turns ht (fun k hk => by rw [(h.co k).1 hk]; omega), co := fun k => (h.co k).trans (iff_of_eq (congrFun (hne 8 (by omega) (by omega) (by omega)) k)).symm, lrow := ⟨ls, hl1, hl2.turns ht (fun k hk => by rw [(h.lo k).1 hk]; omega)⟩, lo := fun k => (h.lo k).trans (iff_of_eq (congrFun (hne 9 (by omega) (by omega) (by omega)) k)).symm, erow := h.erow.turns ht (fun k hk => by rw [(h.eo k).1 hk]; omega), eo := fun k => (h.eo k).trans (iff_of_eq (congrFun (hne 10 (by omega) (by omega) (by omega)) k)).symm }, e, hst, hnp⟩
 have hpp : p2 ≠ p := fun e => hnp (by rw [← e]; exact List.mem_map.2 ⟨_, hp2, rfl⟩)
 rw [hne (16 + p2) (by omega) (by omega) (by omega)]
 exact (h.chn p2 c2 hp2).turns ht (fun k hk => by rw [hk]; omega)
end
def timerS (s : Wst) (d : Int) (cp : Nat) : Wst := { s with tms := s.tms ++ [⟨1, 0, some cp⟩], named := s.named + 1, L := insL ⟨s.tms.length, addZ s.now d, s.sq + 1⟩ (delL s.tms.length s.L), sq := s.sq + 1, chs := s.chs ++ [(cp, ⟨true, false, false, true, none, []⟩)] }
theorem actimer_c {CX : World → (Nat → Prop) → Prop} {w : World} {b : Wp} {o : Nat → Nat} {ps : List (List Ins)} {s : Wst} {g a bb cc : Nat} {x : Ac} (hx : Ext CX) (h : WW CX w b o ps s) (hb : Blk w g 131 (acA b.pb x)) (hg : ¬ Own o g) (hop : x.i.op = 17) (hxa : x.i.a = a) (hxb : x.i.b = bb) (hxc : x.i.c = cc) (ha : a < 8) (hbb : bb < 8) (hcc : cc < 8) (hd : 0 ≤ x.was.get bb) (hnow : 0 ≤ s.now ∧ s.now ≤ 4611686018427387904) (hw1 : 0 ≤ addZ s.now (x.was.get bb)) (hw2 : addZ s.now (x.was.get bb) ≤ 4611686018427387904) (htl : s.tms.length < 1000) (hnm : 0 ≤ s.named ∧ s.named < 64) (hsq : s.sq < 1000000) (hcl : s.chs.length ≤ 1000) :
  Calls Tryz.prog 80 #[.pointer (some ⟨g, 0, none⟩)] w fun e w' => e = .returned (.tuple #[]) ∧ ∃ o' cp, WW CX w' b o' ps (timerS s (x.was.get bb) cp) ∧ AStp w w' o o' g ∧ Blk w' g 131 (acA b.pb { x with regs := (x.regs.set a s.tms.length).set cc s.chs.length }) := by
 have HB := zh hb
 have HXX := zh hx
 have HLT := zh ha
 have HX := zh (And.intro hxa (And.intro hxb hxc))
 have HG := zh hg
 have HGL := zh hb.lt
 have HOP := zh hop
 have jb1 : (0 : Int) ≤ (a : Int) := by omega
 have jb2 : (a : Int) < 8 := by omega
 have kb1 : (0 : Int) ≤ (cc : Int) := by omega
 have kb2 : (cc : Int) < 8 := by omega
 have HWD := zh (h.made hx (zT w).drew)
 have HNW := zh (wnow_c HWD.out)
 have HLC := zh (And.intro hbb (And.intro hcc (And.intro hd (And.intro hnow (And.intro hw1 (And.intro hw2 (And.intro htl (And.intro hnm (And.intro hsq hcl)))))))))
 clear h hb hx hxa hxb hxc hg hop hd hnow hw1 hw2 htl hnm hsq hcl
 go_enter Tryz.func80, Tryz.ntmps80
 go_upto_region 3 with fail
 refine wp_region_held_drew (S := fun w' => Low w' g b.pb x ∧ w'.cell? ⟨b.pb, 5, none⟩ = some (.pointer (some ⟨b.pm, 0, none⟩)) ∧ (w' = w.drew ∨ True)) (by kernel_rfl) ?_ (fun hHeld => ?_)
 ·exact ⟨low_of HB.out, HWD.out.cell5, .inr trivial⟩
 refine tH 0 7 ?_ ?_ ?_;rotate_left
 ·intro w hSw
  go_simp
  try with_reducible rfl
 try simp only [zP]
 refine tH 1 8 ?_ ?_ ?_;rotate_left
 ·intro w hSw
  go_simp
  try with_reducible rfl
 try simp only [zP]
 refine tH 2 9 ?_ ?_ ?_;rotate_left
 ·intro w hSw
  go_simp
  try with_reducible rfl
 try simp only [zP]
 refine tH 3 10 ?_ ?_ ?_;rotate_left
 ·intro w hSw
  have q3 : w.cell? ⟨g, 0, none⟩ = some (.pointer (some ⟨b.pb, 0, none⟩)) := hSw.1 0 (by omega)
  go_simp
  try with_reducible rfl
 try simp only [zP]
 refine tH 4 11 ?_ ?_ ?_;rotate_left
 ·intro w hSw
  go_simp
  try with_reducible rfl
 try simp only [zP]
 refine tH 5 12 ?_ ?_ ?_;rotate_left
 ·intro w hSw
  go_simp
  try with_reducible rfl
 try simp only [zP]
 refine tH 6 13 ?_ ?_ ?_;rotate_left
 ·intro w hSw
  have qw := hSw.2.1
  go_simp
  try with_reducible rfl
 try simp only [zP]
 refine tH 7 14 ?_ ?_ ?_;rotate_left
 ·intro w hSw
  go_simp
  try with_reducible rfl
 try simp only [zP]
 refine tH 8 15 ?_ ?_ ?_;rotate_left
 ·intro w hSw
  go_simp
  try with_reducible rfl
 try simp only [zP]
 refine tH 9 16 ?_ ?_ ?_;rotate_left
 ·intro w hSw
  go_simp
  try with_reducible rfl
 try simp only [zP]
 refine tH 10 17 ?_ ?_ ?_;rotate_left
 ·intro w hSw
  have q3 : w.cell? ⟨g, 0, none⟩ = some (.pointer (some ⟨b.pb, 0, none⟩)) := hSw.1 0 (by omega)
  go_simp
  try with_reducible rfl
 try simp only [zP]
 refine zR 11 fun K hK => ?_
 go_simp
 refine HNW.out.mono ?_
 rintro e w1 ⟨rfl, rfl⟩
 refine hK.out _ _ ?_ (fun hHeld => ?_)
 ·exact hHeld
 clear hK K
 try simp only [zP]
 refine tH 12 5 ?_ ?_ ?_;rotate_left
 ·intro w hSw
  go_simp
  try with_reducible rfl
 try simp only [zP]
 refine tH 13 6 ?_ ?_ ?_;rotate_left
 ·intro w hSw
  go_simp
  try with_reducible rfl
 try simp only [zP]
 refine wpAnyH_done (by kernel_rfl) ?_ _
 clear hHeld
 have q2 : w.drew.cell? ⟨g, 2, none⟩ = some (.int .i64 x.i.op) := HB.out.cell 2
 rw [HOP.out] at q2
 have HBM := zh (acb_c (w := w.drew) (HB.out.turns (zT w).drew (fun h => h)) HX.out.2.1 HLC.out.1)
 go_wp2_with fail
 refine HBM.out.mono ?_
 rintro e w1 ⟨rfl, hm1⟩
 have HM1 := zh ((zT w).drew.trans hm1)
 obtain ⟨vp, vc, vl, ve, hw1⟩ := HWD.out.made HXX.out hm1
 have HW1 := zh hw1
 have HTI := zh (tstimer_c hw1.tms HLC.out.2.2.2.2.2.2.1 HLC.out.2.2.2.2.2.2.2.1 HLC.out.2.2.2.2.2.2.2.2.1 HLC.out.2.2.2.1 HLC.out.2.2.1 rfl HLC.out.2.2.2.2.1 HLC.out.2.2.2.2.2.1)
 clear hm1 hw1 q2
 go_wp2_with fail
 refine HTI.out.mono ?_
 rintro e w2 ⟨cp, Fc, F2, rfl, hT, hC, hsT, hfc, hdj⟩
 obtain ⟨o2, h2, e2, hs2, hnp⟩ := HW1.out.newTm HXX.out hT hsT hC hfc hdj
 have HS2 := zh ((Stp.made (F := Own o) HM1.out).trans hs2)
 have HB2 := zh (HB.out.turns HS2.out.t HG.out)
 have HC2 := zh (show ChAt w2 cp (fun k => o2 k = 16 + cp) _ from by rw [e2]; exact hC)
 have HW2 := zh (And.intro h2 hnp)
 clear hT hC hsT hfc hdj h2 e2 hs2 hnp
 go_upto_region 11 with fail
 refine wp_region_held_drew (S := fun w' => Low w' g b.pb (x) ∧ (w' = w2.drew ∨ True)) (by kernel_rfl) ?_ (fun hHeld => ?_)
 ·exact ⟨low_of (HB2.out), .inr trivial⟩
 refine tH 0 60 ?_ ?_ ?_;rotate_left
 ·intro w hSw
  go_simp
  try with_reducible rfl
 try simp only [zP]
 refine tH 1 61 ?_ ?_ ?_;rotate_left
 ·intro w hSw
  go_simp
  try with_reducible rfl
 try simp only [zP]
 refine tH 2 62 ?_ ?_ ?_;rotate_left
 ·intro w hSw
  go_simp
  try with_reducible rfl
 try simp only [zP]
 refine tH 3 63 ?_ ?_ ?_;rotate_left
 ·intro w hSw
  go_simp
  try with_reducible rfl
 try simp only [zP]
 refine tH 4 64 ?_ ?_ ?_;rotate_left
 ·intro w hSw
  go_simp
  try with_reducible rfl
 try simp only [zP]
 refine tH 5 65 ?_ ?_ ?_;rotate_left
 ·intro w hSw
  have q3 : w.cell? ⟨g, 3, none⟩ = some (.int .i64 (x.i.a)) := hSw.1 3 (by omega)
  rw [HX.out.1] at q3
  go_simp
  try with_reducible rfl
 try simp only [zP]
 refine tH 6 66 ?_ ?_ ?_;rotate_left
 ·intro w hSw
  go_simp
  try with_reducible rfl
 try simp only [zP]
 refine tH 7 67 ?_ ?_ ?_;rotate_left
 ·intro w hSw
  go_simp
  try with_reducible rfl
 try simp only [zP]
 refine tH 8 68 ?_ ?_ ?_;rotate_left
 ·intro w hSw
  go_simp
  try with_reducible rfl
 try simp only [zP]
 refine tH 9 69 ?_ ?_ ?_;rotate_left
 ·intro w hSw
  go_simp
  try with_reducible rfl
 try simp only [zP]
 refine zR 10 fun K hK => ?_
 have qz0 := (HB2.out).cell (16 + a)
 rw [ac_reg _ _ HLT.out] at qz0
 have qz1 : w2.drew.cell? ⟨g, 16 + a, none⟩ = _ := qz0
 have qf := (HB2.out).free (16 + a)
 have qf1 : w2.drew.frozen? ⟨g, 16 + a, none⟩ = false := qf
 go_simp
 refine hK.out _ _ ?_ (fun hHeld => ?_)
 ·exact ⟨low_regs (r := (x).regs.set a ((s.tms.length : Int))) (low_of (by have hb4 := (show Blk w2.drew g 131 _ from HB2.out).put (16 + a) (.int .i64 ((s.tms.length : Int))); rw [ac_set _ _ _ HLT.out] at hb4; exact hb4)), .inr trivial⟩
 clear hK K
 try simp only [zP]
 refine wpAnyH_done (by kernel_rfl) ?_ _
 have hb4 := (show Blk w2.drew g 131 _ from HB2.out).put (16 + a) (.int .i64 ((s.tms.length : Int)))
 have ht4 : Turns (fun k => k = g) w2 (w2.drew.setCell ⟨g, 16 + a, none⟩ (.int .i64 ((s.tms.length : Int)))) := ((Turns.refl (fun k => k = g) w2).drew).setCell (p := ⟨g, 16 + a, none⟩) (fun _ => rfl) _
 rw [ac_set _ _ _ HLT.out] at hb4
 have HE := zh (show Blk (w2.setCell ⟨g, 16 + a, none⟩ (.int .i64 (s.tms.length : Int))).drew g 131 (acA b.pb { x with regs := x.regs.set a (s.tms.length : Int) }) ∧ Turns (fun k => k = g) w2 (w2.setCell ⟨g, 16 + a, none⟩ (.int .i64 (s.tms.length : Int))).drew from And.intro hb4 ht4)
 clear hb4 ht4 hHeld
 go_upto_region 13 with fail
 generalize (w2.setCell ⟨g, 16 + a, none⟩ (.int .i64 (s.tms.length : Int))).drew = W3 at *
 have HG2 := zh (show ¬ Own o2 g from (AStp.of g HS2.out).no HG.out HGL.out)
 have HGK := zh (show ∀ k, o2 k ≠ 0 → ¬ k = g from fun k hk e => HG2.out (by rw [← e]; exact hk))
 have HB3 := zh (show Blk W3 g 131 (acA b.pb { x with regs := x.regs.set a (s.tms.length : Int) }) from HE.out.1)
 have HW3 := zh (HW2.out.1.turns HXX.out HE.out.2 HGK.out)
 have HC3 := zh (HC2.out.turns HE.out.2 (fun k hk => HGK.out k (by rw [hk]; omega)))
 have HOP2 := zh (wopen_c HXX.out (show WW CX W3.drew b o2 ps _ from ⟨_, _, _, _, HW3.out.made HXX.out (zT W3).drew⟩) (HC3.out.made (zT W3).drew) HW2.out.2 HLC.out.2.2.2.2.2.2.2.2.2)
 have HLT2 := zh HLC.out.2.1
 refine wp_region_held_drew (S := fun w' => Low w' g b.pb ({ x with regs := x.regs.set a (s.tms.length : Int) }) ∧ (w' = W3.drew ∨ True)) (by kernel_rfl) ?_ (fun hHeld => ?_)
 ·exact ⟨low_of HB3.out, .inr trivial⟩
 refine tH 0 72 ?_ ?_ ?_;rotate_left
 ·intro w hSw
  go_simp
  try with_reducible rfl
 try simp only [zP]
 refine tH 1 73 ?_ ?_ ?_;rotate_left
 ·intro w hSw
  go_simp
  try with_reducible rfl
 try simp only [zP]
 refine tH 2 74 ?_ ?_ ?_;rotate_left
 ·intro w hSw
  go_simp
  try with_reducible rfl
 try simp only [zP]
 refine tH 3 75 ?_ ?_ ?_;rotate_left
 ·intro w hSw
  go_simp
  try with_reducible rfl
 try simp only [zP]
 refine tH 4 76 ?_ ?_ ?_;rotate_left
 ·intro w hSw
  go_simp
  try with_reducible rfl
 try simp only [zP]
 refine tH 5 77 ?_ ?_ ?_;rotate_left
 ·intro w hSw
  have q3 : w.cell? ⟨g, 5, none⟩ = some (.int .i64 x.i.c) := hSw.1 5 (by omega)
  rw [HX.out.2.2] at q3
  go_simp
  try with_reducible rfl
 try simp only [zP]
 refine tH 6 78 ?_ ?_ ?_;rotate_left
 ·intro w hSw
  go_simp
  try with_reducible rfl
 try simp only [zP]
 refine tH 7 79 ?_ ?_ ?_;rotate_left
 ·intro w hSw
  go_simp
  try with_reducible rfl
 try simp only [zP]
 refine tH 8 80 ?_ ?_ ?_;rotate_left
 ·intro w hSw
  go_simp
  try with_reducible rfl
 try simp only [zP]
 refine tH 9 81 ?_ ?_ ?_;rotate_left
 ·intro w hSw
  have q3 : w.cell? ⟨g, 0, none⟩ = some (.pointer (some ⟨b.pb, 0, none⟩)) := hSw.1 0 (by omega)
  go_simp
  try with_reducible rfl
 try simp only [zP]
 refine tH 10 82 ?_ ?_ ?_;rotate_left
 ·intro w hSw
  go_simp
  try with_reducible rfl
 try simp only [zP]
 refine tH 12 84 ?_ ?_ ?_;rotate_left
 ·intro w hSw
  go_simp
  try with_reducible rfl
 try simp only [zP]
 refine tH 13 85 ?_ ?_ ?_;rotate_left
 ·intro w hSw
  go_simp
  try with_reducible rfl
 try simp only [zP]
 refine zR 11 fun K hK => ?_
 go_simp
 refine HOP2.out.mono ?_
 rintro e w4 ⟨rfl, o4, h4, hs4⟩
 have hb4 : Blk w4 g 131 (acA b.pb { x with regs := x.regs.set a (s.tms.length : Int) }) := (HB3.out.turns (zT W3).drew (fun h => h)).turns hs4.t HG2.out
 refine hK.out _ _ ?_ (fun hHeld => ?_)
 ·exact ⟨low_of hb4, .inr trivial⟩
 clear hK K
 try simp only [zP]
 refine tH 14 86 ?_ ?_ ?_;rotate_left
 ·intro w hSw
  go_simp
  try with_reducible rfl
 try simp only [zP]
 refine zR 15 fun K hK => ?_
 have qz0 := hb4.cell (16 + cc)
 rw [ac_reg _ _ HLT2.out] at qz0
 have qf := hb4.free (16 + cc)
 have H4 := zh (And.intro h4 hs4)
 have HB4 := zh hb4
 clear h4 hs4 hb4
 go_simp
 refine hK.out _ _ ?_ (fun hHeld => ?_)
 ·exact ⟨low_regs (r := (x.regs.set a (s.tms.length : Int)).set cc (s.chs.length : Int)) (low_of (by have hb5 := HB4.out.put (16 + cc) (.int .i64 (s.chs.length : Int)); rw [ac_set _ _ _ HLT2.out] at hb5; exact hb5)), .inr trivial⟩
 clear hK K
 try simp only [zP]
 refine wpAnyH_done (by kernel_rfl) ?_ _
 have hb5 := HB4.out.put (16 + cc) (.int .i64 (s.chs.length : Int))
 rw [ac_set _ _ _ HLT2.out] at hb5
 have HB5 := zh hb5
 have HT5 := zh ((Turns.refl (fun k => k = g) w4).setCell (p := ⟨g, 16 + cc, none⟩) (fun _ => rfl) (.int .i64 (s.chs.length : Int)))
 clear hb5 hHeld qz0 qf
 generalize w4.setCell ⟨g, 16 + cc, none⟩ (.int .i64 (s.chs.length : Int)) = W5 at *
 go_wp2_with fail
 go_end0
 have HA := (((AStp.of g HS2.out).set HE.out.2).then (Stp.made (F := Own o2) (zT W3).drew)).then H4.out.2
 exact ⟨rfl, o4, ⟨cp, H4.out.1.turns HXX.out HT5.out (fun k hk e => HA.no HG.out HGL.out (by rw [← show k = g from e]; exact hk))⟩, HA.set HT5.out, HB5.out⟩
theorem acstop_0 {CX : World → (Nat → Prop) → Prop} {w : World} {b : Wp} {o : Nat → Nat} {ps : List (List Ins)} {s : Wst} {g a bb cc i cp ci : Nat} {x : Ac} {c : Chn} {kd dt : Int} {sg cl rm : Bool} {l : List Wt} (hx : Ext CX) (h : WW CX w b o ps s) (hb : Blk w g 131 (acA b.pb x)) (hg : ¬ Own o g) (hop : x.i.op = 20) (hxa : x.i.a = a) (hxb : x.i.b = bb) (ha : a < 8) (hbb : bb < 8) (hi : x.was.get a = i) (htm : s.tms[i]? = some ⟨1, dt, some cp⟩) (hch : s.chs[ci]? = some (cp, ⟨true, sg, cl, rm, none, l⟩)) (htl : s.tms.length ≤ 1000) (hsq : s.sq ≤ 1000000) :
  Calls Tryz.prog 81 #[.pointer (some ⟨g, 0, none⟩)] w fun e w' => e = .returned (.tuple #[]) ∧ ∃ o', WW CX w' b o' ps { s with L := delL i s.L } ∧ AStp w w' o o' g ∧ Blk w' g 131 (acA b.pb { x with regs := x.regs.set bb (bitZ (findL (i : Int) s.L).isSome) }) := by
 have HB := zh hb
 have HXX := zh hx
 have HLT := zh hbb
 have HX := zh (And.intro hxa (And.intro hxb (And.intro hop hi)))
 have HG := zh hg
 have HGL := zh hb.lt
 have HLA := zh ha
 have HT := zh (And.intro htm (And.intro hch (And.intro htl hsq)))
 have HW := zh h
 have jb1 : (0 : Int) ≤ (bb : Int) := by omega
 have jb2 : (bb : Int) < 8 := by omega
 have q0 : w.cell? ⟨g, 0, none⟩ = some (.pointer (some ⟨b.pb, 0, none⟩)) := hb.cell 0
 have q5 := h.cell5
 have HA1 := zh (aca_c hb hxa ha)
 obtain ⟨dd, hdd⟩ : ∃ dd, dd = (findL (i : Int) s.L).isSome := ⟨_, rfl⟩
 rw [← hdd]
 have HDD := zh hdd
 obtain ⟨bz, hbz⟩ : ∃ bz, bz = bitZ dd := ⟨_, rfl⟩
 rw [← hbz]
 have HBT := zh (fun ww => (show Calls Tryz.prog 117 #[.bool dd] ww (fun e w' => e = .returned (.int .i64 bz) ∧ ww = w') from by rw [hbz]; exact bit_c dd ww))
 clear hbz hdd
 clear h hb hx hxa hxb hg hop htm hch htl hsq hi
 go_enter Tryz.func81, Tryz.ntmps81
 go_wp2_with fail
 refine HA1.out.mono ?_
 rintro e w1 ⟨rfl, hm1⟩
 have HM1 := zh hm1
 have HB1 := zh (HB.out.turns hm1 (fun h => h))
 obtain ⟨vp, vc, vl, ve, hw1⟩ := HW.out.made HXX.out hm1
 have HW1 := zh hw1
 have HKD := zh (tskind_c hw1.tms HT.out.1 HT.out.2.2.1)
 rw [HX.out.2.2.2]
 clear hm1 hw1 q0 q5
 go_wp2_with fail
 refine HKD.out.mono ?_
 rintro e w2 ⟨rfl, rfl⟩
 have q2 : w1.cell? ⟨g, 2, none⟩ = some (.int .i64 x.i.op) := HB1.out.cell 2
 rw [HX.out.2.2.1] at q2
 have HA2 := zh (aca_c HB1.out HX.out.1 HLA.out)
 go_wp2_with fail
 refine HA2.out.mono ?_
 rintro e w3 ⟨rfl, hm3⟩
 have HM3 := zh (HM1.out.trans hm3)
 have HB3 := zh (HB1.out.turns hm3 (fun h => h))
 have hw3 := HW1.out.made HXX.out hm3
 have HW3 := zh hw3
 have HST := zh (tsstop_0 hw3.tms HT.out.1 (hw3.chn cp _ (List.mem_of_getElem? HT.out.2.1)) (fun k hk h4 => by have h5 : o k = 16 + cp := hk; have h6 : o k = 4 := h4; omega) HT.out.2.2.1 HT.out.2.2.2)
 rw [HX.out.2.2.2]
 clear hm3 hw3 q2
 rw [← HDD.out] at HST
 go_wp2_with fail
 refine HST.out.mono ?_
 rintro e w4 ⟨rfl, hT, hC, ht⟩
 obtain ⟨o4, h4, _, hs4⟩ := HW3.out.stepTms HXX.out hT ⟨ht, fun k hk => .inl hk⟩
 have HW4 := zh h4
 have HS4 := zh ((Stp.made (F := Own o) HM3.out).trans hs4)
 have HB4 := zh (HB3.out.turns hs4.t HG.out)
 clear hT hC ht h4 hs4
 go_upto_region 10 with fail
 refine wp_region_held_drew (S := fun w' => Low w' g b.pb (x) ∧ (w' = w4.drew ∨ True)) (by kernel_rfl) ?_ (fun hHeld => ?_)
 ·exact ⟨low_of (HB4.out), .inr trivial⟩
 refine tH 0 73 ?_ ?_ ?_;rotate_left
 ·intro w hSw
  go_simp
  try with_reducible rfl
 try simp only [zP]
 refine tH 1 74 ?_ ?_ ?_;rotate_left
 ·intro w hSw
  go_simp
  try with_reducible rfl
 try simp only [zP]
 refine tH 2 75 ?_ ?_ ?_;rotate_left
 ·intro w hSw
  go_simp
  try with_reducible rfl
 try simp only [zP]
 refine tH 3 76 ?_ ?_ ?_;rotate_left
 ·intro w hSw
  go_simp
  try with_reducible rfl
 try simp only [zP]
 refine tH 4 77 ?_ ?_ ?_;rotate_left
 ·intro w hSw
  go_simp
  try with_reducible rfl
 try simp only [zP]
 refine tH 5 78 ?_ ?_ ?_;rotate_left
 ·intro w hSw
  have q3 : w.cell? ⟨g, 4, none⟩ = some (.int .i64 (x.i.b)) := hSw.1 4 (by omega)
  rw [HX.out.2.1] at q3
  go_simp
  try with_reducible rfl
 try simp only [zP]
 refine tH 6 79 ?_ ?_ ?_;rotate_left
 ·intro w hSw
  go_simp
  try with_reducible rfl
 try simp only [zP]
 refine tH 8 81 ?_ ?_ ?_;rotate_left
 ·intro w hSw
  go_simp
  try with_reducible rfl
 try simp only [zP]
 refine tH 9 82 ?_ ?_ ?_;rotate_left
 ·intro w hSw
  go_simp
  try with_reducible rfl
 try simp only [zP]
 refine zR 7 fun K hK => ?_
 go_simp
 refine (HBT.out _).mono ?_
 rintro e w9 ⟨rfl, rfl⟩
 refine hK.out _ _ ?_ (fun hHeld => ?_)
 ·exact hHeld
 clear hK K
 try simp only [zP]
 refine tH 10 83 ?_ ?_ ?_;rotate_left
 ·intro w hSw
  go_simp
  try with_reducible rfl
 try simp only [zP]
 refine zR 11 fun K hK => ?_
 have qz0 := (HB4.out).cell (16 + bb)
 rw [ac_reg _ _ HLT.out] at qz0
 have qz1 : w4.drew.cell? ⟨g, 16 + bb, none⟩ = _ := qz0
 have qf := (HB4.out).free (16 + bb)
 have qf1 : w4.drew.frozen? ⟨g, 16 + bb, none⟩ = false := qf
 go_simp
 refine hK.out _ _ ?_ (fun hHeld => ?_)
 ·exact ⟨low_regs (r := (x).regs.set bb (bz)) (low_of (by have hb4 := (show Blk w4.drew g 131 _ from HB4.out).put (16 + bb) (.int .i64 (bz)); rw [ac_set _ _ _ HLT.out] at hb4; exact hb4)), .inr trivial⟩
 clear hK K
 try simp only [zP]
 refine wpAnyH_done (by kernel_rfl) ?_ _
 have hb4 := (show Blk w4.drew g 131 _ from HB4.out).put (16 + bb) (.int .i64 (bz))
 have ht4 : Turns (fun k => k = g) w4 (w4.drew.setCell ⟨g, 16 + bb, none⟩ (.int .i64 (bz))) := ((Turns.refl (fun k => k = g) w4).drew).setCell (p := ⟨g, 16 + bb, none⟩) (fun _ => rfl) _
 rw [ac_set _ _ _ HLT.out] at hb4
 have HE := zh (And.intro hb4 ht4)
 clear hb4 ht4 hHeld
 go_wp2_with fail
 go_end0
 exact ⟨rfl, o4, (show WW CX w4 b o4 ps _ from ⟨_, _, _, _, HW4.out⟩).turns HXX.out HE.out.2 (fun k hk e => (AStp.of g HS4.out).no HG.out HGL.out (by rw [← show k = g from e]; exact hk)), (AStp.of g HS4.out).set HE.out.2, HE.out.1⟩
theorem acreset_0 {CX : World → (Nat → Prop) → Prop} {w : World} {b : Wp} {o : Nat → Nat} {ps : List (List Ins)} {s : Wst} {g a bb cc i cp ci : Nat} {x : Ac} {dt : Int} {sg cl rm : Bool} {l : List Wt} (hx : Ext CX) (h : WW CX w b o ps s) (hb : Blk w g 131 (acA b.pb x)) (hg : ¬ Own o g) (hop : x.i.op = 21) (hxa : x.i.a = a) (hxb : x.i.b = bb) (hxc : x.i.c = cc) (ha : a < 8) (hbb : bb < 8) (hcc : cc < 8) (hi : x.was.get a = i) (htm : s.tms[i]? = some ⟨1, dt, some cp⟩) (hch : s.chs[ci]? = some (cp, ⟨true, sg, cl, rm, none, l⟩)) (htl : s.tms.length ≤ 1000) (hsq : s.sq < 1000000) (hd : 0 ≤ x.was.get bb) (hnow : 0 ≤ s.now ∧ s.now ≤ 4611686018427387904) (hw1 : 0 ≤ addZ s.now (x.was.get bb)) (hw2 : addZ s.now (x.was.get bb) ≤ 4611686018427387904) :
  Calls Tryz.prog 81 #[.pointer (some ⟨g, 0, none⟩)] w fun e w' => e = .returned (.tuple #[]) ∧ ∃ o', WW CX w' b o' ps { s with L := insL ⟨i, addZ s.now (x.was.get bb), s.sq + 1⟩ (delL i (delL i s.L)), sq := s.sq + 1 } ∧ AStp w w' o o' g ∧ Blk w' g 131 (acA b.pb { x with regs := x.regs.set cc (bitZ (findL (i : Int) s.L).isSome) }) := by
 have HB := zh hb
 have HXX := zh hx
 have HLT := zh hcc
 have HX := zh (And.intro hxa (And.intro hxb (And.intro hxc (And.intro hop hi))))
 have HG := zh hg
 have HGL := zh hb.lt
 have HLA := zh (And.intro ha hbb)
 have HT := zh (And.intro htm (And.intro hch (And.intro htl (And.intro hsq (And.intro hd (And.intro hnow (And.intro hw1 hw2)))))))
 have HW := zh h
 have jb1 : (0 : Int) ≤ (cc : Int) := by omega
 have jb2 : (cc : Int) < 8 := by omega
 have q0 : w.cell? ⟨g, 0, none⟩ = some (.pointer (some ⟨b.pb, 0, none⟩)) := hb.cell 0
 have q5 := h.cell5
 have HA1 := zh (aca_c hb hxa ha)
 obtain ⟨dd, hdd⟩ : ∃ dd, dd = (findL (i : Int) s.L).isSome := ⟨_, rfl⟩
 rw [← hdd]
 have HDD := zh hdd
 obtain ⟨bz, hbz⟩ : ∃ bz, bz = bitZ dd := ⟨_, rfl⟩
 rw [← hbz]
 have HBT := zh (fun ww => (show Calls Tryz.prog 117 #[.bool dd] ww (fun e w' => e = .returned (.int .i64 bz) ∧ ww = w') from by rw [hbz]; exact bit_c dd ww))
 clear hbz hdd
 clear h hb hx hxa hxb hxc hg hop htm hch htl hsq hi hd hnow hw1 hw2
 go_enter Tryz.func81, Tryz.ntmps81
 go_wp2_with fail
 refine HA1.out.mono ?_
 rintro e w1 ⟨rfl, hm1⟩
 have HM1 := zh hm1
 have HB1 := zh (HB.out.turns hm1 (fun h => h))
 obtain ⟨vp, vc, vl, ve, hw1⟩ := HW.out.made HXX.out hm1
 have HW1 := zh hw1
 have HKD := zh (tskind_c hw1.tms HT.out.1 HT.out.2.2.1)
 rw [HX.out.2.2.2.2]
 clear hm1 hw1 q0 q5
 go_wp2_with fail
 refine HKD.out.mono ?_
 rintro e w2 ⟨rfl, rfl⟩
 have q2 : w1.cell? ⟨g, 2, none⟩ = some (.int .i64 x.i.op) := HB1.out.cell 2
 rw [HX.out.2.2.2.1] at q2
 go_upto_region 2 with fail
 clear q2
 have HBD := zh (HB1.out.turns (zT w1).drew (fun h => h))
 have HA2 := zh (aca_c HBD.out HX.out.1 HLA.out.1)
 have HWD := zh (HW1.out.made HXX.out (zT w1).drew)
 refine wp_region_held_drew (S := fun w' => Low w' g b.pb x ∧ (w' = w1.drew ∨ True)) (by kernel_rfl) ?_ (fun hHeld => ?_)
 ·exact ⟨low_of HBD.out, .inr trivial⟩
 refine tH 0 20 ?_ ?_ ?_;rotate_left
 ·intro w hSw
  go_simp
  try with_reducible rfl
 try simp only [zP]
 refine tH 1 21 ?_ ?_ ?_;rotate_left
 ·intro w hSw
  go_simp
  try with_reducible rfl
 try simp only [zP]
 refine tH 3 23 ?_ ?_ ?_;rotate_left
 ·intro w hSw
  go_simp
  try with_reducible rfl
 try simp only [zP]
 refine tH 4 24 ?_ ?_ ?_;rotate_left
 ·intro w hSw
  go_simp
  try with_reducible rfl
 try simp only [zP]
 refine tH 5 25 ?_ ?_ ?_;rotate_left
 ·intro w hSw
  go_simp
  try with_reducible rfl
 try simp only [zP]
 refine tH 6 26 ?_ ?_ ?_;rotate_left
 ·intro w hSw
  have q3 : w.cell? ⟨g, 0, none⟩ = some (.pointer (some ⟨b.pb, 0, none⟩)) := hSw.1 0 (by omega)
  go_simp
  try with_reducible rfl
 try simp only [zP]
 refine tH 8 28 ?_ ?_ ?_;rotate_left
 ·intro w hSw
  go_simp
  try with_reducible rfl
 try simp only [zP]
 refine zR 2 fun K hK => ?_
 rw [HX.out.2.2.2.2] at HA2
 go_simp
 refine HA2.out.mono ?_
 rintro e wA ⟨rfl, hmA⟩
 have hbA := HBD.out.turns hmA (fun h => h)
 have hwA := HWD.out.made HXX.out hmA
 have HNW := wnow_c (show WW CX wA b o ps s from ⟨_, _, _, _, hwA⟩)
 refine hK.out _ _ ?_ (fun hHeld => ?_)
 ·exact ⟨low_of hbA, .inr trivial⟩
 clear hK K
 try simp only [zP]
 refine zR 7 fun K hK => ?_
 go_simp
 refine HNW.mono ?_
 rintro e wN ⟨rfl, rfl⟩
 refine hK.out _ _ ?_ (fun hHeld => ?_)
 ·exact ⟨low_of hbA, .inr trivial⟩
 clear hK K
 try simp only [zP]
 refine zR 9 fun K hK => ?_
 go_simp
 refine (acb_c hbA HX.out.2.1 HLA.out.2).mono ?_
 rintro e wB ⟨rfl, hmB⟩
 have hbB := hbA.turns hmB (fun h => h)
 have hwB := hwA.made HXX.out hmB
 refine hK.out _ _ ?_ (fun hHeld => ?_)
 ·exact ⟨low_of hbB, .inr trivial⟩
 clear hK K
 try simp only [zP]
 refine zR 10 fun K hK => ?_
 have HRS := tsreset_0 hwB.tms HT.out.1 (hwB.chn cp _ (List.mem_of_getElem? HT.out.2.1)) (fun k hk h4 => by have h5 : o k = 16 + cp := hk; have h6 : o k = 4 := h4; omega) HT.out.2.2.1 HT.out.2.2.2.1 HT.out.2.2.2.2.2.1 HT.out.2.2.2.2.1 rfl HT.out.2.2.2.2.2.2.1 HT.out.2.2.2.2.2.2.2
 rw [← HDD.out] at HRS
 have HRSH := zh HRS
 clear HRS
 go_simp
 refine HRSH.out.mono ?_
 rintro e w4 ⟨rfl, F4, hT, hC, ht, hf, hdj⟩
 obtain ⟨o4, h4, _, _, hs4, _⟩ := hwB.stepTC HXX.out HT.out.2.1 hT hC ht hf (fun k hk => .inl hk) hdj
 refine hK.out _ _ ?_ (fun hHeld => ?_)
 ·exact ⟨low_of (hbB.turns hs4.t HG.out), .inr trivial⟩
 clear hK K
 try simp only [zP]
 refine tH 11 19 ?_ ?_ ?_;rotate_left
 ·intro w hSw
  go_simp
  try with_reducible rfl
 try simp only [zP]
 refine tH 12 31 ?_ ?_ ?_;rotate_left
 ·intro w hSw
  go_simp
  try with_reducible rfl
 try simp only [zP]
 refine tH 13 32 ?_ ?_ ?_;rotate_left
 ·intro w hSw
  go_simp
  try with_reducible rfl
 try simp only [zP]
 refine tH 14 6 ?_ ?_ ?_;rotate_left
 ·intro w hSw
  go_simp
  try with_reducible rfl
 try simp only [zP]
 refine tH 15 7 ?_ ?_ ?_;rotate_left
 ·intro w hSw
  go_simp
  try with_reducible rfl
 try simp only [zP]
 refine wpAnyH_done (by kernel_rfl) ?_ _
 have HB4 := zh (hbB.turns hs4.t HG.out)
 have HW4 := zh h4
 have HS4 := zh ((Stp.made (F := Own o) (((HM1.out.trans (zT w1).drew).trans hmA).trans hmB)).trans hs4)
 clear hHeld h4 hs4 hT hC ht hf hdj hbA hbB hwA hwB HNW
 go_upto_region 5 with fail
 refine wp_region_held_drew (S := fun w' => Low w' g b.pb (x) ∧ (w' = w4.drew ∨ True)) (by kernel_rfl) ?_ (fun hHeld => ?_)
 ·exact ⟨low_of (HB4.out), .inr trivial⟩
 refine tH 0 38 ?_ ?_ ?_;rotate_left
 ·intro w hSw
  go_simp
  try with_reducible rfl
 try simp only [zP]
 refine tH 1 39 ?_ ?_ ?_;rotate_left
 ·intro w hSw
  go_simp
  try with_reducible rfl
 try simp only [zP]
 refine tH 2 40 ?_ ?_ ?_;rotate_left
 ·intro w hSw
  go_simp
  try with_reducible rfl
 try simp only [zP]
 refine tH 3 41 ?_ ?_ ?_;rotate_left
 ·intro w hSw
  go_simp
  try with_reducible rfl
 try simp only [zP]
 refine tH 4 42 ?_ ?_ ?_;rotate_left
 ·intro w hSw
  go_simp
  try with_reducible rfl
 try simp only [zP]
 refine tH 5 43 ?_ ?_ ?_;rotate_left
 ·intro w hSw
  have q3 : w.cell? ⟨g, 5, none⟩ = some (.int .i64 (x.i.c)) := hSw.1 5 (by omega)
  rw [HX.out.2.2.1] at q3
  go_simp
  try with_reducible rfl
 try simp only [zP]
 refine tH 6 44 ?_ ?_ ?_;rotate_left
 ·intro w hSw
  go_simp
  try with_reducible rfl
 try simp only [zP]
 refine tH 8 46 ?_ ?_ ?_;rotate_left
 ·intro w hSw
  go_simp
  try with_reducible rfl
 try simp only [zP]
 refine tH 9 47 ?_ ?_ ?_;rotate_left
 ·intro w hSw
  go_simp
  try with_reducible rfl
 try simp only [zP]
 refine zR 7 fun K hK => ?_
 go_simp
 refine (HBT.out _).mono ?_
 rintro e w9 ⟨rfl, rfl⟩
 refine hK.out _ _ ?_ (fun hHeld => ?_)
 ·exact hHeld
 clear hK K
 try simp only [zP]
 refine tH 10 48 ?_ ?_ ?_;rotate_left
 ·intro w hSw
  go_simp
  try with_reducible rfl
 try simp only [zP]
 refine zR 11 fun K hK => ?_
 have qz0 := (HB4.out).cell (16 + cc)
 rw [ac_reg _ _ HLT.out] at qz0
 have qz1 : w4.drew.cell? ⟨g, 16 + cc, none⟩ = _ := qz0
 have qf := (HB4.out).free (16 + cc)
 have qf1 : w4.drew.frozen? ⟨g, 16 + cc, none⟩ = false := qf
 go_simp
 refine hK.out _ _ ?_ (fun hHeld => ?_)
 ·exact ⟨low_regs (r := (x).regs.set cc (bz)) (low_of (by have hb4 := (show Blk w4.drew g 131 _ from HB4.out).put (16 + cc) (.int .i64 (bz)); rw [ac_set _ _ _ HLT.out] at hb4; exact hb4)), .inr trivial⟩
 clear hK K
 try simp only [zP]
 refine wpAnyH_done (by kernel_rfl) ?_ _
 have hb4 := (show Blk w4.drew g 131 _ from HB4.out).put (16 + cc) (.int .i64 (bz))
 have ht4 : Turns (fun k => k = g) w4 (w4.drew.setCell ⟨g, 16 + cc, none⟩ (.int .i64 (bz))) := ((Turns.refl (fun k => k = g) w4).drew).setCell (p := ⟨g, 16 + cc, none⟩) (fun _ => rfl) _
 rw [ac_set _ _ _ HLT.out] at hb4
 have HE := zh (And.intro hb4 ht4)
 clear hb4 ht4 hHeld
 go_wp2_with fail
 go_end0
 have hch4 : s.chs.set ci (cp, (⟨true, sg, cl, rm, none, l⟩ : Chn)) = s.chs := set_same HT.out.2.1
 have hW4 := HW4.out
 rw [hch4] at hW4
 exact ⟨rfl, o4, (show WW CX w4 b o4 ps _ from ⟨_, _, _, _, hW4⟩).turns HXX.out HE.out.2 (fun k hk e => (AStp.of g HS4.out).no HG.out HGL.out (by rw [← show k = g from e]; exact hk)), (AStp.of g HS4.out).set HE.out.2, HE.out.1⟩
theorem acdo_go {w : World} {g p : Nat} {x : Ac} {R : World → Prop} (hb : Blk w g 131 (acA p x)) (hop : x.i.op = 8) (H : Calls Tryz.prog 76 #[.pointer (some ⟨g, 0, none⟩)] w fun e w' => e = .returned (.tuple #[]) ∧ R w') :
  Calls Tryz.prog 50 #[.pointer (some ⟨g, 0, none⟩)] w fun e w' => e = .returned (.tuple #[]) ∧ R w' := by
 have q2 : w.cell? ⟨g, 2, none⟩ = some (.int .i64 x.i.op) := hb.cell 2
 rw [hop] at q2
 have HH := zh H
 clear H hb hop
 go_enter Tryz.func50, Tryz.ntmps50
 go_wp2_with fail
 refine HH.out.mono ?_
 rintro e w1 ⟨rfl, hr⟩
 have HR := zh hr
 clear hr q2
 go_wp2_with fail
 go_end0
 exact ⟨rfl, HR.out⟩
theorem acdo_recv {w : World} {g p : Nat} {x : Ac} {R : World → Prop} (hb : Blk w g 131 (acA p x)) (hop : x.i.op = 11) (H : Calls Tryz.prog 78 #[.pointer (some ⟨g, 0, none⟩)] w fun e w' => e = .returned (.tuple #[]) ∧ R w') :
  Calls Tryz.prog 50 #[.pointer (some ⟨g, 0, none⟩)] w fun e w' => e = .returned (.tuple #[]) ∧ R w' := by
 have q2 : w.cell? ⟨g, 2, none⟩ = some (.int .i64 x.i.op) := hb.cell 2
 rw [hop] at q2
 have HH := zh H
 clear H hb hop
 go_enter Tryz.func50, Tryz.ntmps50
 go_wp2_with fail
 refine HH.out.mono ?_
 rintro e w1 ⟨rfl, hr⟩
 have HR := zh hr
 clear hr q2
 go_wp2_with fail
 go_end0
 exact ⟨rfl, HR.out⟩
theorem acdo_timer {w : World} {g p : Nat} {x : Ac} {R : World → Prop} (hb : Blk w g 131 (acA p x)) (hop : x.i.op = 17) (H : Calls Tryz.prog 80 #[.pointer (some ⟨g, 0, none⟩)] w fun e w' => e = .returned (.tuple #[]) ∧ R w') :
  Calls Tryz.prog 50 #[.pointer (some ⟨g, 0, none⟩)] w fun e w' => e = .returned (.tuple #[]) ∧ R w' := by
 have q2 : w.cell? ⟨g, 2, none⟩ = some (.int .i64 x.i.op) := hb.cell 2
 rw [hop] at q2
 have HH := zh H
 clear H hb hop
 go_enter Tryz.func50, Tryz.ntmps50
 go_wp2_with fail
 refine HH.out.mono ?_
 rintro e w1 ⟨rfl, hr⟩
 have HR := zh hr
 clear hr q2
 go_wp2_with fail
 go_end0
 exact ⟨rfl, HR.out⟩
theorem acdo_stop {w : World} {g p : Nat} {x : Ac} {R : World → Prop} (hb : Blk w g 131 (acA p x)) (hop : x.i.op = 20) (H : Calls Tryz.prog 81 #[.pointer (some ⟨g, 0, none⟩)] w fun e w' => e = .returned (.tuple #[]) ∧ R w') :
  Calls Tryz.prog 50 #[.pointer (some ⟨g, 0, none⟩)] w fun e w' => e = .returned (.tuple #[]) ∧ R w' := by
 have q2 : w.cell? ⟨g, 2, none⟩ = some (.int .i64 x.i.op) := hb.cell 2
 rw [hop] at q2
 have HH := zh H
 clear H hb hop
 go_enter Tryz.func50, Tryz.ntmps50
 go_wp2_with fail
 refine HH.out.mono ?_
 rintro e w1 ⟨rfl, hr⟩
 have HR := zh hr
 clear hr q2
 go_wp2_with fail
 go_end0
 exact ⟨rfl, HR.out⟩
theorem acdo_reset {w : World} {g p : Nat} {x : Ac} {R : World → Prop} (hb : Blk w g 131 (acA p x)) (hop : x.i.op = 21) (H : Calls Tryz.prog 81 #[.pointer (some ⟨g, 0, none⟩)] w fun e w' => e = .returned (.tuple #[]) ∧ R w') :
  Calls Tryz.prog 50 #[.pointer (some ⟨g, 0, none⟩)] w fun e w' => e = .returned (.tuple #[]) ∧ R w' := by
 have q2 : w.cell? ⟨g, 2, none⟩ = some (.int .i64 x.i.op) := hb.cell 2
 rw [hop] at q2
 have HH := zh H
 clear H hb hop
 go_enter Tryz.func50, Tryz.ntmps50
 go_wp2_with fail
 refine HH.out.mono ?_
 rintro e w1 ⟨rfl, hr⟩
 have HR := zh hr
 clear hr q2
 go_wp2_with fail
 go_end0
 exact ⟨rfl, HR.out⟩
theorem acchan_recv {CX : World → (Nat → Prop) → Prop} {w : World} {b : Wp} {o : Nat → Nat} {ps : List (List Ins)} {s : Wst} {g a i p : Nat} {x : Ac} {c : Chn} {R : World → Prop} (hx : Ext CX) (h : WW CX w b o ps s) (hb : Blk w g 131 (acA b.pb x)) (hop : x.i.op = 11) (hxa : x.i.a = a) (ha : a < 8) (hi : x.was.get a = i) (hch : s.chs[i]? = some (p, c)) (hcl : s.chs.length ≤ 1000)
  (H : ∀ w1, Made w w1 → Calls Tryz.prog 125 #[.pointer (some ⟨g, 0, none⟩), .pointer (some ⟨p, 0, none⟩)] w1 fun e w' => e = .returned (.tuple #[]) ∧ R w') :
  Calls Tryz.prog 78 #[.pointer (some ⟨g, 0, none⟩)] w fun e w' => e = .returned (.tuple #[]) ∧ R w' := by
 have HB := zh hb
 have HXX := zh hx
 have HOP := zh hop
 have HI := zh hi
 have HBD := zh (hb.turns (zT w).drew (fun h => h))
 have HWD := zh (h.made hx (zT w).drew)
 have HA2 := zh (aca_c HBD.out hxa ha)
 rw [hi] at HA2
 have HH := zh H
 have HCH := zh (And.intro hch hcl)
 clear h hb hx hop hxa hi hch hcl H
 go_enter Tryz.func78, Tryz.ntmps78
 go_wp2_with fail
 refine wp_region_held_drew (S := fun w' => Low w' g b.pb x ∧ (w' = w.drew ∨ True)) (by kernel_rfl) ?_ (fun hHeld => ?_)
 ·exact ⟨low_of HBD.out, .inr trivial⟩
 refine tH 0 5 ?_ ?_ ?_;rotate_left
 ·intro w hSw
  go_simp
  try with_reducible rfl
 try simp only [zP]
 refine tH 1 6 ?_ ?_ ?_;rotate_left
 ·intro w hSw
  go_simp
  try with_reducible rfl
 try simp only [zP]
 refine tH 2 7 ?_ ?_ ?_;rotate_left
 ·intro w hSw
  go_simp
  try with_reducible rfl
 try simp only [zP]
 refine tH 3 8 ?_ ?_ ?_;rotate_left
 ·intro w hSw
  have q3 : w.cell? ⟨g, 0, none⟩ = some (.pointer (some ⟨b.pb, 0, none⟩)) := hSw.1 0 (by omega)
  go_simp
  try with_reducible rfl
 try simp only [zP]
 refine tH 4 9 ?_ ?_ ?_;rotate_left
 ·intro w hSw
  go_simp
  try with_reducible rfl
 try simp only [zP]
 refine zR 5 fun K hK => ?_
 go_simp
 refine HA2.out.mono ?_
 rintro e wA ⟨rfl, hmA⟩
 have hbA := HBD.out.turns hmA (fun h => h)
 have HWC := zh (wchannel_c (HWD.out.made HXX.out hmA) HCH.out.1 HCH.out.2)
 refine hK.out _ _ ?_ (fun hHeld => ?_)
 ·exact ⟨low_of hbA, .inr trivial⟩
 clear hK K
 try simp only [zP]
 refine zR 6 fun K hK => ?_
 go_simp
 refine HWC.out.mono ?_
 rintro e wN ⟨rfl, rfl⟩
 refine hK.out _ _ ?_ (fun hHeld => ?_)
 ·exact ⟨low_of hbA, .inr trivial⟩
 clear hK K
 try simp only [zP]
 refine tH 7 4 ?_ ?_ ?_;rotate_left
 ·intro w hSw
  go_simp
  try with_reducible rfl
 try simp only [zP]
 refine tH 8 12 ?_ ?_ ?_;rotate_left
 ·intro w hSw
  go_simp
  try with_reducible rfl
 try simp only [zP]
 refine tH 9 13 ?_ ?_ ?_;rotate_left
 ·intro w hSw
  go_simp
  try with_reducible rfl
 try simp only [zP]
 refine tH 10 2 ?_ ?_ ?_;rotate_left
 ·intro w hSw
  go_simp
  try with_reducible rfl
 try simp only [zP]
 refine tH 11 3 ?_ ?_ ?_;rotate_left
 ·intro w hSw
  go_simp
  try with_reducible rfl
 try simp only [zP]
 refine wpAnyH_done (by kernel_rfl) ?_ _
 have q2 : wA.cell? ⟨g, 2, none⟩ = some (.int .i64 x.i.op) := hbA.cell 2
 rw [HOP.out] at q2
 have HRC := zh (HH.out wA ((zT w).drew.trans hmA))
 clear hHeld hmA hbA
 go_wp2_with fail
 refine HRC.out.mono ?_
 rintro e w5 ⟨rfl, hr⟩
 have HR := zh hr
 clear hr q2
 go_wp2_with fail
 go_end0
 exact ⟨rfl, HR.out⟩
theorem walone_0 {CX : World → (Nat → Prop) → Prop} {w : World} {b : Wp} {o : Nat → Nat} {ps : List (List Ins)} {s : Wst} {i j : Nat} {x : Tsk} {pc v : Int} {r : Reg} (hx : Ext CX) (h : WW CX w b o ps s) (hts : s.ts[i]? = some x) (hl : s.ts.length ≤ 64) (hst : x.st = 0) (hev : s.ev.length < 1000) :
  Calls Tryz.prog 49 #[.pointer (some ⟨b.pb, 0, none⟩), .int .i64 i, .agg (outA ⟨pc, r, false, v, false⟩)] w fun e w' => e = .returned (.tuple #[]) ∧ ∃ o', WW CX w' b o' ps { s with ts := s.ts.set i ⟨x.prog, pc, x.st, x.how, r, x.ins⟩ } ∧ Stp w w' (Own o) (Own o') := by
 have HXX := zh hx
 have HM := zh ((zT w).alloc (.cells (outA ⟨pc, r, false, v, false⟩) 125))
 have HO := zh (Blk.new w 125 (outA ⟨pc, r, false, v, false⟩))
 obtain ⟨vp, vc, vl, ve, h⟩ := h
 have HNR := zh (show ¬ Own o w.heap.size from fun e => absurd (h.lt _ e) (Nat.lt_irrefl _))
 have HW := zh (h.made hx HM.out)
 have HTS := zh (And.intro hts hst)
 have HEV := zh hev
 clear h hx hts hst hev
 go_enter Tryz.func49, Tryz.ntmps49
 go_wp2_with fail
 generalize w.alloc (.cells (outA ⟨pc, r, false, v, false⟩) 125) = W at *
 have HQ := zh HW.out.blk
 have HNB := zh (show ¬ o b.pb = 3 from by rw [HW.out.ob]; omega)
 have HNR3 := zh (show ¬ o w.heap.size = 3 from fun e => HNR.out (by show o w.heap.size ≠ 0; omega))
 have HWD := zh (HW.out.made HXX.out (zT W).drew)
 have HPT := zh (tabput_c (pc := pc) (r := r) HWD.out.tab HTS.out.1 hl HTS.out.2)
 refine wp_region_held_drew (S := fun w' => Blk w' (b.pb) 65 #[vp, .pointer (some ⟨b.pk, 0, none⟩), .pointer (some ⟨b.pt, 0, none⟩), vc, .int .i64 s.made, .pointer (some ⟨b.pm, 0, none⟩), .pointer (some ⟨b.px, 0, none⟩), .pointer (some ⟨b.pd, 0, none⟩), vl, .int .i64 s.steps, ve] ∧ Blk w' (w.heap.size) 125 (outA ⟨pc, r, false, v, false⟩) ∧ Turns (fun k => o k = 3) W w') (by kernel_rfl) ?_ (fun hHeld => ?_)
 ·exact ⟨HQ.out, HO.out, (Turns.refl _ W).drew⟩
 refine tH 0 6 ?_ ?_ ?_;rotate_left
 ·intro w hSw
  go_simp
  try with_reducible rfl
 try simp only [zP]
 refine tH 1 7 ?_ ?_ ?_;rotate_left
 ·intro w hSw
  go_simp
  try with_reducible rfl
 try simp only [zP]
 refine tH 2 8 ?_ ?_ ?_;rotate_left
 ·intro w hSw
  go_simp
  try with_reducible rfl
 try simp only [zP]
 refine tH 3 9 ?_ ?_ ?_;rotate_left
 ·intro w hSw
  have q0_0 := hSw.1.cell 0
  have q0_1 := hSw.1.cell 1
  have q0_2 := hSw.1.cell 2
  have q0_3 := hSw.1.cell 3
  have q0_4 := hSw.1.cell 4
  have q0_5 := hSw.1.cell 5
  have q0_6 := hSw.1.cell 6
  have q0_7 := hSw.1.cell 7
  have q0_8 := hSw.1.cell 8
  have q0_9 := hSw.1.cell 9
  have q0_10 := hSw.1.cell 10
  have q1_0 := hSw.2.1.cell 0
  simp only [zG] at q0_0 q0_1 q0_2 q0_3 q0_4 q0_5 q0_6 q0_7 q0_8 q0_9 q0_10 q1_0
  go_simp
  try with_reducible rfl
 try simp only [zP]
 refine tH 4 10 ?_ ?_ ?_;rotate_left
 ·intro w hSw
  go_simp
  try with_reducible rfl
 try simp only [zP]
 refine tH 5 11 ?_ ?_ ?_;rotate_left
 ·intro w hSw
  go_simp
  try with_reducible rfl
 try simp only [zP]
 refine tH 6 12 ?_ ?_ ?_;rotate_left
 ·intro w hSw
  have q0_0 := hSw.1.cell 0
  have q0_1 := hSw.1.cell 1
  have q0_2 := hSw.1.cell 2
  have q0_3 := hSw.1.cell 3
  have q0_4 := hSw.1.cell 4
  have q0_5 := hSw.1.cell 5
  have q0_6 := hSw.1.cell 6
  have q0_7 := hSw.1.cell 7
  have q0_8 := hSw.1.cell 8
  have q0_9 := hSw.1.cell 9
  have q0_10 := hSw.1.cell 10
  have q1_0 := hSw.2.1.cell 0
  simp only [zG] at q0_0 q0_1 q0_2 q0_3 q0_4 q0_5 q0_6 q0_7 q0_8 q0_9 q0_10 q1_0
  go_simp
  try with_reducible rfl
 try simp only [zP]
 refine tH 7 13 ?_ ?_ ?_;rotate_left
 ·intro w hSw
  go_simp
  try with_reducible rfl
 try simp only [zP]
 refine tH 8 14 ?_ ?_ ?_;rotate_left
 ·intro w hSw
  refine exec_load_at (P := Tryz.prog) (x := .tmp 13) (n := 1) (cs := [.int .i64 r.r0, .int .i64 r.r1, .int .i64 r.r2, .int .i64 r.r3, .int .i64 r.r4, .int .i64 r.r5, .int .i64 r.r6, .int .i64 r.r7]) ?_ ?_ (fun j v hv => by have hj : j < 8 := (List.getElem?_eq_some_iff.1 hv).1; refine (hSw.2.1.cell (1 + j)).trans ?_; rw [← hv]; rcases lt8 hj with rfl | rfl | rfl | rfl | rfl | rfl | rfl | rfl <;> rfl) Tryz.underlying36 ?_ Tryz.sizeReg <;> rfl
 try simp only [zP]
 refine zR 9 fun K hK => ?_
 go_simp
 refine HPT.out.mono ?_
 rintro e w2 ⟨rfl, F2, ha2, hs2⟩
 refine hK.out _ _ ?_ (fun hHeld => ?_)
 ·exact ⟨hHeld.1.turns hs2.t HNB.out, hHeld.2.1.turns hs2.t HNR3.out, hHeld.2.2.trans hs2.t⟩
 clear hK K
 try simp only [zP]
 refine wpAnyH_done (by kernel_rfl) ?_ _
 obtain ⟨o2, h3, _, hs3⟩ := HWD.out.stepTab HXX.out ha2 hs2
 have HB2 := zh hHeld.2.1
 have HE := zh (And.intro (show WW CX w2 b o2 ps { s with ts := s.ts.set i ⟨x.prog, pc, x.st, x.how, r, x.ins⟩ } from ⟨_, _, _, _, h3⟩) ((Stp.made (F := Own o) (HM.out.trans (zT W).drew)).trans hs3))
 have HN2 := zh (show ¬ Own o2 w.heap.size from fun h0 => by
  rcases hs3.f _ h0 with h4 | h4
  ·exact HNR.out h4
  ·exact absurd HO.out.lt (Nat.not_lt.2 h4))
 have q9 := HB2.out.cell 9
 have q10 := HB2.out.cell 10
 have q11 := HB2.out.cell 11
 simp only [zG] at q9 q10 q11
 clear hHeld ha2 hs2 h3 hs3
 go_wp2_with fail
 go_end0
 exact ⟨rfl, o2, HE.out.1, HE.out.2⟩
theorem walone_told {CX : World → (Nat → Prop) → Prop} {w : World} {b : Wp} {o : Nat → Nat} {ps : List (List Ins)} {s : Wst} {i j : Nat} {x : Tsk} {pc v : Int} {r : Reg} (hx : Ext CX) (h : WW CX w b o ps s) (hts : s.ts[i]? = some x) (hl : s.ts.length ≤ 64) (hst : x.st = 0) (hev : s.ev.length < 1000) :
  Calls Tryz.prog 49 #[.pointer (some ⟨b.pb, 0, none⟩), .int .i64 i, .agg (outA ⟨pc, r, true, v, false⟩)] w fun e w' => e = .returned (.tuple #[]) ∧ ∃ o', WW CX w' b o' ps { { s with ts := s.ts.set i ⟨x.prog, pc, x.st, x.how, r, x.ins⟩ } with ev := s.ev ++ [⟨s.steps, 1, i, v, 0, 0⟩] } ∧ Stp w w' (Own o) (Own o') := by
 have HXX := zh hx
 have HM := zh ((zT w).alloc (.cells (outA ⟨pc, r, true, v, false⟩) 125))
 have HO := zh (Blk.new w 125 (outA ⟨pc, r, true, v, false⟩))
 obtain ⟨vp, vc, vl, ve, h⟩ := h
 have HNR := zh (show ¬ Own o w.heap.size from fun e => absurd (h.lt _ e) (Nat.lt_irrefl _))
 have HW := zh (h.made hx HM.out)
 have HTS := zh (And.intro hts hst)
 have HEV := zh hev
 clear h hx hts hst hev
 go_enter Tryz.func49, Tryz.ntmps49
 go_wp2_with fail
 generalize w.alloc (.cells (outA ⟨pc, r, true, v, false⟩) 125) = W at *
 have HQ := zh HW.out.blk
 have HNB := zh (show ¬ o b.pb = 3 from by rw [HW.out.ob]; omega)
 have HNR3 := zh (show ¬ o w.heap.size = 3 from fun e => HNR.out (by show o w.heap.size ≠ 0; omega))
 have HWD := zh (HW.out.made HXX.out (zT W).drew)
 have HPT := zh (tabput_c (pc := pc) (r := r) HWD.out.tab HTS.out.1 hl HTS.out.2)
 refine wp_region_held_drew (S := fun w' => Blk w' (b.pb) 65 #[vp, .pointer (some ⟨b.pk, 0, none⟩), .pointer (some ⟨b.pt, 0, none⟩), vc, .int .i64 s.made, .pointer (some ⟨b.pm, 0, none⟩), .pointer (some ⟨b.px, 0, none⟩), .pointer (some ⟨b.pd, 0, none⟩), vl, .int .i64 s.steps, ve] ∧ Blk w' (w.heap.size) 125 (outA ⟨pc, r, true, v, false⟩) ∧ Turns (fun k => o k = 3) W w') (by kernel_rfl) ?_ (fun hHeld => ?_)
 ·exact ⟨HQ.out, HO.out, (Turns.refl _ W).drew⟩
 refine tH 0 6 ?_ ?_ ?_;rotate_left
 ·intro w hSw
  go_simp
  try with_reducible rfl
 try simp only [zP]
 refine tH 1 7 ?_ ?_ ?_;rotate_left
 ·intro w hSw
  go_simp
  try with_reducible rfl
 try simp only [zP]
 refine tH 2 8 ?_ ?_ ?_;rotate_left
 ·intro w hSw
  go_simp
  try with_reducible rfl
 try simp only [zP]
 refine tH 3 9 ?_ ?_ ?_;rotate_left
 ·intro w hSw
  have q0_0 := hSw.1.cell 0
  have q0_1 := hSw.1.cell 1
  have q0_2 := hSw.1.cell 2
  have q0_3 := hSw.1.cell 3
  have q0_4 := hSw.1.cell 4
  have q0_5 := hSw.1.cell 5
  have q0_6 := hSw.1.cell 6
  have q0_7 := hSw.1.cell 7
  have q0_8 := hSw.1.cell 8
  have q0_9 := hSw.1.cell 9
  have q0_10 := hSw.1.cell 10
  have q1_0 := hSw.2.1.cell 0
  simp only [zG] at q0_0 q0_1 q0_2 q0_3 q0_4 q0_5 q0_6 q0_7 q0_8 q0_9 q0_10 q1_0
  go_simp
  try with_reducible rfl
 try simp only [zP]
 refine tH 4 10 ?_ ?_ ?_;rotate_left
 ·intro w hSw
  go_simp
  try with_reducible rfl
 try simp only [zP]
 refine tH 5 11 ?_ ?_ ?_;rotate_left
 ·intro w hSw
  go_simp
  try with_reducible rfl
 try simp only [zP]
 refine tH 6 12 ?_ ?_ ?_;rotate_left
 ·intro w hSw
  have q0_0 := hSw.1.cell 0
  have q0_1 := hSw.1.cell 1
  have q0_2 := hSw.1.cell 2
  have q0_3 := hSw.1.cell 3
  have q0_4 := hSw.1.cell 4
  have q0_5 := hSw.1.cell 5
  have q0_6 := hSw.1.cell 6
  have q0_7 := hSw.1.cell 7
  have q0_8 := hSw.1.cell 8
  have q0_9 := hSw.1.cell 9
  have q0_10 := hSw.1.cell 10
  have q1_0 := hSw.2.1.cell 0
  simp only [zG] at q0_0 q0_1 q0_2 q0_3 q0_4 q0_5 q0_6 q0_7 q0_8 q0_9 q0_10 q1_0
  go_simp
  try with_reducible rfl
 try simp only [zP]
 refine tH 7 13 ?_ ?_ ?_;rotate_left
 ·intro w hSw
  go_simp
  try with_reducible rfl
 try simp only [zP]
 refine tH 8 14 ?_ ?_ ?_;rotate_left
 ·intro w hSw
  refine exec_load_at (P := Tryz.prog) (x := .tmp 13) (n := 1) (cs := [.int .i64 r.r0, .int .i64 r.r1, .int .i64 r.r2, .int .i64 r.r3, .int .i64 r.r4, .int .i64 r.r5, .int .i64 r.r6, .int .i64 r.r7]) ?_ ?_ (fun j v hv => by have hj : j < 8 := (List.getElem?_eq_some_iff.1 hv).1; refine (hSw.2.1.cell (1 + j)).trans ?_; rw [← hv]; rcases lt8 hj with rfl | rfl | rfl | rfl | rfl | rfl | rfl | rfl <;> rfl) Tryz.underlying36 ?_ Tryz.sizeReg <;> rfl
 try simp only [zP]
 refine zR 9 fun K hK => ?_
 go_simp
 refine HPT.out.mono ?_
 rintro e w2 ⟨rfl, F2, ha2, hs2⟩
 refine hK.out _ _ ?_ (fun hHeld => ?_)
 ·exact ⟨hHeld.1.turns hs2.t HNB.out, hHeld.2.1.turns hs2.t HNR3.out, hHeld.2.2.trans hs2.t⟩
 clear hK K
 try simp only [zP]
 refine wpAnyH_done (by kernel_rfl) ?_ _
 obtain ⟨o2, h3, _, hs3⟩ := HWD.out.stepTab HXX.out ha2 hs2
 have HB2 := zh hHeld.2.1
 have HE := zh (And.intro (show WW CX w2 b o2 ps { s with ts := s.ts.set i ⟨x.prog, pc, x.st, x.how, r, x.ins⟩ } from ⟨_, _, _, _, h3⟩) ((Stp.made (F := Own o) (HM.out.trans (zT W).drew)).trans hs3))
 have HN2 := zh (show ¬ Own o2 w.heap.size from fun h0 => by
  rcases hs3.f _ h0 with h4 | h4
  ·exact HNR.out h4
  ·exact absurd HO.out.lt (Nat.not_lt.2 h4))
 have q9 := HB2.out.cell 9
 have q10 := HB2.out.cell 10
 have q11 := HB2.out.cell 11
 simp only [zG] at q9 q10 q11
 clear hHeld ha2 hs2 h3 hs3
 have HTL := zh (wtell_c (kind := 1) (who := (i : Int)) (ea := v) (eb := 0) (ec := 0) HXX.out HE.out.1 HEV.out)
 go_wp2_with fail
 refine HTL.out.mono ?_
 rintro e w3 ⟨rfl, o3, h3, hs3⟩
 have q11 := (HB2.out.turns hs3.t HN2.out).cell 11
 simp only [zG] at q11
 have HE2 := zh (And.intro h3 (HE.out.2.trans hs3))
 clear h3 hs3 q9 q10
 go_wp2_with fail
 go_end0
 exact ⟨rfl, o3, HE2.out.1, HE2.out.2⟩
theorem walone_end {CX : World → (Nat → Prop) → Prop} {w : World} {b : Wp} {o : Nat → Nat} {ps : List (List Ins)} {s : Wst} {i j : Nat} {x : Tsk} {pc v : Int} {r : Reg} (hx : Ext CX) (h : WW CX w b o ps s) (hts : s.ts[i]? = some x) (hl : s.ts.length ≤ 64) (hst : x.st = 0) (hev : s.ev.length < 1000) (hj : s.rd[j]? = some (i : Int)) (hfj : ∀ k, k < j → s.rd[k]? ≠ some (i : Int)) (hrl : s.rd.length ≤ 1000) :
  Calls Tryz.prog 49 #[.pointer (some ⟨b.pb, 0, none⟩), .int .i64 i, .agg (outA ⟨pc, r, false, v, true⟩)] w fun e w' => e = .returned (.tuple #[]) ∧ ∃ o', WW CX w' b o' ps { { s with ts := s.ts.set i ⟨x.prog, pc, 2, 0, r, ⟨0, 0, 0, 0⟩⟩, rd := s.rd.eraseIdx j } with ev := s.ev ++ [⟨s.steps, 4, i, 0, 0, 0⟩] } ∧ Stp w w' (Own o) (Own o') := by
 have HXX := zh hx
 have HM := zh ((zT w).alloc (.cells (outA ⟨pc, r, false, v, true⟩) 125))
 have HO := zh (Blk.new w 125 (outA ⟨pc, r, false, v, true⟩))
 obtain ⟨vp, vc, vl, ve, h⟩ := h
 have HNR := zh (show ¬ Own o w.heap.size from fun e => absurd (h.lt _ e) (Nat.lt_irrefl _))
 have HW := zh (h.made hx HM.out)
 have HTS := zh (And.intro hts hst)
 have HEV := zh hev
 have HJ := zh (And.intro hj (And.intro hfj hrl))
 clear h hx hts hst hev hj hfj hrl
 go_enter Tryz.func49, Tryz.ntmps49
 go_wp2_with fail
 generalize w.alloc (.cells (outA ⟨pc, r, false, v, true⟩) 125) = W at *
 have HQ := zh HW.out.blk
 have HNB := zh (show ¬ o b.pb = 3 from by rw [HW.out.ob]; omega)
 have HNR3 := zh (show ¬ o w.heap.size = 3 from fun e => HNR.out (by show o w.heap.size ≠ 0; omega))
 have HWD := zh (HW.out.made HXX.out (zT W).drew)
 have HPT := zh (tabput_c (pc := pc) (r := r) HWD.out.tab HTS.out.1 hl HTS.out.2)
 refine wp_region_held_drew (S := fun w' => Blk w' (b.pb) 65 #[vp, .pointer (some ⟨b.pk, 0, none⟩), .pointer (some ⟨b.pt, 0, none⟩), vc, .int .i64 s.made, .pointer (some ⟨b.pm, 0, none⟩), .pointer (some ⟨b.px, 0, none⟩), .pointer (some ⟨b.pd, 0, none⟩), vl, .int .i64 s.steps, ve] ∧ Blk w' (w.heap.size) 125 (outA ⟨pc, r, false, v, true⟩) ∧ Turns (fun k => o k = 3) W w') (by kernel_rfl) ?_ (fun hHeld => ?_)
 ·exact ⟨HQ.out, HO.out, (Turns.refl _ W).drew⟩
 refine tH 0 6 ?_ ?_ ?_;rotate_left
 ·intro w hSw
  go_simp
  try with_reducible rfl
 try simp only [zP]
 refine tH 1 7 ?_ ?_ ?_;rotate_left
 ·intro w hSw
  go_simp
  try with_reducible rfl
 try simp only [zP]
 refine tH 2 8 ?_ ?_ ?_;rotate_left
 ·intro w hSw
  go_simp
  try with_reducible rfl
 try simp only [zP]
 refine tH 3 9 ?_ ?_ ?_;rotate_left
 ·intro w hSw
  have q0_0 := hSw.1.cell 0
  have q0_1 := hSw.1.cell 1
  have q0_2 := hSw.1.cell 2
  have q0_3 := hSw.1.cell 3
  have q0_4 := hSw.1.cell 4
  have q0_5 := hSw.1.cell 5
  have q0_6 := hSw.1.cell 6
  have q0_7 := hSw.1.cell 7
  have q0_8 := hSw.1.cell 8
  have q0_9 := hSw.1.cell 9
  have q0_10 := hSw.1.cell 10
  have q1_0 := hSw.2.1.cell 0
  simp only [zG] at q0_0 q0_1 q0_2 q0_3 q0_4 q0_5 q0_6 q0_7 q0_8 q0_9 q0_10 q1_0
  go_simp
  try with_reducible rfl
 try simp only [zP]
 refine tH 4 10 ?_ ?_ ?_;rotate_left
 ·intro w hSw
  go_simp
  try with_reducible rfl
 try simp only [zP]
 refine tH 5 11 ?_ ?_ ?_;rotate_left
 ·intro w hSw
  go_simp
  try with_reducible rfl
 try simp only [zP]
 refine tH 6 12 ?_ ?_ ?_;rotate_left
 ·intro w hSw
  have q0_0 := hSw.1.cell 0
  have q0_1 := hSw.1.cell 1
  have q0_2 := hSw.1.cell 2
  have q0_3 := hSw.1.cell 3
  have q0_4 := hSw.1.cell 4
  have q0_5 := hSw.1.cell 5
  have q0_6 := hSw.1.cell 6
  have q0_7 := hSw.1.cell 7
  have q0_8 := hSw.1.cell 8
  have q0_9 := hSw.1.cell 9
  have q0_10 := hSw.1.cell 10
  have q1_0 := hSw.2.1.cell 0
  simp only [zG] at q0_0 q0_1 q0_2 q0_3 q0_4 q0_5 q0_6 q0_7 q0_8 q0_9 q0_10 q1_0
  go_simp
  try with_reducible rfl
 try simp only [zP]
 refine tH 7 13 ?_ ?_ ?_;rotate_left
 ·intro w hSw
  go_simp
  try with_reducible rfl
 try simp only [zP]
 refine tH 8 14 ?_ ?_ ?_;rotate_left
 ·intro w hSw
  refine exec_load_at (P := Tryz.prog) (x := .tmp 13) (n := 1) (cs := [.int .i64 r.r0, .int .i64 r.r1, .int .i64 r.r2, .int .i64 r.r3, .int .i64 r.r4, .int .i64 r.r5, .int .i64 r.r6, .int .i64 r.r7]) ?_ ?_ (fun j v hv => by have hj : j < 8 := (List.getElem?_eq_some_iff.1 hv).1; refine (hSw.2.1.cell (1 + j)).trans ?_; rw [← hv]; rcases lt8 hj with rfl | rfl | rfl | rfl | rfl | rfl | rfl | rfl <;> rfl) Tryz.underlying36 ?_ Tryz.sizeReg <;> rfl
 try simp only [zP]
 refine zR 9 fun K hK => ?_
 go_simp
 refine HPT.out.mono ?_
 rintro e w2 ⟨rfl, F2, ha2, hs2⟩
 refine hK.out _ _ ?_ (fun hHeld => ?_)
 ·exact ⟨hHeld.1.turns hs2.t HNB.out, hHeld.2.1.turns hs2.t HNR3.out, hHeld.2.2.trans hs2.t⟩
 clear hK K
 try simp only [zP]
 refine wpAnyH_done (by kernel_rfl) ?_ _
 obtain ⟨o2, h3, _, hs3⟩ := HWD.out.stepTab HXX.out ha2 hs2
 have HB2 := zh hHeld.2.1
 have HE := zh (And.intro (show WW CX w2 b o2 ps { s with ts := s.ts.set i ⟨x.prog, pc, x.st, x.how, r, x.ins⟩ } from ⟨_, _, _, _, h3⟩) ((Stp.made (F := Own o) (HM.out.trans (zT W).drew)).trans hs3))
 have HN2 := zh (show ¬ Own o2 w.heap.size from fun h0 => by
  rcases hs3.f _ h0 with h4 | h4
  ·exact HNR.out h4
  ·exact absurd HO.out.lt (Nat.not_lt.2 h4))
 have q9 := HB2.out.cell 9
 have q10 := HB2.out.cell 10
 have q11 := HB2.out.cell 11
 simp only [zG] at q9 q10 q11
 clear hHeld ha2 hs2 h3 hs3
 have q2 : w2.cell? ⟨b.pb, 2, none⟩ = some (.pointer (some ⟨b.pt, 0, none⟩)) := by obtain ⟨_, _, _, _, h4⟩ := HE.out.1; exact h4.blk.cell 2
 have HEN := zh (show Calls Tryz.prog 51 #[.pointer (some ⟨b.pt, 0, none⟩), .int .i64 i, .int .i64 0] w2 fun e w' => e = .returned (.int .i64 0) ∧ ∃ o', WW CX w' b o' ps { s with ts := s.ts.set i ⟨x.prog, pc, 2, 0, r, ⟨0, 0, 0, 0⟩⟩, rd := s.rd.eraseIdx j } ∧ Stp w2 w' (Own o2) (Own o') from by
  obtain ⟨vp4, vc4, vl4, ve4, h4⟩ := HE.out.1
  refine (tabend_c (how := 0) (x := ⟨x.prog, pc, x.st, x.how, r, x.ins⟩) h4.tab (by show (s.ts.set i _)[i]? = _; exact List.getElem?_set_self (List.getElem?_eq_some_iff.1 HTS.out.1).1) (by show (s.ts.set i _).length ≤ 64; rw [List.length_set]; exact hl) HTS.out.2 HJ.out.1 HJ.out.2.1 HJ.out.2.2).mono ?_
  rintro e w5 ⟨rfl, F5, hT5, hs5⟩
  obtain ⟨o5, h5, _, hst5⟩ := h4.stepTab HXX.out hT5 hs5
  refine ⟨rfl, o5, ⟨vp4, vc4, vl4, ve4, ?_⟩, hst5⟩
  simpa using h5)
 go_wp2_with fail
 refine HEN.out.mono ?_
 rintro e w3 ⟨rfl, o3, h3, hs3⟩
 have HTL := zh (wtell_c (kind := 4) (who := (i : Int)) (ea := 0) (eb := 0) (ec := 0) HXX.out h3 HEV.out)
 have HZ3 := zh hs3
 clear h3 hs3 q9 q10 q11 q2
 go_wp2_with fail
 refine HTL.out.mono ?_
 rintro e w4 ⟨rfl, o4, h4, hs4⟩
 have HE2 := zh (And.intro h4 ((HE.out.2.trans HZ3.out).trans hs4))
 clear h4 hs4
 go_wp2_with fail
 go_end0
 exact ⟨rfl, o4, HE2.out.1, HE2.out.2⟩
theorem Tryz.infoLk : (Tryz.prog.info? 123).map (fun i => (i.zero, i.size, i.bytes)) = some (some (.agg #[.slice none 0 0, .int .i64 0]), 2, 32) := by kernel_rfl
theorem WW.cell2 {CX : World → (Nat → Prop) → Prop} {w : World} {b : Wp} {o : Nat → Nat} {ps : List (List Ins)} {s : Wst} (h : WW CX w b o ps s) : w.cell? ⟨b.pb, 2, none⟩ = some (.pointer (some ⟨b.pt, 0, none⟩)) := by
 obtain ⟨vp, vc, vl, ve, h⟩ := h
 exact h.blk.cell 2
theorem wrun_none {CX : World → (Nat → Prop) → Prop} {w : World} {b : Wp} {o : Nat → Nat} {ps : List (List Ins)} {s : Wst} {n d : Int} (hx : Ext CX) (h : WW CX w b o ps s) (hrd : s.rd = []) (hrl : s.rd.length ≤ 1000) (hnl : s.nl < 900000) :
  Calls Tryz.prog 26 #[.pointer (some ⟨b.pb, 0, none⟩), .int .i64 n, .int .i64 d] w fun e w' => e = .returned (.tuple #[]) ∧ ∃ o', WW CX w' b o' ps { s with nl := s.nl + 1 } ∧ Stp w w' (Own o) (Own o') := by
 obtain ⟨i0, hi0, hz0, hz1, hz2⟩ := info_parts Tryz.infoLk
 have HXX := zh hx
 have HH := zh h
 have q2 := h.cell2
 have HRL := zh hrl
 have HNL := zh hnl
 have HRD := zh hrd
 have HRY : Hid _ := zh (show Calls Tryz.prog 46 #[.pointer (some ⟨b.pt, 0, none⟩)] w _ from by obtain ⟨vp, vc, vl, ve, h1⟩ := h; exact tabready_c h1.tab hrl)
 clear h hx hrl hnl hrd
 go_enter Tryz.func26, Tryz.ntmps26
 go_wp2_with fail
 refine HRY.out.mono ?_
 rintro e w1 ⟨v1, rfl, hro1, hm1, hrf1⟩
 have HM1 := zh hm1
 have HW1 := zh (HH.out.made HXX.out hm1)
 obtain ⟨a1, c1, rfl⟩ := owns_slice hro1
 have HR1 := zh (And.intro hro1 hrf1)
 have q2 := HW1.out.cell2
 clear hm1 hro1 hrf1
 have HPK : Hid _ := zh (show Calls Tryz.prog 47 #[.pointer (some ⟨b.pt, 0, none⟩), .int .i64 n] w1 _ from by obtain ⟨vp, vc, vl, ve, h1⟩ := HW1.out; have ht := h1.tab; rw [HRD.out] at ht; exact tabpick_none n ht)
 go_wp2_with fail
 refine HPK.out.mono ?_
 rintro e w2 ⟨rfl, rfl⟩
 clear HPK
 obtain ⟨w2, hw2⟩ : ∃ w2, w2 = w1 := ⟨_, rfl⟩
 rw [← hw2]
 rw [← hw2] at HM1 HW1 HR1 q2
 clear hw2 w1
 have HW2 := HW1
 obtain ⟨vp, vc, vl, ve, h2⟩ := HW2.out
 obtain ⟨ls, hl1, hl2⟩ := h2.lrow
 have HL1 := zh hl1
 have q8 : w2.cell? ⟨b.pb, 8, none⟩ = some vl := h2.blk.cell 8
 have HMX := zh ((zT w2).alloc (.cells (lkC ⟨(a1, s.rd.length, c1), (-1)⟩).toArray 123))
 have HBX := zh (Blk.new w2 123 (lkC ⟨(a1, s.rd.length, c1), (-1)⟩).toArray)
 have HOX := zh (hl2.made HMX.out)
 have HA2 := zh h2
 have HLL := zh (show ls.length + 1 ≤ 1000000 from by rw [hl1]; have := HNL.out; omega)
 clear h2 hl1 hl2
 go_wp2_with (at_builtin; refine wpList_push rfl (.tmp 35) (.tmp 38) _ rfl i0 _ 32 Tryz.underlying63 hi0 hz0 hz1 hz2 rfl (by omega) lkC_len lkC_one rfl HOX.out ⟨(a1, s.rd.length, c1), (-1)⟩ rfl HBX.out HLL.out (by omega) ?_; intro v3 w3 hO3 hT3 hV3; have hb3 := (HA2.out.blk.turns HMX.out (fun h => h)).turns hT3 (fun e => by have h9 := (HA2.out.lo _).1 e; rw [HA2.out.ob] at h9; omega); have HR := zh (HA2.out.pushLk HXX.out HL1.out HMX.out hO3 hT3 hV3); obtain ⟨a3, c3, rfl⟩ := owns_slice hO3; have r8 := hb3.cell 8; have f8 := hb3.free 8; simp only [zG] at r8; clear hO3 hT3 hV3 hb3)
 go_returns
 obtain ⟨o', h1, h2⟩ := HR.out
 exact ⟨rfl, o', ⟨_, _, _, _, by simpa using h1⟩, by simpa using (Stp.made (F := Own o) HM1.out).trans h2⟩
def outC (o : LOut) : List Value := [.int .i64 o.pc, .int .i64 o.regs.r0, .int .i64 o.regs.r1, .int .i64 o.regs.r2, .int .i64 o.regs.r3, .int .i64 o.regs.r4, .int .i64 o.regs.r5, .int .i64 o.regs.r6, .int .i64 o.regs.r7, .bool o.told, .int .i64 o.value, .bool o.ended]
theorem outC_one (x : LOut) : ∀ u ∈ outC x, u.oneCell' = true := by
 intro u hu
 simp only [outC, List.mem_cons, List.not_mem_nil, or_false] at hu
 rcases hu with rfl | rfl | rfl | rfl | rfl | rfl | rfl | rfl | rfl | rfl | rfl | rfl <;> rfl
theorem Tryz.sizeOut : (Tryz.prog.info? 125).map (·.size) = some 12 := by kernel_rfl
structure Sel (ps : List (List Ins)) (s : Wst) (n : Int) (j i : Nat) (x : Tsk) (p : List Ins) (pg pc : Nat) : Prop where
 hj : pickZ n s.rd.length = j
 hi : s.rd[j]? = some (i : Int)
 hx : s.ts[i]? = some x
 hp : x.prog = pg
 hps : ps[pg]? = some p
 hpc : x.pc = pc
 st : x.st = 0
 tl : s.ts.length ≤ 64
 pl : ps.length ≤ 16
 il : p.length ≤ 100
theorem wrun_local {CX : World → (Nat → Prop) → Prop} {w : World} {b : Wp} {o : Nat → Nat} {ps : List (List Ins)} {s : Wst} {n d : Int} {j i pg pc : Nat} {x : Tsk} {p : List Ins} {O : LOut} {s' : Wst} (hx : Ext CX) (h : WW CX w b o ps s) (hsl : Sel ps s n j i x p pg pc) (hrl : s.rd.length ≤ 1000) (hnl : s.nl < 900000)
  (hl : ∀ (w1 : World) (a : Option Addr) (ci : Nat), RowIn insC 6 w1 a p.length p → Calls Tryz.prog 48 #[.slice a p.length ci, .int .i64 pc, regV x.regs, .int .i64 s.now] w1 fun e w' => e = .returned (.tuple #[.agg (outA O), .int .i64 0]) ∧ Made w1 w')
  (ha : ∀ (w1 : World) (o1 : Nat → Nat), WW CX w1 b o1 ps { s with nl := s.nl + 1 } → Calls Tryz.prog 49 #[.pointer (some ⟨b.pb, 0, none⟩), .int .i64 i, .agg (outA O)] w1 fun e w' => e = .returned (.tuple #[]) ∧ ∃ o', WW CX w' b o' ps s' ∧ Stp w1 w' (Own o1) (Own o')) :
  Calls Tryz.prog 26 #[.pointer (some ⟨b.pb, 0, none⟩), .int .i64 n, .int .i64 d] w fun e w' => e = .returned (.tuple #[]) ∧ ∃ o', WW CX w' b o' ps s' ∧ Stp w w' (Own o) (Own o') := by
 obtain ⟨i0, hi0, hz0, hz1, hz2⟩ := info_parts Tryz.infoLk
 have HLD := zh hl
 have HAL := zh ha
 clear hl ha
 have HXX := zh hx
 have HH := zh h
 have q2 := h.cell2
 have HRL := zh hrl
 have HNL := zh hnl
 have HSL := zh hsl
 have HRY : Hid _ := zh (show Calls Tryz.prog 46 #[.pointer (some ⟨b.pt, 0, none⟩)] w _ from by obtain ⟨vp, vc, vl, ve, h1⟩ := h; exact tabready_c h1.tab hrl)
 clear h hx hrl hnl hsl
 go_enter Tryz.func26, Tryz.ntmps26
 go_wp2_with fail
 refine HRY.out.mono ?_
 rintro e w1 ⟨v1, rfl, hro1, hm1, hrf1⟩
 have HM1 := zh hm1
 have HW1 := zh (HH.out.made HXX.out hm1)
 obtain ⟨a1, c1, rfl⟩ := owns_slice hro1
 have HR1 := zh (And.intro hro1 hrf1)
 have q2 := HW1.out.cell2
 clear hm1 hro1 hrf1
 have HPK : Hid _ := zh (show Calls Tryz.prog 47 #[.pointer (some ⟨b.pt, 0, none⟩), .int .i64 n] w1 _ from by obtain ⟨vp, vc, vl, ve, h1⟩ := HW1.out; exact tabpick_c n h1.tab HSL.out.hj HSL.out.hi HRL.out)
 go_wp2_with fail
 refine HPK.out.mono ?_
 rintro e w2 ⟨rfl, hm2⟩
 have HW2 := zh (HW1.out.made HXX.out hm2)
 have HM2 := zh (HM1.out.trans hm2)
 have q2 := HW2.out.cell2
 clear hm2
 obtain ⟨vp, vc, vl, ve, h2⟩ := HW2.out
 obtain ⟨ls, hl1, hl2⟩ := h2.lrow
 have HL1 := zh hl1
 have q8 : w2.cell? ⟨b.pb, 8, none⟩ = some vl := h2.blk.cell 8
 have HMX := zh ((zT w2).alloc (.cells (lkC ⟨(a1, s.rd.length, c1), (i : Int)⟩).toArray 123))
 have HBX := zh (Blk.new w2 123 (lkC ⟨(a1, s.rd.length, c1), (i : Int)⟩).toArray)
 have HOX := zh (hl2.made HMX.out)
 have HA2 := zh h2
 have HLL := zh (show ls.length + 1 ≤ 1000000 from by rw [hl1]; have := HNL.out; omega)
 clear h2 hl1 hl2
 go_wp2_with (at_builtin; refine wpList_push rfl (.tmp 46) (.tmp 50) _ rfl i0 _ 32 Tryz.underlying63 hi0 hz0 hz1 hz2 rfl (by omega) lkC_len lkC_one rfl HOX.out ⟨(a1, s.rd.length, c1), (i : Int)⟩ rfl HBX.out HLL.out (by omega) ?_; intro v3 w3 hO3 hT3 hV3; have hb3 := (HA2.out.blk.turns HMX.out (fun h => h)).turns hT3 (fun e => by have h9 := (HA2.out.lo _).1 e; rw [HA2.out.ob] at h9; omega); have HR := zh (HA2.out.pushLk HXX.out HL1.out HMX.out hO3 hT3 hV3); obtain ⟨a3, c3, rfl⟩ := owns_slice hO3; have r8 := hb3.cell 8; have f8 := hb3.free 8; have r2 := hb3.cell 2; simp only [zG] at r8 r2; clear hO3 hT3 hV3 hb3)
 obtain ⟨o3, hw3, hs3⟩ := HR.out
 simp only [List.length_append, List.length_cons, List.length_nil, Nat.zero_add] at hw3 hs3
 have HW3 := zh (show WW CX _ b o3 ps { s with nl := s.nl + 1 } from ⟨_, _, _, _, hw3⟩)
 have HS3 := zh ((Stp.made (F := Own o) HM2.out).trans hs3)
 have HGT := zh (tabget_c hw3.tab HSL.out.hx HSL.out.tl)
 clear hw3 hs3 HR r2 r8 f8 q8 q2
 generalize w3.setCell ⟨b.pb, 8, none⟩ (.slice a3 (ls.length + 1) c3) = W3 at *
 refine HGT.out.mono ?_
 rintro e w4 ⟨rfl, hm4⟩
 have HW4 := zh (HW3.out.made HXX.out hm4)
 have HS4 := zh (HS3.out.then_made hm4)
 have HN4 := zh (show ¬ Own o3 w4.heap.size from fun h0 => absurd (HW4.out.lt _ h0) (Nat.lt_irrefl _))
 clear hm4
 go_upto_region 6 with (first
  | (refine wpList_store_blk (o := ⟨none, .store 38 (.tmp 9) (.tmp 61), _, _, _, _⟩) rfl _ _ _ rfl rfl _ rfl (tskC x) ([.int .i64 0, .int .i64 0, .int .i64 0, .int .i64 0, .int .i64 0, .int .i64 0, .int .i64 0, .int .i64 0, .int .i64 0, .int .i64 0, .int .i64 0, .int .i64 0, .int .i64 0, .int .i64 0, .int .i64 0, .int .i64 0, .slice none 0 0, .bool false]) 38 rfl (Blk.new _ _ _) rfl (tskC_one x) Tryz.sizeTsk ?_; intro w5 hb5 ht5; have HB5 := zh hb5; have HT5 := zh ht5; clear hb5 ht5)
  | fail)
 have HM5 := zh (show Made w4 w5 from ((zT w4).alloc _).then HT5.out (fun b hb e => by omega))
 obtain ⟨vp, vc5, vl5, ve5, hw5⟩ := HW4.out.made HXX.out HM5.out
 obtain ⟨gp, cp, rfl, hog, hgl, hget⟩ := hw5.prs.ex
 obtain ⟨ap, ci, hcp, hrow, hown⟩ := hget pg p HSL.out.hps
 have HW5 := zh (show WW CX w5 b o3 ps { s with nl := s.nl + 1 } from ⟨_, _, _, _, hw5⟩)
 have HRW := zh hrow
 have qz0 : w5.cell? ⟨b.pb, 0, none⟩ = some (.slice (some ⟨gp, 0, none⟩) ps.length cp) := hw5.blk.cell 0
 have y0 : w5.cell? ⟨w4.heap.size, 0, none⟩ = some (.int .i64 x.prog) := HB5.out.cell 0
 rw [HSL.out.hp] at y0
 have hpg : pg < ps.length := (List.getElem?_eq_some_iff.1 HSL.out.hps).1
 have j1 : (0 : Int) ≤ (pg : Int) := by omega
 have j2 : (pg : Int) < (ps.length : Int) := by omega
 have HS5 := zh (HS4.out.then_made HM5.out)
 clear hw5 hog hgl hget hrow hown
 go_quiet (fail)
 go_upto_region 7 with fail
 have HWQ := zh (HW5.out.made HXX.out ((Turns.refl _ w5).drewN nq))
 have HBQ := zh (HB5.out.turns ((zT w5).drewN nq) (fun h => h))
 have HRQ := zh (HRW.out.turns ((zT w5).drewN nq) (fun _ _ _ h => h))
 have HSQ := zh (HS5.out.then_made ((zT w5).drewN nq))
 have HPQ : Hid (w4.heap.size < (w5.drewN nq).heap.size) := zh HB5.out.lt
 clear y0 qz0 hcp HB5 HW5 HRW HS5 HM5
 generalize w5.drewN nq = W at *
 go_cut [12, 13] (fun v12 v13 wx => ∃ gO : Nat, v12 = .pointer (some ⟨gO, 0, none⟩) ∧ v13 = .int .i64 0 ∧ Made W wx ∧ Blk wx gO 125 (outA O) ∧ W.heap.size ≤ gO)
 case first =>
  refine wp_region_held_drew (S := fun w' => Blk w' w4.heap.size 38 (tskC x).toArray ∧ Made W w') (by kernel_rfl) ?_ (fun hHeld => ?_)
  ·exact ⟨HBQ.out, (zT W).drew⟩
  refine tH 0 72 ?_ ?_ ?_;rotate_left
  ·intro w hSw
   go_simp
   try with_reducible rfl
  try simp only [zP]
  refine tH 1 73 ?_ ?_ ?_;rotate_left
  ·intro w hSw
   go_simp
   try with_reducible rfl
  try simp only [zP]
  refine tH 2 74 ?_ ?_ ?_;rotate_left
  ·intro w hSw
   have q0 := hSw.1.cell 1
   simp only [tskC, zG] at q0
   rw [HSL.out.hpc] at q0
   go_simp
   try with_reducible rfl
  try simp only [zP]
  refine tH 3 75 ?_ ?_ ?_;rotate_left
  ·intro w hSw
   go_simp
   try with_reducible rfl
  try simp only [zP]
  refine tH 4 76 ?_ ?_ ?_;rotate_left
  ·intro w hSw
   refine exec_load_at (P := Tryz.prog) (x := .tmp 75) (n := 4) (cs := [.int .i64 x.regs.r0, .int .i64 x.regs.r1, .int .i64 x.regs.r2, .int .i64 x.regs.r3, .int .i64 x.regs.r4, .int .i64 x.regs.r5, .int .i64 x.regs.r6, .int .i64 x.regs.r7]) ?_ ?_ (fun j v hv => by have hj : j < 8 := (List.getElem?_eq_some_iff.1 hv).1; refine (hSw.1.cell (4 + j)).trans ?_; rw [← hv]; rcases lt8 hj with rfl | rfl | rfl | rfl | rfl | rfl | rfl | rfl <;> rfl) Tryz.underlying36 ?_ Tryz.sizeReg <;> rfl
  try simp only [zP]
  refine tH 5 77 ?_ ?_ ?_;rotate_left
  ·intro w hSw
   go_simp
   try with_reducible rfl
  try simp only [zP]
  refine wpAnyH_ready (rs := [6, 11]) (by kernel_rfl) (by simp) ?_
  refine AllReadyH.cons rfl (fun K hK => ?_) ?_
  ·as_aux_lemma =>
    go_simp
    refine (wnow_c (HWQ.out.made HXX.out hHeld.2)).mono ?_
    rintro e wN ⟨rfl, rfl⟩
    refine hK.out _ _ ?_ (fun hHeld => ?_)
    ·exact hHeld
    clear hK K
    try simp only [zP]
    refine wpAnyH_ready (rs := [7, 11]) (by kernel_rfl) (by simp) ?_
    refine AllReadyH.cons rfl (fun K hK => ?_) ?_
    ·as_aux_lemma =>
      go_simp
      refine (HLD.out _ _ _ (HRQ.out.turns hHeld.2 (fun _ _ _ h => h))).mono ?_
      rintro e wG ⟨rfl, hmG⟩
      refine hK.out _ _ ?_ (fun hHeld => ?_)
      ·exact ⟨hHeld.1.turns hmG (fun h => h), hHeld.2.trans hmG⟩
      clear hK K
      try simp only [zP]
      refine tH 8 71 ?_ ?_ ?_;rotate_left
      ·intro w hSw
       go_simp
       try with_reducible rfl
      try simp only [zP]
      refine tH 9 80 ?_ ?_ ?_;rotate_left
      ·intro w hSw
       go_simp
       try with_reducible rfl
      try simp only [zP]
      refine tH 10 81 ?_ ?_ ?_;rotate_left
      ·intro w hSw
       go_simp
       try with_reducible rfl
      try simp only [zP]
      refine zR 11 fun K hK => ?_
      go_simp
      refine hK.out _ _ ?_ (fun hHeld => ?_)
      ·exact ⟨hHeld.1.alloc _, hHeld.2.alloc _⟩
      clear hK K
      try simp only [zP]
      have HZ := Blk.new wG 125 [.int .i64 0, .int .i64 0, .int .i64 0, .int .i64 0, .int .i64 0, .int .i64 0, .int .i64 0, .int .i64 0, .int .i64 0, .bool false, .int .i64 0, .bool false].toArray
      have HG6 : W.heap.size ≤ wG.heap.size := hmG.size
      refine zR 12 fun K hK => ?_
      refine step_store_mid rfl rfl _ _ _ (by rfl) (by rfl) (outC O) [] [.int .i64 0, .int .i64 0, .int .i64 0, .int .i64 0, .int .i64 0, .int .i64 0, .int .i64 0, .int .i64 0, .int .i64 0, .bool false, .int .i64 0, .bool false] [] (by rfl) (t := 125) (show Blk _ _ _ _ from by simpa using HZ) (by rfl) (by rfl) (outC_one _) Tryz.sizeOut ?_
      intro wS hbS htS
      refine hK.out _ _ ?_ (fun hHeld => ?_)
      ·exact ⟨hHeld.1.turns htS (fun e => by have := HPQ.out; omega), hHeld.2.then htS (fun k hk e => by omega)⟩
      clear hK K
      try simp only [zP]
      refine tH 13 13 ?_ ?_ ?_;rotate_left
      ·intro w hSw
       go_simp
       try with_reducible rfl
      try simp only [zP]
      refine wpAnyH_done (by kernel_rfl) ?_ _
      have HS := zh hHeld.2
      have HB6 : Hid (Blk wS _ 125 (outA O)) := zh (by simpa [outC] using hbS)
      have HG7 := zh HG6
      clear hHeld hbS htS HZ HG6
      go_wp2_with fail
      go_meet
      exact ⟨_, rfl, rfl, HS.out, HB6.out, HG7.out⟩
    refine AllReadyH.cons rfl (fun K hK => ?_) ?_
    ·as_aux_lemma =>
      go_simp
      refine hK.out _ _ ?_ (fun hHeld => ?_)
      ·exact ⟨hHeld.1.alloc _, hHeld.2.alloc _⟩
      clear hK K
      try simp only [zP]
      have HZ : Blk (W.drew.alloc (.cells [.int .i64 0, .int .i64 0, .int .i64 0, .int .i64 0, .int .i64 0, .int .i64 0, .int .i64 0, .int .i64 0, .int .i64 0, .bool false, .int .i64 0, .bool false].toArray 125)) W.drew.heap.size 125 [.int .i64 0, .int .i64 0, .int .i64 0, .int .i64 0, .int .i64 0, .int .i64 0, .int .i64 0, .int .i64 0, .int .i64 0, .bool false, .int .i64 0, .bool false].toArray := Blk.new W.drew 125 [.int .i64 0, .int .i64 0, .int .i64 0, .int .i64 0, .int .i64 0, .int .i64 0, .int .i64 0, .int .i64 0, .int .i64 0, .bool false, .int .i64 0, .bool false].toArray
      have HG6 : W.heap.size ≤ W.drew.heap.size := Nat.le_refl _
      refine zR 7 fun K hK => ?_
      go_simp
      refine (HLD.out _ _ _ (HRQ.out.turns hHeld.2 (fun _ _ _ h => h))).mono ?_
      rintro e wG ⟨rfl, hmG⟩
      refine hK.out _ _ ?_ (fun hHeld => ?_)
      ·exact ⟨hHeld.1.turns hmG (fun h => h), hHeld.2.trans hmG⟩
      clear hK K
      try simp only [zP]
      replace HZ := HZ.turns hmG (fun h => h)
      refine tH 8 71 ?_ ?_ ?_;rotate_left
      ·intro w hSw
       go_simp
       try with_reducible rfl
      try simp only [zP]
      refine tH 9 80 ?_ ?_ ?_;rotate_left
      ·intro w hSw
       go_simp
       try with_reducible rfl
      try simp only [zP]
      refine tH 10 81 ?_ ?_ ?_;rotate_left
      ·intro w hSw
       go_simp
       try with_reducible rfl
      try simp only [zP]
      refine zR 12 fun K hK => ?_
      refine step_store_mid rfl rfl _ _ _ (by rfl) (by rfl) (outC O) [] [.int .i64 0, .int .i64 0, .int .i64 0, .int .i64 0, .int .i64 0, .int .i64 0, .int .i64 0, .int .i64 0, .int .i64 0, .bool false, .int .i64 0, .bool false] [] (by rfl) (t := 125) (show Blk _ _ _ _ from by simpa using HZ) (by rfl) (by rfl) (outC_one _) Tryz.sizeOut ?_
      intro wS hbS htS
      refine hK.out _ _ ?_ (fun hHeld => ?_)
      ·exact ⟨hHeld.1.turns htS (fun e => by have := HPQ.out; omega), hHeld.2.then htS (fun k hk e => by omega)⟩
      clear hK K
      try simp only [zP]
      refine tH 13 13 ?_ ?_ ?_;rotate_left
      ·intro w hSw
       go_simp
       try with_reducible rfl
      try simp only [zP]
      refine wpAnyH_done (by kernel_rfl) ?_ _
      have HS := zh hHeld.2
      have HB6 : Hid (Blk wS _ 125 (outA O)) := zh (by simpa [outC] using hbS)
      have HG7 := zh HG6
      clear hHeld hbS htS HZ HG6
      go_wp2_with fail
      go_meet
      exact ⟨_, rfl, rfl, HS.out, HB6.out, HG7.out⟩
    exact AllReadyH.nil
  refine AllReadyH.cons rfl (fun K hK => ?_) ?_
  ·as_aux_lemma =>
    go_simp
    refine hK.out _ _ ?_ (fun hHeld => ?_)
    ·exact ⟨hHeld.1.alloc _, hHeld.2.alloc _⟩
    clear hK K
    try simp only [zP]
    have HZ : Blk (W.drew.alloc (.cells [.int .i64 0, .int .i64 0, .int .i64 0, .int .i64 0, .int .i64 0, .int .i64 0, .int .i64 0, .int .i64 0, .int .i64 0, .bool false, .int .i64 0, .bool false].toArray 125)) W.drew.heap.size 125 [.int .i64 0, .int .i64 0, .int .i64 0, .int .i64 0, .int .i64 0, .int .i64 0, .int .i64 0, .int .i64 0, .int .i64 0, .bool false, .int .i64 0, .bool false].toArray := Blk.new W.drew 125 [.int .i64 0, .int .i64 0, .int .i64 0, .int .i64 0, .int .i64 0, .int .i64 0, .int .i64 0, .int .i64 0, .int .i64 0, .bool false, .int .i64 0, .bool false].toArray
    have HG6 : W.heap.size ≤ W.drew.heap.size := Nat.le_refl _
    refine zR 6 fun K hK => ?_
    go_simp
    refine (wnow_c (HWQ.out.made HXX.out hHeld.2)).mono ?_
    rintro e wN ⟨rfl, rfl⟩
    refine hK.out _ _ ?_ (fun hHeld => ?_)
    ·exact hHeld
    clear hK K
    try simp only [zP]
    refine zR 7 fun K hK => ?_
    go_simp
    refine (HLD.out _ _ _ (HRQ.out.turns hHeld.2 (fun _ _ _ h => h))).mono ?_
    rintro e wG ⟨rfl, hmG⟩
    refine hK.out _ _ ?_ (fun hHeld => ?_)
    ·exact ⟨hHeld.1.turns hmG (fun h => h), hHeld.2.trans hmG⟩
    clear hK K
    try simp only [zP]
    replace HZ := HZ.turns hmG (fun h => h)
    refine tH 8 71 ?_ ?_ ?_;rotate_left
    ·intro w hSw
     go_simp
     try with_reducible rfl
    try simp only [zP]
    refine tH 9 80 ?_ ?_ ?_;rotate_left
    ·intro w hSw
     go_simp
     try with_reducible rfl
    try simp only [zP]
    refine tH 10 81 ?_ ?_ ?_;rotate_left
    ·intro w hSw
     go_simp
     try with_reducible rfl
    try simp only [zP]
    refine zR 12 fun K hK => ?_
    refine step_store_mid rfl rfl _ _ _ (by rfl) (by rfl) (outC O) [] [.int .i64 0, .int .i64 0, .int .i64 0, .int .i64 0, .int .i64 0, .int .i64 0, .int .i64 0, .int .i64 0, .int .i64 0, .bool false, .int .i64 0, .bool false] [] (by rfl) (t := 125) (show Blk _ _ _ _ from by simpa using HZ) (by rfl) (by rfl) (outC_one _) Tryz.sizeOut ?_
    intro wS hbS htS
    refine hK.out _ _ ?_ (fun hHeld => ?_)
    ·exact ⟨hHeld.1.turns htS (fun e => by have := HPQ.out; omega), hHeld.2.then htS (fun k hk e => by omega)⟩
    clear hK K
    try simp only [zP]
    refine tH 13 13 ?_ ?_ ?_;rotate_left
    ·intro w hSw
     go_simp
     try with_reducible rfl
    try simp only [zP]
    refine wpAnyH_done (by kernel_rfl) ?_ _
    have HS := zh hHeld.2
    have HB6 : Hid (Blk wS _ 125 (outA O)) := zh (by simpa [outC] using hbS)
    have HG7 := zh HG6
    clear hHeld hbS htS HZ HG6
    go_wp2_with fail
    go_meet
    exact ⟨_, rfl, rfl, HS.out, HB6.out, HG7.out⟩
  exact AllReadyH.nil
 case rest =>
  obtain ⟨gO, rfl, rfl, hmC, hbO, hgO⟩ := hcut
  have HWC := zh (HWQ.out.made HXX.out hmC)
  have HSC := zh (HSQ.out.then_made hmC)
  have HCO := zh (blk_cells (cs := outC O) (show Blk _ _ _ (outC O).toArray from hbO))
  clear hmC hbO hgO
  go_wp2_with (first
   | (refine wpList_load_at (o := ⟨some 86, .load 125 (.tmp 12), _, _, _, _⟩) rfl _ _ rfl _ 0 rfl (outC O) _ HCO.out Tryz.underlying125 rfl Tryz.sizeOut ?_)
   | fail)
  refine (HAL.out _ _ HWC.out).mono ?_
  rintro e w6 ⟨rfl, o6, hw6, hs6⟩
  have HE := zh (And.intro hw6 (HSC.out.trans hs6))
  clear hw6 hs6
  go_wp2_with fail
  go_returns
  exact ⟨rfl, o6, HE.out.1, HE.out.2⟩
def offS (s : Wst) (i : Nat) : List Int := s.rd.eraseIdx (s.rd.idxOf (i : Int))
def parkS (s : Wst) (i : Nat) (x : Tsk) (ins : Ins) : Wst := { s with ts := s.ts.set i ⟨x.prog, x.pc, 1, x.how, x.regs, ins⟩, rd := offS s i, ev := s.ev ++ [⟨s.steps, 2, i, 0, 0, 0⟩] }
def putS (s : Wst) (i : Nat) (x : Tsk) (r : Reg) : Wst := { s with ts := s.ts.set i ⟨x.prog, x.pc + 1, x.st, x.how, r, x.ins⟩ }
def finS (s : Wst) (i : Nat) (x : Tsk) (x2 : Ac) : Wst := match x2.parks with
 | true => parkS s i x x2.i
 | false => putS s i x x2.regs
theorem lt6 {i : Nat} (h : i < 6) : i = 0 ∨ i = 1 ∨ i = 2 ∨ i = 3 ∨ i = 4 ∨ i = 5 := by omega
structure FinOK (s : Wst) (i : Nat) (x : Tsk) (x2 : Ac) : Prop where
 how : x2.how = 0
 ts : s.ts[i]? = some x
 tl : s.ts.length ≤ 64
 ev : s.ev.length < 1000
 rl : s.rd.length ≤ 1000
 rd : s.rd[s.rd.idxOf (i : Int)]? = some (i : Int) ∧ ∀ k, k < s.rd.idxOf (i : Int) → s.rd[k]? ≠ some (i : Int)
 pk : x2.parks = true → x2.i.op = 11 ∧ GoodC x2.i 1
theorem acstop_1 {CX : World → (Nat → Prop) → Prop} {w : World} {b : Wp} {o : Nat → Nat} {ps : List (List Ins)} {s : Wst} {g a bb cc i cp ci : Nat} {x : Ac} {c : Chn} {kd dt : Int} {sg cl rm : Bool} {l : List Wt} {v : Int} (hx : Ext CX) (h : WW CX w b o ps s) (hb : Blk w g 131 (acA b.pb x)) (hg : ¬ Own o g) (hop : x.i.op = 20) (hxa : x.i.a = a) (hxb : x.i.b = bb) (ha : a < 8) (hbb : bb < 8) (hi : x.was.get a = i) (htm : s.tms[i]? = some ⟨1, dt, some cp⟩) (hch : s.chs[ci]? = some (cp, ⟨true, sg, cl, rm, some v, l⟩)) (htl : s.tms.length ≤ 1000) (hsq : s.sq ≤ 1000000) :
  Calls Tryz.prog 81 #[.pointer (some ⟨g, 0, none⟩)] w fun e w' => e = .returned (.tuple #[]) ∧ ∃ o', WW CX w' b o' ps { s with L := delL i s.L, chs := s.chs.set ci (cp, ⟨true, sg, cl, rm, none, l⟩) } ∧ AStp w w' o o' g ∧ Blk w' g 131 (acA b.pb { x with regs := x.regs.set bb 1 }) := by
 have HB := zh hb
 have HXX := zh hx
 have HLT := zh hbb
 have HX := zh (And.intro hxa (And.intro hxb (And.intro hop hi)))
 have HG := zh hg
 have HGL := zh hb.lt
 have HLA := zh ha
 have HT := zh (And.intro htm (And.intro hch (And.intro htl hsq)))
 have HW := zh h
 have jb1 : (0 : Int) ≤ (bb : Int) := by omega
 have jb2 : (bb : Int) < 8 := by omega
 have q0 : w.cell? ⟨g, 0, none⟩ = some (.pointer (some ⟨b.pb, 0, none⟩)) := hb.cell 0
 have q5 := h.cell5
 have HA1 := zh (aca_c hb hxa ha)
 have HBT := zh (fun ww => (show Calls Tryz.prog 117 #[.bool true] ww (fun e w' => e = .returned (.int .i64 1) ∧ ww = w') from bit_c true ww))
 clear h hb hx hxa hxb hg hop htm hch htl hsq hi
 go_enter Tryz.func81, Tryz.ntmps81
 go_wp2_with fail
 refine HA1.out.mono ?_
 rintro e w1 ⟨rfl, hm1⟩
 have HM1 := zh hm1
 have HB1 := zh (HB.out.turns hm1 (fun h => h))
 obtain ⟨vp, vc, vl, ve, hw1⟩ := HW.out.made HXX.out hm1
 have HW1 := zh hw1
 have HKD := zh (tskind_c hw1.tms HT.out.1 HT.out.2.2.1)
 rw [HX.out.2.2.2]
 clear hm1 hw1 q0 q5
 go_wp2_with fail
 refine HKD.out.mono ?_
 rintro e w2 ⟨rfl, rfl⟩
 have q2 : w1.cell? ⟨g, 2, none⟩ = some (.int .i64 x.i.op) := HB1.out.cell 2
 rw [HX.out.2.2.1] at q2
 have HA2 := zh (aca_c HB1.out HX.out.1 HLA.out)
 go_wp2_with fail
 refine HA2.out.mono ?_
 rintro e w3 ⟨rfl, hm3⟩
 have HM3 := zh (HM1.out.trans hm3)
 have HB3 := zh (HB1.out.turns hm3 (fun h => h))
 have hw3 := HW1.out.made HXX.out hm3
 have HW3 := zh hw3
 have HST := zh (tsstop_1 hw3.tms HT.out.1 (hw3.chn cp _ (List.mem_of_getElem? HT.out.2.1)) (fun k hk h4 => by have h5 : o k = 16 + cp := hk; have h6 : o k = 4 := h4; omega) HT.out.2.2.1 HT.out.2.2.2)
 rw [HX.out.2.2.2]
 clear hm3 hw3 q2
 go_wp2_with fail
 refine HST.out.mono ?_
 rintro e w4 ⟨rfl, hT, hC, ht⟩
 obtain ⟨o4, h4, _, _, hs4, _⟩ := HW3.out.stepTC HXX.out HT.out.2.1 hT hC ht (fun k hk => .inl hk) (fun k hk => .inl hk) (fun k hk h4 => by have h5 : o k = 16 + cp := hk; have h6 : o k = 4 := h4; omega)
 have HW4 := zh h4
 have HS4 := zh ((Stp.made (F := Own o) HM3.out).trans hs4)
 have HB4 := zh (HB3.out.turns hs4.t HG.out)
 clear hT hC ht h4 hs4
 go_upto_region 10 with fail
 refine wp_region_held_drew (S := fun w' => Low w' g b.pb (x) ∧ (w' = w4.drew ∨ True)) (by kernel_rfl) ?_ (fun hHeld => ?_)
 ·exact ⟨low_of (HB4.out), .inr trivial⟩
 refine tH 0 73 ?_ ?_ ?_;rotate_left
 ·intro w hSw
  go_simp
  try with_reducible rfl
 try simp only [zP]
 refine tH 1 74 ?_ ?_ ?_;rotate_left
 ·intro w hSw
  go_simp
  try with_reducible rfl
 try simp only [zP]
 refine tH 2 75 ?_ ?_ ?_;rotate_left
 ·intro w hSw
  go_simp
  try with_reducible rfl
 try simp only [zP]
 refine tH 3 76 ?_ ?_ ?_;rotate_left
 ·intro w hSw
  go_simp
  try with_reducible rfl
 try simp only [zP]
 refine tH 4 77 ?_ ?_ ?_;rotate_left
 ·intro w hSw
  go_simp
  try with_reducible rfl
 try simp only [zP]
 refine tH 5 78 ?_ ?_ ?_;rotate_left
 ·intro w hSw
  have q3 : w.cell? ⟨g, 4, none⟩ = some (.int .i64 (x.i.b)) := hSw.1 4 (by omega)
  rw [HX.out.2.1] at q3
  go_simp
  try with_reducible rfl
 try simp only [zP]
 refine tH 6 79 ?_ ?_ ?_;rotate_left
 ·intro w hSw
  go_simp
  try with_reducible rfl
 try simp only [zP]
 refine tH 8 81 ?_ ?_ ?_;rotate_left
 ·intro w hSw
  go_simp
  try with_reducible rfl
 try simp only [zP]
 refine tH 9 82 ?_ ?_ ?_;rotate_left
 ·intro w hSw
  go_simp
  try with_reducible rfl
 try simp only [zP]
 refine zR 7 fun K hK => ?_
 go_simp
 refine (HBT.out _).mono ?_
 rintro e w9 ⟨rfl, rfl⟩
 refine hK.out _ _ ?_ (fun hHeld => ?_)
 ·exact hHeld
 clear hK K
 try simp only [zP]
 refine tH 10 83 ?_ ?_ ?_;rotate_left
 ·intro w hSw
  go_simp
  try with_reducible rfl
 try simp only [zP]
 refine zR 11 fun K hK => ?_
 have qz0 := (HB4.out).cell (16 + bb)
 rw [ac_reg _ _ HLT.out] at qz0
 have qz1 : w4.drew.cell? ⟨g, 16 + bb, none⟩ = _ := qz0
 have qf := (HB4.out).free (16 + bb)
 have qf1 : w4.drew.frozen? ⟨g, 16 + bb, none⟩ = false := qf
 go_simp
 refine hK.out _ _ ?_ (fun hHeld => ?_)
 ·exact ⟨low_regs (r := (x).regs.set bb (1)) (low_of (by have hb4 := (show Blk w4.drew g 131 _ from HB4.out).put (16 + bb) (.int .i64 (1)); rw [ac_set _ _ _ HLT.out] at hb4; exact hb4)), .inr trivial⟩
 clear hK K
 try simp only [zP]
 refine wpAnyH_done (by kernel_rfl) ?_ _
 have hb4 := (show Blk w4.drew g 131 _ from HB4.out).put (16 + bb) (.int .i64 (1))
 have ht4 : Turns (fun k => k = g) w4 (w4.drew.setCell ⟨g, 16 + bb, none⟩ (.int .i64 (1))) := ((Turns.refl (fun k => k = g) w4).drew).setCell (p := ⟨g, 16 + bb, none⟩) (fun _ => rfl) _
 rw [ac_set _ _ _ HLT.out] at hb4
 have HE := zh (And.intro hb4 ht4)
 clear hb4 ht4 hHeld
 go_wp2_with fail
 go_end0
 exact ⟨rfl, o4, (show WW CX w4 b o4 ps _ from ⟨_, _, _, _, HW4.out⟩).turns HXX.out HE.out.2 (fun k hk e => (AStp.of g HS4.out).no HG.out HGL.out (by rw [← show k = g from e]; exact hk)), (AStp.of g HS4.out).set HE.out.2, HE.out.1⟩
abbrev wtA (x : Wt) : Array Value := #[.int .i64 x.task, .int .i64 x.kase, .int .i64 x.val]
theorem endf_c {w : World} {g : Nat} {x : Wk} {t : Wt} (hg : Blk w g 245 (wtA t)) (hne : x.task ≠ t.task) :
  Calls Tryz.prog 207 #[.agg #[.int .i64 x.task, .int .i64 x.kase, .int .i64 x.val, .bool x.ok, .bool x.panic], .pointer (some ⟨g, 0, none⟩)] w fun e w' => e = .returned (.bool false) ∧ Made w w' := by
 have hm := (zT w).alloc (.cells #[.int .i64 x.task, .int .i64 x.kase, .int .i64 x.val, .bool x.ok, .bool x.panic] 207)
 have q0 : (w.alloc (.cells #[.int .i64 x.task, .int .i64 x.kase, .int .i64 x.val, .bool x.ok, .bool x.panic] 207)).cell? ⟨g, 0, none⟩ = some (.int .i64 t.task) := (hg.turns hm (fun h => h)).cell 0
 have b0 : (x.task == t.task) = false := by simpa using hne
 have HM := zh hm
 clear hg hne hm
 go_enter Tryz.func207, Tryz.ntmps207
 go_wp2_with fail
 go_ret
 exact ⟨by first | rfl | simp [b0], HM.out⟩
theorem idx_end {a : Option Addr} {xs : List Wk} {len cap g : Nat} {t : Wt} (w : World) (hg : Blk w g 245 (wtA t)) (hgood : ∀ x ∈ xs, x.task ≠ t.task) (h : RowIn wkC 5 w a len xs) (hl : len ≤ 1000) :
  Calls Tryz.prog 214 #[.slice a len cap, .func (.func 207) #[] #[.pointer (some ⟨g, 0, none⟩)]] w fun e w' => e = .returned (.int .i64 (-1)) ∧ Made w w' := by
 obtain ⟨hlen, hrow⟩ := h
 subst hlen
 have HGD := zh hgood
 have HG := zh hg
 have HR := zh hrow
 clear hgood hg hrow
 go_enter Tryz.func214, Tryz.ntmps214
 go_wp2_with fail
 go_loopw [8] (fun v8 wr => ∃ k : Nat, k ≤ xs.length ∧ v8 = .int .i64 k ∧ Made w wr) (fun v8 _ => xs.length - (intOf v8).toNat)
 case atStart => exact ⟨0, Nat.zero_le _, rfl, Turns.refl _ _⟩
 case round =>
  obtain ⟨k, hk, rfl, hmade⟩ := hrel
  by_cases hlt : k < xs.length
  ·rcases HR.out with h0 | ⟨b, off, rfl, hb, hlies⟩
   ·omega
   obtain ⟨x, hx⟩ := get_of_lt (xs := xs) (k := k) hlt
   have hl1 : Lies wkC 5 wr b off xs := hlies.keep fun o => hmade.cell (p := ⟨b, o, none⟩) hb (fun h => h)
   have c0 : wr.cell? ⟨b, off + k * 5, none⟩ = some (.int .i64 x.task) := hl1 k x hx 0 _ rfl
   have c1 : wr.cell? ⟨b, off + k * 5 + 1, none⟩ = some (.int .i64 x.kase) := hl1 k x hx 1 _ rfl
   have c2 : wr.cell? ⟨b, off + k * 5 + 2, none⟩ = some (.int .i64 x.val) := hl1 k x hx 2 _ rfl
   have c3 : wr.cell? ⟨b, off + k * 5 + 3, none⟩ = some (.bool x.ok) := hl1 k x hx 3 _ rfl
   have c4 : wr.cell? ⟨b, off + k * 5 + 4, none⟩ = some (.bool x.panic) := hl1 k x hx 4 _ rfl
   have HC := zh (endf_c (x := x) (HG.out.turns hmade (fun h => h)) (HGD.out x (List.mem_of_getElem? hx)))
   have HM := zh hmade
   clear hl1 hlies hx hmade
   go_wp2_with fail
   refine HC.out.mono ?_
   rintro e w2 ⟨rfl, hm⟩
   have HM2 := zh (HM.out.trans hm)
   clear hm c0 c1 c2 c3 c4
   go_wp2_with fail
   go_roundw
   case rel => exact ⟨k + 1, by omega, by go_num, HM2.out⟩
   case measure => simp [intOf]; omega
  ·have HM := zh hmade
   clear hmade
   go_wp2_with fail
   go_ret
   exact ⟨rfl, HM.out⟩
theorem any_end {a : Option Addr} {xs : List Wk} {len cap g : Nat} {t : Wt} (w : World) (hg : Blk w g 245 (wtA t)) (hgood : ∀ x ∈ xs, x.task ≠ t.task) (h : RowIn wkC 5 w a len xs) (hl : len ≤ 1000) :
  Calls Tryz.prog 206 #[.slice a len cap, .func (.func 207) #[] #[.pointer (some ⟨g, 0, none⟩)]] w fun e w' => e = .returned (.bool false) ∧ Made w w' := by
 have H := zh (idx_end (cap := cap) w hg hgood h hl)
 clear hg hgood h
 go_enter Tryz.func206, Tryz.ntmps206
 go_wp2_with fail
 refine H.out.mono ?_
 rintro e w1 ⟨rfl, hm⟩
 have HM := zh hm
 clear hm
 go_wp2_with fail
 go_ret
 exact ⟨rfl, HM.out⟩
theorem Tryz.infoWk : (Tryz.prog.info? 207).map (fun i => (i.zero, i.size, i.bytes)) = some (some (.agg #[.int .i64 0, .int .i64 0, .int .i64 0, .bool false, .bool false]), 5, 32) := by kernel_rfl
theorem Tryz.infoQu : (Tryz.prog.info? 287).map (fun i => (i.zero, i.size, i.bytes)) = some (some (.agg #[.pointer none, .pointer none, .int .i64 0]), 3, 24) := by kernel_rfl
theorem wkC_len (x : Wk) : (wkC x).length = 5 := rfl
theorem wkC_one (x : Wk) : ∀ u ∈ wkC x, u.oneCell' = true := by
 intro u hu
 simp only [wkC, List.mem_cons, List.not_mem_nil, or_false] at hu
 rcases hu with rfl | rfl | rfl | rfl | rfl <;> rfl
theorem fillWk {i : TypeInfo} (h : i.size = 5) (a b c d e : Value) : Instr.fill (fun k => some (k * i.size, i.size)) ((Array.range (1 * i.size)).map ((Value.agg #[.int .i64 0, .int .i64 0, .int .i64 0, .bool false, .bool false]).cells[· % (Value.agg #[.int .i64 0, .int .i64 0, .int .i64 0, .bool false, .bool false]).cells.size]!)) [(0, .agg #[a, b, c, d, e])] = some #[a, b, c, d, e] := by
 rw [h]
 first | kernel_rfl | simp [Instr.fill]
def clW (x : Wt) : Wk := ⟨x.task, x.kase, 0, false, false⟩
theorem chpop_any {w : World} {p r q1 q2 : Nat} {lb : Nat → Nat} {F : Nat → Prop} {t s cl rm : Bool} {v : Option Int} {l : List Wt} (h : ChIn w p r q1 q2 lb ⟨t, s, cl, rm, v, l⟩) (hl : Lab w lb F) (hn : l.length ≤ 1000) :
  Calls Tryz.prog 154 #[.pointer (some ⟨q1, 0, none⟩)] w fun e w' => ∃ cur ok lb' F', e = .returned (.tuple #[.agg (wtA cur), .bool ok]) ∧ ok = !l.isEmpty ∧ (∀ x rest, l = x :: rest → cur = x) ∧ ChIn w' p r q1 q2 lb' ⟨t, s, cl, rm, v, l.tail⟩ ∧ Lab w' lb' F' ∧ Stp w w' F F' := by
 cases l with
 | nil =>
  refine (wpop_nil h.qr).mono ?_
  rintro e w' ⟨rfl, hm⟩
  exact ⟨⟨0, 0, 0⟩, false, lb, F, rfl, rfl, fun x rest e => (by cases e), h.made hm, hl.turns hm, Stp.made hm⟩
 | cons x l =>
  refine (wpop_c h.qr (by simp only [List.length_cons] at hn; omega)).mono ?_
  rintro e w' ⟨rfl, F', hq, hs⟩
  obtain ⟨lb', FF, h1, h2, h3⟩ := h.setQr hl hq hs
  exact ⟨x, true, lb', FF, rfl, rfl, fun y rest e => (by cases e; rfl), h1, h2, h3⟩
def EndR (w : World) (F : Nat → Prop) (p r q1 q2 : Nat) (t s rm : Bool) (v : Option Int) (l : List Wt) (gq : Nat) (k : Nat) (v2 : Value) (g5 : Nat) (ok : Bool) (wr : World) : Prop :=
 ∃ dn rem cur lb' F', l = dn ++ rem ∧ k = rem.length ∧ ok = !rem.isEmpty ∧ (∀ x rest, rem = x :: rest → cur = x) ∧ ChIn wr p r q1 q2 lb' ⟨t, s, true, rm, v, rem.tail⟩ ∧ Lab wr lb' F' ∧ Stp w wr F F' ∧ Owns wkC 207 5 wr v2 (dn.map clW) ∧ (∀ j, v2.ownBlock = some j → w.heap.size ≤ j ∧ ¬ F' j ∧ j ≠ gq ∧ j ≠ g5) ∧ Blk wr g5 245 (wtA cur) ∧ w.heap.size ≤ g5 ∧ ¬ F' g5 ∧ g5 ≠ gq ∧ Blk wr gq 192 #[.pointer (some ⟨q1, 0, none⟩), .pointer (some ⟨q2, 0, none⟩)] ∧ w.heap.size ≤ gq ∧ ¬ F' gq
theorem chend_c {w : World} {p : Nat} {F : Nat → Prop} {t s rm : Bool} {v : Option Int} {l : List Wt} (h : ChAt w p F ⟨t, s, false, rm, v, l⟩) (hnd : (l.map Wt.task).Nodup) (hn : l.length ≤ 900) :
  Calls Tryz.prog 191 #[.pointer (some ⟨p, 0, none⟩)] w fun e w' => ∃ a F' cap, e = .returned (.slice a l.length cap) ∧ WkRow w w' F' a (l.map clW) ∧ ChAt w' p F' ⟨t, s, true, rm, v, []⟩ ∧ Stp w w' F F' := by
 obtain ⟨r, q1, q2, lb, h, hl⟩ := h
 obtain ⟨i0, hi0, hz0, hz1, hz2⟩ := info_parts Tryz.infoWk
 have q5 := h.blk.cell 5
 have f5 := h.blk.free 5
 simp only [zG] at q5
 have hb5 := h.blk.put 5 (.bool true)
 simp only [List.setIfInBounds_toArray, List.set_cons_zero, List.set_cons_succ] at hb5
 have h5 : ChIn (w.setCell ⟨p, 5, none⟩ (.bool true)) p r q1 q2 lb ⟨t, s, true, rm, v, l⟩ := ⟨hb5, h.lp, h.ring.turns (set1 w p 5 _) (fun k hk e => by have := h.lp; rw [← e] at this; omega), h.qr.turns (set1 w p 5 _) (fun k hk e => by have := h.lp; rw [← e] at this; omega), h.qs.turns (set1 w p 5 _) (fun k hk e => by have := h.lp; rw [← e] at this; omega)⟩
 have hst5 : Stp w (w.setCell ⟨p, 5, none⟩ (.bool true)) F F := ⟨(set1 w p 5 _).mono (fun k _ e => (hl.on k).2 (by rw [e, h.lp]; omega)), fun k hk => .inl hk⟩
 have hl5 : Lab (w.setCell ⟨p, 5, none⟩ (.bool true)) lb F := hl.turns (set1 w p 5 (.bool true))
 have HC5 := zh h5
 have HL5 := zh hl5
 have HS5 := zh hst5
 have HND := zh (And.intro hnd hn)
 have HFB := zh (show ∀ k, F k → k < w.heap.size from fun k hk => hl.lt k ((hl.on k).1 hk))
 have hqq : q1 ≠ q2 := fun e => by
  obtain ⟨_, _, hq1⟩ := h.qr
  obtain ⟨_, _, hq2⟩ := h.qs
  have h1 : lb q1 = 3 := (hq1 q1).2 (.inl rfl)
  have h2 : lb q2 = 4 := (hq2 q2).2 (.inl rfl)
  rw [e] at h1; omega
 have HQQ := zh hqq
 clear h hl h5 hl5 hst5 hb5 hnd hn hqq
 go_enter Tryz.func191, Tryz.ntmps191
 go_upto_region 2 with fail
 clear q5 f5
 have HW5 : Hid (w.heap.size ≤ (w.setCell ⟨p, 5, none⟩ (.bool true)).heap.size) := zh HS5.out.t.size
 generalize w.setCell ⟨p, 5, none⟩ (.bool true) = W at *
 refine wp_region_held_drew (S := fun w' => Blk w' (p) 194 #[.pointer (some ⟨r, 0, none⟩), .pointer (some ⟨q1, 0, none⟩), .pointer (some ⟨q2, 0, none⟩), .bool t, .bool s, .bool true] ∧ (w' = W.drew ∨ True)) (by kernel_rfl) ?_ (fun hHeld => ?_)
 ·exact ⟨HC5.out.blk, .inr trivial⟩
 refine tH 0 10 ?_ ?_ ?_;rotate_left
 ·intro w hSw
  go_simp
  try with_reducible rfl
 try simp only [zP]
 refine tH 1 11 ?_ ?_ ?_;rotate_left
 ·intro w hSw
  go_simp
  try with_reducible rfl
 try simp only [zP]
 refine tH 2 12 ?_ ?_ ?_;rotate_left
 ·intro w hSw
  go_simp
  try with_reducible rfl
 try simp only [zP]
 refine tH 3 13 ?_ ?_ ?_;rotate_left
 ·intro w hSw
  have q0_0 := hSw.1.cell 0
  have q0_1 := hSw.1.cell 1
  have q0_2 := hSw.1.cell 2
  have q0_3 := hSw.1.cell 3
  have q0_4 := hSw.1.cell 4
  have q0_5 := hSw.1.cell 5
  simp only [zG] at q0_0 q0_1 q0_2 q0_3 q0_4 q0_5
  go_simp
  try with_reducible rfl
 try simp only [zP]
 refine tH 4 14 ?_ ?_ ?_;rotate_left
 ·intro w hSw
  go_simp
  try with_reducible rfl
 try simp only [zP]
 refine tH 5 15 ?_ ?_ ?_;rotate_left
 ·intro w hSw
  go_simp
  try with_reducible rfl
 try simp only [zP]
 refine tH 6 16 ?_ ?_ ?_;rotate_left
 ·intro w hSw
  go_simp
  try with_reducible rfl
 try simp only [zP]
 refine tH 7 17 ?_ ?_ ?_;rotate_left
 ·intro w hSw
  have q0_0 := hSw.1.cell 0
  have q0_1 := hSw.1.cell 1
  have q0_2 := hSw.1.cell 2
  have q0_3 := hSw.1.cell 3
  have q0_4 := hSw.1.cell 4
  have q0_5 := hSw.1.cell 5
  simp only [zG] at q0_0 q0_1 q0_2 q0_3 q0_4 q0_5
  go_simp
  try with_reducible rfl
 try simp only [zP]
 refine tH 10 20 ?_ ?_ ?_;rotate_left
 ·intro w hSw
  go_simp
  try with_reducible rfl
 try simp only [zP]
 refine zR 8 fun K hK => ?_
 go_simp
 refine hK.out _ _ ?_ (fun hHeld => ?_)
 ·exact ⟨hHeld.1.alloc _, .inr trivial⟩
 clear hK K
 try simp only [zP]
 refine tH 9 19 ?_ ?_ ?_;rotate_left
 ·intro w hSw
  go_simp
  try with_reducible rfl
 try simp only [zP]
 refine wpAnyH_done (by kernel_rfl) ?_ _
 clear hHeld
 go_wp2_with fail
 have HGB : Hid (Blk (W.alloc (.cells #[.pointer (some ⟨q1, 0, none⟩), .pointer (some ⟨q2, 0, none⟩)] 192)).drew W.heap.size 192 #[.pointer (some ⟨q1, 0, none⟩), .pointer (some ⟨q2, 0, none⟩)]) := zh (Blk.new W _ _)
 have HMG := zh (((zT W).alloc (.cells #[.pointer (some ⟨q1, 0, none⟩), .pointer (some ⟨q2, 0, none⟩)] 192)).drew)
 generalize (W.alloc (.cells #[.pointer (some ⟨q1, 0, none⟩), .pointer (some ⟨q2, 0, none⟩)] 192)).drew = W2 at *
 have hg0 := HGB.out.cell 0
 have hg1 := HGB.out.cell 1
 simp only [zG] at hg0 hg1
 have HC2 := zh (HC5.out.made HMG.out)
 have HL2 := zh (HL5.out.turns HMG.out)
 have HS2 := zh (HS5.out.then_made HMG.out)
 have HP1 := zh (chpop_any HC2.out HL2.out (by show l.length ≤ 1000; have := HND.out.2; omega))
 refine wp_loop_rounds 3 ?_
 rw [rounds_succ]
 go_wp2_with fail
 refine HP1.out.mono ?_
 rintro e w3 ⟨cur, ok, lb3, F3, rfl, hok, hcur, hc3, hl3, hs3⟩
 have HOK := zh hok
 have hm3 := (zT w3).alloc (.cells (wtA cur) 245)
 have hfb2 : ∀ k, F k → k < w.heap.size := HFB.out
 have HR0 : Hid (EndR w F p r q1 q2 t s rm v l W.heap.size l.length (.slice none 0 0) w3.heap.size ok (w3.alloc (.cells (wtA cur) 245))) := zh (by
  have h32 := hs3.t.size
  have h2w := HMG.out.size
  have hst := (HS2.out.trans hs3).then_made hm3
  have hgl := HGB.out.lt
  have hFl : ∀ k, F3 k → k < w3.heap.size := fun k hk => hl3.lt k ((hl3.on k).1 hk)
  have hgF : ¬ F W.heap.size := fun h0 => by have := HFB.out _ h0; have := HW5.out; omega
  have hgF3 : ¬ F3 W.heap.size := fun h0 => (hs3.f _ h0).elim hgF (fun h => by omega)
  exact ⟨[], l, cur, lb3, F3, rfl, rfl, hok, hcur, hc3.made hm3, hl3.turns hm3, hst, Owns.nil, fun j hj => (by cases hj), Blk.new w3 _ _, by have := HS2.out.t.size; omega, fun h0 => absurd (hFl _ h0) (Nat.lt_irrefl _), by omega, (HGB.out.turns hs3.t hgF).turns hm3 (fun h => h), by have := HW5.out; omega, hgF3⟩)
 clear hok hcur hc3 hl3 hs3 hm3 hfb2
 go_upto_block 2 with fail
 generalize w3.alloc (.cells (wtA cur) 245) = W3 at *
 clear hg0 hg1
 go_wp2_with fail
 go_loopg [2, 5, 6] l.length (fun kn v2 v5 v6 wr => ∃ (g5 : Nat) (ok : Bool), v5 = .pointer (some ⟨g5, 0, none⟩) ∧ v6 = .bool ok ∧ EndR w F p r q1 q2 t s rm v l W.heap.size kn v2 g5 ok wr)
 case atStart => exact ⟨_, ok, rfl, rfl, HR0.out⟩
 case round =>
  obtain ⟨g5, ok1, rfl, rfl, hr⟩ := hrel
  obtain ⟨dn, rem, cu, lb4, F4, hl4, hk4, hok4, hcu4, hc4, hlb4, hs4, ho4, hf4, hb4, hg4, hn4, hgq4, hbq4, hgw4, hnq4⟩ := hr
  cases ok1 with
  | false =>
   cases rem with
   | cons x rest => cases hok4
   | nil =>
    rw [List.append_nil] at hl4
    subst hl4
    obtain ⟨a4, c4, hv4, hrow, -⟩ := ho4.rowIn wkC_len
    rw [List.length_map] at hv4
    subst hv4
    have HP2 := zh (wpop_nil hc4.qs)
    have hg1 : wr.cell? ⟨W.heap.size, 1, none⟩ = some (.pointer (some ⟨q2, 0, none⟩)) := hbq4.cell 1
    have HE := zh (And.intro hc4 (And.intro hlb4 (And.intro hs4 (And.intro hrow (fun k hk => hf4 k hk)))))
    clear hk4 hok4 hcu4 hc4 hlb4 hs4 ho4 hf4 hb4 hg4 hn4 hgq4 hbq4 hgw4 hnq4 hrow
    go_wp2_with fail
    rw [rounds_succ]
    go_wp2_with fail
    refine HP2.out.mono ?_
    rintro e w7 ⟨rfl, hm7⟩
    have HM7 := zh (hm7.alloc (.cells #[.int .i64 0, .int .i64 0, .int .i64 0] 245))
    clear hm7 hg1
    go_wp2_with fail
    refine wp_loop_rounds 1 ?_
    rw [rounds_succ]
    go_wp2_with fail
    rw [rounds_succ]
    go_wp2_with fail
    go_ret
    obtain ⟨hc4, hlb4, hs4, hrow, hf4⟩ := HE.out
    exact ⟨a4, F4, c4, rfl, ⟨hrow.turns HM7.out (fun _ _ _ h => h), fun b off e => by subst e; exact ⟨(hf4 b rfl).1, (hf4 b rfl).2.1⟩⟩, ⟨r, q1, q2, lb4, hc4.made HM7.out, hlb4.turns HM7.out⟩, hs4.then_made HM7.out⟩
  | true =>
   cases rem with
   | nil => cases hok4
   | cons x rest =>
    have hx : cu = x := hcu4 x rest rfl
    subst hx
    have hnx : ∀ y ∈ dn.map clW, y.task ≠ cu.task := fun y hy => by
     obtain ⟨z, hz, rfl⟩ := List.mem_map.1 hy
     have h1 := HND.out.1
     rw [hl4, List.map_append, List.nodup_append] at h1
     exact h1.2.2 z.task (List.mem_map_of_mem hz) cu.task (by simp)
    have hdl : dn.length + rest.length < 900 := by have h1 := HND.out.2; rw [hl4] at h1; simp only [List.length_append, List.length_cons] at h1; omega
    obtain ⟨a4, c4, hv4, hrow, -⟩ := ho4.rowIn wkC_len
    rw [List.length_map] at hv4 hrow
    subst hv4
    have HAN := zh (any_end (cap := c4) wr hb4 hnx hrow (by omega))
    have HDL := zh hdl
    have HC4 := zh hc4
    have HO4 := zh (And.intro ho4 hf4)
    have HB4 := zh hb4
    have HX4 := zh (And.intro hlb4 (And.intro hs4 (And.intro hg4 (And.intro hn4 (And.intro hgq4 (And.intro hbq4 (And.intro hgw4 hnq4)))))))
    have HL4 := zh (And.intro hl4 hk4)
    clear hl4 hk4 hok4 hcu4 hc4 hlb4 hs4 ho4 hf4 hb4 hg4 hn4 hgq4 hbq4 hgw4 hnq4 hrow hdl hnx
    go_wp2_with fail
    refine HAN.out.mono ?_
    rintro e w4 ⟨rfl, hm4⟩
    have HM4 := zh hm4
    clear hm4
    go_upto_region 9 with fail
    have HQ4 := zh (HC4.out.made HM4.out)
    have HB5 := zh (HB4.out.turns HM4.out (fun h => h))
    have HNG := zh (show ∀ k, (Value.slice a4 dn.length c4).ownBlock = some k → k ≠ g5 from fun k hk => (HO4.out.2 k hk).2.2.2)
    have HNP := zh (show ∀ k, (Value.slice a4 dn.length c4).ownBlock = some k → k ≠ p from fun k hk e => (HO4.out.2 k hk).2.1 ((HX4.out.1.on k).2 (by rw [e, HC4.out.lp]; omega)))
    have HN1 := zh (show ∀ k, (Value.slice a4 dn.length c4).ownBlock = some k → k ≠ q1 from fun k hk e => (HO4.out.2 k hk).2.1 ((HX4.out.1.on k).2 (by obtain ⟨_, _, hq⟩ := HC4.out.qr; have h1 : lb4 q1 = 3 := (hq q1).2 (.inl rfl); rw [e, h1]; omega)))
    have HN2 := zh (show ∀ k, (Value.slice a4 dn.length c4).ownBlock = some k → k ≠ q2 from fun k hk e => (HO4.out.2 k hk).2.1 ((HX4.out.1.on k).2 (by obtain ⟨_, _, hq⟩ := HC4.out.qs; have h1 : lb4 q2 = 4 := (hq q2).2 (.inl rfl); rw [e, h1]; omega)))
    obtain ⟨k1, hk1⟩ : ∃ k1, Blk w4 q1 287 k1 := by obtain ⟨_, hq, _⟩ := HQ4.out.qr; exact ⟨_, hq.blk⟩
    obtain ⟨k2, hk2⟩ : ∃ k2, Blk w4 q2 287 k2 := by obtain ⟨_, hq, _⟩ := HQ4.out.qs; exact ⟨_, hq.blk⟩
    have HK1 := zh hk1
    have HK2 := zh hk2
    clear hk1 hk2
    obtain ⟨j0, hj0, hj1, hj2, hj3⟩ := info_parts Tryz.infoQu
    have HOW := zh (HO4.out.1.made HM4.out)
    have HDM := zh (show (dn.map clW).length + 1 ≤ 1000000 from by rw [List.length_map]; have := HDL.out; omega)
    refine wp_region_held_drew (S := fun w' => Blk w' (g5) 245 (wtA cu) ∧ Blk w' (p) 194 #[.pointer (some ⟨r, 0, none⟩), .pointer (some ⟨q1, 0, none⟩), .pointer (some ⟨q2, 0, none⟩), .bool t, .bool s, .bool true] ∧ Blk w' (q1) 287 k1 ∧ Blk w' (q2) 287 k2 ∧ Turns (fun k => (Value.slice a4 dn.length c4).ownBlock = some k) w4 w') (by kernel_rfl) ?_ (fun hHeld => ?_)
    ·exact ⟨HB5.out, HQ4.out.blk, HK1.out, HK2.out, (Turns.refl _ w4).drew⟩
    refine tH 0 39 ?_ ?_ ?_;rotate_left
    ·intro w hSw
     go_simp
     try with_reducible rfl
    try simp only [zP]
    refine tH 1 40 ?_ ?_ ?_;rotate_left
    ·intro w hSw
     go_simp
     try with_reducible rfl
    try simp only [zP]
    refine tH 2 41 ?_ ?_ ?_;rotate_left
    ·intro w hSw
     have q0_0 := hSw.1.cell 0
     have q0_1 := hSw.1.cell 1
     have q0_2 := hSw.1.cell 2
     have q1_0 := hSw.2.1.cell 0
     have q1_1 := hSw.2.1.cell 1
     have q1_2 := hSw.2.1.cell 2
     have q1_3 := hSw.2.1.cell 3
     have q1_4 := hSw.2.1.cell 4
     have q1_5 := hSw.2.1.cell 5
     simp only [zG] at q0_0 q0_1 q0_2 q1_0 q1_1 q1_2 q1_3 q1_4 q1_5
     go_simp
     try with_reducible rfl
    try simp only [zP]
    refine tH 3 42 ?_ ?_ ?_;rotate_left
    ·intro w hSw
     go_simp
     try with_reducible rfl
    try simp only [zP]
    refine tH 4 43 ?_ ?_ ?_;rotate_left
    ·intro w hSw
     have q0_0 := hSw.1.cell 0
     have q0_1 := hSw.1.cell 1
     have q0_2 := hSw.1.cell 2
     have q1_0 := hSw.2.1.cell 0
     have q1_1 := hSw.2.1.cell 1
     have q1_2 := hSw.2.1.cell 2
     have q1_3 := hSw.2.1.cell 3
     have q1_4 := hSw.2.1.cell 4
     have q1_5 := hSw.2.1.cell 5
     simp only [zG] at q0_0 q0_1 q0_2 q1_0 q1_1 q1_2 q1_3 q1_4 q1_5
     go_simp
     try with_reducible rfl
    try simp only [zP]
    refine tH 5 44 ?_ ?_ ?_;rotate_left
    ·intro w hSw
     go_simp
     try with_reducible rfl
    try simp only [zP]
    refine tH 6 45 ?_ ?_ ?_;rotate_left
    ·intro w hSw
     go_simp
     try with_reducible rfl
    try simp only [zP]
    refine tH 7 46 ?_ ?_ ?_;rotate_left
    ·intro w hSw
     go_simp
     try with_reducible rfl
    try simp only [zP]
    refine tH 8 47 ?_ ?_ ?_;rotate_left
    ·intro w hSw
     go_simp
     try with_reducible rfl
    try simp only [zP]
    refine tH 9 48 ?_ ?_ ?_;rotate_left
    ·intro w hSw
     have q0_0 := hSw.1.cell 0
     have q0_1 := hSw.1.cell 1
     have q0_2 := hSw.1.cell 2
     have q1_0 := hSw.2.1.cell 0
     have q1_1 := hSw.2.1.cell 1
     have q1_2 := hSw.2.1.cell 2
     have q1_3 := hSw.2.1.cell 3
     have q1_4 := hSw.2.1.cell 4
     have q1_5 := hSw.2.1.cell 5
     simp only [zG] at q0_0 q0_1 q0_2 q1_0 q1_1 q1_2 q1_3 q1_4 q1_5
     go_simp
     try with_reducible rfl
    try simp only [zP]
    refine tH 10 49 ?_ ?_ ?_;rotate_left
    ·intro w hSw
     have hqq := run_eql_ptr_other (P := Tryz.prog) w (tp := 192) (a := ⟨q1, 0, none⟩) (b := ⟨q2, 0, none⟩) Tryz.underlying192 hj0 (by rw [hj2]; omega) (fun e => HQQ.out (congrArg Addr.block e)) hSw.2.2.1 hSw.2.2.2.1
     go_simp
     try with_reducible rfl
    try simp only [zP]
    refine tH 11 50 ?_ ?_ ?_;rotate_left
    ·intro w hSw
     go_simp
     try with_reducible rfl
    try simp only [zP]
    refine zR 12 fun K hK => ?_
    refine step_single rfl _ (.tmp 50) (by rfl) i0 _ Tryz.underlying112 hi0 hz0 (by rw [hz1]; decide) (by rw [hz1]; decide) #[.int .i64 cu.task, .int .i64 cu.kase, .int .i64 0, .bool false, .bool false] (by rfl) (fillWk hz1 _ _ _ _ _) ?_
    intro bX wX hTX hBX hLX
    refine hK.out _ _ ?_ (fun hHeld => ?_)
    ·exact ⟨hHeld.1.turns hTX (fun h => h), hHeld.2.1.turns hTX (fun h => h), hHeld.2.2.1.turns hTX (fun h => h), hHeld.2.2.2.1.turns hTX (fun h => h), hHeld.2.2.2.2.trans (hTX.mono (fun _ _ h => h.elim))⟩
    clear hK K
    try simp only [zP]
    refine zR 13 fun K hK => ?_
    refine step_push rfl _ _ _ (by rfl) i0 _ 32 Tryz.underlying112 hi0 hz0 hz1 hz2 rfl (by omega) wkC_len wkC_one (by rfl) ((HOW.out.turns (zT w4).drew (fun _ _ h => h)).turns hTX (fun _ _ h => h)) (clW cu) (by rfl) hBX HDM.out (by omega) ?_
    intro v2 w2 hO2 hT2 hV2
    refine hK.out _ _ ?_ (fun hHeld => ?_)
    ·exact ⟨hHeld.1.turns hT2 (fun e => HNG.out _ e rfl), hHeld.2.1.turns hT2 (fun e => HNP.out _ e rfl), hHeld.2.2.1.turns hT2 (fun e => HN1.out _ e rfl), hHeld.2.2.2.1.turns hT2 (fun e => HN2.out _ e rfl), hHeld.2.2.2.2.trans hT2⟩
    clear hK K
    try simp only [zP]
    refine tH 14 2 ?_ ?_ ?_;rotate_left
    ·intro w hSw
     go_simp
     try with_reducible rfl
    try simp only [zP]
    refine wpAnyH_done (by kernel_rfl) ?_ _
    have HO5 := zh (And.intro hO2 (And.intro hT2 hV2))
    have HTX := zh (((zT w4).drew).trans hTX)
    have HB6 := zh hHeld.1
    clear hHeld hO2 hT2 hV2 hTX hBX hLX
    obtain ⟨a5, c5, rfl⟩ := owns_slice HO5.out.1
    have HH5 := HO5.out
    simp only [List.length_append, List.length_map, List.length_cons, List.length_nil, Nat.zero_add] at HH5
    have HO6 := zh HH5
    clear HH5
    have hb6 := HB6.out
    have c0 : w2.cell? ⟨g5, 0, none⟩ = some (.int .i64 cu.task) := hb6.cell 0
    have c1 : w2.cell? ⟨g5, 1, none⟩ = some (.int .i64 cu.kase) := hb6.cell 1
    have c2 : w2.cell? ⟨g5, 2, none⟩ = some (.int .i64 cu.val) := hb6.cell 2
    clear hb6
    go_upto_region 7 with fail
    have htw : Turns (fun k => (Value.slice a4 dn.length c4).ownBlock = some k) w4 w2 := (HTX.out.mono (fun _ _ h => h.elim)).trans HO6.out.2.1
    have hma := (zT w2).alloc (.cells (wtA cu) 245)
    have hnF : ∀ k, lb4 k ≠ 0 → ¬ (Value.slice a4 dn.length c4).ownBlock = some k := fun k hk e => (HO4.out.2 k e).2.1 ((HX4.out.1.on k).2 hk)
    have hq5 := (HQ4.out.turns htw hnF).made hma
    have hl5 := ((HX4.out.1.turns HM4.out).turns htw).turns hma
    have hs5 : Stp w (w2.alloc (.cells (wtA cu) 245)) F F4 := ⟨((HX4.out.2.1.then_made HM4.out).t.then htw (fun k hk e => absurd (HO4.out.2 k e).1 (by omega))).then hma (fun _ _ h => h.elim), HX4.out.2.1.f⟩
    have HNB : Hid (w2.heap.size < (w2.alloc (.cells (wtA cu) 245)).heap.size) := zh (by simp)
    have HBN : Hid (Blk (w2.alloc (.cells (wtA cu) 245)) w2.heap.size 245 (wtA cu)) := zh (Blk.new w2 _ _)
    have HPP := zh (chpop_any hq5 hl5 (by show rest.length ≤ 1000; have := HDL.out; omega))
    have hFl : ∀ k, F4 k → k < wr.heap.size := fun k hk => HX4.out.1.lt k ((HX4.out.1.on k).1 hk)
    have hnN : ¬ F4 w2.heap.size := fun h0 => by have := hFl _ h0; have := HM4.out.size; have := htw.size; omega
    have HS5 := zh (And.intro hs5 hnN)
    have HOA := zh (HO6.out.1.made hma)
    have HBQ := zh (((HX4.out.2.2.2.2.2.1.turns HM4.out (fun h => h)).turns htw (fun e => (HO4.out.2 _ e).2.2.1 rfl)).turns hma (fun h => h))
    have HWL : Hid (wr.heap.size ≤ w2.heap.size) := zh (by have := HM4.out.size; have := htw.size; omega)
    clear htw hma hnF hq5 hl5 hs5 hFl hnN c0 c1 c2
    generalize w2.alloc (.cells (wtA cu) 245) = W5 at *
    go_wp2_with fail
    refine HPP.out.mono ?_
    rintro e w6 ⟨cur2, ok2, lb6, F6, rfl, hok2, hcur2, hc6, hl6, hs6⟩
    have hb7 := HBN.out.turns hs6.t HS5.out.2
    have HB7 := zh hb7
    have d0 := hb7.cell 0
    have d1 := hb7.cell 1
    have d2 := hb7.cell 2
    have e0 := hb7.free 0
    have e1 := hb7.free 1
    have e2 := hb7.free 2
    simp only [zG] at d0 d1 d2
    have HE6 := zh (And.intro hok2 (And.intro hcur2 (And.intro hc6 (And.intro hl6 hs6))))
    clear hok2 hcur2 hc6 hl6 hs6 hb7
    go_wp2_with fail
    have HF := zh (show EndR w F p r q1 q2 t s rm v l W.heap.size rest.length (.slice a5 (dn.length + 1) c5) w2.heap.size ok2 (((w6.setCell ⟨w2.heap.size, 0, none⟩ (.int .i64 cur2.task)).setCell ⟨w2.heap.size, 1, none⟩ (.int .i64 cur2.kase)).setCell ⟨w2.heap.size, 2, none⟩ (.int .i64 cur2.val)) from by
     obtain ⟨hok2, hcur2, hc6, hl6, hs6⟩ := HE6.out
     have hnN6 : ¬ F6 w2.heap.size := fun h0 => (hs6.f _ h0).elim HS5.out.2 (fun h => by have := HNB.out; omega)
     have h3 := set3 w6 w2.heap.size (x := .int .i64 cur2.task) (y := .int .i64 cur2.kase) (z := .int .i64 cur2.val)
     have hown : ∀ j, (Value.slice a5 (dn.length + 1) c5).ownBlock = some j → w.heap.size ≤ j ∧ ¬ F4 j ∧ j ≠ W.heap.size ∧ j < w2.heap.size := fun j hj => by
      have hlt := HO6.out.1.lt hj
      rcases HO6.out.2.2 j hj with h1 | h1
      ·obtain ⟨m1, m2, m3, m4⟩ := HO4.out.2 j h1
       exact ⟨m1, m2, m3, hlt⟩
      ·have h2 := HTX.out.size
       have h4 := HM4.out.size
       have h5 : W.heap.size < wr.heap.size := HX4.out.2.2.2.2.2.1.lt
       exact ⟨by have := HX4.out.2.2.2.2.2.2.1; omega, fun h0 => by have := HX4.out.1.lt j ((HX4.out.1.on j).1 h0); omega, by omega, hlt⟩
     refine ⟨dn ++ [cu], rest, cur2, lb6, F6, by rw [HL4.out.1]; simp, rfl, hok2, hcur2, hc6.turns h3 (fun k hk e => hnN6 (by rw [← e]; exact (hl6.on k).2 hk)), hl6.turns h3, ⟨(HS5.out.1.trans hs6).t.then h3 (fun k hk e => by have := HX4.out.2.1.t.size; have := HWL.out; omega), (HS5.out.1.trans hs6).f⟩, ?_, fun j hj => ?_, HB7.out.put3 _ _ _, by have := HX4.out.2.1.t.size; have := HWL.out; omega, hnN6, by have h5 : W.heap.size < wr.heap.size := HX4.out.2.2.2.2.2.1.lt; have := HWL.out; omega, (HBQ.out.turns hs6.t HX4.out.2.2.2.2.2.2.2).turns h3 (fun e => by have h5 : W.heap.size < wr.heap.size := HX4.out.2.2.2.2.2.1.lt; have := HWL.out; omega), HX4.out.2.2.2.2.2.2.1, fun h0 => (hs6.f _ h0).elim HX4.out.2.2.2.2.2.2.2 (fun h => by have h5 : W.heap.size < wr.heap.size := HX4.out.2.2.2.2.2.1.lt; have := HWL.out; have := HNB.out; omega)⟩
     ·rw [List.map_append]
      exact (HOA.out.turns hs6.t (fun k hk => (hown k hk).2.1)).turns h3 (fun k hk e => by have := (hown k hk).2.2.2; omega)
     ·obtain ⟨m1, m2, m3, m4⟩ := hown j hj
      exact ⟨m1, fun h0 => (hs6.f _ h0).elim m2 (fun h => by have := HNB.out; omega), m3, by omega⟩)
    go_roundg rest.length
    case rel => exact ⟨_, ok2, rfl, rfl, HF.out⟩
    case measure => rw [HL4.out.2]; simp
theorem evRow_one (ds : List Ev) : ∀ u ∈ flat evC ds, u.oneCell' = true := by
 intro u hu
 obtain ⟨d, _, hd⟩ := List.mem_flatMap.1 hu
 exact evC_one d u hd
theorem clone_ev (v : Value) (ds : List Ev) (w : World) (ho : Owns evC 45 6 w v ds) (hn : ds.length ≤ 1000000) :
  Calls Tryz.prog 27 #[v] w fun e w' => ∃ v', e = .returned v' ∧ Owns evC 45 6 w' v' ds ∧ Made w w' ∧ (∀ k, v'.ownBlock = some k → w.heap.size ≤ k) := by
 rcases ho.form with ⟨rfl, rfl⟩ | ⟨g, cap, rfl, hg, hl, hm⟩
 ·have hnil := Lib.run_eql_slice_nil (P := Tryz.prog)
  go_enter Tryz.func27, Tryz.ntmps27
  go_wp2
  go_ret
  exact ⟨_, rfl, ho, Turns.refl _ _, fun k hk => by simp [Value.ownBlock] at hk⟩
 ·obtain ⟨i0, hi0, hz0, hz1, hz2⟩ := info_parts Tryz.infoEv
  have hnil := Lib.run_eql_slice_nil (P := Tryz.prog)
  have HO := zh ho
  clear ho
  go_enter Tryz.func27, Tryz.ntmps27
  go_wp2_with (at_builtin; refine wpList_append_own _ rfl (.tmp 5) (.tmp 6) 32 rfl w.heap.size 45 i0 _ 6 48 Tryz.underlying32 hi0 hz0 hz1 hz2 rfl (by omega) _ 0 [] rfl ?own ⟨g, 0, none⟩ ds.length cap (flat evC ds) rfl ?len ?cells ?one ?b1 ?b2 ?b3 ?_)
  case own => exact World.ownsRow_made w #[] 0 (Nat.le_refl _) (Nat.zero_le _) rfl
  case len => exact flat_length evC_len ds
  case cells =>
   intro j u hu
   rw [Addr.add_lit]
   have h0 := World.ownsRow.cells (g := g) HO.out rfl j u hu
   rw [Addr.add_lit] at h0
   exact ((Below.refl w.heap.size w).alloc (Nat.le_refl _) _).cell (p := ⟨g, 0 + j, none⟩) hg |>.trans h0
  case one => exact evRow_one ds
  case b1 => unfold maxLen; omega
  case b2 => omega
  case b3 => simp
  intro v' w1 hown hgrow _
  have hf := hown
  go_wp2
  go_ret
  refine ⟨v', rfl, ?_, ?_, ?_⟩
  ·unfold Owns; simpa using owns_zero hown
  ·exact ((Turns.refl _ _).alloc _).grown hgrow (fun k hk hlt => by simp [Value.ownBlock] at hk; omega)
  ·exact fun k hk => (World.ownsRow.lt hown k hk).1
section
variable {CX : World → (Nat → Prop) → Prop} {w w' : World} {b : Wp} {o o' : Nat → Nat} {ps : List (List Ins)} {s : Wst} {vp vc vl ve : Value}
theorem WAt.clearEv (hx : Ext CX) (h : WAt CX w b o ps s vp vc vl ve) : ∃ o', WAt CX (w.setCell ⟨b.pb, 10, none⟩ (.slice none 0 0)) b o' ps { s with ev := [] } vp vc vl (.slice none 0 0) ∧ Stp w (w.setCell ⟨b.pb, 10, none⟩ (.slice none 0 0)) (Own o) (Own o') := by
 have ht : Turns (fun k => o k = 1) w (w.setCell ⟨b.pb, 10, none⟩ (.slice none 0 0)) := (set1 w b.pb 10 _).mono (fun k _ e => by rw [e]; exact h.ob)
 obtain ⟨ds, hd1, hd2⟩ := h.dls
 obtain ⟨ls, hl1, hl2⟩ := h.lrow
 have hb3 := h.blk.put 10 (.slice none 0 0)
 simp only [List.setIfInBounds_toArray, List.set_cons_zero, List.set_cons_succ] at hb3
 obtain ⟨o', hne, hz, h10⟩ : ∃ o' : Nat → Nat, (∀ j, j ≠ 0 → j ≠ 10 → (fun k => o' k = j) = fun k => o k = j) ∧ (∀ k, o' k ≠ 0 → o k ≠ 0) ∧ ∀ k, o' k ≠ 10 := by
  refine ⟨fun k => if o k = 10 then 0 else o k, fun j h0 h1 => ?_, fun k hk e => hk (by simp [e]), fun k e => ?_⟩
  ·funext k
   by_cases hk : o k = 10
   ·simp only [hk, if_true]
    exact propext ⟨fun e => absurd e.symm h0, fun e => absurd e.symm h1⟩
   ·simp only [hk, if_false]
  ·by_cases hk : o k = 10
   ·simp [hk] at e
   ·simp [hk] at e
 refine ⟨o', { lt := fun k hk => Nat.lt_of_lt_of_le (h.lt k (hz k hk)) ht.size, cnd := h.cnd, blk := hb3, erow := Owns.nil, eo := fun k => ⟨fun e => (by cases e), fun e => absurd e (h10 k)⟩, ob := lab_is (hne 1 (by omega) (by omega)) h.ob, clk := h.clk.turns ht (by rw [h.ok]; omega), ok := lab_is (hne 2 (by omega) (by omega)) h.ok, tab := by rw [hne 3 (by omega) (by omega)]; exact h.tab.turns ht (fun k hk => by rw [hk]; omega), tms := by rw [hne 4 (by omega) (by omega)]; exact h.tms.turns ht (fun k hk => by rw [hk]; omega), dls := ⟨ds, hd1, by rw [hne 5 (by omega) (by omega)]; exact hd2.turns ht (fun k hk => by rw [hk]; omega)⟩, ctx := by rw [hne 6 (by omega) (by omega)]; exact hx.turns _ w _ _ h.ctx ht (fun k hk => by rw [hk]; omega), prs := h.prs.turns ht (fun k hk => by rw [hk]; omega) (fun k hk => lab_is (hne 7 (by omega) (by omega)) hk), crow := h.crow.turns ht (fun k hk => by rw [(h.co k).1 hk]; omega), co := fun k => (h.co k).trans (iff_of_eq (congrFun (hne 8 (by omega) (by omega)) k)).symm, lrow := ⟨ls, hl1, hl2.turns ht (fun k hk => by rw [(h.lo k).1 hk]; omega)⟩, lo := fun k => (h.lo k).trans (iff_of_eq (congrFun (hne 9 (by omega) (by omega)) k)).symm, chn := fun p c hp => by rw [hne (16 + p) (by omega) (by omega)]; exact (h.chn p c hp).turns ht (fun k hk => by rw [hk]; omega) }, ?_⟩
 exact ⟨ht.mono (fun k _ e => by show o k ≠ 0; rw [e]; omega), fun k hk => .inl (hz k hk)⟩
theorem WAt.incStep (hx : Ext CX) (h : WAt CX w b o ps s vp vc vl ve) (n : Int) : WAt CX (w.setCell ⟨b.pb, 9, none⟩ (.int .i64 n)) b o ps { s with steps := n } vp vc vl ve ∧ Stp w (w.setCell ⟨b.pb, 9, none⟩ (.int .i64 n)) (Own o) (Own o) := by
 have ht : Turns (fun k => o k = 1) w (w.setCell ⟨b.pb, 9, none⟩ (.int .i64 n)) := (set1 w b.pb 9 _).mono (fun k _ e => by rw [e]; exact h.ob)
 obtain ⟨ds, hd1, hd2⟩ := h.dls
 obtain ⟨ls, hl1, hl2⟩ := h.lrow
 have hb3 := h.blk.put 9 (.int .i64 n)
 simp only [List.setIfInBounds_toArray, List.set_cons_zero, List.set_cons_succ] at hb3
 have hne : ∀ j, j ≠ 0 → j ≠ 1 → (fun k => o k = j) = fun k => o k = j := fun j _ _ => rfl
 exact ⟨{ lt := fun k hk => Nat.lt_of_lt_of_le (h.lt k hk) ht.size, cnd := h.cnd, blk := hb3, ob := h.ob, erow := h.erow.turns ht (fun k hk => by rw [(h.eo k).1 hk]; omega), eo := h.eo, clk := h.clk.turns ht (by rw [h.ok]; omega), ok := lab_is (hne 2 (by omega) (by omega)) h.ok, tab := by rw [hne 3 (by omega) (by omega)]; exact h.tab.turns ht (fun k hk => by rw [hk]; omega), tms := by rw [hne 4 (by omega) (by omega)]; exact h.tms.turns ht (fun k hk => by rw [hk]; omega), dls := ⟨ds, hd1, by rw [hne 5 (by omega) (by omega)]; exact hd2.turns ht (fun k hk => by rw [hk]; omega)⟩, ctx := by rw [hne 6 (by omega) (by omega)]; exact hx.turns _ w _ _ h.ctx ht (fun k hk => by rw [hk]; omega), prs := h.prs.turns ht (fun k hk => by rw [hk]; omega) (fun k hk => lab_is (hne 7 (by omega) (by omega)) hk), crow := h.crow.turns ht (fun k hk => by rw [(h.co k).1 hk]; omega), co := fun k => (h.co k).trans (iff_of_eq (congrFun (hne 8 (by omega) (by omega)) k)).symm, lrow := ⟨ls, hl1, hl2.turns ht (fun k hk => by rw [(h.lo k).1 hk]; omega)⟩, lo := fun k => (h.lo k).trans (iff_of_eq (congrFun (hne 9 (by omega) (by omega)) k)).symm, chn := fun p c hp => by rw [hne (16 + p) (by omega) (by omega)]; exact (h.chn p c hp).turns ht (fun k hk => by rw [hk]; omega) }, ⟨ht.mono (fun k _ e => by show o k ≠ 0; rw [e]; omega), fun k hk => .inl hk⟩⟩
end
theorem wstep_run {CX : World → (Nat → Prop) → Prop} {w : World} {b : Wp} {o : Nat → Nat} {ps : List (List Ins)} {s : Wst} {n d : Int} {R : Wst → Prop} (hx : Ext CX) (h : WW CX w b o ps s)
  (hr : ∀ (w1 : World) (o1 : Nat → Nat), WW CX w1 b o1 ps { s with ev := [] } → Calls Tryz.prog 26 #[.pointer (some ⟨b.pb, 0, none⟩), .int .i64 n, .int .i64 d] w1 fun e w' => e = .returned (.tuple #[]) ∧ ∃ o' s2, R s2 ∧ WW CX w' b o' ps s2 ∧ Stp w1 w' (Own o1) (Own o'))
  (hR : ∀ s2, R s2 → 0 ≤ s2.steps ∧ s2.steps < 1000000 ∧ s2.ev.length ≤ 1000000) :
  Calls Tryz.prog 9 #[.pointer (some ⟨b.pb, 0, none⟩), .agg #[.int .i64 1, .int .i64 n, .int .i64 d]] w fun e w' => ∃ v, e = .returned v ∧ ∃ o' s2, R s2 ∧ WW CX w' b o' ps { s2 with steps := s2.steps + 1 } ∧ Owns evC 45 6 w' v s2.ev ∧ (∀ k, v.ownBlock = some k → ¬ Own o' k ∧ w.heap.size ≤ k) ∧ Stp w w' (Own o) (Own o') := by
 have HXX := zh hx
 have HRR := zh (And.intro hr hR)
 have hm0 := (zT w).alloc (.cells #[.int .i64 1, .int .i64 n, .int .i64 d] 35)
 have HB0 := zh (Blk.new w 35 #[.int .i64 1, .int .i64 n, .int .i64 d])
 have HM0 := zh hm0
 obtain ⟨vp, vc, vl, ve, h0⟩ := h
 have HH := zh (h0.made hx hm0)
 have q10 := (h0.made hx hm0).blk.cell 10
 have f10 := (h0.made hx hm0).blk.free 10
 simp only [zG] at q10
 have HNE := zh (show ¬ Own o w.heap.size from fun e => absurd (h0.lt _ e) (Nat.lt_irrefl _))
 clear h0 hx hr hR hm0
 go_enter Tryz.func9, Tryz.ntmps9
 go_upto_region 5 with fail
 obtain ⟨o1, h1, hs1⟩ := HH.out.clearEv HXX.out
 have HW1 := zh (show WW CX _ b o1 ps { s with ev := [] } from ⟨_, _, _, _, h1⟩)
 have HS1 := zh ((Stp.made (F := Own o) HM0.out).trans hs1)
 have HPL := zh (show b.pb ≠ w.heap.size from fun e => HNE.out (by show o w.heap.size ≠ 0; rw [← e, HH.out.ob]; omega))
 have HB1 := zh (HB0.out.turns (set1 _ b.pb 10 (.slice none 0 0)) (fun e => HPL.out e.symm))
 clear h1 hs1 q10 f10
 generalize (w.alloc (.cells #[.int .i64 1, .int .i64 n, .int .i64 d] 35)).setCell ⟨b.pb, 10, none⟩ (.slice none 0 0) = W1 at *
 have e0 := HB1.out.cell 0
 have e1 := HB1.out.cell 1
 have e2 := HB1.out.cell 2
 simp only [zG] at e0 e1 e2
 go_wp2_with fail
 refine (scheck_run n d _).mono ?_
 rintro e w1 ⟨rfl, hm1⟩
 have HM1 := zh hm1
 have e0 := (HB1.out.turns hm1 (fun h => h)).cell 0
 have e1 := (HB1.out.turns hm1 (fun h => h)).cell 1
 have e2 := (HB1.out.turns hm1 (fun h => h)).cell 2
 simp only [zG] at e0 e1 e2
 clear hm1
 go_wp2_with fail
 refine (HRR.out.1 w1 o1 (HW1.out.made HXX.out HM1.out)).mono ?_
 rintro e w2 ⟨rfl, o2, s2, hr2, hw2, hs2⟩
 obtain ⟨hb0, hb1, hb2⟩ := HRR.out.2 s2 hr2
 have HR2 := zh hr2
 have HS2 := zh ((HS1.out.then_made HM1.out).trans hs2)
 have HL2 := zh hb2
 obtain ⟨vp2, vc2, vl2, ve2, hw2⟩ := hw2
 have HW2 := zh hw2
 have q9 := hw2.blk.cell 9
 have q10 := hw2.blk.cell 10
 have f9 := hw2.blk.free 9
 simp only [zG] at q9 q10
 have hwi := IntWalk.i64_in (s2.steps + 1) (by omega)
 clear hr2 hs2 hw2 hb2 e0 e1 e2
 go_upto_region 10 with fail
 obtain ⟨h3, hs3⟩ := HW2.out.incStep HXX.out (s2.steps + 1)
 have HW3 := zh h3
 have HS3 := zh (HS2.out.trans hs3)
 have q10 : (w2.setCell ⟨b.pb, 9, none⟩ (.int .i64 (s2.steps + 1))).cell? ⟨b.pb, 10, none⟩ = some ve2 := h3.blk.cell 10
 have HC := zh (clone_ev ve2 s2.ev _ h3.erow HL2.out)
 clear h3 hs3 q9 f9 hwi
 generalize w2.setCell ⟨b.pb, 9, none⟩ (.int .i64 (s2.steps + 1)) = W3 at *
 go_wp2_with fail
 refine HC.out.mono ?_
 rintro e w4 ⟨v4, rfl, ho4, hm4, hf4⟩
 have HE := zh (And.intro ho4 (And.intro hm4 hf4))
 clear ho4 hm4 hf4
 go_wp2_with fail
 go_returns
 have hw4 := HW3.out.made HXX.out HE.out.2.1
 exact ⟨v4, rfl, o2, s2, HR2.out, ⟨_, _, _, _, hw4⟩, HE.out.1, fun k hk => ⟨fun h0 => absurd (HW3.out.lt _ h0) (Nat.not_lt.2 (HE.out.2.2 k hk)), Nat.le_trans HS3.out.t.size (HE.out.2.2 k hk)⟩, HS3.out.then_made HE.out.2.1⟩
theorem wstep_adv {CX : World → (Nat → Prop) → Prop} {w : World} {b : Wp} {o : Nat → Nat} {ps : List (List Ins)} {s : Wst} {n d : Int} {R : Wst → Prop} (hx : Ext CX) (h : WW CX w b o ps s) (hn : 0 ≤ n)
  (hr : ∀ (w1 : World) (o1 : Nat → Nat), WW CX w1 b o1 ps { s with ev := [] } → Calls Tryz.prog 25 #[.pointer (some ⟨b.pb, 0, none⟩), .int .i64 n] w1 fun e w' => e = .returned (.tuple #[]) ∧ ∃ o' s2, R s2 ∧ WW CX w' b o' ps s2 ∧ Stp w1 w' (Own o1) (Own o'))
  (hR : ∀ s2, R s2 → 0 ≤ s2.steps ∧ s2.steps < 1000000 ∧ s2.ev.length ≤ 1000000) :
  Calls Tryz.prog 9 #[.pointer (some ⟨b.pb, 0, none⟩), .agg #[.int .i64 2, .int .i64 n, .int .i64 0]] w fun e w' => ∃ v, e = .returned v ∧ ∃ o' s2, R s2 ∧ WW CX w' b o' ps { s2 with steps := s2.steps + 1 } ∧ Owns evC 45 6 w' v s2.ev ∧ (∀ k, v.ownBlock = some k → ¬ Own o' k ∧ w.heap.size ≤ k) ∧ Stp w w' (Own o) (Own o') := by
 have HXX := zh hx
 have HRR := zh (And.intro hr hR)
 have hm0 := (zT w).alloc (.cells #[.int .i64 2, .int .i64 n, .int .i64 0] 35)
 have HB0 := zh (Blk.new w 35 #[.int .i64 2, .int .i64 n, .int .i64 0])
 have HM0 := zh hm0
 obtain ⟨vp, vc, vl, ve, h0⟩ := h
 have HH := zh (h0.made hx hm0)
 have q10 := (h0.made hx hm0).blk.cell 10
 have f10 := (h0.made hx hm0).blk.free 10
 simp only [zG] at q10
 have HNE := zh (show ¬ Own o w.heap.size from fun e => absurd (h0.lt _ e) (Nat.lt_irrefl _))
 have HN := zh hn
 clear h0 hx hr hR hm0 hn
 go_enter Tryz.func9, Tryz.ntmps9
 go_upto_region 5 with fail
 obtain ⟨o1, h1, hs1⟩ := HH.out.clearEv HXX.out
 have HW1 := zh (show WW CX _ b o1 ps { s with ev := [] } from ⟨_, _, _, _, h1⟩)
 have HS1 := zh ((Stp.made (F := Own o) HM0.out).trans hs1)
 have HPL := zh (show b.pb ≠ w.heap.size from fun e => HNE.out (by show o w.heap.size ≠ 0; rw [← e, HH.out.ob]; omega))
 have HB1 := zh (HB0.out.turns (set1 _ b.pb 10 (.slice none 0 0)) (fun e => HPL.out e.symm))
 clear h1 hs1 q10 f10
 generalize (w.alloc (.cells #[.int .i64 2, .int .i64 n, .int .i64 0] 35)).setCell ⟨b.pb, 10, none⟩ (.slice none 0 0) = W1 at *
 have e0 := HB1.out.cell 0
 have e1 := HB1.out.cell 1
 have e2 := HB1.out.cell 2
 simp only [zG] at e0 e1 e2
 go_wp2_with fail
 refine (scheck_adv n _ HN.out).mono ?_
 rintro e w1 ⟨rfl, hm1⟩
 have HM1 := zh hm1
 have e0 := (HB1.out.turns hm1 (fun h => h)).cell 0
 have e1 := (HB1.out.turns hm1 (fun h => h)).cell 1
 have e2 := (HB1.out.turns hm1 (fun h => h)).cell 2
 simp only [zG] at e0 e1 e2
 clear hm1
 go_wp2_with fail
 refine (HRR.out.1 w1 o1 (HW1.out.made HXX.out HM1.out)).mono ?_
 rintro e w2 ⟨rfl, o2, s2, hr2, hw2, hs2⟩
 obtain ⟨hb0, hb1, hb2⟩ := HRR.out.2 s2 hr2
 have HR2 := zh hr2
 have HS2 := zh ((HS1.out.then_made HM1.out).trans hs2)
 have HL2 := zh hb2
 obtain ⟨vp2, vc2, vl2, ve2, hw2⟩ := hw2
 have HW2 := zh hw2
 have q9 := hw2.blk.cell 9
 have q10 := hw2.blk.cell 10
 have f9 := hw2.blk.free 9
 simp only [zG] at q9 q10
 have hwi := IntWalk.i64_in (s2.steps + 1) (by omega)
 clear hr2 hs2 hw2 hb2 e0 e1 e2
 go_upto_region 10 with fail
 obtain ⟨h3, hs3⟩ := HW2.out.incStep HXX.out (s2.steps + 1)
 have HW3 := zh h3
 have HS3 := zh (HS2.out.trans hs3)
 have q10 : (w2.setCell ⟨b.pb, 9, none⟩ (.int .i64 (s2.steps + 1))).cell? ⟨b.pb, 10, none⟩ = some ve2 := h3.blk.cell 10
 have HC := zh (clone_ev ve2 s2.ev _ h3.erow HL2.out)
 clear h3 hs3 q9 f9 hwi
 generalize w2.setCell ⟨b.pb, 9, none⟩ (.int .i64 (s2.steps + 1)) = W3 at *
 go_wp2_with fail
 refine HC.out.mono ?_
 rintro e w4 ⟨v4, rfl, ho4, hm4, hf4⟩
 have HE := zh (And.intro ho4 (And.intro hm4 hf4))
 clear ho4 hm4 hf4
 go_wp2_with fail
 go_returns
 have hw4 := HW3.out.made HXX.out HE.out.2.1
 exact ⟨v4, rfl, o2, s2, HR2.out, ⟨_, _, _, _, hw4⟩, HE.out.1, fun k hk => ⟨fun h0 => absurd (HW3.out.lt _ h0) (Nat.not_lt.2 (HE.out.2.2 k hk)), Nat.le_trans HS3.out.t.size (HE.out.2.2 k hk)⟩, HS3.out.then_made HE.out.2.1⟩
end Go.Proofs.YtjnkphhlkoapbaaGreat
