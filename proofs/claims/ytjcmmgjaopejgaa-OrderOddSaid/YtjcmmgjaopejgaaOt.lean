/-
  Package order: states and events; comparing, finding, and how a task goes on.
-/
import Derived.Test.YtjcmmgjaopejgaaGr
import Derived.Test.YtjcmmgjaopejgaaSo
import Derived.Sort.Grow
namespace Go.Proofs.Ytjcmmgjaopejgaa
open Go.RowKit Go.Sort
set_option linter.unusedVariables false
set_option linter.unusedSimpArgs false

structure St where
  task : Int
  state : Int
  how : Int
  prog : Int
deriving DecidableEq
instance : Inhabited St := ⟨⟨0, 0, 0, 0⟩⟩
structure Ev where
  step : Int
  kind : Int
  task : Int
  a : Int
  b : Int
  c : Int
deriving DecidableEq
def encS (x : St) : List Value := [.int .i64 x.task, .int .i64 x.state, .int .i64 x.how, .int .i64 x.prog]
def encE (x : Ev) : List Value := [.int .i64 x.step, .int .i64 x.kind, .int .i64 x.task, .int .i64 x.a, .int .i64 x.b, .int .i64 x.c]
def aggS (x : St) : Value := .agg #[.int .i64 x.task, .int .i64 x.state, .int .i64 x.how, .int .i64 x.prog]
def aggE (x : Ev) : Value := .agg #[.int .i64 x.step, .int .i64 x.kind, .int .i64 x.task, .int .i64 x.a, .int .i64 x.b, .int .i64 x.c]
theorem encS_len (x : St) : (encS x).length = 4 := rfl
theorem encE_len (x : Ev) : (encE x).length = 6 := rfl
theorem encS_one (x : St) : ∀ u ∈ encS x, u.oneCell' = true := fun u hu => by
  simp only [encS, List.mem_cons, List.not_mem_nil, or_false] at hu
  rcases hu with rfl | rfl | rfl | rfl <;> rfl
theorem encE_one (x : Ev) : ∀ u ∈ encE x, u.oneCell' = true := fun u hu => by
  simp only [encE, List.mem_cons, List.not_mem_nil, or_false] at hu
  rcases hu with rfl | rfl | rfl | rfl | rfl | rfl <;> rfl
def sameI (a b : Int) : Bool := a == b
def cmpI (a b : Int) : Int := if a < b then -1 else if b < a then 1 else 0
theorem isNaN_c (a : Int) (w : World) : Calls Try.prog 26 #[.int .i64 a] w fun e w' => e = .returned (.bool false) ∧ w = w' := by
  go_enter Try.func26, Try.ntmps26
  go_wp2
  go_ret
  exact ⟨by simp, rfl⟩

theorem compare_c (a b : Int) (w : World) : Calls Try.prog 21 #[.int .i64 a, .int .i64 b] w fun e w' => e = .returned (.int .i64 (cmpI a b)) ∧ w = w' := by
  have H := fun (a : Int) (w : World) => isNaN_c a w
  rcases Int.lt_trichotomy a b with h | h | h
  · have hc : cmpI a b = -1 := by unfold cmpI; rw [if_pos h]
    rw [hc]
    clear hc
    go_enter Try.func21, Try.ntmps21
    go_wp2_with fail
    refine (H a w).mono ?_
    rintro e w' ⟨rfl, rfl⟩
    go_wp2_with fail
    refine (H b w).mono ?_
    rintro e w' ⟨rfl, rfl⟩
    go_wp2_with fail
    go_ret
    exact ⟨rfl, rfl⟩
  · have hc : cmpI a b = 0 := by unfold cmpI; rw [if_neg (by omega), if_neg (by omega)]
    rw [hc]
    subst h
    clear hc
    go_enter Try.func21, Try.ntmps21
    go_wp2_with fail
    refine (H a w).mono ?_
    rintro e w' ⟨rfl, rfl⟩
    go_wp2_with fail
    refine (H a w).mono ?_
    rintro e w' ⟨rfl, rfl⟩
    go_wp2_with fail
    go_ret
    exact ⟨rfl, rfl⟩
  · have hc : cmpI a b = 1 := by unfold cmpI; rw [if_neg (by omega), if_pos h]
    rw [hc]
    have h2 : ¬ a < b := by omega
    clear hc
    go_enter Try.func21, Try.ntmps21
    go_wp2_with fail
    refine (H a w).mono ?_
    rintro e w' ⟨rfl, rfl⟩
    go_wp2_with fail
    refine (H b w).mono ?_
    rintro e w' ⟨rfl, rfl⟩
    go_wp2_with fail
    go_ret
    exact ⟨rfl, rfl⟩

def Grn (w w' : World) : Prop := ∃ q os', w' = grow (w.drewN q) os'
theorem Grn.refl (w : World) : Grn w w := ⟨0, #[], by simp [grow, World.drewN]⟩
theorem Grn.alloc {w w' : World} (h : Grn w w') (o : Obj) : Grn w (w'.alloc o) := by
  obtain ⟨q, os, rfl⟩ := h
  exact ⟨q, os ++ #[o], by rw [alloc_eq_grow, grow_grow]⟩
theorem Grn.drew {w w' : World} (h : Grn w w') : Grn w w'.drew := by
  obtain ⟨q, os, rfl⟩ := h
  exact ⟨q + 1, os, by simp [grow, World.drewN, World.drew, Nat.add_assoc]⟩

def cmpS (a b : St) : Int := cmpI a.task b.task
theorem ahead_g (a b : St) (w : World) : Calls Try.prog 20 #[aggS a, aggS b] w fun e w' => e = .returned (.int .i64 (cmpS a b)) ∧ Grn w w' := by
  unfold cmpS aggS
  have H := Lib.hid (fun w' => compare_c a.task b.task w')
  generalize cmpI a.task b.task = r at *
  go_enter Try.func20, Try.ntmps20
  go_wp2_with fail
  refine (H.out _).mono ?_
  rintro e w' ⟨rfl, rfl⟩
  go_wp2_with fail
  go_ret
  exact ⟨rfl, ((Grn.refl _).alloc _).alloc _⟩
/-- Is it this task's? -/
theorem pred_c (x : St) (t : Int) (B : Nat) (w : World) (h2 : w.cell? ⟨B, 2, none⟩ = some (.int .i64 t)) :
    Calls Try.prog 17 #[aggS x, .pointer (some ⟨B, 0, none⟩)] w fun e w' => e = .returned (.bool (x.task == t)) ∧ Made w w' := by
  have hlt := cell_lt h2
  have hne : B ≠ w.heap.size := fun e => by simp only at hlt; omega
  have h2' := fun (o : Obj) => (World.cell?_of_block (Below.heap_alloc w o B hlt) : (w.alloc o).cell? ⟨B, 2, none⟩ = w.cell? ⟨B, 2, none⟩).trans h2
  clear h2 hlt
  unfold aggS
  go_enter Try.func17, Try.ntmps17
  go_wp2_with fail
  go_ret
  exact ⟨rfl, (Turns.refl _ _).alloc _⟩
/-- Where a task is. -/
theorem idx_some (v : Value) (ys : List St) (t : Int) (B : Nat) (w : World) (ho : Owns encS 41 4 w v ys) (h2 : w.cell? ⟨B, 2, none⟩ = some (.int .i64 t)) (hn : ys.length ≤ 1000000) {k : Nat} {x : St} (hk : ys[k]? = some x) (hx : x.task = t) (hf : ∀ (j : Nat) (y : St), j < k → ys[j]? = some y → y.task ≠ t) :
    Calls Try.prog 16 #[v, .func (.func 17) #[] #[.pointer (some ⟨B, 0, none⟩)]] w fun e w' => e = .returned (.int .i64 k) ∧ Made w w' := by
  rcases ho.form with ⟨rfl, h0⟩ | ⟨g, cap, rfl, hg, hlc, hcm⟩
  · rw [h0] at hk; simp at hk
  have HO := Lib.hid ho
  have HK := Lib.hid hk
  have HX := Lib.hid hx
  have HF := Lib.hid hf
  have HP := Lib.hid (fun (y : St) (w' : World) (hm : Made w w') => pred_c y t B w' ((hm.cell (p := ⟨B, 2, none⟩) (cell_lt h2) (fun h => h)).trans h2))
  unfold aggS at HP
  have hkl := (List.getElem?_eq_some_iff.1 hk).1
  clear ho hk hx hf hg h2
  go_enter Try.func16, Try.ntmps16
  go_wp2_with fail
  go_loopw [8] (fun v8 wr => ∃ j : Nat, j ≤ k ∧ v8 = .int .i64 j ∧ Made w wr) (fun v8 _ => k - (intOf v8).toNat)
  case atStart => exact ⟨0, Nat.zero_le _, rfl, Turns.refl _ _⟩
  case round =>
    obtain ⟨j, hj, rfl, hm⟩ := hrel
    have j1 : (0 : Int) ≤ (j : Int) := Int.natCast_nonneg _
    have j2 : (j : Int) < (ys.length : Int) := by omega
    obtain ⟨y, hy⟩ := get_of_lt (xs := ys) (k := j) (by omega)
    have e0 := Owns.cell encS_len (HO.out.turns hm (fun _ _ h => h)) hy (j := 0) rfl
    have e1 := Owns.cell encS_len (HO.out.turns hm (fun _ _ h => h)) hy (j := 1) rfl
    have e2 := Owns.cell encS_len (HO.out.turns hm (fun _ _ h => h)) hy (j := 2) rfl
    have e3 := Owns.cell encS_len (HO.out.turns hm (fun _ _ h => h)) hy (j := 3) rfl
    simp only [Nat.add_zero] at e0
    have HM := Lib.hid hm
    have HY := Lib.hid hy
    clear hm hy
    go_wp2_with fail
    refine (HP.out y wr HM.out).mono ?_
    rintro e w' ⟨rfl, hm⟩
    have HM2 := Lib.hid (HM.out.trans hm)
    clear hm HM e0 e1 e2 e3
    by_cases hjk : j = k
    · have hb : (y.task == t) = true := by
        subst hjk
        have := HY.out
        rw [HK.out] at this
        cases this
        simp [HX.out]
      have HJK := Lib.hid hjk
      clear hjk
      go_wp2_with fail
      go_ret
      exact ⟨by rw [← HJK.out]; rfl, HM2.out⟩
    · have hb : (y.task == t) = false := by
        have := HF.out j y (by omega) HY.out
        simpa using this
      go_wp2_with fail
      go_roundw
      case rel => exact ⟨j + 1, by omega, by go_num, HM2.out⟩
      case measure => simp [intOf]; omega
theorem idx_none (v : Value) (ys : List St) (t : Int) (B : Nat) (w : World) (ho : Owns encS 41 4 w v ys) (h2 : w.cell? ⟨B, 2, none⟩ = some (.int .i64 t)) (hn : ys.length ≤ 1000000) (hf : ∀ y ∈ ys, y.task ≠ t) (hne : ys ≠ []) :
    Calls Try.prog 16 #[v, .func (.func 17) #[] #[.pointer (some ⟨B, 0, none⟩)]] w fun e w' => e = .returned (.int .i64 (-1)) ∧ Made w w' := by
  rcases ho.form with ⟨rfl, h0⟩ | ⟨g, cap, rfl, hg, hlc, hcm⟩
  · exact absurd h0 hne
  have HO := Lib.hid ho
  have HF := Lib.hid hf
  have HP := Lib.hid (fun (y : St) (w' : World) (hm : Made w w') => pred_c y t B w' ((hm.cell (p := ⟨B, 2, none⟩) (cell_lt h2) (fun h => h)).trans h2))
  unfold aggS at HP
  clear ho hf hg h2 hne
  go_enter Try.func16, Try.ntmps16
  go_wp2_with fail
  go_loopw [8] (fun v8 wr => ∃ j : Nat, j ≤ ys.length ∧ v8 = .int .i64 j ∧ Made w wr) (fun v8 _ => ys.length - (intOf v8).toNat)
  case atStart => exact ⟨0, Nat.zero_le _, rfl, Turns.refl _ _⟩
  case round =>
    obtain ⟨j, hj, rfl, hm⟩ := hrel
    have j1 : (0 : Int) ≤ (j : Int) := Int.natCast_nonneg _
    by_cases hjl : j < ys.length
    · have j2 : (j : Int) < (ys.length : Int) := by omega
      obtain ⟨y, hy⟩ := get_of_lt (xs := ys) (k := j) hjl
      have e0 := Owns.cell encS_len (HO.out.turns hm (fun _ _ h => h)) hy (j := 0) rfl
      have e1 := Owns.cell encS_len (HO.out.turns hm (fun _ _ h => h)) hy (j := 1) rfl
      have e2 := Owns.cell encS_len (HO.out.turns hm (fun _ _ h => h)) hy (j := 2) rfl
      have e3 := Owns.cell encS_len (HO.out.turns hm (fun _ _ h => h)) hy (j := 3) rfl
      simp only [Nat.add_zero] at e0
      have HM := Lib.hid hm
      have hb : (y.task == t) = false := by
        have := HF.out y (List.mem_of_getElem? hy)
        simpa using this
      clear hm hy
      go_wp2_with fail
      refine (HP.out y wr HM.out).mono ?_
      rintro e w' ⟨rfl, hm⟩
      have HM2 := Lib.hid (HM.out.trans hm)
      clear hm HM e0 e1 e2 e3
      go_wp2_with fail
      go_roundw
      case rel => exact ⟨j + 1, by omega, by go_num, HM2.out⟩
      case measure => simp [intOf]; omega
    · have j2 : ¬ (j : Int) < (ys.length : Int) := by omega
      have HM := Lib.hid hm
      clear hm
      go_wp2_with fail
      go_ret
      exact ⟨rfl, HM.out⟩
/-- How a task is behind an event of its own. -/
def goesM (x : St) (e : Ev) : St := if e.kind = 4 then ⟨x.task, 2, e.a, x.prog⟩ else if e.kind = 2 then ⟨x.task, 1, 0, x.prog⟩ else if e.kind = 3 ∨ e.kind = 1 then ⟨x.task, 0, 0, x.prog⟩ else x
theorem set_one {w : World} {g cap : Nat} {ys : List St} {T : TypeId} {k : Nat} {x : St} (s h : Int) (ho : Owns encS T 4 w (.slice (some ⟨g, 0, none⟩) ys.length cap) ys) (hk : ys[k]? = some x) :
    Owns encS T 4 ((w.setCell ⟨g, k * 4 + 1, none⟩ (.int .i64 s)).setCell ⟨g, k * 4 + 2, none⟩ (.int .i64 h)) (.slice (some ⟨g, 0, none⟩) ys.length cap) (ys.set k ⟨x.task, s, h, x.prog⟩) := by
  have hkl := (List.getElem?_eq_some_iff.1 hk).1
  have h1 := Owns.put encS_len ho (x' := ⟨x.task, s, x.how, x.prog⟩) (j := 1) (u := .int .i64 s) hk rfl (by decide)
  have h1' : Owns encS T 4 (w.setCell ⟨g, k * 4 + 1, none⟩ (.int .i64 s)) (.slice (some ⟨g, 0, none⟩) (ys.set k ⟨x.task, s, x.how, x.prog⟩).length cap) (ys.set k ⟨x.task, s, x.how, x.prog⟩) := by rw [List.length_set]; exact h1
  have h2 := Owns.put encS_len h1' (i := k) (x := ⟨x.task, s, x.how, x.prog⟩) (x' := ⟨x.task, s, h, x.prog⟩) (j := 2) (u := .int .i64 h) (by rw [List.getElem?_set_self hkl]) rfl (by decide)
  rw [List.length_set, List.set_set] at h2
  exact h2
theorem turns_two (w : World) (g a b : Nat) (x y : Value) : Turns (fun c => c = g) w ((w.setCell ⟨g, a, none⟩ x).setCell ⟨g, b, none⟩ y) :=
  ((Turns.refl (fun c => c = g) w).setCell (p := ⟨g, a, none⟩) (fun _ => rfl) _).setCell (p := ⟨g, b, none⟩) (fun _ => rfl) _
end Go.Proofs.Ytjcmmgjaopejgaa
