/-
  The document's timers: Armed, Take.
-/
import Derived.Test.YtgjgopcomgclkaaRv
import Derived.Test.YtgjgopcomgclkaaNx
import Derived.Test.YtgjgopcomgclkaaEz
namespace Go.Proofs.Ytgjgopcomgclkaa
open Go.RowKit
set_option linter.unusedVariables false
set_option linter.unusedSimpArgs false

theorem rarmed_none {w : World} {b : Nat} {F : Nat → Prop} {L : List It} {sq : Int} {PL : List It} (id : Int) (h : RTAt w b F L sq PL) (hl : L.length ≤ 1000000) (hf : findL id L = none) :
    Calls Try.prog 36 #[.pointer (some ⟨b, 0, none⟩), .int .i64 id] w fun e w' => e = .returned (.tuple #[.int .i64 0, .int .i64 0, .bool false]) ∧ Made w w' := by
  obtain ⟨lv, pv, hr, _⟩ := h.ref
  have HF := Lib.hid (rfind_none id w hr.h hl ((findL_none id).1 hf))
  clear h hr hf
  go_enter Try.func36, Try.ntmps36
  go_wp2_with fail
  refine HF.out.mono ?_
  rintro e w' ⟨rfl, rfl⟩
  go_wp2_with fail
  go_ret3
  exact ⟨rfl, Turns.refl _ _⟩
set_option maxHeartbeats 2000000 in
theorem rarmed_some {w : World} {b : Nat} {F : Nat → Prop} {L : List It} {sq : Int} {PL : List It} (id : Int) (h : RTAt w b F L sq PL) (hl : L.length ≤ 1000000) (hn : PL.length ≤ 1000000) (hu : Uniq L) (hup : Uniq PL) {x y : It} (hf : findL id L = some x) (hp : findL id PL = some y) :
    Calls Try.prog 36 #[.pointer (some ⟨b, 0, none⟩), .int .i64 id] w fun e w' => e = .returned (.tuple #[.int .i64 x.when, .int .i64 y.when, .bool true]) ∧ Made w w' := by
  obtain ⟨lv, pv, hr, _⟩ := h.ref
  obtain ⟨k, hk, hid⟩ := find_at hu hf
  obtain ⟨kp, hkp, hidp⟩ := find_at hup hp
  have HF := Lib.hid (rfind_some id w hr.h hl hk hid hu)
  have HPD := Lib.hid (fun (w' : World) (hm : Made w w') => per_some id w' (hr.made hm) hn hkp hidp hup)
  rcases hr.h.own.form with ⟨rfl, h0⟩ | ⟨g, cp, rfl, hg, hlc, hcm⟩
  · rw [h0] at hk; simp at hk
  have HR := Lib.hid hr
  have HK := Lib.hid hk
  have hkl := (List.getElem?_eq_some_iff.1 hk).1
  clear h hr hf hp hk hid hkp hidp hu hup hg
  have k1 : (0 : Int) ≤ (k : Int) := Int.natCast_nonneg _
  go_enter Try.func36, Try.ntmps36
  go_wp2_with fail
  refine HF.out.mono ?_
  rintro e w' ⟨rfl, rfl⟩
  go_wp2_with fail
  have k1 : (0 : Int) ≤ (k : Int) := Int.natCast_nonneg _
  have k2 : (k : Int) < (L.length : Int) := by omega
  have p0 := (HR.out.made (Turns.drew (Turns.refl (fun _ => False) w))).cells.1
  have p1 := Owns.cell encT_len (HR.out.made (Turns.drew (Turns.refl (fun _ => False) w))).h.own HK.out (j := 1) rfl
  refine wp_region_held_drew (S := fun w' => w.drew = w') (by kernel_rfl) ?_ (fun hHeld => ?_)
  · exact rfl
  refine takeH (i := 0) (d := some 15) (v := ?_) rfl rfl (by kernel_rfl) (by kernel_rfl) (by kernel_rfl) (fun _ _ _ h => h) (Or.inl ⟨by rfl, ?_⟩) (by assumption) ?_
  rotate_left
  · intro w hSw
    try dsimp only at hSw
    go_simp
    try with_reducible rfl
  try simp only [Act.put, List.setIfInBounds_toArray, List.set_cons_zero, List.set_cons_succ]
  refine takeH (i := 1) (d := some 16) (v := ?_) rfl rfl (by kernel_rfl) (by kernel_rfl) (by kernel_rfl) (fun _ _ _ h => h) (Or.inl ⟨by rfl, ?_⟩) (by assumption) ?_
  rotate_left
  · intro w hSw
    try dsimp only at hSw
    go_simp
    try with_reducible rfl
  try simp only [Act.put, List.setIfInBounds_toArray, List.set_cons_zero, List.set_cons_succ]
  refine takeH (i := 2) (d := some 17) (v := ?_) rfl rfl (by kernel_rfl) (by kernel_rfl) (by kernel_rfl) (fun _ _ _ h => h) (Or.inl ⟨by rfl, ?_⟩) (by assumption) ?_
  rotate_left
  · intro w hSw
    try dsimp only at hSw
    go_simp
    try with_reducible rfl
  try simp only [Act.put, List.setIfInBounds_toArray, List.set_cons_zero, List.set_cons_succ]
  refine takeH (i := 3) (d := some 18) (v := ?_) rfl rfl (by kernel_rfl) (by kernel_rfl) (by kernel_rfl) (fun _ _ _ h => h) (Or.inl ⟨by rfl, ?_⟩) (by assumption) ?_
  rotate_left
  · intro w hSw
    try dsimp only at hSw
    go_simp
    try with_reducible rfl
  try simp only [Act.put, List.setIfInBounds_toArray, List.set_cons_zero, List.set_cons_succ]
  refine takeH (i := 4) (d := some 19) (v := ?_) rfl rfl (by kernel_rfl) (by kernel_rfl) (by kernel_rfl) (fun _ _ _ h => h) (Or.inl ⟨by rfl, ?_⟩) (by assumption) ?_
  rotate_left
  · intro w hSw
    try dsimp only at hSw
    subst hSw
    go_simp
    try with_reducible rfl
  try simp only [Act.put, List.setIfInBounds_toArray, List.set_cons_zero, List.set_cons_succ]
  refine takeH (i := 5) (d := some 20) (v := ?_) rfl rfl (by kernel_rfl) (by kernel_rfl) (by kernel_rfl) (fun _ _ _ h => h) (Or.inl ⟨by rfl, ?_⟩) (by assumption) ?_
  rotate_left
  · intro w hSw
    try dsimp only at hSw
    go_simp
    try with_reducible rfl
  try simp only [Act.put, List.setIfInBounds_toArray, List.set_cons_zero, List.set_cons_succ]
  refine takeH (i := 6) (d := some 21) (v := ?_) rfl rfl (by kernel_rfl) (by kernel_rfl) (by kernel_rfl) (fun _ _ _ h => h) (Or.inl ⟨by rfl, ?_⟩) (by assumption) ?_
  rotate_left
  · intro w hSw
    try dsimp only at hSw
    go_simp
    try with_reducible rfl
  try simp only [Act.put, List.setIfInBounds_toArray, List.set_cons_zero, List.set_cons_succ]
  refine takeH (i := 7) (d := some 22) (v := ?_) rfl rfl (by kernel_rfl) (by kernel_rfl) (by kernel_rfl) (fun _ _ _ h => h) (Or.inl ⟨by rfl, ?_⟩) (by assumption) ?_
  rotate_left
  · intro w hSw
    try dsimp only at hSw
    go_simp
    try with_reducible rfl
  try simp only [Act.put, List.setIfInBounds_toArray, List.set_cons_zero, List.set_cons_succ]
  refine takeH (i := 8) (d := some 23) (v := ?_) rfl rfl (by kernel_rfl) (by kernel_rfl) (by kernel_rfl) (fun _ _ _ h => h) (Or.inl ⟨by rfl, ?_⟩) (by assumption) ?_
  rotate_left
  · intro w hSw
    try dsimp only at hSw
    subst hSw
    go_simp
    try with_reducible rfl
  try simp only [Act.put, List.setIfInBounds_toArray, List.set_cons_zero, List.set_cons_succ]
  refine takeH (i := 9) (d := some 24) (v := ?_) rfl rfl (by kernel_rfl) (by kernel_rfl) (by kernel_rfl) (fun _ _ _ h => h) (Or.inl ⟨by rfl, ?_⟩) (by assumption) ?_
  rotate_left
  · intro w hSw
    try dsimp only at hSw
    go_simp
    try with_reducible rfl
  try simp only [Act.put, List.setIfInBounds_toArray, List.set_cons_zero, List.set_cons_succ]
  refine takeH (i := 10) (d := some 25) (v := ?_) rfl rfl (by kernel_rfl) (by kernel_rfl) (by kernel_rfl) (fun _ _ _ h => h) (Or.inl ⟨by rfl, ?_⟩) (by assumption) ?_
  rotate_left
  · intro w hSw
    try dsimp only at hSw
    go_simp
    try with_reducible rfl
  try simp only [Act.put, List.setIfInBounds_toArray, List.set_cons_zero, List.set_cons_succ]
  refine wpAnyH_ready (rs := [11]) (by kernel_rfl) (by simp) ?_
  refine AllReadyH.cons rfl (fun K hK => ?_) AllReadyH.nil
  go_simp
  refine (HPD.out _ (Turns.drew (Turns.refl _ w))).mono ?_
  rintro e w' ⟨rfl, rfl⟩
  go_wp2_with fail
  refine hK.out _ _ ?_ (fun hHeld => ?_)
  · exact rfl
  clear hK K
  try simp only [Act.put, List.setIfInBounds_toArray, List.set_cons_zero, List.set_cons_succ]
  refine takeH (i := 12) (d := some 4) (v := ?_) rfl rfl (by kernel_rfl) (by kernel_rfl) (by kernel_rfl) (fun _ _ _ h => h) (Or.inl ⟨by rfl, ?_⟩) (by assumption) ?_
  rotate_left
  · intro w hSw
    try dsimp only at hSw
    go_simp
    try with_reducible rfl
  try simp only [Act.put, List.setIfInBounds_toArray, List.set_cons_zero, List.set_cons_succ]
  refine takeH (i := 13) (d := some 5) (v := ?_) rfl rfl (by kernel_rfl) (by kernel_rfl) (by kernel_rfl) (fun _ _ _ h => h) (Or.inl ⟨by rfl, ?_⟩) (by assumption) ?_
  rotate_left
  · intro w hSw
    try dsimp only at hSw
    go_simp
    try with_reducible rfl
  try simp only [Act.put, List.setIfInBounds_toArray, List.set_cons_zero, List.set_cons_succ]
  refine takeH (i := 14) (d := some 6) (v := ?_) rfl rfl (by kernel_rfl) (by kernel_rfl) (by kernel_rfl) (fun _ _ _ h => h) (Or.inl ⟨by rfl, ?_⟩) (by assumption) ?_
  rotate_left
  · intro w hSw
    try dsimp only at hSw
    go_simp
    try with_reducible rfl
  try simp only [Act.put, List.setIfInBounds_toArray, List.set_cons_zero, List.set_cons_succ]
  refine wpAnyH_done (by kernel_rfl) ?_ _
  clear p0 p1
  go_wp2_with fail
  go_ret3
  exact ⟨rfl, Turns.drew (Turns.refl _ w)⟩

theorem res_boxDR {fn : Func} {p u : Tmp} (hr : fn.results = #[.cell p 61, .tmp u]) {tmps : Array Value} {w : World} {g : Nat} {a b c v : Value} (hb : Blk w g 61 #[a, b, c]) (hp : tmps.getD p undef = .pointer (some ⟨g, 0, none⟩)) (hv : tmps.getD u undef = v) :
    (results fn tmps).run Try.prog w = .ok (.tuple #[.agg #[a, b, c], v]) w := by
  have c0 := hb.cell 0
  have c1 := hb.cell 1
  have c2 := hb.cell 2
  simp only [List.getElem?_toArray, List.getElem?_cons_zero, List.getElem?_cons_succ] at c0 c1 c2
  rw [results_cell_tmp hr, hp, hv]
  go_simp
set_option maxHeartbeats 2000000 in
theorem rtake_none {w : World} {b : Nat} {F : Nat → Prop} {L : List It} {sq : Int} {PL : List It} (now : Int) (h : RTAt w b F L sq PL) (hl : L.length ≤ 1000000) (hn : ∀ x, L[0]? = some x → now < 0 ∨ now < x.when) :
    Calls Try.prog 34 #[.pointer (some ⟨b, 0, none⟩), .int .i64 now] w fun e w' => e = .returned (.tuple #[dueV 0 0 0, .bool false]) ∧ Made w w' := by
  obtain ⟨lv, pv, hr, _⟩ := h.ref
  have HM := Lib.hid (Turns.alloc (Turns.refl (fun _ => False) w) (.cells #[.int .i64 0, .int .i64 0, .int .i64 0] 61))
  have HB := Lib.hid (Blk.new w 61 #[.int .i64 0, .int .i64 0, .int .i64 0])
  have c0 := fun (o : Obj) => (hr.made (Turns.alloc (Turns.refl (fun _ => False) w) o)).cells.1
  unfold dueV
  by_cases h0 : now < 0
  · clear hn h hr c0
    go_enter Try.func34, Try.ntmps34
    go_wp2_with fail
    refine bodyPost_ret (res_boxDR rfl HB.out rfl rfl) rfl ?_
    exact ⟨rfl, HM.out⟩
  cases L with
  | nil =>
    obtain ⟨a, c, hlv⟩ := owns_slice hr.h.own
    subst hlv
    simp only [List.length_nil] at c0
    clear hn h hr
    go_enter Try.func34, Try.ntmps34
    go_wp2_with fail
    refine bodyPost_ret (res_boxDR rfl HB.out rfl rfl) rfl ?_
    exact ⟨rfl, HM.out⟩
  | cons x l =>
    have hx : now < x.when := (hn x rfl).resolve_left h0
    rcases hr.h.own.form with ⟨_, h1⟩ | ⟨g, cp, rfl, hg, hlc, hcm⟩
    · cases h1
    have e1 := fun (o : Obj) => Owns.cell encT_len (hr.made (Turns.alloc (Turns.refl (fun _ => False) w) o)).h.own (i := 0) (x := x) rfl (j := 1) rfl
    simp only [Nat.zero_mul, Nat.zero_add] at e1
    have hne : (((x :: l).length : Int) == 0) = false := by first | (simp; done) | (simp; omega)
    have hl0 : (0 : Int) < ((x :: l).length : Int) := by first | (simp; done) | (simp; omega)
    simp only [List.length_cons] at c0 hne hl0
    clear hn h hr hg
    go_enter Try.func34, Try.ntmps34
    go_wp2_with fail
    refine bodyPost_ret (res_boxDR rfl HB.out rfl rfl) rfl ?_
    exact ⟨rfl, HM.out⟩
end Go.Proofs.Ytgjgopcomgclkaa
