/-
  tarpaulinlaw23.OrderTold: its walk.
-/
import Derived.Test.YtjcmmgjaopejgaaP4
namespace Go.Proofs.Ytjcmmgjaopejgaa
open Go.RowKit Go.Sort
set_option linter.unusedVariables false
set_option linter.unusedSimpArgs false

/-! How many tell; all tasks' together. -/
def cntM (l : List Ev) : Nat := (l.filter fun e => e.kind == 1).length
theorem cnt_next {l : List Ev} {k : Nat} {e : Ev} (h : l[k]? = some e) : cntM (l.take (k + 1)) = cntM (l.take k) + (if e.kind = 1 then 1 else 0) := by
  obtain ⟨hl, rfl⟩ := List.getElem?_eq_some_iff.1 h
  unfold cntM
  rw [List.take_succ_eq_append_getElem hl, List.filter_append, List.length_append]
  congr 1
  by_cases hc : l[k].kind = 1 <;> simp [hc]
theorem cnt_le (l : List Ev) (k : Nat) : cntM (l.take k) ≤ k := by
  unfold cntM
  have h1 := List.length_filter_le (fun e : Ev => e.kind == 1) (l.take k)
  have h2 := List.length_take_le k l
  omega
def sumT (l : List Ev) (T : List Int) : Nat := (T.map fun t => (toldM l t).length).sum
theorem sum_one {f : Int → Nat} {x : Int} : ∀ {T : List Int}, T.Nodup → x ∈ T → (T.map fun t => f t + if t = x then 1 else 0).sum = (T.map f).sum + 1 := by
  intro T
  induction T with
  | nil => intro _ h; cases h
  | cons a T ih =>
    intro hn hx
    rw [List.nodup_cons] at hn
    simp only [List.map_cons, List.sum_cons]
    rcases List.mem_cons.1 hx with rfl | hx
    · have hz : (T.map fun t => f t + if t = x then 1 else 0) = T.map f := List.map_congr_left fun t ht => by
        have : t ≠ x := fun e => hn.1 (e ▸ ht)
        simp [this]
      rw [hz]
      simp
      omega
    · have : a ≠ x := fun e => hn.1 (e ▸ hx)
      rw [ih hn.2 hx]
      simp [this]
      omega
theorem told_cons (e : Ev) (l : List Ev) (t : Int) : (toldM (e :: l) t).length = (toldM l t).length + if e.kind = 1 ∧ e.task = t then 1 else 0 := by
  unfold toldM
  by_cases hc : e.kind = 1 ∧ e.task = t <;> simp [hc]
theorem sum_told : ∀ (l : List Ev) (T : List Int), T.Nodup → (∀ e ∈ l, e.kind = 1 → e.task ∈ T) → sumT l T = cntM l := by
  intro l
  induction l with
  | nil =>
    intro T _ _
    have h : ∀ T : List Int, (T.map fun t => (toldM [] t).length).sum = 0 := fun T => by
      induction T with
      | nil => rfl
      | cons t T ih => rw [List.map_cons, List.sum_cons, ih]; rfl
    unfold sumT
    rw [h]
    rfl
  | cons e l ih =>
    intro T hn hin
    have ih2 := ih T hn (fun z hz hk => hin z (List.mem_cons_of_mem _ hz) hk)
    unfold sumT at ih2 ⊢
    by_cases hk : e.kind = 1
    · have hx := hin e (List.mem_cons_self ..) hk
      have h1 := sum_one (f := fun t => (toldM l t).length) hn hx
      have h2 : (T.map fun t => (toldM (e :: l) t).length) = T.map fun t => (toldM l t).length + if t = e.task then 1 else 0 := List.map_congr_left fun t _ => by
        rw [told_cons]
        by_cases ht : t = e.task
        · simp [ht, hk]
        · have : ¬ e.task = t := fun h => ht h.symm
          simp [ht, this]
      rw [h2, h1, ih2]
      simp [cntM, hk]
    · have h2 : (T.map fun t => (toldM (e :: l) t).length) = T.map fun t => (toldM l t).length := List.map_congr_left fun t _ => by
        rw [told_cons]
        simp [hk]
      rw [h2, ih2]
      simp [cntM, hk]
theorem sumT_next {l : List Ev} {T : List Int} {k : Nat} {t : Int} (h : T[k]? = some t) : sumT l (T.take (k + 1)) = sumT l (T.take k) + (toldM l t).length := by
  obtain ⟨hl, rfl⟩ := List.getElem?_eq_some_iff.1 h
  unfold sumT
  rw [List.take_succ_eq_append_getElem hl, List.map_append, List.sum_append]
  simp
theorem sumT_le (l : List Ev) (T : List Int) (k : Nat) : sumT l (T.take k) ≤ sumT l T := by
  unfold sumT
  conv => rhs; rw [← List.take_append_drop k T, List.map_append, List.sum_append]
  omega
/-- Where a task told: the row of its values there. -/
theorem told_get {l : List Ev} {t : Int} {i : Nat} {e : Ev} (h : l[i]? = some e) (hk : e.kind = 1 ∧ e.task = t) : (toldM l t)[(toldM (l.take i) t).length]? = some e.a := by
  have h1 : toldM l t = toldM (l.take (i + 1)) t ++ toldM (l.drop (i + 1)) t := by
    unfold toldM
    rw [← List.filterMap_append, List.take_append_drop]
  rw [h1, told_next h, if_pos hk]
  simp
/-- Those that told. -/
structure Tellers (l : List Ev) (j : Nat) (T : List Int) : Prop where
  nd : T.Nodup
  mem : ∀ t, t ∈ T ↔ ∃ i e, i < j ∧ l[i]? = some e ∧ e.kind = 1 ∧ e.task = t
  len : T.length ≤ j
theorem Tellers.zero (l : List Ev) : Tellers l 0 [] := ⟨List.nodup_nil, fun t => ⟨fun h => (by cases h), fun ⟨i, e, h, _⟩ => absurd h (Nat.not_lt_zero _)⟩, Nat.le_refl _⟩
theorem Tellers.skip {l : List Ev} {j : Nat} {T : List Int} {e : Ev} (h : Tellers l j T) (he : l[j]? = some e) (hk : e.kind ≠ 1) : Tellers l (j + 1) T :=
  ⟨h.nd, fun t => (h.mem t).trans ⟨fun ⟨i, z, hi, hz, hzk⟩ => ⟨i, z, by omega, hz, hzk⟩, fun ⟨i, z, hi, hz, hzk⟩ => by
    rcases Nat.lt_or_ge i j with h1 | h1
    · exact ⟨i, z, h1, hz, hzk⟩
    · obtain rfl : i = j := by omega
      rw [he] at hz
      cases hz
      exact absurd hzk.1 hk⟩, by have := h.len; omega⟩
theorem Tellers.met {l : List Ev} {j : Nat} {T : List Int} {e : Ev} (h : Tellers l j T) (he : l[j]? = some e) (hm : e.task ∈ T) : Tellers l (j + 1) T :=
  ⟨h.nd, fun t => ⟨fun ht => by
    obtain ⟨i, z, hi, hz⟩ := (h.mem t).1 ht
    exact ⟨i, z, by omega, hz⟩, fun ⟨i, z, hi, hz, hzk⟩ => by
    rcases Nat.lt_or_ge i j with h1 | h1
    · exact (h.mem t).2 ⟨i, z, h1, hz, hzk⟩
    · obtain rfl : i = j := by omega
      rw [he] at hz
      cases hz
      rw [← hzk.2]
      exact hm⟩, by have := h.len; omega⟩
theorem Tellers.new {l : List Ev} {j : Nat} {T : List Int} {e : Ev} (h : Tellers l j T) (he : l[j]? = some e) (hk : e.kind = 1) (hm : e.task ∉ T) : Tellers l (j + 1) (T ++ [e.task]) :=
  ⟨List.nodup_append.2 ⟨h.nd, by simp, fun a ha b hb => by simp at hb; rw [hb]; exact fun e => hm (e ▸ ha)⟩, fun t => ⟨fun ht => by
    rcases List.mem_append.1 ht with ht | ht
    · obtain ⟨i, z, hi, hz⟩ := (h.mem t).1 ht
      exact ⟨i, z, by omega, hz⟩
    · simp at ht
      exact ⟨j, e, by omega, he, hk, ht.symm⟩, fun ⟨i, z, hi, hz, hzk⟩ => by
    rcases Nat.lt_or_ge i j with h1 | h1
    · exact List.mem_append.2 (.inl ((h.mem t).2 ⟨i, z, h1, hz, hzk⟩))
    · obtain rfl : i = j := by omega
      rw [he] at hz
      cases hz
      exact List.mem_append.2 (.inr (by simp [hzk.2]))⟩, by have := h.len; simp; omega⟩
theorem Tellers.all {l : List Ev} {T : List Int} (h : Tellers l l.length T) : sumT l T = cntM l :=
  sum_told l T h.nd fun e he hk => by
    obtain ⟨i, hi⟩ := List.mem_iff_getElem?.1 he
    exact (h.mem _).2 ⟨i, e, (List.getElem?_eq_some_iff.1 hi).1, hi, hk, rfl⟩

set_option maxHeartbeats 8000000 in
set_option maxRecDepth 100000 in
theorem otold_w (a : Option Addr) (len cap : Nat) (l : List Ev) (w : World) (hw : RowIn encE 6 w a len l) (hc : len ≤ cap) :
    Calls Try.prog 5 #[.slice a len cap] w fun e w' => e = .returned (.bool true) ∧ Made w w' := by
  obtain ⟨i0, hi0, hz0, hz1, hz2⟩ := info_parts Try.infoI
  have HW := Lib.hid hw
  clear hw
  by_cases h1 : 100 < len
  · have h1' : (100 : Int) < (len : Int) := by omega
    go_enter Try.func5, Try.ntmps5
    go_wp2_with fail
    refine (awake_c w).mono ?_
    rintro e w' ⟨rfl, hm⟩
    have HM := Lib.hid hm
    clear hm
    go_wp2_with fail
    go_ret
    exact ⟨rfl, HM.out⟩
  have h1' : ¬ (100 : Int) < (len : Int) := by omega
  go_enter Try.func5, Try.ntmps5
  go_wp2_with fail
  go_loopw [3, 4, 5] (fun v3 v4 v5 wr => ∃ (j : Nat) (T : List Int), j ≤ len ∧ v5 = .int .i64 j ∧ v3 = .int .i64 (cntM (l.take j)) ∧ Grow encI 3 1 w wr v4 T ∧ Tellers l j T) (fun _ _ v5 _ => len - (intOf v5).toNat)
  case atStart => exact ⟨0, [], Nat.zero_le _, rfl, rfl, Grow.nil (Turns.refl _ _), Tellers.zero l⟩
  case round =>
    obtain ⟨j, T, hj, rfl, rfl, hg, ht⟩ := hrel
    have HG := Lib.hid hg
    have HT := Lib.hid ht
    have htl := ht.len
    clear hg ht
    have j1 : (0 : Int) ≤ (j : Int) := Int.natCast_nonneg _
    by_cases hjl : j < len
    · have j2 : (j : Int) < (len : Int) := by omega
      obtain ⟨hlen, h0 | ⟨bb, off, rfl, hb, hlies⟩⟩ := HW.out
      · omega
      obtain ⟨e, he⟩ := get_of_lt (xs := l) (k := j) (by omega)
      have HEV := Lib.hid (fun (w' : World) (hm : Made w w') => ev_cells (hlies.keep fun o => hm.cell (p := ⟨bb, o, none⟩) hb (fun h => h)) he)
      obtain ⟨c0, c1, c2, c3, c4, c5⟩ := HEV.out _ HG.out.made
      have HE := Lib.hid he
      have HN := Lib.hid (cnt_next he)
      have hcl := cnt_le l j
      clear he hlies hb hlen
      by_cases hk : e.kind = 1
      · have b1 : (e.kind != 1) = false := by simp [hk]
        have HC := Lib.hid (show cntM (l.take (j + 1)) = cntM (l.take j) + 1 by rw [HN.out, if_pos hk])
        have HK := Lib.hid hk
        generalize cntM (l.take j) = n at *
        have hwn : IntKind.i64.wrap ((n : Int) + 1) = (n : Int) + 1 := wrap_in _ (by omega)
        clear hk
        go_wp2_with fail
        go_loopw [6, 7] (fun v6 v7 wx => ∃ k : Nat, k ≤ T.length ∧ v7 = .int .i64 k ∧ v6 = .bool (decide (e.task ∈ T.take k)) ∧ Made wr wx) (fun _ v7 _ => T.length - (intOf v7).toNat)
        case atStart => exact ⟨0, Nat.zero_le _, rfl, by simp, Turns.refl _ _⟩
        case round =>
          obtain ⟨k, hk, rfl, rfl, hm⟩ := hrel
          have HM := Lib.hid hm
          clear hm c0 c1 c2 c3 c4 c5
          have k1 : (0 : Int) ≤ (k : Int) := Int.natCast_nonneg _
          obtain ⟨av, cv, hv⟩ := owns_slice HG.out.own
          subst hv
          by_cases hkl : k < T.length
          · have k2 : (k : Int) < (T.length : Int) := by omega
            obtain ⟨x, hx⟩ := get_of_lt hkl
            rcases HG.out.own.form with ⟨h0, h1⟩ | ⟨g, cp, hvv, hgl, hlc, hcm⟩
            · rw [h1] at hkl
              simp at hkl
            simp only [Value.slice.injEq, true_and] at hvv
            obtain ⟨rfl, rfl⟩ := hvv
            have HX := Lib.hid hx
            have HM2 := Lib.hid (Turns.drew HM.out)
            have HTK := Lib.hid (show decide (e.task ∈ T.take (k + 1)) = (decide (e.task ∈ T.take k) || (x == e.task)) by
              rw [List.take_add_one, hx]
              by_cases hin : e.task ∈ T.take k
              · simp [hin]
              · by_cases hxe : x = e.task
                · simp [hxe]
                · have : ¬ e.task = x := fun h => hxe h.symm
                  simp [hin, hxe, this])
            clear hx hgl
            have p0 := Owns.cell encI_len (HG.out.own.turns HM2.out (fun _ _ h => h)) HX.out (j := 0) rfl
            simp only [Nat.add_zero, Nat.mul_one] at p0
            have p2 := (HEV.out _ (HG.out.made.trans HM2.out)).2.2.1
            cases hmet : decide (e.task ∈ T.take k) with
            | true =>
              rw [hmet] at HTK
              go_wp2_with fail
              refine wp_region_held_drew (S := fun w' => wr.drew = w') (by kernel_rfl) ?_ (fun hHeld => ?_)
              · exact rfl
              refine takeH (i := 0) (d := some 36) (v := ?_) rfl rfl (by kernel_rfl) (by kernel_rfl) (by kernel_rfl) (fun _ _ _ h => h) (Or.inl ⟨by rfl, ?_⟩) (by assumption) ?_
              rotate_left
              · intro w hSw
                try dsimp only at hSw
                go_simp
                try with_reducible rfl
              try simp only [Act.put, List.setIfInBounds_toArray, List.set_cons_zero, List.set_cons_succ]
              refine takeH (i := 1) (d := some 37) (v := ?_) rfl rfl (by kernel_rfl) (by kernel_rfl) (by kernel_rfl) (fun _ _ _ h => h) (Or.inl ⟨by rfl, ?_⟩) (by assumption) ?_
              rotate_left
              · intro w hSw
                try dsimp only at hSw
                go_simp
                try with_reducible rfl
              try simp only [Act.put, List.setIfInBounds_toArray, List.set_cons_zero, List.set_cons_succ]
              refine takeH (i := 2) (d := some 38) (v := undef) rfl rfl (by kernel_rfl) (by kernel_rfl) (by kernel_rfl) (fun _ _ _ h => h) (Or.inr ⟨by rfl, rfl⟩) (by assumption) ?_
              try simp only [Act.put, List.setIfInBounds_toArray, List.set_cons_zero, List.set_cons_succ]
              refine takeH (i := 3) (d := some 39) (v := undef) rfl rfl (by kernel_rfl) (by kernel_rfl) (by kernel_rfl) (fun _ _ _ h => h) (Or.inr ⟨by rfl, rfl⟩) (by assumption) ?_
              try simp only [Act.put, List.setIfInBounds_toArray, List.set_cons_zero, List.set_cons_succ]
              refine takeH (i := 4) (d := some 40) (v := undef) rfl rfl (by kernel_rfl) (by kernel_rfl) (by kernel_rfl) (fun _ _ _ h => h) (Or.inr ⟨by rfl, rfl⟩) (by assumption) ?_
              try simp only [Act.put, List.setIfInBounds_toArray, List.set_cons_zero, List.set_cons_succ]
              refine takeH (i := 5) (d := some 41) (v := undef) rfl rfl (by kernel_rfl) (by kernel_rfl) (by kernel_rfl) (fun _ _ _ h => h) (Or.inr ⟨by rfl, rfl⟩) (by assumption) ?_
              try simp only [Act.put, List.setIfInBounds_toArray, List.set_cons_zero, List.set_cons_succ]
              refine takeH (i := 6) (d := some 42) (v := undef) rfl rfl (by kernel_rfl) (by kernel_rfl) (by kernel_rfl) (fun _ _ _ h => h) (Or.inr ⟨by rfl, rfl⟩) (by assumption) ?_
              try simp only [Act.put, List.setIfInBounds_toArray, List.set_cons_zero, List.set_cons_succ]
              refine takeH (i := 7) (d := some 43) (v := undef) rfl rfl (by kernel_rfl) (by kernel_rfl) (by kernel_rfl) (fun _ _ _ h => h) (Or.inr ⟨by rfl, rfl⟩) (by assumption) ?_
              try simp only [Act.put, List.setIfInBounds_toArray, List.set_cons_zero, List.set_cons_succ]
              refine takeH (i := 8) (d := some 44) (v := undef) rfl rfl (by kernel_rfl) (by kernel_rfl) (by kernel_rfl) (fun _ _ _ h => h) (Or.inr ⟨by rfl, rfl⟩) (by assumption) ?_
              try simp only [Act.put, List.setIfInBounds_toArray, List.set_cons_zero, List.set_cons_succ]
              refine takeH (i := 9) (d := some 45) (v := undef) rfl rfl (by kernel_rfl) (by kernel_rfl) (by kernel_rfl) (fun _ _ _ h => h) (Or.inr ⟨by rfl, rfl⟩) (by assumption) ?_
              try simp only [Act.put, List.setIfInBounds_toArray, List.set_cons_zero, List.set_cons_succ]
              refine takeH (i := 10) (d := some 46) (v := undef) rfl rfl (by kernel_rfl) (by kernel_rfl) (by kernel_rfl) (fun _ _ _ h => h) (Or.inr ⟨by rfl, rfl⟩) (by assumption) ?_
              try simp only [Act.put, List.setIfInBounds_toArray, List.set_cons_zero, List.set_cons_succ]
              refine takeH (i := 11) (d := some 47) (v := undef) rfl rfl (by kernel_rfl) (by kernel_rfl) (by kernel_rfl) (fun _ _ _ h => h) (Or.inr ⟨by rfl, rfl⟩) (by assumption) ?_
              try simp only [Act.put, List.setIfInBounds_toArray, List.set_cons_zero, List.set_cons_succ]
              refine takeH (i := 12) (d := some 48) (v := ?_) rfl rfl (by kernel_rfl) (by kernel_rfl) (by kernel_rfl) (fun _ _ _ h => h) (Or.inl ⟨by rfl, ?_⟩) (by assumption) ?_
              rotate_left
              · intro w hSw
                try dsimp only at hSw
                go_simp
                try with_reducible rfl
              try simp only [Act.put, List.setIfInBounds_toArray, List.set_cons_zero, List.set_cons_succ]
              refine takeH (i := 13) (d := some 6) (v := ?_) rfl rfl (by kernel_rfl) (by kernel_rfl) (by kernel_rfl) (fun _ _ _ h => h) (Or.inl ⟨by rfl, ?_⟩) (by assumption) ?_
              rotate_left
              · intro w hSw
                try dsimp only at hSw
                go_simp
                try with_reducible rfl
              try simp only [Act.put, List.setIfInBounds_toArray, List.set_cons_zero, List.set_cons_succ]
              refine wpAnyH_done (by kernel_rfl) ?_ _
              go_wp2_with fail
              go_roundw
              case rel => exact ⟨k + 1, by omega, by go_num, by rw [HTK.out]; rfl, HM2.out⟩
              case measure => simp [intOf]; omega
            | false =>
              rw [hmet] at HTK
              go_wp2_with fail
              refine wp_region_held_drew (S := fun w' => wr.drew = w') (by kernel_rfl) ?_ (fun hHeld => ?_)
              · exact rfl
              refine takeH (i := 0) (d := some 36) (v := ?_) rfl rfl (by kernel_rfl) (by kernel_rfl) (by kernel_rfl) (fun _ _ _ h => h) (Or.inl ⟨by rfl, ?_⟩) (by assumption) ?_
              rotate_left
              · intro w hSw
                try dsimp only at hSw
                go_simp
                try with_reducible rfl
              try simp only [Act.put, List.setIfInBounds_toArray, List.set_cons_zero, List.set_cons_succ]
              refine takeH (i := 1) (d := some 37) (v := ?_) rfl rfl (by kernel_rfl) (by kernel_rfl) (by kernel_rfl) (fun _ _ _ h => h) (Or.inl ⟨by rfl, ?_⟩) (by assumption) ?_
              rotate_left
              · intro w hSw
                try dsimp only at hSw
                go_simp
                try with_reducible rfl
              try simp only [Act.put, List.setIfInBounds_toArray, List.set_cons_zero, List.set_cons_succ]
              refine takeH (i := 2) (d := some 38) (v := ?_) rfl rfl (by kernel_rfl) (by kernel_rfl) (by kernel_rfl) (fun _ _ _ h => h) (Or.inl ⟨by rfl, ?_⟩) (by assumption) ?_
              rotate_left
              · intro w hSw
                try dsimp only at hSw
                go_simp
                try with_reducible rfl
              try simp only [Act.put, List.setIfInBounds_toArray, List.set_cons_zero, List.set_cons_succ]
              refine takeH (i := 3) (d := some 39) (v := ?_) rfl rfl (by kernel_rfl) (by kernel_rfl) (by kernel_rfl) (fun _ _ _ h => h) (Or.inl ⟨by rfl, ?_⟩) (by assumption) ?_
              rotate_left
              · intro w hSw
                try dsimp only at hSw
                go_simp
                try with_reducible rfl
              try simp only [Act.put, List.setIfInBounds_toArray, List.set_cons_zero, List.set_cons_succ]
              refine takeH (i := 4) (d := some 40) (v := ?_) rfl rfl (by kernel_rfl) (by kernel_rfl) (by kernel_rfl) (fun _ _ _ h => h) (Or.inl ⟨by rfl, ?_⟩) (by assumption) ?_
              rotate_left
              · intro w hSw
                try dsimp only at hSw
                go_simp
                try with_reducible rfl
              try simp only [Act.put, List.setIfInBounds_toArray, List.set_cons_zero, List.set_cons_succ]
              refine takeH (i := 5) (d := some 41) (v := ?_) rfl rfl (by kernel_rfl) (by kernel_rfl) (by kernel_rfl) (fun _ _ _ h => h) (Or.inl ⟨by rfl, ?_⟩) (by assumption) ?_
              rotate_left
              · intro w hSw
                try dsimp only at hSw
                subst hSw
                go_simp
                try with_reducible rfl
              try simp only [Act.put, List.setIfInBounds_toArray, List.set_cons_zero, List.set_cons_succ]
              refine takeH (i := 6) (d := some 42) (v := ?_) rfl rfl (by kernel_rfl) (by kernel_rfl) (by kernel_rfl) (fun _ _ _ h => h) (Or.inl ⟨by rfl, ?_⟩) (by assumption) ?_
              rotate_left
              · intro w hSw
                try dsimp only at hSw
                go_simp
                try with_reducible rfl
              try simp only [Act.put, List.setIfInBounds_toArray, List.set_cons_zero, List.set_cons_succ]
              refine takeH (i := 7) (d := some 43) (v := ?_) rfl rfl (by kernel_rfl) (by kernel_rfl) (by kernel_rfl) (fun _ _ _ h => h) (Or.inl ⟨by rfl, ?_⟩) (by assumption) ?_
              rotate_left
              · intro w hSw
                try dsimp only at hSw
                go_simp
                try with_reducible rfl
              try simp only [Act.put, List.setIfInBounds_toArray, List.set_cons_zero, List.set_cons_succ]
              refine takeH (i := 8) (d := some 44) (v := ?_) rfl rfl (by kernel_rfl) (by kernel_rfl) (by kernel_rfl) (fun _ _ _ h => h) (Or.inl ⟨by rfl, ?_⟩) (by assumption) ?_
              rotate_left
              · intro w hSw
                try dsimp only at hSw
                go_simp
                try with_reducible rfl
              try simp only [Act.put, List.setIfInBounds_toArray, List.set_cons_zero, List.set_cons_succ]
              refine takeH (i := 9) (d := some 45) (v := ?_) rfl rfl (by kernel_rfl) (by kernel_rfl) (by kernel_rfl) (fun _ _ _ h => h) (Or.inl ⟨by rfl, ?_⟩) (by assumption) ?_
              rotate_left
              · intro w hSw
                try dsimp only at hSw
                go_simp
                try with_reducible rfl
              try simp only [Act.put, List.setIfInBounds_toArray, List.set_cons_zero, List.set_cons_succ]
              refine takeH (i := 10) (d := some 46) (v := ?_) rfl rfl (by kernel_rfl) (by kernel_rfl) (by kernel_rfl) (fun _ _ _ h => h) (Or.inl ⟨by rfl, ?_⟩) (by assumption) ?_
              rotate_left
              · intro w hSw
                try dsimp only at hSw
                subst hSw
                go_simp
                try with_reducible rfl
              try simp only [Act.put, List.setIfInBounds_toArray, List.set_cons_zero, List.set_cons_succ]
              refine takeH (i := 11) (d := some 47) (v := ?_) rfl rfl (by kernel_rfl) (by kernel_rfl) (by kernel_rfl) (fun _ _ _ h => h) (Or.inl ⟨by rfl, ?_⟩) (by assumption) ?_
              rotate_left
              · intro w hSw
                try dsimp only at hSw
                go_simp
                try with_reducible rfl
              try simp only [Act.put, List.setIfInBounds_toArray, List.set_cons_zero, List.set_cons_succ]
              refine takeH (i := 12) (d := some 48) (v := ?_) rfl rfl (by kernel_rfl) (by kernel_rfl) (by kernel_rfl) (fun _ _ _ h => h) (Or.inl ⟨by rfl, ?_⟩) (by assumption) ?_
              rotate_left
              · intro w hSw
                try dsimp only at hSw
                go_simp
                try with_reducible rfl
              try simp only [Act.put, List.setIfInBounds_toArray, List.set_cons_zero, List.set_cons_succ]
              refine takeH (i := 13) (d := some 6) (v := ?_) rfl rfl (by kernel_rfl) (by kernel_rfl) (by kernel_rfl) (fun _ _ _ h => h) (Or.inl ⟨by rfl, ?_⟩) (by assumption) ?_
              rotate_left
              · intro w hSw
                try dsimp only at hSw
                go_simp
                try with_reducible rfl
              try simp only [Act.put, List.setIfInBounds_toArray, List.set_cons_zero, List.set_cons_succ]
              refine wpAnyH_done (by kernel_rfl) ?_ _
              go_wp2_with fail
              go_roundw
              case rel => exact ⟨k + 1, by omega, by go_num, by rw [HTK.out]; simp, HM2.out⟩
              case measure => simp [intOf]; omega
          · have k2 : ¬ (k : Int) < (T.length : Int) := by omega
            have hall : T.take k = T := List.take_of_length_le (by omega)
            rw [hall]
            obtain ⟨c0, c1, c2, c3, c4, c5⟩ := HEV.out _ (HG.out.made.trans HM.out)
            have HG2 := Lib.hid (HG.out.turns HM.out (fun _ _ h => h) (fun _ _ h => h))
            clear hall
            by_cases hmem : e.task ∈ T
            · have hd : decide (e.task ∈ T) = true := decide_eq_true hmem
              have HT2 := Lib.hid (HT.out.met HE.out hmem)
              rw [hd]
              clear hmem hd
              go_wp2_with fail
              go_roundw
              case rel => exact ⟨j + 1, T, by omega, by go_num, by rw [HC.out]; go_num, HG2.out, HT2.out⟩
              case measure => simp [intOf]; omega
            · have hd : decide (e.task ∈ T) = false := decide_eq_false hmem
              have HT2 := Lib.hid (HT.out.new HE.out HK.out hmem)
              rw [hd]
              clear hmem hd
              have HGA := Lib.hid (HG2.out.alloc (.cells #[.int .i64 e.task] 3))
              have HS := Lib.hid (SrcAt.block (enc := encI) (N := [e.task]) (n := 1) (c := 1) (Blk.new wr 3 #[.int .i64 e.task]) rfl (by simp [flat, encI]))
              go_wp2_with (at_builtin; refine wpList_grow rfl (.tmp 51) (.tmp 57) 24 rfl i0 _ 8 Try.underlying24 hi0 hz0 hz1 hz2 rfl (by omega) encI_len encI_one rfl HGA.out rfl HS.out (by simp [maxLen]; omega) (by simp; omega) ?_)
              intro v3 w3 hg3 hF hS hO
              have HG3 := Lib.hid hg3
              clear hg3 hF hS hO HS HGA
              go_wp2_with fail
              go_roundw
              case rel => exact ⟨j + 1, T ++ [e.task], by omega, by go_num, by rw [HC.out]; go_num, HG3.out, HT2.out⟩
              case measure => simp [intOf]; omega
      · have b1 : (e.kind != 1) = true := by simp [hk]
        have HC := Lib.hid (show cntM (l.take (j + 1)) = cntM (l.take j) by rw [HN.out, if_neg hk, Nat.add_zero])
        have HT2 := Lib.hid (HT.out.skip HE.out hk)
        clear hk
        go_wp2_with fail
        go_roundw
        case rel => exact ⟨j + 1, T, by omega, by go_num, by rw [HC.out], HG.out, HT2.out⟩
        case measure => simp [intOf]; omega
    · have hlen := HW.out.1
      have hcap := hc
      have HJ := Lib.hid (show l.take j = l from List.take_of_length_le (by omega))
      rw [HJ.out]
      have HTT := Lib.hid (show Tellers l l.length T by have h := HT.out; rw [show l.length = j from by omega]; exact h)
      have HSUM := Lib.hid HTT.out.all
      have HSL := Lib.hid (fun k => sumT_le l T k)
      have hcn : cntM l ≤ 100 := by have := cnt_le l l.length; rw [List.take_length] at this; omega
      have j2 : ¬ (j : Int) < (len : Int) := by omega
      generalize cntM l = n at *
      have HRW := Lib.hid (HW.out.made HG.out.made)
      have HOT := Lib.hid HG.out.own
      have HMW := Lib.hid HG.out.made
      obtain ⟨av, cv, hv⟩ := owns_slice HG.out.own
      subst hv
      clear HT HG HTT hlen
      go_wp2_with fail
      go_loopw [3, 8] (fun v3 v8 wx => ∃ k : Nat, k ≤ T.length ∧ v8 = .int .i64 k ∧ v3 = .int .i64 ((n : Int) - (sumT l (T.take k) : Int)) ∧ Made wr wx) (fun _ v8 _ => T.length - (intOf v8).toNat)
      case atStart => exact ⟨0, Nat.zero_le _, rfl, by simp [sumT], Turns.refl _ _⟩
      case round =>
        obtain ⟨k, hk, rfl, rfl, hm⟩ := hrel
        have HM := Lib.hid hm
        clear hm
        have k1 : (0 : Int) ≤ (k : Int) := Int.natCast_nonneg _
        by_cases hkl : k < T.length
        · have k2 : (k : Int) < (T.length : Int) := by omega
          obtain ⟨t, ht⟩ := get_of_lt hkl
          rcases HOT.out.form with ⟨h0, h1⟩ | ⟨g, cp, hvv, hgl, hlc, hcm⟩
          · rw [h1] at hkl
            simp at hkl
          simp only [Value.slice.injEq, true_and] at hvv
          obtain ⟨rfl, rfl⟩ := hvv
          have HTX := Lib.hid ht
          have HSN := Lib.hid (sumT_next (l := l) ht)
          have hsl := HSL.out (k + 1)
          rw [HSN.out, HSUM.out] at hsl
          have HTC := Lib.hid (told_c a len cap l t wr (HRW.out.made HM.out) (by omega))
          have p0 := Owns.cell encI_len (HOT.out.turns HM.out (fun _ _ h => h)) ht (j := 0) rfl
          simp only [Nat.add_zero, Nat.mul_one] at p0
          generalize sumT l (T.take k) = sm at *
          clear hgl ht
          go_wp2_with fail
          refine HTC.out.mono ?_
          rintro e1 w5 ⟨vt, rfl, hgt⟩
          have HGT := Lib.hid hgt.own
          have HM5 := Lib.hid (HM.out.trans hgt.made)
          obtain ⟨R, hR⟩ : ∃ R, toldM l t = R := ⟨_, rfl⟩
          have HRR := Lib.hid hR
          rw [hR] at HGT hsl HSN
          obtain ⟨at_, ct, hv⟩ := owns_slice HGT.out
          subst hv
          clear hgt hR HTC p0 HM
          go_wp2_with fail
          go_loopw [10, 11] (fun v10 v11 wx => ∃ i : Nat, i ≤ len ∧ v11 = .int .i64 i ∧ v10 = .int .i64 ((toldM (l.take i) t).length : Nat) ∧ Made w5 wx) (fun _ v11 _ => len - (intOf v11).toNat)
          case atStart => exact ⟨0, Nat.zero_le _, rfl, rfl, Turns.refl _ _⟩
          case round =>
            obtain ⟨i, hi, rfl, rfl, hm⟩ := hrel
            have HMX := Lib.hid hm
            clear hm
            have i1 : (0 : Int) ≤ (i : Int) := Int.natCast_nonneg _
            by_cases hil : i < len
            · have i2 : (i : Int) < (len : Int) := by omega
              obtain ⟨hlen, h0 | ⟨bb, off, rfl, hb, hlies⟩⟩ := HW.out
              · omega
              obtain ⟨e, he⟩ := get_of_lt (xs := l) (k := i) (by omega)
              have HEV := Lib.hid (fun (w' : World) (hm : Made w w') => ev_cells (hlies.keep fun o => hm.cell (p := ⟨bb, o, none⟩) hb (fun h => h)) he)
              have HMA := Lib.hid ((HMW.out.trans HM5.out).trans (Turns.drew HMX.out))
              obtain ⟨c0, c1, c2, c3, c4, c5⟩ := HEV.out _ HMA.out
              have p0 := Owns.cell encI_len (HOT.out.turns (HM5.out.trans (Turns.drew HMX.out)) (fun _ _ h => h)) HTX.out (j := 0) rfl
              simp only [Nat.add_zero, Nat.mul_one] at p0
              have HE := Lib.hid he
              have HN := Lib.hid (told_next (t := t) he)
              clear he hlies hb hlen
              by_cases hk1 : e.kind = 1
              · have b1 : (e.kind == 1) = true := by simp [hk1]
                by_cases htk : e.task = t
                · have b2 : (e.task == t) = true := by simp [htk]
                  have HG := Lib.hid (told_get HE.out ⟨hk1, htk⟩)
                  rw [HRR.out] at HG
                  have HA := Lib.hid (show (toldM (l.take (i + 1)) t).length = (toldM (l.take i) t).length + 1 by rw [HN.out, if_pos ⟨hk1, htk⟩]; simp)
                  generalize (toldM (l.take i) t).length = q at *
                  have hql : q < R.length := (List.getElem?_eq_some_iff.1 HG.out).1
                  clear hk1 htk
                  go_wp2_with fail
                  refine wp_region_held_drew (S := fun w' => wr.drew = w') (by kernel_rfl) ?_ (fun hHeld => ?_)
                  · exact rfl
                  refine takeH (i := 0) (d := some 77) (v := ?_) rfl rfl (by kernel_rfl) (by kernel_rfl) (by kernel_rfl) (fun _ _ _ h => h) (Or.inl ⟨by rfl, ?_⟩) (by assumption) ?_
                  rotate_left
                  · intro w hSw
                    try dsimp only at hSw
                    go_simp
                    try with_reducible rfl
                  try simp only [Act.put, List.setIfInBounds_toArray, List.set_cons_zero, List.set_cons_succ]
                  refine takeH (i := 1) (d := some 78) (v := ?_) rfl rfl (by kernel_rfl) (by kernel_rfl) (by kernel_rfl) (fun _ _ _ h => h) (Or.inl ⟨by rfl, ?_⟩) (by assumption) ?_
                  rotate_left
                  · intro w hSw
                    try dsimp only at hSw
                    go_simp
                    try with_reducible rfl
                  try simp only [Act.put, List.setIfInBounds_toArray, List.set_cons_zero, List.set_cons_succ]
                  refine takeH (i := 2) (d := some 79) (v := ?_) rfl rfl (by kernel_rfl) (by kernel_rfl) (by kernel_rfl) (fun _ _ _ h => h) (Or.inl ⟨by rfl, ?_⟩) (by assumption) ?_
                  rotate_left
                  · intro w hSw
                    try dsimp only at hSw
                    go_simp
                    try with_reducible rfl
                  try simp only [Act.put, List.setIfInBounds_toArray, List.set_cons_zero, List.set_cons_succ]
                  refine takeH (i := 3) (d := some 80) (v := ?_) rfl rfl (by kernel_rfl) (by kernel_rfl) (by kernel_rfl) (fun _ _ _ h => h) (Or.inl ⟨by rfl, ?_⟩) (by assumption) ?_
                  rotate_left
                  · intro w hSw
                    try dsimp only at hSw
                    go_simp
                    try with_reducible rfl
                  try simp only [Act.put, List.setIfInBounds_toArray, List.set_cons_zero, List.set_cons_succ]
                  refine takeH (i := 4) (d := some 81) (v := ?_) rfl rfl (by kernel_rfl) (by kernel_rfl) (by kernel_rfl) (fun _ _ _ h => h) (Or.inl ⟨by rfl, ?_⟩) (by assumption) ?_
                  rotate_left
                  · intro w hSw
                    try dsimp only at hSw
                    subst hSw
                    go_simp
                    try with_reducible rfl
                  try simp only [Act.put, List.setIfInBounds_toArray, List.set_cons_zero, List.set_cons_succ]
                  refine takeH (i := 5) (d := some 82) (v := ?_) rfl rfl (by kernel_rfl) (by kernel_rfl) (by kernel_rfl) (fun _ _ _ h => h) (Or.inl ⟨by rfl, ?_⟩) (by assumption) ?_
                  rotate_left
                  · intro w hSw
                    try dsimp only at hSw
                    go_simp
                    try with_reducible rfl
                  try simp only [Act.put, List.setIfInBounds_toArray, List.set_cons_zero, List.set_cons_succ]
                  refine takeH (i := 6) (d := some 83) (v := ?_) rfl rfl (by kernel_rfl) (by kernel_rfl) (by kernel_rfl) (fun _ _ _ h => h) (Or.inl ⟨by rfl, ?_⟩) (by assumption) ?_
                  rotate_left
                  · intro w hSw
                    try dsimp only at hSw
                    go_simp
                    try with_reducible rfl
                  try simp only [Act.put, List.setIfInBounds_toArray, List.set_cons_zero, List.set_cons_succ]
                  refine takeH (i := 7) (d := some 84) (v := ?_) rfl rfl (by kernel_rfl) (by kernel_rfl) (by kernel_rfl) (fun _ _ _ h => h) (Or.inl ⟨by rfl, ?_⟩) (by assumption) ?_
                  rotate_left
                  · intro w hSw
                    try dsimp only at hSw
                    go_simp
                    try with_reducible rfl
                  try simp only [Act.put, List.setIfInBounds_toArray, List.set_cons_zero, List.set_cons_succ]
                  refine takeH (i := 8) (d := some 85) (v := ?_) rfl rfl (by kernel_rfl) (by kernel_rfl) (by kernel_rfl) (fun _ _ _ h => h) (Or.inl ⟨by rfl, ?_⟩) (by assumption) ?_
                  rotate_left
                  · intro w hSw
                    try dsimp only at hSw
                    go_simp
                    try with_reducible rfl
                  try simp only [Act.put, List.setIfInBounds_toArray, List.set_cons_zero, List.set_cons_succ]
                  refine takeH (i := 9) (d := some 86) (v := ?_) rfl rfl (by kernel_rfl) (by kernel_rfl) (by kernel_rfl) (fun _ _ _ h => h) (Or.inl ⟨by rfl, ?_⟩) (by assumption) ?_
                  rotate_left
                  · intro w hSw
                    try dsimp only at hSw
                    go_simp
                    try with_reducible rfl
                  try simp only [Act.put, List.setIfInBounds_toArray, List.set_cons_zero, List.set_cons_succ]
                  refine takeH (i := 10) (d := some 87) (v := ?_) rfl rfl (by kernel_rfl) (by kernel_rfl) (by kernel_rfl) (fun _ _ _ h => h) (Or.inl ⟨by rfl, ?_⟩) (by assumption) ?_
                  rotate_left
                  · intro w hSw
                    try dsimp only at hSw
                    go_simp
                    try with_reducible rfl
                  try simp only [Act.put, List.setIfInBounds_toArray, List.set_cons_zero, List.set_cons_succ]
                  refine takeH (i := 11) (d := some 88) (v := ?_) rfl rfl (by kernel_rfl) (by kernel_rfl) (by kernel_rfl) (fun _ _ _ h => h) (Or.inl ⟨by rfl, ?_⟩) (by assumption) ?_
                  rotate_left
                  · intro w hSw
                    try dsimp only at hSw
                    subst hSw
                    go_simp
                    try with_reducible rfl
                  try simp only [Act.put, List.setIfInBounds_toArray, List.set_cons_zero, List.set_cons_succ]
                  refine takeH (i := 12) (d := some 89) (v := ?_) rfl rfl (by kernel_rfl) (by kernel_rfl) (by kernel_rfl) (fun _ _ _ h => h) (Or.inl ⟨by rfl, ?_⟩) (by assumption) ?_
                  rotate_left
                  · intro w hSw
                    try dsimp only at hSw
                    go_simp
                    try with_reducible rfl
                  try simp only [Act.put, List.setIfInBounds_toArray, List.set_cons_zero, List.set_cons_succ]
                  refine takeH (i := 13) (d := some 90) (v := ?_) rfl rfl (by kernel_rfl) (by kernel_rfl) (by kernel_rfl) (fun _ _ _ h => h) (Or.inl ⟨by rfl, ?_⟩) (by assumption) ?_
                  rotate_left
                  · intro w hSw
                    try dsimp only at hSw
                    go_simp
                    try with_reducible rfl
                  try simp only [Act.put, List.setIfInBounds_toArray, List.set_cons_zero, List.set_cons_succ]
                  refine takeH (i := 14) (d := some 91) (v := ?_) rfl rfl (by kernel_rfl) (by kernel_rfl) (by kernel_rfl) (fun _ _ _ h => h) (Or.inl ⟨by rfl, ?_⟩) (by assumption) ?_
                  rotate_left
                  · intro w hSw
                    try dsimp only at hSw
                    go_simp
                    try with_reducible rfl
                  try simp only [Act.put, List.setIfInBounds_toArray, List.set_cons_zero, List.set_cons_succ]
                  refine takeH (i := 15) (d := some 92) (v := ?_) rfl rfl (by kernel_rfl) (by kernel_rfl) (by kernel_rfl) (fun _ _ _ h => h) (Or.inl ⟨by rfl, ?_⟩) (by assumption) ?_
                  rotate_left
                  · intro w hSw
                    try dsimp only at hSw
                    subst hSw
                    go_simp
                    try with_reducible rfl
                  try simp only [Act.put, List.setIfInBounds_toArray, List.set_cons_zero, List.set_cons_succ]
                  refine takeH (i := 16) (d := some 93) (v := ?_) rfl rfl (by kernel_rfl) (by kernel_rfl) (by kernel_rfl) (fun _ _ _ h => h) (Or.inl ⟨by rfl, ?_⟩) (by assumption) ?_
                  rotate_left
                  · intro w hSw
                    try dsimp only at hSw
                    go_simp
                    try with_reducible rfl
                  try simp only [Act.put, List.setIfInBounds_toArray, List.set_cons_zero, List.set_cons_succ]
                  refine takeH (i := 17) (d := some 94) (v := ?_) rfl rfl (by kernel_rfl) (by kernel_rfl) (by kernel_rfl) (fun _ _ _ h => h) (Or.inl ⟨by rfl, ?_⟩) (by assumption) ?_
                  rotate_left
                  · intro w hSw
                    try dsimp only at hSw
                    go_simp
                    try with_reducible rfl
                  try simp only [Act.put, List.setIfInBounds_toArray, List.set_cons_zero, List.set_cons_succ]
                  refine wpAnyH_done (by kernel_rfl) ?_ _
                  clear c0 c1 c2 c3 c4 c5 p0
                  rcases HGT.out.form with ⟨h0, h1⟩ | ⟨gr, cr, hvr, hgl, hlc2, hcm2⟩
                  · rw [h1] at hql
                    simp at hql
                  simp only [Value.slice.injEq, true_and] at hvr
                  obtain ⟨rfl, rfl⟩ := hvr
                  have HMB := Lib.hid (Turns.drew (Turns.drew HMX.out))
                  have r0 := Owns.cell encI_len (HGT.out.turns HMB.out (fun _ _ h => h)) HG.out (j := 0) rfl
                  simp only [Nat.add_zero, Nat.mul_one] at r0
                  obtain ⟨c0, c1, c2, c3, c4, c5⟩ := HEV.out _ ((HMW.out.trans HM5.out).trans HMB.out)
                  have nn : (e.a != e.a) = false := by simp
                  clear hgl
                  go_wp2_with fail
                  have q1 : (0 : Int) ≤ (q : Int) := Int.natCast_nonneg _
                  have q2 : (q : Int) < (R.length : Int) := by omega
                  have q3 : ¬ (R.length : Int) ≤ (q : Int) := by omega
                  have q4 : ¬ R.length ≤ q := by omega
                  have q5 : decide ((R.length : Int) ≤ (q : Int)) = false := decide_eq_false q3
                  have q6 : decide (R.length ≤ q) = false := decide_eq_false q4
                  refine wp_region_held_drew (S := fun w' => wr.drew.drew = w') (by kernel_rfl) ?_ (fun hHeld => ?_)
                  · exact rfl
                  refine takeH (i := 0) (d := some 95) (v := ?_) rfl rfl (by kernel_rfl) (by kernel_rfl) (by kernel_rfl) (fun _ _ _ h => h) (Or.inl ⟨by rfl, ?_⟩) (by assumption) ?_
                  rotate_left
                  · intro w hSw
                    try dsimp only at hSw
                    go_simp
                    try with_reducible rfl
                  try simp only [Act.put, List.setIfInBounds_toArray, List.set_cons_zero, List.set_cons_succ]
                  refine takeH (i := 1) (d := some 96) (v := ?_) rfl rfl (by kernel_rfl) (by kernel_rfl) (by kernel_rfl) (fun _ _ _ h => h) (Or.inl ⟨by rfl, ?_⟩) (by assumption) ?_
                  rotate_left
                  · intro w hSw
                    try dsimp only at hSw
                    go_simp
                    try with_reducible rfl
                  try simp only [Act.put, List.setIfInBounds_toArray, List.set_cons_zero, List.set_cons_succ]
                  refine takeH (i := 2) (d := some 97) (v := ?_) rfl rfl (by kernel_rfl) (by kernel_rfl) (by kernel_rfl) (fun _ _ _ h => h) (Or.inl ⟨by rfl, ?_⟩) (by assumption) ?_
                  rotate_left
                  · intro w hSw
                    try dsimp only at hSw
                    go_simp
                    try with_reducible rfl
                  try simp only [Act.put, List.setIfInBounds_toArray, List.set_cons_zero, List.set_cons_succ]
                  refine takeH (i := 3) (d := some 98) (v := ?_) rfl rfl (by kernel_rfl) (by kernel_rfl) (by kernel_rfl) (fun _ _ _ h => h) (Or.inl ⟨by rfl, ?_⟩) (by assumption) ?_
                  rotate_left
                  · intro w hSw
                    try dsimp only at hSw
                    go_simp
                    try with_reducible rfl
                  try simp only [Act.put, List.setIfInBounds_toArray, List.set_cons_zero, List.set_cons_succ]
                  refine takeH (i := 4) (d := some 99) (v := ?_) rfl rfl (by kernel_rfl) (by kernel_rfl) (by kernel_rfl) (fun _ _ _ h => h) (Or.inl ⟨by rfl, ?_⟩) (by assumption) ?_
                  rotate_left
                  · intro w hSw
                    try dsimp only at hSw
                    go_simp
                    try with_reducible rfl
                  try simp only [Act.put, List.setIfInBounds_toArray, List.set_cons_zero, List.set_cons_succ]
                  refine takeH (i := 5) (d := some 100) (v := ?_) rfl rfl (by kernel_rfl) (by kernel_rfl) (by kernel_rfl) (fun _ _ _ h => h) (Or.inl ⟨by rfl, ?_⟩) (by assumption) ?_
                  rotate_left
                  · intro w hSw
                    try dsimp only at hSw
                    go_simp
                    try with_reducible rfl
                  try simp only [Act.put, List.setIfInBounds_toArray, List.set_cons_zero, List.set_cons_succ]
                  refine takeH (i := 6) (d := some 101) (v := ?_) rfl rfl (by kernel_rfl) (by kernel_rfl) (by kernel_rfl) (fun _ _ _ h => h) (Or.inl ⟨by rfl, ?_⟩) (by assumption) ?_
                  rotate_left
                  · intro w hSw
                    try dsimp only at hSw
                    go_simp
                    try with_reducible rfl
                  try simp only [Act.put, List.setIfInBounds_toArray, List.set_cons_zero, List.set_cons_succ]
                  refine takeH (i := 7) (d := some 102) (v := ?_) rfl rfl (by kernel_rfl) (by kernel_rfl) (by kernel_rfl) (fun _ _ _ h => h) (Or.inl ⟨by rfl, ?_⟩) (by assumption) ?_
                  rotate_left
                  · intro w hSw
                    try dsimp only at hSw
                    go_simp
                    try with_reducible rfl
                  try simp only [Act.put, List.setIfInBounds_toArray, List.set_cons_zero, List.set_cons_succ]
                  refine takeH (i := 8) (d := some 103) (v := ?_) rfl rfl (by kernel_rfl) (by kernel_rfl) (by kernel_rfl) (fun _ _ _ h => h) (Or.inl ⟨by rfl, ?_⟩) (by assumption) ?_
                  rotate_left
                  · intro w hSw
                    try dsimp only at hSw
                    subst hSw
                    go_simp
                    try with_reducible rfl
                  try simp only [Act.put, List.setIfInBounds_toArray, List.set_cons_zero, List.set_cons_succ]
                  refine takeH (i := 9) (d := some 104) (v := ?_) rfl rfl (by kernel_rfl) (by kernel_rfl) (by kernel_rfl) (fun _ _ _ h => h) (Or.inl ⟨by rfl, ?_⟩) (by assumption) ?_
                  rotate_left
                  · intro w hSw
                    try dsimp only at hSw
                    go_simp
                    try with_reducible rfl
                  try simp only [Act.put, List.setIfInBounds_toArray, List.set_cons_zero, List.set_cons_succ]
                  refine takeH (i := 10) (d := some 105) (v := ?_) rfl rfl (by kernel_rfl) (by kernel_rfl) (by kernel_rfl) (fun _ _ _ h => h) (Or.inl ⟨by rfl, ?_⟩) (by assumption) ?_
                  rotate_left
                  · intro w hSw
                    try dsimp only at hSw
                    go_simp
                    try with_reducible rfl
                  try simp only [Act.put, List.setIfInBounds_toArray, List.set_cons_zero, List.set_cons_succ]
                  refine takeH (i := 11) (d := some 106) (v := ?_) rfl rfl (by kernel_rfl) (by kernel_rfl) (by kernel_rfl) (fun _ _ _ h => h) (Or.inl ⟨by rfl, ?_⟩) (by assumption) ?_
                  rotate_left
                  · intro w hSw
                    try dsimp only at hSw
                    go_simp
                    try with_reducible rfl
                  try simp only [Act.put, List.setIfInBounds_toArray, List.set_cons_zero, List.set_cons_succ]
                  refine takeH (i := 12) (d := some 107) (v := ?_) rfl rfl (by kernel_rfl) (by kernel_rfl) (by kernel_rfl) (fun _ _ _ h => h) (Or.inl ⟨by rfl, ?_⟩) (by assumption) ?_
                  rotate_left
                  · intro w hSw
                    try dsimp only at hSw
                    go_simp
                    try with_reducible rfl
                  try simp only [Act.put, List.setIfInBounds_toArray, List.set_cons_zero, List.set_cons_succ]
                  refine takeH (i := 13) (d := some 108) (v := ?_) rfl rfl (by kernel_rfl) (by kernel_rfl) (by kernel_rfl) (fun _ _ _ h => h) (Or.inl ⟨by rfl, ?_⟩) (by assumption) ?_
                  rotate_left
                  · intro w hSw
                    try dsimp only at hSw
                    subst hSw
                    go_simp
                    try with_reducible rfl
                  try simp only [Act.put, List.setIfInBounds_toArray, List.set_cons_zero, List.set_cons_succ]
                  refine takeH (i := 14) (d := some 109) (v := ?_) rfl rfl (by kernel_rfl) (by kernel_rfl) (by kernel_rfl) (fun _ _ _ h => h) (Or.inl ⟨by rfl, ?_⟩) (by assumption) ?_
                  rotate_left
                  · intro w hSw
                    try dsimp only at hSw
                    go_simp
                    try with_reducible rfl
                  try simp only [Act.put, List.setIfInBounds_toArray, List.set_cons_zero, List.set_cons_succ]
                  refine takeH (i := 15) (d := some 110) (v := ?_) rfl rfl (by kernel_rfl) (by kernel_rfl) (by kernel_rfl) (fun _ _ _ h => h) (Or.inl ⟨by rfl, ?_⟩) (by assumption) ?_
                  rotate_left
                  · intro w hSw
                    try dsimp only at hSw
                    go_simp
                    try with_reducible rfl
                  try simp only [Act.put, List.setIfInBounds_toArray, List.set_cons_zero, List.set_cons_succ]
                  refine wpAnyH_done (by kernel_rfl) ?_ _
                  have hwq : IntKind.i64.wrap ((q : Int) + 1) = (q : Int) + 1 := wrap_in _ (by omega)
                  go_wp2_with fail
                  go_roundw
                  case rel => exact ⟨i + 1, by omega, by go_num, by rw [HA.out]; go_num, HMB.out⟩
                  case measure => simp [intOf]; omega
                · have b2 : (e.task == t) = false := by simp [htk]
                  have HA := Lib.hid (show (toldM (l.take (i + 1)) t).length = (toldM (l.take i) t).length by rw [HN.out, if_neg (fun h => htk h.2)]; simp)
                  clear hk1 htk
                  go_wp2_with fail
                  refine wp_region_held_drew (S := fun w' => wr.drew = w') (by kernel_rfl) ?_ (fun hHeld => ?_)
                  · exact rfl
                  refine takeH (i := 0) (d := some 77) (v := ?_) rfl rfl (by kernel_rfl) (by kernel_rfl) (by kernel_rfl) (fun _ _ _ h => h) (Or.inl ⟨by rfl, ?_⟩) (by assumption) ?_
                  rotate_left
                  · intro w hSw
                    try dsimp only at hSw
                    go_simp
                    try with_reducible rfl
                  try simp only [Act.put, List.setIfInBounds_toArray, List.set_cons_zero, List.set_cons_succ]
                  refine takeH (i := 1) (d := some 78) (v := ?_) rfl rfl (by kernel_rfl) (by kernel_rfl) (by kernel_rfl) (fun _ _ _ h => h) (Or.inl ⟨by rfl, ?_⟩) (by assumption) ?_
                  rotate_left
                  · intro w hSw
                    try dsimp only at hSw
                    go_simp
                    try with_reducible rfl
                  try simp only [Act.put, List.setIfInBounds_toArray, List.set_cons_zero, List.set_cons_succ]
                  refine takeH (i := 2) (d := some 79) (v := ?_) rfl rfl (by kernel_rfl) (by kernel_rfl) (by kernel_rfl) (fun _ _ _ h => h) (Or.inl ⟨by rfl, ?_⟩) (by assumption) ?_
                  rotate_left
                  · intro w hSw
                    try dsimp only at hSw
                    go_simp
                    try with_reducible rfl
                  try simp only [Act.put, List.setIfInBounds_toArray, List.set_cons_zero, List.set_cons_succ]
                  refine takeH (i := 3) (d := some 80) (v := ?_) rfl rfl (by kernel_rfl) (by kernel_rfl) (by kernel_rfl) (fun _ _ _ h => h) (Or.inl ⟨by rfl, ?_⟩) (by assumption) ?_
                  rotate_left
                  · intro w hSw
                    try dsimp only at hSw
                    go_simp
                    try with_reducible rfl
                  try simp only [Act.put, List.setIfInBounds_toArray, List.set_cons_zero, List.set_cons_succ]
                  refine takeH (i := 4) (d := some 81) (v := ?_) rfl rfl (by kernel_rfl) (by kernel_rfl) (by kernel_rfl) (fun _ _ _ h => h) (Or.inl ⟨by rfl, ?_⟩) (by assumption) ?_
                  rotate_left
                  · intro w hSw
                    try dsimp only at hSw
                    subst hSw
                    go_simp
                    try with_reducible rfl
                  try simp only [Act.put, List.setIfInBounds_toArray, List.set_cons_zero, List.set_cons_succ]
                  refine takeH (i := 5) (d := some 82) (v := ?_) rfl rfl (by kernel_rfl) (by kernel_rfl) (by kernel_rfl) (fun _ _ _ h => h) (Or.inl ⟨by rfl, ?_⟩) (by assumption) ?_
                  rotate_left
                  · intro w hSw
                    try dsimp only at hSw
                    go_simp
                    try with_reducible rfl
                  try simp only [Act.put, List.setIfInBounds_toArray, List.set_cons_zero, List.set_cons_succ]
                  refine takeH (i := 6) (d := some 83) (v := ?_) rfl rfl (by kernel_rfl) (by kernel_rfl) (by kernel_rfl) (fun _ _ _ h => h) (Or.inl ⟨by rfl, ?_⟩) (by assumption) ?_
                  rotate_left
                  · intro w hSw
                    try dsimp only at hSw
                    go_simp
                    try with_reducible rfl
                  try simp only [Act.put, List.setIfInBounds_toArray, List.set_cons_zero, List.set_cons_succ]
                  refine takeH (i := 7) (d := some 84) (v := ?_) rfl rfl (by kernel_rfl) (by kernel_rfl) (by kernel_rfl) (fun _ _ _ h => h) (Or.inl ⟨by rfl, ?_⟩) (by assumption) ?_
                  rotate_left
                  · intro w hSw
                    try dsimp only at hSw
                    go_simp
                    try with_reducible rfl
                  try simp only [Act.put, List.setIfInBounds_toArray, List.set_cons_zero, List.set_cons_succ]
                  refine takeH (i := 8) (d := some 85) (v := ?_) rfl rfl (by kernel_rfl) (by kernel_rfl) (by kernel_rfl) (fun _ _ _ h => h) (Or.inl ⟨by rfl, ?_⟩) (by assumption) ?_
                  rotate_left
                  · intro w hSw
                    try dsimp only at hSw
                    go_simp
                    try with_reducible rfl
                  try simp only [Act.put, List.setIfInBounds_toArray, List.set_cons_zero, List.set_cons_succ]
                  refine takeH (i := 9) (d := some 86) (v := ?_) rfl rfl (by kernel_rfl) (by kernel_rfl) (by kernel_rfl) (fun _ _ _ h => h) (Or.inl ⟨by rfl, ?_⟩) (by assumption) ?_
                  rotate_left
                  · intro w hSw
                    try dsimp only at hSw
                    go_simp
                    try with_reducible rfl
                  try simp only [Act.put, List.setIfInBounds_toArray, List.set_cons_zero, List.set_cons_succ]
                  refine takeH (i := 10) (d := some 87) (v := ?_) rfl rfl (by kernel_rfl) (by kernel_rfl) (by kernel_rfl) (fun _ _ _ h => h) (Or.inl ⟨by rfl, ?_⟩) (by assumption) ?_
                  rotate_left
                  · intro w hSw
                    try dsimp only at hSw
                    go_simp
                    try with_reducible rfl
                  try simp only [Act.put, List.setIfInBounds_toArray, List.set_cons_zero, List.set_cons_succ]
                  refine takeH (i := 11) (d := some 88) (v := ?_) rfl rfl (by kernel_rfl) (by kernel_rfl) (by kernel_rfl) (fun _ _ _ h => h) (Or.inl ⟨by rfl, ?_⟩) (by assumption) ?_
                  rotate_left
                  · intro w hSw
                    try dsimp only at hSw
                    subst hSw
                    go_simp
                    try with_reducible rfl
                  try simp only [Act.put, List.setIfInBounds_toArray, List.set_cons_zero, List.set_cons_succ]
                  refine takeH (i := 12) (d := some 89) (v := ?_) rfl rfl (by kernel_rfl) (by kernel_rfl) (by kernel_rfl) (fun _ _ _ h => h) (Or.inl ⟨by rfl, ?_⟩) (by assumption) ?_
                  rotate_left
                  · intro w hSw
                    try dsimp only at hSw
                    go_simp
                    try with_reducible rfl
                  try simp only [Act.put, List.setIfInBounds_toArray, List.set_cons_zero, List.set_cons_succ]
                  refine takeH (i := 13) (d := some 90) (v := ?_) rfl rfl (by kernel_rfl) (by kernel_rfl) (by kernel_rfl) (fun _ _ _ h => h) (Or.inl ⟨by rfl, ?_⟩) (by assumption) ?_
                  rotate_left
                  · intro w hSw
                    try dsimp only at hSw
                    go_simp
                    try with_reducible rfl
                  try simp only [Act.put, List.setIfInBounds_toArray, List.set_cons_zero, List.set_cons_succ]
                  refine takeH (i := 14) (d := some 91) (v := ?_) rfl rfl (by kernel_rfl) (by kernel_rfl) (by kernel_rfl) (fun _ _ _ h => h) (Or.inl ⟨by rfl, ?_⟩) (by assumption) ?_
                  rotate_left
                  · intro w hSw
                    try dsimp only at hSw
                    go_simp
                    try with_reducible rfl
                  try simp only [Act.put, List.setIfInBounds_toArray, List.set_cons_zero, List.set_cons_succ]
                  refine takeH (i := 15) (d := some 92) (v := ?_) rfl rfl (by kernel_rfl) (by kernel_rfl) (by kernel_rfl) (fun _ _ _ h => h) (Or.inl ⟨by rfl, ?_⟩) (by assumption) ?_
                  rotate_left
                  · intro w hSw
                    try dsimp only at hSw
                    subst hSw
                    go_simp
                    try with_reducible rfl
                  try simp only [Act.put, List.setIfInBounds_toArray, List.set_cons_zero, List.set_cons_succ]
                  refine takeH (i := 16) (d := some 93) (v := ?_) rfl rfl (by kernel_rfl) (by kernel_rfl) (by kernel_rfl) (fun _ _ _ h => h) (Or.inl ⟨by rfl, ?_⟩) (by assumption) ?_
                  rotate_left
                  · intro w hSw
                    try dsimp only at hSw
                    go_simp
                    try with_reducible rfl
                  try simp only [Act.put, List.setIfInBounds_toArray, List.set_cons_zero, List.set_cons_succ]
                  refine takeH (i := 17) (d := some 94) (v := ?_) rfl rfl (by kernel_rfl) (by kernel_rfl) (by kernel_rfl) (fun _ _ _ h => h) (Or.inl ⟨by rfl, ?_⟩) (by assumption) ?_
                  rotate_left
                  · intro w hSw
                    try dsimp only at hSw
                    go_simp
                    try with_reducible rfl
                  try simp only [Act.put, List.setIfInBounds_toArray, List.set_cons_zero, List.set_cons_succ]
                  refine wpAnyH_done (by kernel_rfl) ?_ _
                  go_wp2_with fail
                  go_roundw
                  case rel => exact ⟨i + 1, by omega, by go_num, by rw [HA.out], Turns.drew HMX.out⟩
                  case measure => simp [intOf]; omega
              · have b1 : (e.kind == 1) = false := by simp [hk1]
                have HA := Lib.hid (show (toldM (l.take (i + 1)) t).length = (toldM (l.take i) t).length by rw [HN.out, if_neg (fun h => hk1 h.1)]; simp)
                clear hk1
                go_wp2_with fail
                refine wp_region_held_drew (S := fun w' => wr.drew = w') (by kernel_rfl) ?_ (fun hHeld => ?_)
                · exact rfl
                refine takeH (i := 0) (d := some 77) (v := ?_) rfl rfl (by kernel_rfl) (by kernel_rfl) (by kernel_rfl) (fun _ _ _ h => h) (Or.inl ⟨by rfl, ?_⟩) (by assumption) ?_
                rotate_left
                · intro w hSw
                  try dsimp only at hSw
                  go_simp
                  try with_reducible rfl
                try simp only [Act.put, List.setIfInBounds_toArray, List.set_cons_zero, List.set_cons_succ]
                refine takeH (i := 1) (d := some 78) (v := ?_) rfl rfl (by kernel_rfl) (by kernel_rfl) (by kernel_rfl) (fun _ _ _ h => h) (Or.inl ⟨by rfl, ?_⟩) (by assumption) ?_
                rotate_left
                · intro w hSw
                  try dsimp only at hSw
                  go_simp
                  try with_reducible rfl
                try simp only [Act.put, List.setIfInBounds_toArray, List.set_cons_zero, List.set_cons_succ]
                refine takeH (i := 2) (d := some 79) (v := ?_) rfl rfl (by kernel_rfl) (by kernel_rfl) (by kernel_rfl) (fun _ _ _ h => h) (Or.inl ⟨by rfl, ?_⟩) (by assumption) ?_
                rotate_left
                · intro w hSw
                  try dsimp only at hSw
                  go_simp
                  try with_reducible rfl
                try simp only [Act.put, List.setIfInBounds_toArray, List.set_cons_zero, List.set_cons_succ]
                refine takeH (i := 3) (d := some 80) (v := ?_) rfl rfl (by kernel_rfl) (by kernel_rfl) (by kernel_rfl) (fun _ _ _ h => h) (Or.inl ⟨by rfl, ?_⟩) (by assumption) ?_
                rotate_left
                · intro w hSw
                  try dsimp only at hSw
                  go_simp
                  try with_reducible rfl
                try simp only [Act.put, List.setIfInBounds_toArray, List.set_cons_zero, List.set_cons_succ]
                refine takeH (i := 4) (d := some 81) (v := ?_) rfl rfl (by kernel_rfl) (by kernel_rfl) (by kernel_rfl) (fun _ _ _ h => h) (Or.inl ⟨by rfl, ?_⟩) (by assumption) ?_
                rotate_left
                · intro w hSw
                  try dsimp only at hSw
                  subst hSw
                  go_simp
                  try with_reducible rfl
                try simp only [Act.put, List.setIfInBounds_toArray, List.set_cons_zero, List.set_cons_succ]
                refine takeH (i := 5) (d := some 82) (v := ?_) rfl rfl (by kernel_rfl) (by kernel_rfl) (by kernel_rfl) (fun _ _ _ h => h) (Or.inl ⟨by rfl, ?_⟩) (by assumption) ?_
                rotate_left
                · intro w hSw
                  try dsimp only at hSw
                  go_simp
                  try with_reducible rfl
                try simp only [Act.put, List.setIfInBounds_toArray, List.set_cons_zero, List.set_cons_succ]
                refine takeH (i := 6) (d := some 83) (v := ?_) rfl rfl (by kernel_rfl) (by kernel_rfl) (by kernel_rfl) (fun _ _ _ h => h) (Or.inl ⟨by rfl, ?_⟩) (by assumption) ?_
                rotate_left
                · intro w hSw
                  try dsimp only at hSw
                  go_simp
                  try with_reducible rfl
                try simp only [Act.put, List.setIfInBounds_toArray, List.set_cons_zero, List.set_cons_succ]
                refine takeH (i := 7) (d := some 84) (v := undef) rfl rfl (by kernel_rfl) (by kernel_rfl) (by kernel_rfl) (fun _ _ _ h => h) (Or.inr ⟨by rfl, rfl⟩) (by assumption) ?_
                try simp only [Act.put, List.setIfInBounds_toArray, List.set_cons_zero, List.set_cons_succ]
                refine takeH (i := 8) (d := some 85) (v := undef) rfl rfl (by kernel_rfl) (by kernel_rfl) (by kernel_rfl) (fun _ _ _ h => h) (Or.inr ⟨by rfl, rfl⟩) (by assumption) ?_
                try simp only [Act.put, List.setIfInBounds_toArray, List.set_cons_zero, List.set_cons_succ]
                refine takeH (i := 9) (d := some 86) (v := undef) rfl rfl (by kernel_rfl) (by kernel_rfl) (by kernel_rfl) (fun _ _ _ h => h) (Or.inr ⟨by rfl, rfl⟩) (by assumption) ?_
                try simp only [Act.put, List.setIfInBounds_toArray, List.set_cons_zero, List.set_cons_succ]
                refine takeH (i := 10) (d := some 87) (v := undef) rfl rfl (by kernel_rfl) (by kernel_rfl) (by kernel_rfl) (fun _ _ _ h => h) (Or.inr ⟨by rfl, rfl⟩) (by assumption) ?_
                try simp only [Act.put, List.setIfInBounds_toArray, List.set_cons_zero, List.set_cons_succ]
                refine takeH (i := 11) (d := some 88) (v := undef) rfl rfl (by kernel_rfl) (by kernel_rfl) (by kernel_rfl) (fun _ _ _ h => h) (Or.inr ⟨by rfl, rfl⟩) (by assumption) ?_
                try simp only [Act.put, List.setIfInBounds_toArray, List.set_cons_zero, List.set_cons_succ]
                refine takeH (i := 12) (d := some 89) (v := undef) rfl rfl (by kernel_rfl) (by kernel_rfl) (by kernel_rfl) (fun _ _ _ h => h) (Or.inr ⟨by rfl, rfl⟩) (by assumption) ?_
                try simp only [Act.put, List.setIfInBounds_toArray, List.set_cons_zero, List.set_cons_succ]
                refine takeH (i := 13) (d := some 90) (v := undef) rfl rfl (by kernel_rfl) (by kernel_rfl) (by kernel_rfl) (fun _ _ _ h => h) (Or.inr ⟨by rfl, rfl⟩) (by assumption) ?_
                try simp only [Act.put, List.setIfInBounds_toArray, List.set_cons_zero, List.set_cons_succ]
                refine takeH (i := 14) (d := some 91) (v := undef) rfl rfl (by kernel_rfl) (by kernel_rfl) (by kernel_rfl) (fun _ _ _ h => h) (Or.inr ⟨by rfl, rfl⟩) (by assumption) ?_
                try simp only [Act.put, List.setIfInBounds_toArray, List.set_cons_zero, List.set_cons_succ]
                refine takeH (i := 15) (d := some 92) (v := undef) rfl rfl (by kernel_rfl) (by kernel_rfl) (by kernel_rfl) (fun _ _ _ h => h) (Or.inr ⟨by rfl, rfl⟩) (by assumption) ?_
                try simp only [Act.put, List.setIfInBounds_toArray, List.set_cons_zero, List.set_cons_succ]
                refine takeH (i := 16) (d := some 93) (v := undef) rfl rfl (by kernel_rfl) (by kernel_rfl) (by kernel_rfl) (fun _ _ _ h => h) (Or.inr ⟨by rfl, rfl⟩) (by assumption) ?_
                try simp only [Act.put, List.setIfInBounds_toArray, List.set_cons_zero, List.set_cons_succ]
                refine takeH (i := 17) (d := some 94) (v := ?_) rfl rfl (by kernel_rfl) (by kernel_rfl) (by kernel_rfl) (fun _ _ _ h => h) (Or.inl ⟨by rfl, ?_⟩) (by assumption) ?_
                rotate_left
                · intro w hSw
                  try dsimp only at hSw
                  go_simp
                  try with_reducible rfl
                try simp only [Act.put, List.setIfInBounds_toArray, List.set_cons_zero, List.set_cons_succ]
                refine wpAnyH_done (by kernel_rfl) ?_ _
                go_wp2_with fail
                go_roundw
                case rel => exact ⟨i + 1, by omega, by go_num, by rw [HA.out], Turns.drew HMX.out⟩
                case measure => simp [intOf]; omega
            · have i2 : ¬ (i : Int) < (len : Int) := by omega
              have hall : l.take i = l := List.take_of_length_le (by have := HW.out.1; omega)
              rw [hall, HRR.out]
              clear hall
              have nn : ((R.length : Int) != (R.length : Int)) = false := by simp
              have hwn : IntKind.i64.wrap ((n : Int) - (sm : Int) - (R.length : Int)) = (n : Int) - (sm : Int) - (R.length : Int) := wrap_in _ (by omega)
              go_wp2_with fail
              go_roundw
              case rel => exact ⟨k + 1, by omega, by go_num, by rw [HSN.out]; go_num, HM5.out.trans HMX.out⟩
              case measure => simp [intOf]; omega
        · have k2 : ¬ (k : Int) < (T.length : Int) := by omega
          have hall : T.take k = T := List.take_of_length_le (by omega)
          rw [hall, HSUM.out]
          have hz : (n : Int) - (n : Int) = 0 := by omega
          rw [hz]
          clear hall hz
          go_wp2_with fail
          refine (awake_c _).mono ?_
          rintro e1 w5 ⟨rfl, hm⟩
          have HM5 := Lib.hid ((HMW.out.trans HM.out).trans hm)
          clear hm
          go_wp2_with fail
          go_ret
          exact ⟨rfl, HM5.out⟩
end Go.Proofs.Ytjcmmgjaopejgaa
