/-
  Contract of package heap: All: the items as rising.
-/
import Derived.Test.YtgjgopcomgclkaaHpAg
import Derived.Test.YtgjgopcomgclkaaHpW
import Derived.Test.YtgjgopcomgclkaaSh
import Derived.Test.YtgjgopcomgclkaaNil
namespace Go.Proofs.Ytgjgopcomgclkaa
open Go.RowKit Go.Sort
set_option linter.unusedVariables false
set_option linter.unusedSimpArgs false

instance : Inhabited It := ⟨⟨0, 0, 0⟩⟩

theorem lt_dec (x y : It) : ltOf cmpT x y = decide (lt x y) := by
  unfold ltOf
  exact decide_eq_decide.2 (cmpT_lt x y)
theorem swo_item : SWO (ltOf cmpT) where
  irrefl x := by rw [lt_dec]; exact decide_eq_false (lt_irr x)
  trans x y z h1 h2 := by
    rw [lt_dec] at *
    exact decide_eq_true (lt_trans' (of_decide_eq_true h1) (of_decide_eq_true h2))
  ntrans x y z h1 h2 := by
    rw [lt_dec] at *
    exact decide_eq_false (not_lt_trans (of_decide_eq_false h2) (of_decide_eq_false h1))
/-- Two rows of the same items, one sorted, the other rising: they are one. -/
theorem sorted_one : ∀ (B A : List It), A.Perm B → A.Pairwise (fun a b => ¬ lt b a) → B.Pairwise lt → A = B := by
  intro B
  induction B with
  | nil => intro A h _ _; exact h.eq_nil
  | cons b B ih =>
    intro A h hA hB
    cases A with
    | nil => exact absurd h.symm.eq_nil (by simp)
    | cons a A =>
      rw [List.pairwise_cons] at hA hB
      have hab : a = b := by
        rcases List.mem_cons.1 (h.mem_iff.1 (List.mem_cons_self ..)) with e | ha
        · exact e
        · have h1 := hB.1 a ha
          rcases List.mem_cons.1 (h.mem_iff.2 (List.mem_cons_self ..)) with e | hb
          · exact e.symm
          · exact absurd h1 (hA.1 b hb)
      subst hab
      rw [ih A h.cons_inv hA.2 hB.2]
theorem sorted_array {d d' : Array It} {L : List It} (hp : PermIn 0 d.size d d') (hs : SortedIn (ltOf cmpT) 0 d.size d') (hL : d.toList.Perm L) (hr : L.Pairwise lt) : d'.toList = L := by
  obtain ⟨h1, _, h3⟩ := hp
  have e1 : d.extract 0 d.size = d := by simp
  have e2 : d'.extract 0 d.size = d' := by rw [← h1]; simp
  rw [e1, e2] at h3
  refine sorted_one L d'.toList (h3.trans hL) ?_ hr
  rw [List.pairwise_iff_getElem]
  intro i j hi hj hij
  have hi' : i < d'.size := by simpa using hi
  have hj' : j < d'.size := by simpa using hj
  have h := hs i j (Nat.zero_le _) hij (by rw [← h1]; exact hj')
  rw [lt_dec] at h
  have h := of_decide_eq_false h
  rw [getElem!_pos d' i hi', getElem!_pos d' j hj'] at h
  simpa using h

theorem owns_holdsK {w : World} {g cap : Nat} {ys : List It} (h : Owns encT 30 3 w (.slice (some ⟨g, 0, none⟩) ys.length cap) ys) : HoldsK encT 3 w g 0 ys.toArray := by
  intro j hj
  rw [size_flatK] at hj
  simp only [List.size_toArray] at hj
  refine ⟨?_, h.free _⟩
  have hi : j / 3 < ys.length := by omega
  have hx : ys[j / 3]? = some (ys[j / 3]'hi) := List.getElem?_eq_getElem hi
  have hm : j % 3 < 3 := Nat.mod_lt _ (by decide)
  rw [get_flatK _ _ _ _ (by simpa using hj)]
  have e1 : ys.toArray[j / 3]! = ys[j / 3]'hi := by rw [getElem!_pos _ _ (by simpa using hi)]; simp
  rw [e1]
  have hl : (encT (ys[j / 3]'hi)).length = 3 := encT_len _
  have hu : (encT (ys[j / 3]'hi))[j % 3]? = some ((encT (ys[j / 3]'hi))[j % 3]!) := by
    rw [List.getElem?_eq_getElem (by omega), getElem!_pos _ _ (by omega)]
  have hc := Owns.cell encT_len h hx hu
  rw [show 0 + j = j / 3 * 3 + j % 3 from by omega]
  exact hc

theorem flat_at {ys : List It} {t : Nat} (ht : t < ys.length * 3) : (flat encT ys)[t]? = some ((flatK encT 3 ys.toArray)[t]!) := by
  have hi : t / 3 < ys.length := by omega
  have hx : ys[t / 3]? = some (ys[t / 3]'hi) := List.getElem?_eq_getElem hi
  have hm : t % 3 < 3 := Nat.mod_lt _ (by decide)
  rw [get_flatK _ _ _ _ (by simpa using ht)]
  have e1 : ys.toArray[t / 3]! = ys[t / 3]'hi := by rw [getElem!_pos _ _ (by simpa using hi)]; simp
  rw [e1]
  have hl : (encT (ys[t / 3]'hi)).length = 3 := encT_len _
  have hu : (encT (ys[t / 3]'hi))[t % 3]? = some ((encT (ys[t / 3]'hi))[t % 3]!) := by
    rw [List.getElem?_eq_getElem (by omega), getElem!_pos _ _ (by omega)]
  have := flat_get encT_len hx hu
  rwa [show t / 3 * 3 + t % 3 = t from by omega] at this

theorem owns_sorted {w : World} {g cap n : Nat} {ys : List It} {d' : Array It} {os : Array Obj} (h : Owns encT 30 3 w (.slice (some ⟨g, 0, none⟩) ys.length cap) ys) (hd : d'.size = ys.length) :
    Owns encT 30 3 (sortWorldK encT 3 w g 0 n d' os) (.slice (some ⟨g, 0, none⟩) ys.length cap) d'.toList ∧ Turns (fun k => k = g) w (sortWorldK encT 3 w g 0 n d' os) := by
  have hlen : d'.toList.length = ys.length := by simp [hd]
  have hgl : g < w.heap.size := h.lt rfl
  refine ⟨?_, ?_⟩
  · unfold Owns at h ⊢
    rw [hlen]
    refine ⟨by rw [flat_length encT_len, hlen], ?_⟩
    rcases h.2 with ⟨h0, _⟩ | ⟨g', cap', cur, hv, hb, hg, h1, h2, h3, h4⟩
    · cases h0
    · simp only [Value.slice.injEq, Option.some.injEq, Addr.mk.injEq, and_true, true_and] at hv
      obtain ⟨rfl, rfl⟩ := hv
      refine .inr ⟨g, cap, putCells id 0 (flatK encT 3 d') cur, rfl, hb, ?_, h1, h2, ?_, ?_⟩
      · unfold sortWorldK grow putRowK putRow mapBlock
        simp only [Sort.ahead]
        rw [Array.getElem?_append_left (by simpa using hgl), Array.getElem?_modify, if_pos rfl, hg]
        rfl
      · unfold putCells; simpa using h3
      · refine List.ext_getElem? fun t => ?_
        by_cases ht : t < ys.length * 3
        · have hf := flat_at (ys := d'.toList) (t := t) (by rw [hlen]; exact ht)
          rw [hf]
          have hc : t < cur.size := by
            have := congrArg List.length h4
            rw [List.length_take, flat_length encT_len] at this
            simp at this
            omega
          rw [List.getElem?_take, if_pos ht]
          unfold putCells
          simp only [Array.toList_mapIdx, List.getElem?_mapIdx]
          rw [List.getElem?_eq_getElem (by simpa using hc)]
          simp only [Option.map_some, Nat.zero_le, true_and, Nat.zero_add, size_flatK, Nat.sub_zero, id]
          rw [if_pos (by rw [hd]; exact ht)]
        · rw [List.getElem?_eq_none (by rw [List.length_take]; omega), List.getElem?_eq_none (by rw [flat_length encT_len, hlen]; omega)]
  · unfold sortWorldK grow putRowK putRow mapBlock
    refine ⟨rfl, rfl, rfl, by simp [Sort.ahead], fun k hk hn => ?_⟩
    simp only [Sort.ahead]
    rw [Array.getElem?_append_left (by simpa using hk), Array.getElem?_modify, if_neg (fun e => hn e.symm)]

theorem sort_c (g cap : Nat) (ys : List It) (w : World) (h : Owns encT 30 3 w (.slice (some ⟨g, 0, none⟩) ys.length cap) ys) {L : List It} (hL : ys.Perm L) (hr : L.Pairwise lt) (hn : ys.length ≤ 1000000) :
    Calls Try.prog 55 #[.slice (some ⟨g, 0, none⟩) ys.length cap, .func (.func 56) #[] #[]] w fun e w' => e = .returned (.tuple #[]) ∧ Owns encT 30 3 w' (.slice (some ⟨g, 0, none⟩) ys.length cap) L ∧ Turns (fun k => k = g) w w' := by
  have eg : ∀ args w, (callFunc 56 args).run Try.prog w = .ok (.enter 56 args) w := enters_of Try.func56 (by kernel_rfl) rfl
  have hcmp : CmpLays Try.prog 56 #[] encT 3 cmpT g 0 ys.toArray.size w := fun m os dk _ x y => (ahead_g x y _).mono fun _ _ h => h
  have hcon := AnyQ.slices_SortFunc Try.sortItems 3 (fun w => by kernel_rfl) (fun w => by kernel_rfl) encT encT_len (fun x v hv => by simp only [encT, List.mem_cons, List.not_mem_nil, or_false] at hv; rcases hv with rfl | rfl | rfl <;> rfl) cmpT swo_item 56 #[] g 0 cap ys.toArray w eg hcmp (owns_holdsK h) (h.lt rfl) (by simp; omega)
  have hcon2 : Calls Try.prog 55 #[.slice (some ⟨g, 0, none⟩) ys.length cap, .func (.func 56) #[] #[]] w _ := hcon
  refine hcon2.mono ?_
  rintro e w' ⟨rfl, d', n, os, hp, hs, rfl⟩
  have hd : d'.size = ys.length := by have := hp.1; simpa using this
  have ho := owns_sorted (n := n) (os := os) h hd
  rw [sorted_array hp hs (by simpa using hL) hr] at ho
  exact ⟨rfl, ho.1, ho.2⟩
theorem hall_c {p : Nat} {F : Nat → Prop} {L : List It} {sq : Int} (w : World) (h : HeapAt w p F L sq) (hn : sq ≤ 1000000) : Calls Try.prog 46 #[.pointer (some ⟨p, 0, none⟩)] w fun e w' => ∃ v', e = .returned v' ∧ Owns encT 30 3 w' v' L ∧ Made w w' ∧ (∀ k, v'.ownBlock = some k → w.heap.size ≤ k) := by
  have HR := Lib.hid (hrows_c w h hn)
  have HRI := Lib.hid h.rise
  have HLE := Lib.hid h.len
  clear h
  go_enter Try.func46, Try.ntmps46
  go_wp2_with fail
  refine HR.out.mono ?_
  rintro e w1 ⟨v', ys, rfl, ho, hm, hfar, hord, hp⟩
  have hlen := hp.length_eq
  rcases ho.form with ⟨rfl, rfl⟩ | ⟨g, cap, rfl, hg, hl, hcm⟩
  · obtain rfl : L = [] := List.eq_nil_of_length_eq_zero hlen.symm
    have HM := Lib.hid hm
    have HO := Lib.hid ho
    clear ho hm hfar hord hp HR
    go_wp2_with fail
    refine (sort_none _ _).mono ?_
    rintro e w2 ⟨rfl, rfl⟩
    go_wp2_with fail
    go_ret
    exact ⟨_, rfl, HO.out, HM.out, fun k hk => by simp [Value.ownBlock] at hk⟩
  · have HS := Lib.hid (sort_c g cap ys w1 ho hp HRI.out (by have := HLE.out; omega))
    have HM := Lib.hid hm
    have HF := Lib.hid hfar
    clear ho hm hfar hord hp HR hlen
    go_wp2_with fail
    refine HS.out.mono ?_
    rintro e w2 ⟨rfl, ho2, ht2⟩
    have HO2 := Lib.hid ho2
    have HT2 := Lib.hid ht2
    clear ho2 ht2 HS
    go_wp2_with fail
    go_ret
    refine ⟨_, rfl, HO2.out, HM.out.then HT2.out (fun b hb e => ?_), fun k hk => HF.out k (by rw [← hk]; rfl)⟩
    have := HF.out g rfl
    omega
end Go.Proofs.Ytgjgopcomgclkaa
