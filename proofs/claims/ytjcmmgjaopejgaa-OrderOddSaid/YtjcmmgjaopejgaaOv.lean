/-
  Package order: sorting states by their tasks.
-/
import Derived.Test.YtjcmmgjaopejgaaOu
namespace Go.Proofs.Ytjcmmgjaopejgaa
open Go.RowKit Go.Sort
set_option linter.unusedVariables false
set_option linter.unusedSimpArgs false

def ltS (a b : St) : Prop := a.task < b.task
instance (a b : St) : Decidable (ltS a b) := inferInstanceAs (Decidable (a.task < b.task))
theorem ltS_dec (x y : St) : ltOf cmpS x y = decide (ltS x y) := by
  unfold ltOf cmpS cmpI ltS
  by_cases h : x.task < y.task
  · simp [h]
  · by_cases h2 : y.task < x.task <;> simp [h, h2]
theorem swo_st : SWO (ltOf cmpS) where
  irrefl x := by rw [ltS_dec]; exact decide_eq_false (by unfold ltS; omega)
  trans x y z h1 h2 := by
    rw [ltS_dec] at *
    have h1 := of_decide_eq_true h1
    have h2 := of_decide_eq_true h2
    exact decide_eq_true (by unfold ltS at *; omega)
  ntrans x y z h1 h2 := by
    rw [ltS_dec] at *
    have h1 := of_decide_eq_false h1
    have h2 := of_decide_eq_false h2
    exact decide_eq_false (by unfold ltS at *; omega)
/-- Two rows of the same items, one sorted, the other rising: they are one. -/
theorem sorted_one : ∀ (B A : List St), A.Perm B → A.Pairwise (fun a b => ¬ ltS b a) → B.Pairwise ltS → A = B := by
  intro B
  induction B with
  | nil => intro A h _ _; exact h.eq_nil
  | cons b B ih =>
    intro A h hA hB
    cases A with
    | nil => exact absurd h.symm.eq_nil (by simp)
    | cons a A =>
      rw [List.pairwise_cons] at hA hB
      have hab : a = b := by
        rcases List.mem_cons.1 (h.mem_iff.1 (List.mem_cons_self ..)) with e | ha
        · exact e
        · have h1 := hB.1 a ha
          rcases List.mem_cons.1 (h.mem_iff.2 (List.mem_cons_self ..)) with e | hb
          · exact e.symm
          · exact absurd h1 (hA.1 b hb)
      subst hab
      rw [ih A h.cons_inv hA.2 hB.2]
theorem sorted_array {d d' : Array St} {L : List St} (hp : PermIn 0 d.size d d') (hs : SortedIn (ltOf cmpS) 0 d.size d') (hL : d.toList.Perm L) (hr : L.Pairwise ltS) : d'.toList = L := by
  obtain ⟨h1, _, h3⟩ := hp
  have e1 : d.extract 0 d.size = d := by simp
  have e2 : d'.extract 0 d.size = d' := by rw [← h1]; simp
  rw [e1, e2] at h3
  refine sorted_one L d'.toList (h3.trans hL) ?_ hr
  rw [List.pairwise_iff_getElem]
  intro i j hi hj hij
  have hi' : i < d'.size := by simpa using hi
  have hj' : j < d'.size := by simpa using hj
  have h := hs i j (Nat.zero_le _) hij (by rw [← h1]; exact hj')
  rw [ltS_dec] at h
  have h := of_decide_eq_false h
  rw [getElem!_pos d' i hi', getElem!_pos d' j hj'] at h
  simpa using h

theorem owns_holdsK {w : World} {g cap : Nat} {ys : List St} (h : Owns encS 41 4 w (.slice (some ⟨g, 0, none⟩) ys.length cap) ys) : HoldsK encS 4 w g 0 ys.toArray := by
  intro j hj
  rw [size_flatK] at hj
  simp only [List.size_toArray] at hj
  refine ⟨?_, h.free _⟩
  have hi : j / 4 < ys.length := by omega
  have hx : ys[j / 4]? = some (ys[j / 4]'hi) := List.getElem?_eq_getElem hi
  have hm : j % 4 < 4 := Nat.mod_lt _ (by decide)
  rw [get_flatK _ _ _ _ (by simpa using hj)]
  have e1 : ys.toArray[j / 4]! = ys[j / 4]'hi := by rw [getElem!_pos _ _ (by simpa using hi)]; simp
  rw [e1]
  have hl : (encS (ys[j / 4]'hi)).length = 4 := encS_len _
  have hu : (encS (ys[j / 4]'hi))[j % 4]? = some ((encS (ys[j / 4]'hi))[j % 4]!) := by
    rw [List.getElem?_eq_getElem (by omega), getElem!_pos _ _ (by omega)]
  have hc := Owns.cell encS_len h hx hu
  rw [show 0 + j = j / 4 * 4 + j % 4 from by omega]
  exact hc

theorem flat_at {ys : List St} {t : Nat} (ht : t < ys.length * 4) : (flat encS ys)[t]? = some ((flatK encS 4 ys.toArray)[t]!) := by
  have hi : t / 4 < ys.length := by omega
  have hx : ys[t / 4]? = some (ys[t / 4]'hi) := List.getElem?_eq_getElem hi
  have hm : t % 4 < 4 := Nat.mod_lt _ (by decide)
  rw [get_flatK _ _ _ _ (by simpa using ht)]
  have e1 : ys.toArray[t / 4]! = ys[t / 4]'hi := by rw [getElem!_pos _ _ (by simpa using hi)]; simp
  rw [e1]
  have hl : (encS (ys[t / 4]'hi)).length = 4 := encS_len _
  have hu : (encS (ys[t / 4]'hi))[t % 4]? = some ((encS (ys[t / 4]'hi))[t % 4]!) := by
    rw [List.getElem?_eq_getElem (by omega), getElem!_pos _ _ (by omega)]
  have := flat_get encS_len hx hu
  rwa [show t / 4 * 4 + t % 4 = t from by omega] at this

theorem owns_sorted {w : World} {g cap n : Nat} {ys : List St} {d' : Array St} {os : Array Obj} (h : Owns encS 41 4 w (.slice (some ⟨g, 0, none⟩) ys.length cap) ys) (hd : d'.size = ys.length) :
    Owns encS 41 4 (sortWorldK encS 4 w g 0 n d' os) (.slice (some ⟨g, 0, none⟩) ys.length cap) d'.toList ∧ Turns (fun k => k = g) w (sortWorldK encS 4 w g 0 n d' os) := by
  have hlen : d'.toList.length = ys.length := by simp [hd]
  have hgl : g < w.heap.size := h.lt rfl
  refine ⟨?_, ?_⟩
  · unfold Owns at h ⊢
    rw [hlen]
    refine ⟨by rw [flat_length encS_len, hlen], ?_⟩
    rcases h.2 with ⟨h0, _⟩ | ⟨g', cap', cur, hv, hb, hg, h1, h2, h3, h4⟩
    · cases h0
    · simp only [Value.slice.injEq, Option.some.injEq, Addr.mk.injEq, and_true, true_and] at hv
      obtain ⟨rfl, rfl⟩ := hv
      refine .inr ⟨g, cap, putCells id 0 (flatK encS 4 d') cur, rfl, hb, ?_, h1, h2, ?_, ?_⟩
      · unfold sortWorldK grow putRowK putRow mapBlock
        simp only [Sort.ahead]
        rw [Array.getElem?_append_left (by simpa using hgl), Array.getElem?_modify, if_pos rfl, hg]
        rfl
      · unfold putCells; simpa using h3
      · refine List.ext_getElem? fun t => ?_
        by_cases ht : t < ys.length * 4
        · have hf := flat_at (ys := d'.toList) (t := t) (by rw [hlen]; exact ht)
          rw [hf]
          have hc : t < cur.size := by
            have := congrArg List.length h4
            rw [List.length_take, flat_length encS_len] at this
            simp at this
            omega
          rw [List.getElem?_take, if_pos ht]
          unfold putCells
          simp only [Array.toList_mapIdx, List.getElem?_mapIdx]
          rw [List.getElem?_eq_getElem (by simpa using hc)]
          simp only [Option.map_some, Nat.zero_le, true_and, Nat.zero_add, size_flatK, Nat.sub_zero, id]
          rw [if_pos (by rw [hd]; exact ht)]
        · rw [List.getElem?_eq_none (by rw [List.length_take]; omega), List.getElem?_eq_none (by rw [flat_length encS_len, hlen]; omega)]
  · unfold sortWorldK grow putRowK putRow mapBlock
    refine ⟨rfl, rfl, rfl, by simp [Sort.ahead], fun k hk hn => ?_⟩
    simp only [Sort.ahead]
    rw [Array.getElem?_append_left (by simpa using hk), Array.getElem?_modify, if_neg (fun e => hn e.symm)]

theorem sort_c (g cap : Nat) (ys : List St) (w : World) (h : Owns encS 41 4 w (.slice (some ⟨g, 0, none⟩) ys.length cap) ys) {L : List St} (hL : ys.Perm L) (hr : L.Pairwise ltS) (hn : ys.length ≤ 1000000) :
    Calls Try.prog 19 #[.slice (some ⟨g, 0, none⟩) ys.length cap, .func (.func 20) #[] #[]] w fun e w' => e = .returned (.tuple #[]) ∧ Owns encS 41 4 w' (.slice (some ⟨g, 0, none⟩) ys.length cap) L ∧ Turns (fun k => k = g) w w' := by
  have eg : ∀ args w, (callFunc 20 args).run Try.prog w = .ok (.enter 20 args) w := enters_of Try.func20 (by kernel_rfl) rfl
  have hcmp : CmpLays Try.prog 20 #[] encS 4 cmpS g 0 ys.toArray.size w := fun m os dk _ x y => (ahead_g x y _).mono fun _ _ h => h
  have hcon := AnyQ.slices_SortFunc Try.sortItems 4 (fun w => by kernel_rfl) (fun w => by kernel_rfl) encS encS_len (fun x v hv => by simp only [encS, List.mem_cons, List.not_mem_nil, or_false] at hv; rcases hv with rfl | rfl | rfl | rfl <;> rfl) cmpS swo_st 20 #[] g 0 cap ys.toArray w eg hcmp (owns_holdsK h) (h.lt rfl) (by simp; omega)
  have hcon2 : Calls Try.prog 19 #[.slice (some ⟨g, 0, none⟩) ys.length cap, .func (.func 20) #[] #[]] w _ := hcon
  refine hcon2.mono ?_
  rintro e w' ⟨rfl, d', n, os, hp, hs, rfl⟩
  have hd : d'.size = ys.length := by have := hp.1; simpa using this
  have ho := owns_sorted (n := n) (os := os) h hd
  rw [sorted_array hp hs (by simpa using hL) hr] at ho
  exact ⟨rfl, ho.1, ho.2⟩
end Go.Proofs.Ytjcmmgjaopejgaa
