/-
  The heap as a row that rises: what it holds, and what each act makes of it.
-/
import Derived.Test.YtgjgopcomgclkaaHpO
namespace Go.Proofs.Ytgjgopcomgclkaa
open Go.RowKit
set_option linter.unusedVariables false
set_option linter.unusedSimpArgs false

/-- An item put where it belongs. -/
def insL (x : It) : List It → List It
  | [] => [x]
  | y :: l => if lt x y then x :: y :: l else y :: insL x l
def delL (id : Int) (L : List It) : List It := L.filter fun x => x.id != id
def findL (id : Int) (L : List It) : Option It := L.find? fun x => x.id == id

theorem insL_perm (x : It) (L : List It) : (insL x L).Perm (x :: L) := by
  induction L with
  | nil => exact List.Perm.refl _
  | cons y l ih =>
    unfold insL
    split
    · exact List.Perm.refl _
    · exact (ih.cons y).trans (List.Perm.swap x y l)
theorem insL_rise {x : It} {L : List It} (h : L.Pairwise lt) (hx : ∀ y ∈ L, lt x y ∨ lt y x) : (insL x L).Pairwise lt := by
  induction L with
  | nil => exact List.pairwise_singleton _ _
  | cons y l ih =>
    unfold insL
    rw [List.pairwise_cons] at h
    split
    · rename_i hl
      refine List.pairwise_cons.2 ⟨fun z hz => ?_, List.pairwise_cons.2 h⟩
      rcases List.mem_cons.1 hz with rfl | hz
      · exact hl
      · exact lt_trans' hl (h.1 z hz)
    · rename_i hl
      refine List.pairwise_cons.2 ⟨fun z hz => ?_, ih h.2 (fun z hz => hx z (List.mem_cons_of_mem _ hz))⟩
      rcases List.mem_cons.1 ((insL_perm x l).mem_iff.1 hz) with rfl | hz
      · rcases hx y (List.mem_cons_self ..) with h1 | h1
        · exact absurd h1 hl
        · exact h1
      · exact h.1 z hz
theorem insL_len (x : It) (L : List It) : (insL x L).length = L.length + 1 := (insL_perm x L).length_eq
theorem insL_mem (x z : It) (L : List It) : z ∈ insL x L ↔ z = x ∨ z ∈ L := by rw [(insL_perm x L).mem_iff, List.mem_cons]

theorem findL_some {L : List It} (hu : Uniq L) (id : Int) (x : It) : findL id L = some x ↔ x ∈ L ∧ x.id = id := by
  unfold findL
  constructor
  · intro h
    exact ⟨List.mem_of_find?_eq_some h, by have := List.find?_some h; simpa using this⟩
  · rintro ⟨hm, hid⟩
    cases hc : L.find? (fun x => x.id == id) with
    | none =>
      have := List.find?_eq_none.1 hc x hm
      simp [hid] at this
    | some y =>
      have hy := List.mem_of_find?_eq_some hc
      have hyi : y.id = id := by have := List.find?_some hc; simpa using this
      obtain ⟨a, ha⟩ := List.getElem?_of_mem hm
      obtain ⟨b, hb⟩ := List.getElem?_of_mem hy
      have := hu a b x y ha hb (by rw [hid, hyi])
      subst this
      rw [ha] at hb
      exact hb.symm
theorem findL_none {L : List It} (id : Int) : findL id L = none ↔ ∀ x ∈ L, x.id ≠ id := by
  unfold findL
  rw [List.find?_eq_none]
  simp
theorem delL_perm {L : List It} (hu : Uniq L) {x : It} (hx : x ∈ L) : L.Perm (x :: delL x.id L) := by
  induction L with
  | nil => cases hx
  | cons y l ih =>
    have hn := (Uniq.iff _).1 hu
    rw [List.map_cons, List.nodup_cons] at hn
    unfold delL
    rw [List.filter_cons]
    rcases List.mem_cons.1 hx with rfl | hm
    · simp only [bne_self_eq_false, Bool.false_eq_true, if_false]
      have : l.filter (fun z => z.id != x.id) = l := by
        rw [List.filter_eq_self]
        intro z hz
        simp only [bne_iff_ne, ne_eq]
        exact fun e => hn.1 (by rw [← e]; exact List.mem_map_of_mem hz)
      rw [this]
    · have hyx : y.id ≠ x.id := fun e => hn.1 (by rw [e]; exact List.mem_map_of_mem hm)
      rw [if_pos (by simpa using hyx)]
      exact ((ih ((Uniq.iff _).2 hn.2) hm).cons y).trans (List.Perm.swap x y _)
theorem delL_rise {L : List It} (h : L.Pairwise lt) (id : Int) : (delL id L).Pairwise lt := h.sublist List.filter_sublist
theorem delL_mem {L : List It} {id : Int} {x : It} : x ∈ delL id L ↔ x ∈ L ∧ x.id ≠ id := by unfold delL; rw [List.mem_filter]; simp
theorem delL_le (L : List It) (id : Int) : (delL id L).length ≤ L.length := List.length_filter_le _ _

/-! Places. -/
theorem upd_idem (f : Int → Option Value) (a : Int) (v : Value) : upd (upd f a v) a v = upd f a v := by funext j; unfold upd; split <;> rfl
theorem upd_self {f : Int → Option Value} {a : Int} {v : Value} (h : f a = some v) : upd f a v = f := by
  funext j
  unfold upd
  split
  · rename_i e; rw [e, h]
  · rfl
theorem PosOK.get {f : Int → Option Value} {ys : List It} (h : PosOK f ys) {k : Nat} {x : It} (hx : ys[k]? = some x) : f x.id = some (.int .i64 k) := (h _ _).2 ⟨k, x, hx, rfl, rfl⟩
theorem PosOK.none {f : Int → Option Value} {ys : List It} (h : PosOK f ys) {id : Int} (hn : ∀ x ∈ ys, x.id ≠ id) : f id = none := by
  cases hf : f id with
  | none => rfl
  | some v =>
    obtain ⟨k, x, hk, hid, _⟩ := (h _ _).1 hf
    exact absurd hid (hn x (List.mem_of_getElem? hk))
/-- One more at the end. -/
theorem PosOK.add {f : Int → Option Value} {ys : List It} (h : PosOK f ys) {x : It} (hn : ∀ z ∈ ys, z.id ≠ x.id) : PosOK (upd f x.id (.int .i64 ys.length)) (ys ++ [x]) := by
  intro id v
  unfold upd
  by_cases hid : id = x.id
  · subst hid
    simp only [if_true]
    constructor
    · intro hv; cases hv
      exact ⟨ys.length, x, by simp, rfl, rfl⟩
    · rintro ⟨k, u, hk, hid, rfl⟩
      rcases Nat.lt_or_ge k ys.length with hlt | hge
      · rw [List.getElem?_append_left hlt] at hk
        exact absurd hid (hn u (List.mem_of_getElem? hk))
      · have := (List.getElem?_eq_some_iff.1 hk).1
        rw [List.length_append, List.length_singleton] at this
        rw [show k = ys.length from by omega]
  · rw [if_neg hid, h id v]
    constructor
    · rintro ⟨k, u, hk, he, rfl⟩
      exact ⟨k, u, by rw [List.getElem?_append_left (List.getElem?_eq_some_iff.1 hk).1]; exact hk, he, rfl⟩
    · rintro ⟨k, u, hk, he, rfl⟩
      rcases Nat.lt_or_ge k ys.length with hlt | hge
      · rw [List.getElem?_append_left hlt] at hk
        exact ⟨k, u, hk, he, rfl⟩
      · rw [List.getElem?_append_right hge] at hk
        obtain ⟨h1, rfl⟩ := List.getElem?_singleton .. ▸ hk |> fun hk => (show k - ys.length = 0 ∧ u = x from by
          by_cases hz : k - ys.length = 0
          · rw [if_pos hz] at hk; cases hk; exact ⟨hz, rfl⟩
          · rw [if_neg hz] at hk; cases hk)
        exact absurd he.symm hid
theorem Uniq.add {ys : List It} (h : Uniq ys) {x : It} (hn : ∀ z ∈ ys, z.id ≠ x.id) : Uniq (ys ++ [x]) := by
  refine Uniq.perm ?_ (List.perm_append_comm (l₁ := ys) (l₂ := [x]))
  rw [Uniq.iff] at h ⊢
  rw [List.singleton_append, List.map_cons, List.nodup_cons]
  refine ⟨fun hm => ?_, h⟩
  obtain ⟨z, hz, e⟩ := List.mem_map.1 hm
  exact hn z hz e

/-! Cutting one out. -/
theorem cut_end {ys : List It} {e : Nat} {x : It} (he : ys.length = e + 1) (hx : ys[e]? = some x) : ys = ys.dropLast ++ [x] := by
  refine List.ext_getElem? fun k => ?_
  rcases Nat.lt_trichotomy k e with h | h | h
  · rw [List.getElem?_append_left (by rw [List.length_dropLast]; omega), List.getElem?_dropLast, if_pos (by omega)]
  · subst h
    rw [hx, List.getElem?_append_right (by rw [List.length_dropLast]; omega), List.length_dropLast, he]
    simp
  · rw [List.getElem?_eq_none (by omega), List.getElem?_eq_none (by rw [List.length_append, List.length_dropLast, List.length_singleton]; omega)]
theorem cut_mid {ys : List It} {i e : Nat} {x z : It} (he : ys.length = e + 1) (hi : i < e) (hx : ys[i]? = some x) (hz : ys[e]? = some z) : (x :: ys.dropLast.set i z).Perm ys := by
  have h := swp_perm hx hz
  have h2 : swp ys i e x z = ys.dropLast.set i z ++ [x] := by
    refine List.ext_getElem? fun k => ?_
    rw [swp_get hx hz (by omega)]
    rcases Nat.lt_trichotomy k e with h | h | h
    · rw [if_neg (by omega), List.getElem?_append_left (by rw [List.length_set, List.length_dropLast]; omega)]
      by_cases hk : k = i
      · subst hk
        rw [if_pos rfl, List.getElem?_set_self (by rw [List.length_dropLast]; omega)]
      · rw [if_neg hk, List.getElem?_set_ne (by omega), List.getElem?_dropLast, if_pos (by omega)]
    · subst h
      rw [if_pos rfl, List.getElem?_append_right (by rw [List.length_set, List.length_dropLast]; omega), List.length_set, List.length_dropLast, he]
      simp
    · rw [if_neg (by omega), if_neg (by omega), List.getElem?_eq_none (by omega), List.getElem?_eq_none (by rw [List.length_append, List.length_set, List.length_dropLast, List.length_singleton]; omega)]
  rw [h2] at h
  exact (List.perm_append_comm (l₁ := [x]) (l₂ := ys.dropLast.set i z)).trans h
def del (f : Int → Option Value) (k : Int) : Int → Option Value := fun j => if j = k then none else f j
theorem PosOK.cut_end {f : Int → Option Value} {ys : List It} (hu : Uniq ys) (h : PosOK f ys) {e : Nat} {x : It} (he : ys.length = e + 1) (hx : ys[e]? = some x) : PosOK (del f x.id) ys.dropLast := by
  intro id v
  unfold del
  by_cases hid : id = x.id
  · subst hid
    simp only [if_true]
    constructor
    · intro h; cases h
    · rintro ⟨k, u, hk, hid, rfl⟩
      rw [List.getElem?_dropLast] at hk
      split at hk
      · have := hu _ _ _ _ hk hx hid
        omega
      · cases hk
  · rw [if_neg hid, h id v]
    constructor
    · rintro ⟨k, u, hk, hi, rfl⟩
      refine ⟨k, u, ?_, hi, rfl⟩
      have hl := (List.getElem?_eq_some_iff.1 hk).1
      rw [List.getElem?_dropLast, if_pos]
      · exact hk
      · have : k ≠ e := fun e' => by subst e'; rw [hx] at hk; cases hk; exact hid hi.symm
        omega
    · rintro ⟨k, u, hk, hi, rfl⟩
      rw [List.getElem?_dropLast] at hk
      split at hk
      · exact ⟨k, u, hk, hi, rfl⟩
      · cases hk
theorem PosOK.cut_mid {f : Int → Option Value} {ys : List It} (hu : Uniq ys) (h : PosOK f ys) {i e : Nat} {x z : It} (he : ys.length = e + 1) (hi : i < e) (hx : ys[i]? = some x) (hz : ys[e]? = some z) : PosOK (upd (del f x.id) z.id (.int .i64 i)) (ys.dropLast.set i z) := by
  have hxz : z.id ≠ x.id := fun e' => by have := hu _ _ _ _ hz hx e'; omega
  intro id v
  unfold upd del
  by_cases h1 : id = z.id
  · subst h1
    simp only [if_true]
    constructor
    · intro hv; cases hv
      exact ⟨i, z, by rw [List.getElem?_set_self (by rw [List.length_dropLast]; omega)], rfl, rfl⟩
    · rintro ⟨k, u, hk, hid, rfl⟩
      by_cases hki : k = i
      · subst hki; rfl
      · rw [List.getElem?_set_ne (by omega), List.getElem?_dropLast] at hk
        split at hk
        · have := hu _ _ _ _ hk hz hid
          omega
        · cases hk
  · rw [if_neg h1]
    by_cases h2 : id = x.id
    · subst h2
      simp only [if_true]
      constructor
      · intro h; cases h
      · rintro ⟨k, u, hk, hid, rfl⟩
        by_cases hki : k = i
        · subst hki
          rw [List.getElem?_set_self (by rw [List.length_dropLast]; omega)] at hk
          cases hk
          exact absurd hid hxz
        · rw [List.getElem?_set_ne (by omega), List.getElem?_dropLast] at hk
          split at hk
          · exact absurd (hu _ _ _ _ hk hx hid) hki
          · cases hk
    · rw [if_neg h2, h id v]
      constructor
      · rintro ⟨k, u, hk, hid, rfl⟩
        have hl := (List.getElem?_eq_some_iff.1 hk).1
        have hke : k ≠ e := fun e' => by subst e'; rw [hz] at hk; cases hk; exact h1 hid.symm
        have hki : k ≠ i := fun e' => by subst e'; rw [hx] at hk; cases hk; exact h2 hid.symm
        exact ⟨k, u, by rw [List.getElem?_set_ne (by omega), List.getElem?_dropLast, if_pos (by omega)]; exact hk, hid, rfl⟩
      · rintro ⟨k, u, hk, hid, rfl⟩
        by_cases hki : k = i
        · subst hki
          rw [List.getElem?_set_self (by rw [List.length_dropLast]; omega)] at hk
          cases hk
          exact absurd hid.symm h1
        · rw [List.getElem?_set_ne (by omega), List.getElem?_dropLast] at hk
          split at hk
          · exact ⟨k, u, hk, hid, rfl⟩
          · cases hk

/-- The heap behind a pointer, its items as rising; F: the blocks that are its own. -/
structure HeapIn (w : World) (p mb : Nat) (lv : Value) (sq : Int) (ys : List It) (f : Int → Option Value) (F : Nat → Prop) (L : List It) : Prop where
  raw : HRaw w p mb lv sq ys f
  pos : PosOK f ys
  uniq : Uniq ys
  ord : HOrd ys
  perm : ys.Perm L
  rise : L.Pairwise lt
  seqs : ∀ x ∈ L, 1 ≤ x.seq ∧ x.seq ≤ sq
  len : (L.length : Int) ≤ sq
  fp : F p
  fm : F mb
  fl : ∀ k, lv.ownBlock = some k → F k
  fb : ∀ k, F k → k < w.heap.size
def HeapAt (w : World) (p : Nat) (F : Nat → Prop) (L : List It) (sq : Int) : Prop := ∃ mb lv ys f, HeapIn w p mb lv sq ys f F L
theorem HeapIn.turns {S : Nat → Prop} {w w' : World} {p mb : Nat} {lv : Value} {sq : Int} {ys : List It} {f : Int → Option Value} {F : Nat → Prop} {L : List It} (h : HeapIn w p mb lv sq ys f F L) (ht : Turns S w w') (hn : ∀ k, F k → ¬ S k) : HeapIn w' p mb lv sq ys f F L :=
  { h with raw := h.raw.turns ht (hn _ h.fp) (hn _ h.fm) (fun k hk => hn k (h.fl k hk)), fb := fun k hk => Nat.lt_of_lt_of_le (h.fb k hk) ht.size }
theorem HeapAt.turns {S : Nat → Prop} {w w' : World} {p : Nat} {F : Nat → Prop} {L : List It} {sq : Int} (h : HeapAt w p F L sq) (ht : Turns S w w') (hn : ∀ k, F k → ¬ S k) : HeapAt w' p F L sq := by
  obtain ⟨mb, lv, ys, f, h⟩ := h
  exact ⟨mb, lv, ys, f, h.turns ht hn⟩
theorem HeapAt.made {w w' : World} {p : Nat} {F : Nat → Prop} {L : List It} {sq : Int} (h : HeapAt w p F L sq) (ht : Made w w') : HeapAt w' p F L sq := h.turns ht (fun _ _ h => h)
theorem HeapAt.len {w : World} {p : Nat} {F : Nat → Prop} {L : List It} {sq : Int} (h : HeapAt w p F L sq) : (L.length : Int) ≤ sq := by obtain ⟨_, _, _, _, h⟩ := h; exact h.len
theorem HeapAt.rise {w : World} {p : Nat} {F : Nat → Prop} {L : List It} {sq : Int} (h : HeapAt w p F L sq) : L.Pairwise lt := by obtain ⟨_, _, _, _, h⟩ := h; exact h.rise
theorem HeapAt.seqs {w : World} {p : Nat} {F : Nat → Prop} {L : List It} {sq : Int} (h : HeapAt w p F L sq) : ∀ x ∈ L, 1 ≤ x.seq ∧ x.seq ≤ sq := by obtain ⟨_, _, _, _, h⟩ := h; exact h.seqs
theorem HeapAt.uniq {w : World} {p : Nat} {F : Nat → Prop} {L : List It} {sq : Int} (h : HeapAt w p F L sq) : Uniq L := by obtain ⟨_, _, _, _, h⟩ := h; exact h.uniq.perm h.perm.symm
theorem HeapAt.fb {w : World} {p : Nat} {F : Nat → Prop} {L : List It} {sq : Int} (h : HeapAt w p F L sq) : ∀ k, F k → k < w.heap.size := by obtain ⟨_, _, _, _, h⟩ := h; exact h.fb

/-- One act: it turned only what was its own; what is its own now was so, or is new. -/
structure Stp (w w' : World) (F F' : Nat → Prop) : Prop where
  t : Turns F w w'
  f : ∀ k, F' k → F k ∨ w.heap.size ≤ k
theorem Stp.trans {w w' w'' : World} {F F' F'' : Nat → Prop} (h : Stp w w' F F') (k : Stp w' w'' F' F'') : Stp w w'' F F'' :=
  ⟨h.t.then k.t (fun b hb hs => (h.f b hs).elim id (fun h => by omega)), fun b hb => (k.f b hb).elim (fun h2 => h.f b h2) (fun h2 => .inr (Nat.le_trans h.t.size h2))⟩
theorem Stp.made {w w' : World} {F : Nat → Prop} (h : Made w w') : Stp w w' F F := ⟨h.mono (fun _ _ h => h.elim), fun _ h => .inl h⟩

/-- The first of the row is the first of those that rise. -/
theorem HeapIn.first {w : World} {p mb : Nat} {lv : Value} {sq : Int} {ys : List It} {f : Int → Option Value} {F : Nat → Prop} {L : List It} (h : HeapIn w p mb lv sq ys f F L) : ys[0]? = L[0]? := by
  cases hL : L with
  | nil =>
    have := h.perm.length_eq
    rw [hL] at this
    rw [List.eq_nil_of_length_eq_zero this]
  | cons m l =>
    obtain ⟨y, hy⟩ := get_of_lt (xs := ys) (k := 0) (by have := h.perm.length_eq; rw [hL] at this; simp at this; omega)
    rw [hy, List.getElem?_cons_zero]
    have hyL : y ∈ L := h.perm.mem_iff.1 (List.mem_of_getElem? hy)
    have hmy : m ∈ ys := h.perm.mem_iff.2 (by rw [hL]; exact List.mem_cons_self ..)
    obtain ⟨k, hk⟩ := List.getElem?_of_mem hmy
    have h1 := h.ord.least hy k m hk
    rw [hL] at hyL
    rcases List.mem_cons.1 hyL with e | hm
    · rw [e]
    · have := h.rise
      rw [hL, List.pairwise_cons] at this
      exact absurd (this.1 y hm) h1
theorem HeapIn.find {w : World} {p mb : Nat} {lv : Value} {sq : Int} {ys : List It} {f : Int → Option Value} {F : Nat → Prop} {L : List It} (h : HeapIn w p mb lv sq ys f F L) (id : Int) :
    (findL id L = none ∧ f id = none ∧ ∀ z ∈ ys, z.id ≠ id) ∨ ∃ k x, findL id L = some x ∧ f id = some (.int .i64 (k : Nat)) ∧ ys[k]? = some x ∧ x.id = id ∧ x ∈ L := by
  cases hf : findL id L with
  | none =>
    have hn := (findL_none id).1 hf
    have hn' : ∀ z ∈ ys, z.id ≠ id := fun z hz => hn z (h.perm.mem_iff.1 hz)
    exact .inl ⟨rfl, h.pos.none hn', hn'⟩
  | some x =>
    obtain ⟨hx, hid⟩ := (findL_some (h.uniq.perm h.perm.symm) id x).1 hf
    obtain ⟨k, hk⟩ := List.getElem?_of_mem (h.perm.mem_iff.2 hx)
    exact .inr ⟨k, x, rfl, by rw [← hid]; exact h.pos.get hk, hk, hid, hx⟩
end Go.Proofs.Ytgjgopcomgclkaa
