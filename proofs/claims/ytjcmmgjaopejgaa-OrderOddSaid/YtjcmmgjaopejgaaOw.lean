/-
  Package order, without the program: how all tasks are behind events, and whether events can be.
-/
import Derived.Test.YtjcmmgjaopejgaaOv
namespace Go.Proofs.Ytjcmmgjaopejgaa
open Go.RowKit
set_option linter.unusedVariables false
set_option linter.unusedSimpArgs false

def insS (x : St) : List St → List St
  | [] => [x]
  | y :: l => if x.task < y.task then x :: y :: l else y :: insS x l
def updT (t : Int) (f : St → St) (L : List St) : List St := L.map fun x => if x.task = t then f x else x
def hasT (t : Int) (L : List St) : Bool := L.any fun x => x.task == t
def setP (a : Int) (x : St) : St := ⟨x.task, x.state, x.how, a⟩
def stepM (L : List St) (e : Ev) : List St :=
  if e.kind = 5 then (if hasT e.task L = true then updT e.task (setP e.a) L else insS ⟨e.task, 0, 0, e.a⟩ L) else updT e.task (fun x => goesM x e) L
def statesM (l : List Ev) : List St := l.foldl stepM [⟨0, 0, 0, 0⟩]

theorem hasT_iff {t : Int} {L : List St} : hasT t L = true ↔ ∃ x ∈ L, x.task = t := by unfold hasT; simp
theorem goesM_task (x : St) (e : Ev) : (goesM x e).task = x.task := by
  unfold goesM
  by_cases h4 : e.kind = 4
  · rw [if_pos h4]
  by_cases h2 : e.kind = 2
  · rw [if_neg h4, if_pos h2]
  rw [if_neg h4, if_neg h2]
  split <;> rfl
theorem insS_perm (x : St) (L : List St) : (insS x L).Perm (x :: L) := by
  induction L with
  | nil => exact .refl _
  | cons y l ih =>
    unfold insS
    split
    · exact .refl _
    · exact (List.Perm.cons y ih).trans (.swap x y l)
theorem insS_len (x : St) (L : List St) : (insS x L).length = L.length + 1 := (insS_perm x L).length_eq
theorem insS_rise {x : St} {L : List St} (h : L.Pairwise ltS) (hx : ∀ y ∈ L, y.task ≠ x.task) : (insS x L).Pairwise ltS := by
  induction L with
  | nil => simp [insS]
  | cons y l ih =>
    rw [List.pairwise_cons] at h
    unfold insS
    split
    · rename_i hlt
      rw [List.pairwise_cons]
      refine ⟨fun z hz => ?_, List.pairwise_cons.2 h⟩
      rcases List.mem_cons.1 hz with rfl | hz
      · exact hlt
      · have := h.1 z hz
        unfold ltS at *
        omega
    · rename_i hlt
      rw [List.pairwise_cons]
      refine ⟨fun z hz => ?_, ih h.2 (fun z hz => hx z (List.mem_cons_of_mem _ hz))⟩
      rcases List.mem_cons.1 ((insS_perm x l).mem_iff.1 hz) with rfl | hz
      · have := hx y (List.mem_cons_self ..)
        unfold ltS
        omega
      · exact h.1 z hz
theorem insS_at {x : St} : ∀ (L : List St) (k : Nat), k ≤ L.length → (∀ y ∈ L.take k, y.task < x.task) → (∀ y, L[k]? = some y → x.task < y.task) → insS x L = L.take k ++ x :: L.drop k := by
  intro L
  induction L with
  | nil =>
    intro k hk _ _
    simp at hk
    subst hk
    rfl
  | cons y l ih =>
    intro k hk h1 h2
    cases k with
    | zero =>
      unfold insS
      rw [if_pos (h2 y rfl)]
      rfl
    | succ k =>
      unfold insS
      rw [if_neg (by have := h1 y (by simp); omega), ih k (by simpa using hk) (fun z hz => h1 z (by simp [hz])) (fun z hz => h2 z (by simpa using hz))]
      rfl
theorem updT_len (t : Int) (f : St → St) (L : List St) : (updT t f L).length = L.length := by unfold updT; simp
theorem updT_rise {t : Int} {f : St → St} {L : List St} (hf : ∀ x, (f x).task = x.task) (h : L.Pairwise ltS) : (updT t f L).Pairwise ltS := by
  unfold updT
  rw [List.pairwise_map]
  refine h.imp fun {a b} hab => ?_
  unfold ltS at *
  have e : ∀ z : St, (if z.task = t then f z else z).task = z.task := fun z => by split; exact hf z; rfl
  rw [e, e]
  exact hab
theorem updT_none {t : Int} {f : St → St} {L : List St} (h : ∀ y ∈ L, y.task ≠ t) : updT t f L = L := by
  unfold updT
  conv => rhs; rw [← List.map_id L]
  exact List.map_congr_left fun y hy => by rw [if_neg (h y hy)]; rfl
def UniqS (L : List St) : Prop := (L.map St.task).Nodup
theorem rise_uniq {L : List St} (h : L.Pairwise ltS) : UniqS L := by
  unfold UniqS
  rw [List.nodup_iff_pairwise_ne, List.pairwise_map]
  exact h.imp fun {a b} hab => by unfold ltS at hab; omega
theorem UniqS.perm {L M : List St} (h : UniqS L) (hp : M.Perm L) : UniqS M := (hp.map St.task).nodup_iff.2 h
theorem uniq_get {L : List St} (h : UniqS L) {i j : Nat} {x y : St} (hx : L[i]? = some x) (hy : L[j]? = some y) (he : x.task = y.task) : i = j := by
  unfold UniqS at h
  have hi : (L.map St.task)[i]? = some x.task := by simp [hx]
  have hj : (L.map St.task)[j]? = some y.task := by simp [hy]
  rw [← he] at hj
  obtain ⟨hil, hi⟩ := List.getElem?_eq_some_iff.1 hi
  obtain ⟨hjl, hj⟩ := List.getElem?_eq_some_iff.1 hj
  rcases Nat.lt_trichotomy i j with hij | hij | hij
  · exact absurd (hi.trans hj.symm) (List.pairwise_iff_getElem.1 h i j hil hjl hij)
  · exact hij
  · exact absurd (hj.trans hi.symm) (List.pairwise_iff_getElem.1 h j i hjl hil hij)
theorem set_upd {L : List St} (h : UniqS L) {k : Nat} {x : St} (hk : L[k]? = some x) (f : St → St) : L.set k (f x) = updT x.task f L := by
  refine List.ext_getElem? fun j => ?_
  unfold updT
  rw [List.getElem?_map]
  obtain ⟨hkl, hx⟩ := List.getElem?_eq_some_iff.1 hk
  by_cases hj : j = k
  · subst hj
    rw [List.getElem?_set_self hkl, hk]
    simp
  · rw [List.getElem?_set_ne (fun e => hj e.symm)]
    cases hy : L[j]? with
    | none => rfl
    | some y =>
      have : y.task ≠ x.task := fun e => hj (uniq_get h hy hk e)
      simp [this]
theorem stepM_rise {L : List St} {e : Ev} (h : L.Pairwise ltS) : (stepM L e).Pairwise ltS := by
  unfold stepM
  split
  · split
    · exact updT_rise (fun _ => rfl) h
    · rename_i hh
      exact insS_rise h fun y hy he => hh (hasT_iff.2 ⟨y, hy, he⟩)
  · exact updT_rise (fun x => goesM_task x e) h
theorem stepM_len (L : List St) (e : Ev) : (stepM L e).length ≤ L.length + 1 ∧ L.length ≤ (stepM L e).length := by
  unfold stepM
  split
  · split
    · rw [updT_len]; omega
    · rw [insS_len]; omega
  · rw [updT_len]; omega
/-- The states behind the first k events. -/
def upto (l : List Ev) (k : Nat) : List St := (l.take k).foldl stepM [⟨0, 0, 0, 0⟩]
theorem upto_succ {l : List Ev} {k : Nat} {e : Ev} (h : l[k]? = some e) : upto l (k + 1) = stepM (upto l k) e := by
  unfold upto
  obtain ⟨hl, rfl⟩ := List.getElem?_eq_some_iff.1 h
  rw [List.take_succ_eq_append_getElem hl, List.foldl_append]
  rfl
theorem upto_all {l : List Ev} {k : Nat} (h : l.length ≤ k) : upto l k = statesM l := by unfold upto statesM; rw [List.take_of_length_le h]
theorem upto_rise (l : List Ev) (k : Nat) : (upto l k).Pairwise ltS := by
  unfold upto
  generalize l.take k = m
  suffices ∀ (m : List Ev) (L : List St), L.Pairwise ltS → (m.foldl stepM L).Pairwise ltS from this m _ (by simp)
  intro m
  induction m with
  | nil => intro L h; exact h
  | cons e m ih => intro L h; exact ih _ (stepM_rise h)
theorem upto_len (l : List Ev) (k : Nat) : (upto l k).length ≤ k + 1 ∧ 1 ≤ (upto l k).length := by
  unfold upto
  have : ∀ (m : List Ev) (L : List St), (m.foldl stepM L).length ≤ L.length + m.length ∧ L.length ≤ (m.foldl stepM L).length := by
    intro m
    induction m with
    | nil => intro L; simp
    | cons e m ih =>
      intro L
      have h1 := ih (stepM L e)
      have h2 := stepM_len L e
      simp only [List.foldl_cons, List.length_cons]
      omega
  have h := this (l.take k) [⟨0, 0, 0, 0⟩]
  have h2 := List.length_take_le k l
  simp only [List.length_cons, List.length_nil] at h
  omega

/-! Whether events can be. -/
def goSt (s k : Int) : Int := if k = 4 then 2 else if k = 2 then 1 else if k = 3 ∨ k = 1 then 0 else s
def mayM (k s : Int) (has : Bool) : Bool := if k = 4 then has && decide (s ≠ 2) else if k = 3 then has && decide (s = 1) else if k = 1 ∨ k = 2 then has && decide (s = 0) else decide (1 ≤ k) && decide (k ≤ 8)
def atS (sts : List Int) (t : Int) : Option Int := if 0 ≤ t then sts[t.toNat]? else none
def sndStep (sts : List Int) (e : Ev) : Option (List Int) :=
  if e.kind = 5 then (if e.task = (sts.length : Int) then some (sts ++ [0]) else none)
  else match atS sts e.task with
    | some s => if mayM e.kind s true = true then some (sts.set e.task.toNat (goSt s e.kind)) else none
    | none => if mayM e.kind 0 false = true then some sts else none
def falls (p : Option Int) (e : Ev) : Bool := match p with
  | some s => decide (e.step < s)
  | none => false
def sndGo : Option Int → List Int → List Ev → Bool
  | _, _, [] => true
  | p, sts, e :: l => if falls p e = true then false else match sndStep sts e with
    | some sts' => sndGo (some e.step) sts' l
    | none => false
def soundM (l : List Ev) : Bool := sndGo none [0] l
def prevE (l : List Ev) : Nat → Option Int
  | 0 => none
  | k + 1 => l[k]?.map Ev.step
theorem snd_end {p : Option Int} {sts : List Int} {l : List Ev} {k : Nat} (h : l.length ≤ k) : sndGo p sts (l.drop k) = true := by rw [List.drop_of_length_le h]; rfl
theorem snd_falls {p : Option Int} {sts : List Int} {l : List Ev} {k : Nat} {e : Ev} (he : l[k]? = some e) (h : falls p e = true) : sndGo p sts (l.drop k) = false := by
  obtain ⟨hl, rfl⟩ := List.getElem?_eq_some_iff.1 he
  rw [List.drop_eq_getElem_cons hl]
  unfold sndGo
  rw [if_pos h]
theorem snd_no {p : Option Int} {sts : List Int} {l : List Ev} {k : Nat} {e : Ev} (he : l[k]? = some e) (h : falls p e = false) (hs : sndStep sts e = none) : sndGo p sts (l.drop k) = false := by
  obtain ⟨hl, rfl⟩ := List.getElem?_eq_some_iff.1 he
  rw [List.drop_eq_getElem_cons hl]
  unfold sndGo
  rw [if_neg (by simp [h]), hs]
theorem snd_yes {p : Option Int} {sts sts' : List Int} {l : List Ev} {k : Nat} {e : Ev} (he : l[k]? = some e) (h : falls p e = false) (hs : sndStep sts e = some sts') : sndGo p sts (l.drop k) = sndGo (prevE l (k + 1)) sts' (l.drop (k + 1)) := by
  have hp : prevE l (k + 1) = some e.step := by simp [prevE, he]
  rw [hp]
  obtain ⟨hl, rfl⟩ := List.getElem?_eq_some_iff.1 he
  rw [List.drop_eq_getElem_cons hl]
  conv => lhs; unfold sndGo
  rw [if_neg (by simp [h]), hs]
end Go.Proofs.Ytjcmmgjaopejgaa
