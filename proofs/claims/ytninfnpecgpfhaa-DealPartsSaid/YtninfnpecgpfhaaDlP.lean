/-
  The plain law behind DealSound: rows that a queue makes are sound; with one value turned, or one more received, they are not.
-/
import Derived.Test.YtninfnpecgpfhaaDlS
namespace Go.Proofs.Ytninfnpecgpfhaa
set_option linter.unusedVariables false
set_option linter.unusedSimpArgs false

/-- On from a queue. -/
def runQ (cap : Int) (q : List Int) (ds : List DealT) : Option (List Int) := ds.foldl (fun s d => s.bind fun q => soundStep cap q d) (some q)
theorem runQ_cons (cap : Int) (q : List Int) (d : DealT) (ds : List DealT) : runQ cap q (d :: ds) = (soundStep cap q d).bind fun q' => runQ cap q' ds := by
  unfold runQ
  simp only [List.foldl_cons, Option.bind_some]
  cases h : soundStep cap q d with
  | some q' => rfl
  | none =>
    simp only [Option.bind_none]
    clear h
    induction ds with
    | nil => rfl
    | cons e ds ih => simpa using ih
theorem runQ_append (cap : Int) (q : List Int) (ds es : List DealT) : runQ cap q (ds ++ es) = (runQ cap q ds).bind fun q' => runQ cap q' es := by
  induction ds generalizing q with
  | nil => rfl
  | cons d ds ih =>
    rw [List.cons_append, runQ_cons, runQ_cons]
    cases soundStep cap q d with
    | none => rfl
    | some q' => simpa using ih q'
theorem soundQ_run (cap : Int) (ds : List DealT) : soundQ cap ds = runQ cap [] ds := rfl

def sendD (n : Int) : DealT := ⟨3, 0, n, false, 0⟩
def gotD (n : Int) : DealT := ⟨3, 0, n, true, 0⟩

/-- What the law makes: the deals, the queue, how many were sent. -/
def mkStep (room : Int) (s : List DealT × List Int × Int) (b : Bool) : List DealT × List Int × Int :=
  if b then (if (s.2.1.length : Int) < room then (s.1 ++ [sendD (s.2.2 + 1)], s.2.1 ++ [s.2.2 + 1], s.2.2 + 1) else s)
  else match s.2.1 with
    | [] => s
    | x :: q => (s.1 ++ [gotD x], q, s.2.2)
def mk (room : Int) (l : List Bool) : List DealT × List Int × Int := l.foldl (mkStep room) ([], [], 0)
theorem mk_snoc (room : Int) (l : List Bool) (b : Bool) : mk room (l ++ [b]) = mkStep room (mk room l) b := by unfold mk; simp [List.foldl_append]

/-- What holds of what is made. -/
structure Fine (room : Int) (s : List DealT × List Int × Int) : Prop where
  run : soundQ room s.1 = some s.2.1
  nn : 0 ≤ s.2.2
  ql : (s.2.1.length : Int) ≤ room
  q1 : ∀ x ∈ s.2.1, 1 ≤ x ∧ x ≤ s.2.2
  ch : ∀ d ∈ s.1, d.ch = 3
  v1 : ∀ d ∈ s.1, 1 ≤ d.value
  snd : ∀ d ∈ s.1, d.got = false → d.value ≤ s.2.2
  inc : s.1.Pairwise (fun d e => d.got = false → e.got = false → d.value < e.value)

theorem Fine.start {room : Int} (hr : 0 ≤ room) : Fine room ([], [], 0) := ⟨rfl, by decide, by simpa using hr, by simp, by simp, by simp, by simp, by simp⟩
theorem Fine.step {room : Int} {s : List DealT × List Int × Int} (h : Fine room s) (b : Bool) : Fine room (mkStep room s b) := by
  obtain ⟨ds, q, n⟩ := s
  obtain ⟨h1, h2, hql, h3, h4, h5, h6, h7⟩ := h
  simp only at h1 h2 hql h3 h4 h5 h6 h7
  unfold mkStep
  simp only
  cases b with
  | true =>
    simp only [if_true]
    by_cases hl : (q.length : Int) < room
    · rw [if_pos hl]
      refine ⟨?_, by simp only; omega, by simp; omega, ?_, ?_, ?_, ?_, ?_⟩
      · simp only [soundQ_snoc, h1, Option.bind_some, soundStep, sendD]
        simp only [if_true]
        rw [if_neg (by omega)]
      · intro x hx
        simp only [List.mem_append, List.mem_singleton] at hx ⊢
        rcases hx with hx | rfl
        · have := h3 x hx; omega
        · omega
      · intro d hd
        simp only [List.mem_append, List.mem_singleton] at hd
        rcases hd with hd | rfl
        · exact h4 d hd
        · rfl
      · intro d hd
        simp only [List.mem_append, List.mem_singleton] at hd
        rcases hd with hd | rfl
        · exact h5 d hd
        · simp only [sendD]; omega
      · intro d hd hg
        simp only [List.mem_append, List.mem_singleton] at hd ⊢
        rcases hd with hd | rfl
        · have := h6 d hd hg; omega
        · simp only [sendD]; omega
      · rw [List.pairwise_append]
        refine ⟨h7, by simp, fun d hd e he hgd hge => ?_⟩
        simp only [List.mem_singleton] at he
        subst he
        have := h6 d hd hgd
        simp only [sendD]; omega
    · rw [if_neg hl]
      exact ⟨h1, h2, hql, h3, h4, h5, h6, h7⟩
  | false =>
    simp only [Bool.false_eq_true, if_false]
    cases q with
    | nil => exact ⟨h1, h2, hql, h3, h4, h5, h6, h7⟩
    | cons x q =>
      simp only
      simp only [List.length_cons, Int.natCast_add, Int.natCast_one] at hql
      · refine ⟨?_, h2, by simp only; omega, fun y hy => h3 y (.tail _ hy), ?_, ?_, ?_, ?_⟩
        · simp only [soundQ_snoc, h1, Option.bind_some, soundStep, gotD]
          rw [if_neg (by simp), if_neg]
          simp only [ne_eq, not_true_eq_false, false_or]
          omega
        · intro d hd
          simp only [List.mem_append, List.mem_singleton] at hd
          rcases hd with hd | rfl
          · exact h4 d hd
          · rfl
        · intro d hd
          simp only [List.mem_append, List.mem_singleton] at hd
          rcases hd with hd | rfl
          · exact h5 d hd
          · exact (h3 x (.head _)).1
        · intro d hd hg
          simp only [List.mem_append, List.mem_singleton] at hd
          rcases hd with hd | rfl
          · exact h6 d hd hg
          · simp [gotD] at hg
        · rw [List.pairwise_append]
          refine ⟨h7, by simp, fun d hd e he hgd hge => ?_⟩
          simp only [List.mem_singleton] at he
          subst he
          simp [gotD] at hge

theorem fine_made {room : Int} (hr : 0 ≤ room) (l : List Bool) : Fine room (mk room l) := by
  suffices H : ∀ (n : Nat) (l : List Bool), l.length = n → Fine room (mk room l) from H _ l rfl
  intro n
  induction n with
  | zero =>
    intro l hn
    obtain rfl := List.eq_nil_of_length_eq_zero hn
    exact Fine.start hr
  | succ n ih =>
    intro l hn
    rcases List.eq_nil_or_concat l with rfl | ⟨l, b, rfl⟩
    · simp at hn
    · simp only [List.concat_eq_append, List.length_append, List.length_singleton] at hn
      rw [List.concat_eq_append, mk_snoc]
      exact (ih l (by omega)).step b
theorem mk_len (room : Int) (l : List Bool) : (mk room l).1.length ≤ l.length ∧ (mk room l).2.2 ≤ l.length ∧ (mk room l).2.1.length ≤ l.length := by
  suffices H : ∀ (n : Nat) (l : List Bool), l.length = n → (mk room l).1.length ≤ l.length ∧ (mk room l).2.2 ≤ l.length ∧ (mk room l).2.1.length ≤ l.length from H _ l rfl
  intro n
  induction n with
  | zero =>
    intro l hn
    obtain rfl := List.eq_nil_of_length_eq_zero hn
    simp [mk]
  | succ n ih =>
    intro l hn
    rcases List.eq_nil_or_concat l with rfl | ⟨l, b, rfl⟩
    · simp at hn
    · simp only [List.concat_eq_append, List.length_append, List.length_singleton] at hn
      have := ih l (by omega)
      rw [List.concat_eq_append, mk_snoc]
      generalize mk room l = s at *
      obtain ⟨ds, q, n⟩ := s
      simp only [List.length_append, List.length_singleton] at this ⊢
      unfold mkStep
      simp only
      split
      · split
        · simp; omega
        · simp only; omega
      · split
        · simp only; omega
        · simp at this ⊢; omega

/-- One more received. -/
theorem more_falls {room : Int} {s : List DealT × List Int × Int} (h : Fine room s) (hn : s.2.2 < 900) (es : List DealT) : soundF room (s.1 ++ gotD 900 :: es) = false := by
  unfold soundF
  rw [soundQ_run, runQ_append, ← soundQ_run, h.run, Option.bind_some, runQ_cons]
  have : soundStep room s.2.1 (gotD 900) = none := by
    unfold soundStep gotD
    simp only [Bool.true_eq_false, if_false]
    cases hq : s.2.1 with
    | nil => rfl
    | cons x q =>
      have := h.q1 x (by rw [hq]; exact .head _)
      simp only
      rw [if_pos (.inl (by omega))]
  rw [this]
  rfl

/-- The queue with one value turned. -/
theorem run_turned (room m : Int) (hm : m ≠ -5) : ∀ (es : List DealT) (q : List Int) (q2 : List Int), runQ room q es = some q2 → (∀ d ∈ es, d.got = false → d.value ≠ m) →
    (runQ room (q.map fun x => if x = m then -5 else x) es).isSome = !(es.any fun d => d.got && d.value == m)
  | [], q, q2, _, _ => rfl
  | d :: es, q, q2, h, hs => by
    rw [runQ_cons] at h
    rw [runQ_cons]
    cases hst : soundStep room q d with
    | none => rw [hst] at h; cases h
    | some q' =>
      rw [hst, Option.bind_some] at h
      have ih := run_turned room m hm es q' q2 h (fun e he => hs e (.tail _ he))
      cases hg : d.got with
      | false =>
        have hv := hs d (.head _) hg
        unfold soundStep at hst ⊢
        rw [if_pos hg] at hst ⊢
        split at hst
        · cases hst
        · rename_i hlen
          obtain rfl := Option.some.inj hst
          rw [List.length_map, if_neg hlen, Option.bind_some]
          simp only [List.map_append, List.map_cons, List.map_nil, if_neg hv] at ih
          rw [ih]
          simp [hg]
      | true =>
        unfold soundStep at hst ⊢
        rw [if_neg (by rw [hg]; decide)] at hst ⊢
        cases q with
        | nil => cases hst
        | cons x l =>
          simp only [List.map_cons] at hst ⊢
          split at hst
          · cases hst
          · rename_i hc
            obtain rfl := Option.some.inj hst
            simp only [ne_eq, not_or, Decidable.not_not] at hc
            obtain ⟨rfl, hlen⟩ := hc
            by_cases hx : d.value = m
            · rw [if_pos hx]
              rw [if_pos (.inl (by omega))]
              simp [hg, hx]
            · rw [if_neg hx, List.length_map, if_neg (by simp only [ne_eq, not_true_eq_false, false_or]; exact hlen), Option.bind_some, ih]
              simp [hg, hx]

/-- One value turned. -/
theorem odd_tells {room : Int} {s : List DealT × List Int × Int} (h : Fine room s) {k : Nat} {d : DealT} (hd : s.1[k]? = some d) :
    soundF room (s.1.set k { d with value := -5 }) = (!d.got && !((s.1.drop k).any fun e => (e.got && !d.got) && e.value == d.value)) := by
  have hk : k < s.1.length := (List.getElem?_eq_some_iff.1 hd).1
  have hv := h.v1 d (List.mem_of_getElem? hd)
  have hsplit : s.1 = s.1.take k ++ d :: s.1.drop (k + 1) := by
    conv => lhs; rw [← List.take_append_drop k s.1]
    rw [List.drop_eq_getElem_cons hk]
    have := (List.getElem?_eq_some_iff.1 hd).2
    rw [this]
  have hset : s.1.set k { d with value := -5 } = s.1.take k ++ { d with value := -5 } :: s.1.drop (k + 1) := by
    rw [List.set_eq_take_append_cons_drop, if_pos hk]
  have hdrop : s.1.drop k = d :: s.1.drop (k + 1) := by
    rw [List.drop_eq_getElem_cons hk]
    have := (List.getElem?_eq_some_iff.1 hd).2
    rw [this]
  have hrun := h.run
  rw [soundQ_run] at hrun
  have hinc := h.inc
  rw [hsplit] at hrun hinc
  rw [hset, hdrop]
  unfold soundF
  rw [soundQ_run, runQ_append]
  rw [runQ_append] at hrun
  cases hq : runQ room [] (s.1.take k) with
  | none => rw [hq] at hrun; cases hrun
  | some q =>
    rw [hq, Option.bind_some, runQ_cons] at hrun
    rw [Option.bind_some, runQ_cons]
    cases hst : soundStep room q d with
    | none => rw [hst] at hrun; cases hrun
    | some q' =>
      rw [hst, Option.bind_some] at hrun
      -- what stands in the queue was sent ahead
      have hqv : ∀ x ∈ q, ∃ e ∈ s.1.take k, e.got = false ∧ e.value = x := by
        have : ∀ (es : List DealT) (q0 q1 : List Int), runQ room q0 es = some q1 → ∀ x ∈ q1, x ∈ q0 ∨ ∃ e ∈ es, e.got = false ∧ e.value = x := by
          intro es
          induction es with
          | nil => intro q0 q1 h x hx; simp [runQ] at h; subst h; exact .inl hx
          | cons e es ih =>
            intro q0 q1 h x hx
            rw [runQ_cons] at h
            cases hst : soundStep room q0 e with
            | none => rw [hst] at h; cases h
            | some q2 =>
              rw [hst, Option.bind_some] at h
              rcases ih q2 q1 h x hx with h1 | ⟨e', h1, h2⟩
              · unfold soundStep at hst
                split at hst
                · rename_i hg
                  split at hst
                  · cases hst
                  · obtain rfl := Option.some.inj hst
                    simp only [List.mem_append, List.mem_singleton] at h1
                    rcases h1 with h1 | rfl
                    · exact .inl h1
                    · exact .inr ⟨e, .head _, hg, rfl⟩
                · split at hst
                  · cases hst
                  · split at hst
                    · cases hst
                    · obtain rfl := Option.some.inj hst
                      exact .inl (.tail _ h1)
              · exact .inr ⟨e', .tail _ h1, h2⟩
        intro x hx
        rcases this _ _ _ hq x hx with h1 | h1
        · cases h1
        · exact h1
      by_cases hg : d.got = true
      · have : soundStep room q { d with value := -5 } = none := by
          unfold soundStep at hst ⊢
          rw [if_neg (by rw [hg]; decide)] at hst
          rw [if_neg (by simp [hg])]
          cases q with
          | nil => rfl
          | cons x l =>
            simp only at hst ⊢
            split at hst
            · cases hst
            · rename_i hc
              simp only [ne_eq, not_or, Decidable.not_not] at hc
              rw [if_pos (.inl (by omega))]
        rw [this]
        simp [hg]
      · have hg : d.got = false := by simpa using hg
        rw [List.pairwise_append] at hinc
        obtain ⟨_, hi2, hi3⟩ := hinc
        rw [List.pairwise_cons] at hi2
        have hlen : ¬ room < (q.length : Int) := by
          unfold soundStep at hst
          rw [if_pos hg] at hst
          split at hst
          · cases hst
          · assumption
        have hq' : q' = q ++ [d.value] := by
          unfold soundStep at hst
          rw [if_pos hg, if_neg hlen] at hst
          exact (Option.some.inj hst).symm
        have hne : ∀ x ∈ q, x ≠ d.value := by
          intro x hx
          obtain ⟨e, he, h1, h2⟩ := hqv x hx
          have := hi3 e he d (.head _) h1 hg
          omega
        have hmap : (q.map fun x => if x = d.value then -5 else x) = q := by
          conv => rhs; rw [← List.map_id q]
          exact List.map_congr_left fun x hx => by rw [if_neg (hne x hx)]; rfl
        have hstep : soundStep room q { d with value := -5 } = some (q ++ [-5]) := by
          unfold soundStep
          rw [if_pos hg, if_neg hlen]
        have ht := run_turned room d.value (by omega) (s.1.drop (k + 1)) q' _ hrun (fun e he hge => by
          have := hi2.1 e he hg hge
          omega)
        rw [hq', List.map_append, hmap] at ht
        simp only [List.map_cons, List.map_nil, if_true] at ht
        rw [hstep, Option.bind_some, ht]
        simp [hg]
end Go.Proofs.Ytninfnpecgpfhaa
