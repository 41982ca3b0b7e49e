/-
  tarpaulinlaw12.ExpireActs: its walk.
-/
import Derived.Test.YtgjgopcomgclkaaRx
import Derived.Test.YtgjgopcomgclkaaEw
import Derived.Deep.DeepCutAuto
import Derived.Deep.CutBlock
namespace Go.Proofs.Ytgjgopcomgclkaa
open Go.RowKit
set_option linter.unusedVariables false
set_option linter.unusedSimpArgs false

structure EAct where
  k : Int
  i : Int
  w : Int
  p : Int
def encEA (a : EAct) : List Value := [.int .i64 a.k, .int .i64 a.i, .int .i64 a.w, .int .i64 a.p]

/-! The periods, by the program and by the document. -/
structure PerOK (pf : Int → Option Int) (PL : List It) (s : Int) : Prop where
  per : ∀ id, pf id = (findL id PL).map It.when
  uniq : Uniq PL
  len : (PL.length : Int) ≤ s
theorem findL_delL (id id' : Int) (PL : List It) : findL id' (delL id PL) = if id' = id then none else findL id' PL := by
  by_cases h : id' = id
  · rw [if_pos h, h]
    exact findL_del id PL
  · rw [if_neg h]
    unfold findL delL
    rw [List.find?_filter]
    congr 1
    funext x
    by_cases hx : x.id = id'
    · simp [hx, h]
    · simp [hx]
theorem uniq_delL {PL : List It} (h : Uniq PL) (id : Int) : Uniq (delL id PL) := (Uniq.iff _).2 (((Uniq.iff _).1 h).sublist (List.filter_sublist.map _))
theorem PerOK.del {pf : Int → Option Int} {PL : List It} {s : Int} (h : PerOK pf PL s) (id : Int) : PerOK (pdel pf id) (delL id PL) s :=
  ⟨fun i => by
    unfold pdel
    rw [findL_delL]
    by_cases hi : i = id
    · simp [hi]
    · simp [hi, h.per], uniq_delL h.uniq id, by have := delL_le PL id; have := h.len; omega⟩
theorem PerOK.set {pf : Int → Option Int} {PL : List It} {s : Int} (h : PerOK pf PL s) (id p : Int) : PerOK (pset pf id p) (delL id PL ++ [⟨id, p, 0⟩]) (s + 1) :=
  ⟨fun i => by
    have h1 := findL_delL id i PL
    unfold pset
    unfold findL at h1 ⊢
    rw [List.find?_append, h1]
    by_cases hi : i = id
    · simp [hi]
    · have hid : ¬ id = i := fun e => hi e.symm
      have hp := h.per i
      unfold findL at hp
      simp [hi, hid, hp], (uniq_delL h.uniq id).add (fun z hz => (delL_mem.1 hz).2), by have := delL_le PL id; have := h.len; simp; omega⟩
theorem PerOK.mono {pf : Int → Option Int} {PL : List It} {s s' : Int} (h : PerOK pf PL s) (hs : s ≤ s') : PerOK pf PL s' := ⟨h.per, h.uniq, by have := h.len; omega⟩
theorem PerOK.zero : PerOK (fun _ => none) [] 0 := ⟨fun _ => rfl, (Uniq.iff _).2 List.nodup_nil, by simp⟩

/-- The timers and the document's, apart; and a block beside them. -/
structure TDuo (w0 w : World) (q : Nat) (G : Nat → Prop) (L : List It) (s : Int) (pf : Int → Option Int) (b : Nat) (F : Nat → Prop) (M : List It) (u : Int) (PL : List It) : Prop where
  h : TimAt w q G L s pf
  r : RTAt w b F M u PL
  dis : ∀ k, G k → ¬ F k
  m : Made w0 w
  f : ∀ k, G k → w0.heap.size ≤ k
  g : ∀ k, F k → w0.heap.size ≤ k
section
variable {w0 w w' : World} {q : Nat} {G G' : Nat → Prop} {L L' : List It} {s s' : Int} {pf pf' : Int → Option Int} {b : Nat} {F F' : Nat → Prop} {M M' : List It} {u u' : Int} {PL PL' : List It} {bx : Nat} {tx : TypeId} {cs : Array Value}
theorem TDuo.step1 (h : TDuo w0 w q G L s pf b F M u PL) (hh : TimAt w' q G' L' s' pf') (x : Stp w w' G G') : TDuo w0 w' q G' L' s' pf' b F M u PL :=
  ⟨hh, h.r.turns x.t (fun k hk hf => h.dis k hf hk), fun k hk hf => (x.f k hk).elim (fun h2 => h.dis k h2 hf) (fun h2 => by have := h.r.fb k hf; omega), h.m.then x.t (fun b hb hf => by have := h.f b hf; omega), fun k hk => (x.f k hk).elim (h.f k) (fun h2 => Nat.le_trans h.m.size h2), h.g⟩
theorem TDuo.step2 (h : TDuo w0 w q G L s pf b F M u PL) (hh : RTAt w' b F' M' u' PL') (x : Stp w w' F F') : TDuo w0 w' q G L s pf b F' M' u' PL' :=
  ⟨h.h.turns x.t (fun k hk hf => h.dis k hk hf), hh, fun k hk hf => (x.f k hf).elim (fun h2 => h.dis k hk h2) (fun h2 => by have := h.h.gb k hk; omega), h.m.then x.t (fun b hb hf => by have := h.g b hf; omega), h.f, fun k hk => (x.f k hk).elim (h.g k) (fun h2 => Nat.le_trans h.m.size h2)⟩
theorem TDuo.made (h : TDuo w0 w q G L s pf b F M u PL) (x : Made w w') : TDuo w0 w' q G L s pf b F M u PL := ⟨h.h.made x, h.r.made x, h.dis, h.m.trans x, h.f, h.g⟩
structure TBox (w0 w : World) (q : Nat) (G : Nat → Prop) (L : List It) (s : Int) (pf : Int → Option Int) (b : Nat) (F : Nat → Prop) (M : List It) (u : Int) (PL : List It) (bx : Nat) (tx : TypeId) (cs : Array Value) : Prop where
  d : TDuo w0 w q G L s pf b F M u PL
  x : Blk w bx tx cs
  nf : ¬ G bx
  ng : ¬ F bx
theorem TBox.step1 (h : TBox w0 w q G L s pf b F M u PL bx tx cs) (hh : TimAt w' q G' L' s' pf') (y : Stp w w' G G') : TBox w0 w' q G' L' s' pf' b F M u PL bx tx cs :=
  ⟨h.d.step1 hh y, h.x.turns y.t h.nf, fun hf => (y.f _ hf).elim h.nf (fun h2 => by have := h.x.lt; omega), h.ng⟩
theorem TBox.step2 (h : TBox w0 w q G L s pf b F M u PL bx tx cs) (hh : RTAt w' b F' M' u' PL') (y : Stp w w' F F') : TBox w0 w' q G L s pf b F' M' u' PL' bx tx cs :=
  ⟨h.d.step2 hh y, h.x.turns y.t h.ng, h.nf, fun hf => (y.f _ hf).elim h.ng (fun h2 => by have := h.x.lt; omega)⟩
theorem TBox.made (h : TBox w0 w q G L s pf b F M u PL bx tx cs) (y : Made w w') : TBox w0 w' q G L s pf b F M u PL bx tx cs := ⟨h.d.made y, h.x.turns y (fun h => h), h.nf, h.ng⟩
theorem TBox.new (h : TDuo w0 w q G L s pf b F M u PL) (tx : TypeId) (cs : Array Value) : TBox w0 (w.alloc (.cells cs tx)) q G L s pf b F M u PL w.heap.size tx cs :=
  ⟨h.made ((Turns.refl _ _).alloc _), Blk.new w tx cs, fun hf => by have := h.h.gb _ hf; omega, fun hg => by have := h.r.fb _ hg; omega⟩
theorem RTAt.row0 (h : RTAt w b F [] u PL) : ∃ a c, ∀ w', Made w w' → w'.cell? ⟨b, 0, none⟩ = some (.slice a 0 c) ∧ Owns encT 68 3 w' (.slice a 0 c) ([] : List It) := by
  obtain ⟨lv, pv, hr, _⟩ := h.ref
  obtain ⟨a, c, hlv⟩ := owns_slice hr.h.own
  subst hlv
  exact ⟨a, c, fun w' hm => ⟨(hr.made hm).cells.1, (hr.made hm).h.own⟩⟩
theorem RTAt.row1 (h : RTAt w b F L u PL) (hne : L ≠ []) : ∃ g c, ∀ w', Made w w' → w'.cell? ⟨b, 0, none⟩ = some (.slice (some ⟨g, 0, none⟩) L.length c) ∧ Owns encT 68 3 w' (.slice (some ⟨g, 0, none⟩) L.length c) L := by
  obtain ⟨lv, pv, hr, _⟩ := h.ref
  rcases hr.h.own.form with ⟨_, h1⟩ | ⟨g, cp, rfl, _⟩
  · exact absurd h1 hne
  · exact ⟨g, cp, fun w' hm => ⟨(hr.made hm).cells.1, (hr.made hm).h.own⟩⟩
end

section
variable {q : Nat} {G : Nat → Prop} {L : List It} {s : Int} {pf : Int → Option Int} {b : Nat} {F : Nat → Prop} {PL : List It}
theorem acts_arm (id when per : Int) (hr : L.Pairwise lt) (hq : ∀ x ∈ L, x.seq ≤ s) (hu : Uniq L) (hn : L.length ≤ 100000) (hs : 0 ≤ s ∧ s < 100000) (hp : PerOK pf PL s) : ∃ (r : Int) (L' : List It) (s' : Int) (pf' : Int → Option Int) (PL' : List It), s' ≤ s + 1 ∧ PerOK pf' PL' s' ∧
    (∀ w, TimAt w q G L s pf → Calls Try.prog 29 #[.pointer (some ⟨q, 0, none⟩), .int .i64 id, .int .i64 when, .int .i64 per] w fun e w' => e = .returned (.int .i64 r) ∧ ∃ G', TimAt w' q G' L' s' pf' ∧ Stp w w' G G') ∧
    (∀ w, RTAt w b F L s PL → Calls Try.prog 30 #[.pointer (some ⟨b, 0, none⟩), .int .i64 id, .int .i64 when, .int .i64 per] w fun e w' => e = .returned (.int .i64 r) ∧ ∃ F', RTAt w' b F' L' s' PL' ∧ Stp w w' F F') := by
  by_cases hb : when < 0 ∨ 4611686018427387904 < when ∨ per < 0 ∨ 4611686018427387904 < per
  · refine ⟨1, L, s, pf, PL, by omega, hp, fun w h => (tarm_bad ⟨q, 0, none⟩ id when per w (by omega)).mono ?_, fun w h => (rarm_bad id when per w hb).mono ?_⟩
    · rintro e w' ⟨rfl, rfl⟩
      exact ⟨rfl, G, h, Stp.made (Turns.refl _ _)⟩
    · rintro e w' ⟨rfl, rfl⟩
      exact ⟨rfl, F, h, Stp.made (Turns.refl _ _)⟩
  · exact ⟨0, _, s + 1, _, _, by omega, hp.set id per, fun w h => tarm_c id when per w h (by omega) (by omega) (by omega) (by omega) (by omega), fun w h => rarm_c id when per h hn (by have := hp.len; omega) hu hp.uniq (by omega) hr hq (by omega) (by omega) (by omega) (by omega)⟩
theorem acts_stop (id : Int) (hu : Uniq L) (hn : L.length ≤ 100000) (hs : 0 ≤ s ∧ s < 100000) (hp : PerOK pf PL s) : ∃ (r : Bool) (L' : List It) (s' : Int) (pf' : Int → Option Int) (PL' : List It), s' ≤ s + 1 ∧ PerOK pf' PL' s' ∧
    (∀ w, TimAt w q G L s pf → Calls Try.prog 31 #[.pointer (some ⟨q, 0, none⟩), .int .i64 id] w fun e w' => e = .returned (.bool r) ∧ ∃ G', TimAt w' q G' L' s' pf' ∧ Stp w w' G G') ∧
    (∀ w, RTAt w b F L s PL → Calls Try.prog 32 #[.pointer (some ⟨b, 0, none⟩), .int .i64 id] w fun e w' => e = .returned (.bool r) ∧ ∃ F', RTAt w' b F' L' s' PL' ∧ Stp w w' F F') :=
  ⟨_, delL id L, s, pdel pf id, delL id PL, by omega, hp.del id, fun w h => (tstop_c id w h (by omega)).mono fun e w' ⟨h1, h2, h3⟩ => ⟨h1, G, h2, h3⟩, fun w h => rstop_c id h (by omega) (by have := hp.len; omega) hu hp.uniq⟩
theorem acts_take (now : Int) (hr : L.Pairwise lt) (hq : ∀ x ∈ L, x.seq ≤ s) (hu : Uniq L) (hn : L.length ≤ 100000) (hs : 0 ≤ s ∧ s < 100000) (hp : PerOK pf PL s) (hin : ∀ id, pf id = none ↔ findL id L = none) : ∃ (i a t : Int) (ok : Bool) (L' : List It) (s' : Int) (pf' : Int → Option Int) (PL' : List It), s' ≤ s + 1 ∧ PerOK pf' PL' s' ∧
    (∀ w, TimAt w q G L s pf → Calls Try.prog 33 #[.pointer (some ⟨q, 0, none⟩), .int .i64 now] w fun e w' => e = .returned (.tuple #[.agg #[.int .i64 i, .int .i64 a, .int .i64 t], .bool ok]) ∧ ∃ G', TimAt w' q G' L' s' pf' ∧ Stp w w' G G') ∧
    (∀ w, RTAt w b F L s PL → Calls Try.prog 34 #[.pointer (some ⟨b, 0, none⟩), .int .i64 now] w fun e w' => e = .returned (.tuple #[.agg #[.int .i64 i, .int .i64 a, .int .i64 t], .bool ok]) ∧ ∃ F', RTAt w' b F' L' s' PL' ∧ Stp w w' F F') := by
  by_cases hdue : ∃ x, L[0]? = some x ∧ 0 ≤ now ∧ x.when ≤ now
  · obtain ⟨x, hx, h0, hw⟩ := hdue
    obtain ⟨l, rfl⟩ : ∃ l, L = x :: l := by
      cases L with
      | nil => cases hx
      | cons c l => cases hx; exact ⟨l, rfl⟩
    have hfx : findL x.id (x :: l) = some x := (findL_some hu _ _).2 ⟨List.mem_cons_self .., rfl⟩
    obtain ⟨y, hy⟩ : ∃ y, findL x.id PL = some y := by
      cases hy : findL x.id PL with
      | some y => exact ⟨y, rfl⟩
      | none =>
        have h1 := hp.per x.id
        rw [hy] at h1
        have := (hin x.id).1 h1
        rw [hfx] at this
        cases this
    have hpf : pf x.id = some y.when := by rw [hp.per, hy]; rfl
    by_cases ha : again x y.when now
    · refine ⟨x.id, x.when, now, true, insL ⟨x.id, (nextZ x.when y.when now).1, s + 1⟩ l, s + 1, pset pf x.id y.when, delL x.id PL ++ [⟨x.id, y.when, 0⟩], by omega, hp.set x.id y.when, fun w h => (ttake_c now y.when w h (by omega) h0 hw hpf).mono ?_, fun w h => (rtake_c now h hn (by have := hp.len; omega) hu hp.uniq (by omega) hr hq h0 hw hy).mono ?_⟩
      · rintro e w' ⟨rfl, G', h1, h2, h3⟩
        exact ⟨rfl, G', h1 ha, h3⟩
      · rintro e w' ⟨rfl, F', h1, h2, h3⟩
        exact ⟨rfl, F', h1 ha, h3⟩
    · refine ⟨x.id, x.when, now, true, l, s, pdel pf x.id, delL x.id PL, by omega, hp.del x.id, fun w h => (ttake_c now y.when w h (by omega) h0 hw hpf).mono ?_, fun w h => (rtake_c now h hn (by have := hp.len; omega) hu hp.uniq (by omega) hr hq h0 hw hy).mono ?_⟩
      · rintro e w' ⟨rfl, G', h1, h2, h3⟩
        exact ⟨rfl, G', h2 ha, h3⟩
      · rintro e w' ⟨rfl, F', h1, h2, h3⟩
        exact ⟨rfl, F', h2 ha, h3⟩
  · have hno : ∀ x, L[0]? = some x → now < 0 ∨ now < x.when := fun x hx => by
      by_cases h1 : now < 0
      · exact .inl h1
      · by_cases h2 : now < x.when
        · exact .inr h2
        · exact absurd ⟨x, hx, by omega, by omega⟩ hdue
    refine ⟨0, 0, 0, false, L, s, pf, PL, by omega, hp, fun w h => (ttake_none now w h hno).mono ?_, fun w h => (rtake_none now h (by omega) hno).mono ?_⟩
    · rintro e w' ⟨rfl, hm⟩
      exact ⟨rfl, G, h.made hm, Stp.made hm⟩
    · rintro e w' ⟨rfl, hm⟩
      exact ⟨rfl, F, h.made hm, Stp.made hm⟩
end
end Go.Proofs.Ytgjgopcomgclkaa
