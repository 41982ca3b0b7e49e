/-
  tarpaulinlaw11.HeapActs: its walk.
-/
import Derived.Test.YtgjgopcomgclkaaHa
import Derived.Test.YtgjgopcomgclkaaAll
import Derived.Test.YtgjgopcomgclkaaHpX
import Derived.Test.YtgjgopcomgclkaaHl1
import Derived.Deep.DeepCutAuto
import Derived.Deep.CutBlock
namespace Go.Proofs.Ytgjgopcomgclkaa
open Go.RowKit
set_option linter.unusedVariables false
set_option linter.unusedSimpArgs false

structure HAct where
  k : Int
  i : Int
  w : Int
def encH (a : HAct) : List Value := [.int .i64 a.k, .int .i64 a.i, .int .i64 a.w]

/-- A heap and the document's, apart. -/
structure Duo (w0 w : World) (p : Nat) (F : Nat → Prop) (L : List It) (s : Int) (b : Nat) (t : TypeId) (rest : List Value) (G : Nat → Prop) (M : List It) (u : Int) : Prop where
  h : HeapAt w p F L s
  r : RefAt w b t rest G M u
  dis : ∀ k, F k → ¬ G k
  m : Made w0 w
  f : ∀ k, F k → w0.heap.size ≤ k
  g : ∀ k, G k → w0.heap.size ≤ k
section
variable {w0 w w' : World} {p : Nat} {F F' : Nat → Prop} {L L' : List It} {s s' : Int} {b : Nat} {t : TypeId} {rest : List Value} {G G' : Nat → Prop} {M M' : List It} {u u' : Int}
theorem Duo.step1 (h : Duo w0 w p F L s b t rest G M u) (hh : HeapAt w' p F' L' s') (x : Stp w w' F F') : Duo w0 w' p F' L' s' b t rest G M u :=
  ⟨hh, h.r.turns x.t (fun k hk hf => h.dis k hf hk), fun k hk hf => (x.f k hk).elim (fun h2 => h.dis k h2 hf) (fun h2 => by have := h.r.fb k hf; omega), h.m.then x.t (fun b hb hf => by have := h.f b hf; omega), fun k hk => (x.f k hk).elim (h.f k) (fun h2 => Nat.le_trans h.m.size h2), h.g⟩
theorem Duo.step2 (h : Duo w0 w p F L s b t rest G M u) (hh : RefAt w' b t rest G' M' u') (x : Stp w w' G G') : Duo w0 w' p F L s b t rest G' M' u' :=
  ⟨h.h.turns x.t (fun k hk hf => h.dis k hk hf), hh, fun k hk hf => (x.f k hf).elim (fun h2 => h.dis k hk h2) (fun h2 => by have := h.h.fb k hk; omega), h.m.then x.t (fun b hb hf => by have := h.g b hf; omega), h.f, fun k hk => (x.f k hk).elim (h.g k) (fun h2 => Nat.le_trans h.m.size h2)⟩
theorem Duo.made (h : Duo w0 w p F L s b t rest G M u) (x : Made w w') : Duo w0 w' p F L s b t rest G M u :=
  ⟨h.h.made x, h.r.made x, h.dis, h.m.trans x, h.f, h.g⟩
end

/-- Where the document's row lies. -/
theorem RefAt.row {w : World} {b : Nat} {t : TypeId} {rest : List Value} {F : Nat → Prop} {L : List It} {sq : Int} (h : RefAt w b t rest F L sq) :
    (L = [] ∧ ∃ a c, ∀ w', Made w w' → w'.cell? ⟨b, 0, none⟩ = some (.slice a 0 c) ∧ Owns encT 68 3 w' (.slice a 0 c) L) ∨
    (∃ g cap, ∀ w', Made w w' → w'.cell? ⟨b, 0, none⟩ = some (.slice (some ⟨g, 0, none⟩) L.length cap) ∧ Owns encT 68 3 w' (.slice (some ⟨g, 0, none⟩) L.length cap) L) := by
  obtain ⟨lv, hr, hf⟩ := h.ref
  have hc : ∀ w', Made w w' → w'.cell? ⟨b, 0, none⟩ = some lv := fun w' hm => by
    have c0 := (hr.blk.turns hm (fun h => h)).cell 0
    simpa using c0
  rcases hr.own.form with ⟨rfl, rfl⟩ | ⟨g, cap, rfl, _, _, _⟩
  · exact .inl ⟨rfl, none, 0, fun w' hm => ⟨hc w' hm, hr.own.turns hm (fun _ _ h => h)⟩⟩
  · exact .inr ⟨g, cap, fun w' hm => ⟨hc w' hm, hr.own.turns hm (fun _ _ h => h)⟩⟩
/-- .. and a block beside them. -/
structure HBox (w0 w : World) (p : Nat) (F : Nat → Prop) (L : List It) (s : Int) (b : Nat) (t : TypeId) (rest : List Value) (G : Nat → Prop) (M : List It) (u : Int) (bx : Nat) (tx : TypeId) (cs : Array Value) : Prop where
  d : Duo w0 w p F L s b t rest G M u
  x : Blk w bx tx cs
  nf : ¬ F bx
  ng : ¬ G bx
section
variable {w0 w w' : World} {p : Nat} {F F' : Nat → Prop} {L L' : List It} {s s' : Int} {b : Nat} {t : TypeId} {rest : List Value} {G G' : Nat → Prop} {M M' : List It} {u u' : Int} {bx : Nat} {tx : TypeId} {cs : Array Value}
theorem HBox.step1 (h : HBox w0 w p F L s b t rest G M u bx tx cs) (hh : HeapAt w' p F' L' s') (y : Stp w w' F F') : HBox w0 w' p F' L' s' b t rest G M u bx tx cs :=
  ⟨h.d.step1 hh y, h.x.turns y.t h.nf, fun hf => (y.f _ hf).elim h.nf (fun h2 => by have := h.x.lt; omega), h.ng⟩
theorem HBox.step2 (h : HBox w0 w p F L s b t rest G M u bx tx cs) (hh : RefAt w' b t rest G' M' u') (y : Stp w w' G G') : HBox w0 w' p F L s b t rest G' M' u' bx tx cs :=
  ⟨h.d.step2 hh y, h.x.turns y.t h.ng, h.nf, fun hf => (y.f _ hf).elim h.ng (fun h2 => by have := h.x.lt; omega)⟩
theorem HBox.made (h : HBox w0 w p F L s b t rest G M u bx tx cs) (y : Made w w') : HBox w0 w' p F L s b t rest G M u bx tx cs := ⟨h.d.made y, h.x.turns y (fun h => h), h.nf, h.ng⟩
theorem HBox.new (h : Duo w0 w p F L s b t rest G M u) (tx : TypeId) (cs : Array Value) : HBox w0 (w.alloc (.cells cs tx)) p F L s b t rest G M u w.heap.size tx cs :=
  ⟨h.made ((Turns.refl _ _).alloc _), Blk.new w tx cs, fun hf => by have := h.h.fb _ hf; omega, fun hg => by have := h.r.fb _ hg; omega⟩
end

theorem aggT_optT (o : Option It) : aggT (optT o) = .agg #[.int .i64 (optT o).id, .int .i64 (optT o).when, .int .i64 (optT o).seq] := rfl
section
variable {p : Nat} {F : Nat → Prop} {L : List It} {s : Int} {b : Nat} {t : TypeId} {rest : List Value} {G : Nat → Prop}
/-- Add, of both. -/
theorem acts_add (id when : Int) (hr : L.Pairwise lt) (hq : ∀ x ∈ L, x.seq ≤ s) (hu : Uniq L) (hn : L.length ≤ 1000000) (hs : 0 ≤ s ∧ s < 1000000) : ∃ (r : Int) (L' : List It) (s' : Int), s' ≤ s + 1 ∧
    (∀ w, HeapAt w p F L s → Calls Try.prog 17 #[.pointer (some ⟨p, 0, none⟩), .int .i64 id, .int .i64 when] w fun e w' => e = .returned (.int .i64 r) ∧ ∃ F', HeapAt w' p F' L' s' ∧ Stp w w' F F') ∧
    (∀ w, RefAt w b t rest G L s → Calls Try.prog 39 #[.pointer (some ⟨b, 0, none⟩), .int .i64 id, .int .i64 when] w fun e w' => e = .returned (.int .i64 r) ∧ ∃ G', RefAt w' b t rest G' L' s' ∧ Stp w w' G G') := by
  cases hf : findL id L with
  | some x =>
    refine ⟨1, L, s, by omega, fun w h => (hadd_there id when w h hf).mono ?_, fun w h => (radd_yes id when h hn hf hu).mono ?_⟩
    · rintro e w' ⟨rfl, rfl⟩
      exact ⟨rfl, F, h, Stp.made (Turns.refl _ _)⟩
    · rintro e w' ⟨rfl, rfl⟩
      exact ⟨rfl, G, h, Stp.made (Turns.refl _ _)⟩
  | none => exact ⟨0, insL ⟨id, when, s + 1⟩ L, s + 1, by omega, fun w h => hadd_c id when w h hf hs.2, fun w h => radd_no id when h hn hs hr hq hf⟩
/-- Move, of both. -/
theorem acts_move (id when : Int) (hr : L.Pairwise lt) (hq : ∀ x ∈ L, x.seq ≤ s) (hu : Uniq L) (hn : L.length ≤ 1000000) (hs : 0 ≤ s ∧ s < 1000000) : ∃ (r : Int) (L' : List It) (s' : Int), s' ≤ s + 1 ∧
    (∀ w, HeapAt w p F L s → Calls Try.prog 22 #[.pointer (some ⟨p, 0, none⟩), .int .i64 id, .int .i64 when] w fun e w' => e = .returned (.int .i64 r) ∧ ∃ F', HeapAt w' p F' L' s' ∧ Stp w w' F F') ∧
    (∀ w, RefAt w b t rest G L s → Calls Try.prog 43 #[.pointer (some ⟨b, 0, none⟩), .int .i64 id, .int .i64 when] w fun e w' => e = .returned (.int .i64 r) ∧ ∃ G', RefAt w' b t rest G' L' s' ∧ Stp w w' G G') := by
  cases hf : findL id L with
  | some x => exact ⟨0, insL ⟨id, when, s + 1⟩ (delL id L), s + 1, by omega, fun w h => hmove_c id when w h hs.2 hf, fun w h => rmove_yes id when h hn hs hr hq hf hu⟩
  | none =>
    refine ⟨4, L, s, by omega, fun w h => (hmove_none id when w h hf).mono ?_, fun w h => (rmove_no id when h hn hf).mono ?_⟩
    · rintro e w' ⟨rfl, hm⟩
      exact ⟨rfl, F, h.made hm, Stp.made hm⟩
    · rintro e w' ⟨rfl, hm⟩
      exact ⟨rfl, G, h.made hm, Stp.made hm⟩
theorem delL_none {id : Int} {L : List It} (hf : findL id L = none) : delL id L = L := by
  have h := (findL_none id).1 hf
  unfold delL
  exact List.filter_eq_self.2 (fun x hx => by simpa using h x hx)
/-- Remove, of both. -/
theorem acts_rem (id : Int) (hu : Uniq L) (hn : L.length ≤ 1000000) (hs : 0 ≤ s ∧ s < 1000000) : ∃ (x : It) (ok : Bool) (L' : List It),
    (∀ w, HeapAt w p F L s → Calls Try.prog 40 #[.pointer (some ⟨p, 0, none⟩), .int .i64 id] w fun e w' => e = .returned (.tuple #[.agg #[.int .i64 x.id, .int .i64 x.when, .int .i64 x.seq], .bool ok]) ∧ ∃ F', HeapAt w' p F' L' s ∧ Stp w w' F F') ∧
    (∀ w, RefAt w b t rest G L s → Calls Try.prog 41 #[.pointer (some ⟨b, 0, none⟩), .int .i64 id] w fun e w' => e = .returned (.tuple #[.agg #[.int .i64 x.id, .int .i64 x.when, .int .i64 x.seq], .bool ok]) ∧ ∃ G', RefAt w' b t rest G' L' s ∧ Stp w w' G G') := by
  cases hf : findL id L with
  | some x => exact ⟨x, true, delL id L, fun w h => (hrem_c id w h (by omega) hf).mono fun e w' ⟨h1, h2, h3⟩ => ⟨h1, F, h2, h3⟩, fun w h => rrem_c id h hn hf hu⟩
  | none =>
    refine ⟨zeroT, false, L, fun w h => (hrem_none id w h hf).mono ?_, fun w h => (rrem_n id h hn hf).mono ?_⟩
    · rintro e w' ⟨rfl, hm⟩
      exact ⟨rfl, F, h.made hm, Stp.made hm⟩
    · rintro e w' ⟨rfl, hm⟩
      exact ⟨rfl, G, h.made hm, Stp.made hm⟩
end

set_option maxHeartbeats 8000000 in
set_option maxRecDepth 100000 in
theorem hacts_w (a : Option Addr) (len cap : Nat) (ws : List HAct) (w : World) (hw : RowIn encH 3 w a len ws) (hc : len ≤ cap) :
    Calls Try.prog 12 #[.slice a len cap] w fun e w' => e = .returned (.bool true) ∧ Made w w' := by
  have HW := Lib.hid hw
  clear hw
  by_cases h1 : 100 < len
  · have h1' : (100 : Int) < (len : Int) := by omega
    go_enter Try.func12, Try.ntmps12
    go_wp2_with fail
    refine (awake_c w).mono ?_
    rintro e w' ⟨rfl, hm⟩
    have HM := Lib.hid hm
    clear hm
    go_wp2_with fail
    go_ret
    exact ⟨rfl, HM.out⟩
  have h1' : ¬ (100 : Int) < (len : Int) := by omega
  go_enter Try.func12, Try.ntmps12
  go_wp2_with fail
  refine (hnew_c w).mono ?_
  rintro e w1 ⟨p, F1, rfl, hh1, hm1, hf1⟩
  have HH1 := Lib.hid hh1
  have HM1 := Lib.hid hm1
  have HF1 := Lib.hid hf1
  clear hh1 hm1 hf1
  have hd0 : Duo w (w1.alloc (.cells #[.slice none 0 0, .int .i64 0] 49)) p F1 [] 0 w1.heap.size 49 [] (fun k => k = w1.heap.size) [] 0 :=
    ⟨HH1.out.made ((Turns.refl _ _).alloc _), ⟨.slice none 0 0, ⟨Blk.new w1 _ _, ⟨rfl, .inl ⟨rfl, rfl⟩⟩, by simp [Value.ownBlock]⟩, fun k => by simp [Value.ownBlock]⟩, fun k hk e => by have := HH1.out.fb k hk; omega, HM1.out.alloc _, HF1.out, fun k hk => by have := HM1.out.size; omega⟩
  have HD0 := Lib.hid hd0
  clear hd0
  go_wp2_with fail
  generalize w1.alloc (.cells #[.slice none 0 0, .int .i64 0] 49) = W0 at *
  generalize w1.heap.size = b at *
  go_loopw [5] (fun v5 wr => ∃ (i : Nat) (F : Nat → Prop) (L : List It) (s : Int) (G : Nat → Prop), i ≤ len ∧ v5 = .int .i64 i ∧ Duo w wr p F L s b 49 [] G L s ∧ s ≤ i) (fun v5 _ => len - (intOf v5).toNat)
  case atStart => exact ⟨0, F1, [], 0, _, Nat.zero_le _, rfl, HD0.out, by omega⟩
  case round =>
    clear HD0 HH1 HM1 HF1
    obtain ⟨i, F, L, s, G, hi, rfl, hd, hs⟩ := hrel
    have HD := Lib.hid hd
    clear hd
    by_cases hil : i < len
    · obtain ⟨hlen, h0 | ⟨bb, off, rfl, hb, hlies⟩⟩ := HW.out
      · omega
      obtain ⟨z, hz⟩ := get_of_lt (xs := ws) (k := i) (by omega)
      have e0 := (hlies.keep fun o => HD.out.m.cell (p := ⟨bb, o, none⟩) hb (fun h => h)) i z hz 0 _ rfl
      have e1 := (hlies.keep fun o => HD.out.m.cell (p := ⟨bb, o, none⟩) hb (fun h => h)) i z hz 1 _ rfl
      have e2 := (hlies.keep fun o => HD.out.m.cell (p := ⟨bb, o, none⟩) hb (fun h => h)) i z hz 2 _ rfl
      simp only [Nat.add_zero] at e0
      have i1 : (0 : Int) ≤ (i : Int) := Int.natCast_nonneg _
      have i2 : (i : Int) < (len : Int) := by omega
      clear hlies hlen hb
      have HRI := Lib.hid HD.out.h.rise
      have HSQ := Lib.hid (show ∀ x ∈ L, x.seq ≤ s from fun x hx => (HD.out.h.seqs x hx).2)
      have HU := Lib.hid HD.out.h.uniq
      have hs0 : 0 ≤ s ∧ s < 1000000 := by have := HD.out.h.len; omega
      have hln : L.length ≤ 1000000 := by have := HD.out.h.len; omega
      go_upto_block 2 with fail
      have HB := Lib.hid (HBox.new HD.out 78 #[.int .i64 z.k, .int .i64 z.i, .int .i64 z.w])
      clear e0 e1 e2 HD
      generalize wr.alloc (.cells #[.int .i64 z.k, .int .i64 z.i, .int .i64 z.w] 78) = Wx at *
      generalize wr.heap.size = bx at *
      go_cut [] (fun wx => ∃ (F : Nat → Prop) (L : List It) (s' : Int) (G : Nat → Prop), HBox w wx p F L s' b 49 [] G L s' bx 78 #[.int .i64 z.k, .int .i64 z.i, .int .i64 z.w] ∧ s' ≤ s + 1)
      case first =>
        by_cases hk1 : z.k = 1
        · have hb1 : (z.k == 1) = true := by simp [hk1]
          obtain ⟨r, L2, s2, hs2, h1, h2⟩ := acts_add (p := p) (F := F) (b := b) (t := 49) (rest := []) (G := G) z.i z.w HRI.out HSQ.out HU.out hln hs0
          have H1 := Lib.hid h1
          have H2 := Lib.hid h2
          have hrr : (r != r) = false := by simp
          clear h1 h2 hk1
          go_wp2_with fail
          as_aux_lemma =>
            refine wp_region_held_drew (S := fun w' => Blk w' bx 78 #[.int .i64 z.k, .int .i64 z.i, .int .i64 z.w]) (by kernel_rfl) ?_ (fun hHeld => ?_)
            · exact HB.out.x.turns (Turns.drew (Turns.refl (fun _ => False) Wx)) (fun h => h)
            have HB0 := Lib.hid (HB.out.made (Turns.drew (Turns.refl (fun _ => False) Wx)))
            generalize Wx.drew = w0 at *
            refine takeH (i := 0) (d := some 44) (v := ?_) rfl rfl (by kernel_rfl) (by kernel_rfl) (by kernel_rfl) (fun _ _ _ h => h) (Or.inl ⟨by rfl, ?_⟩) (by assumption) ?_
            rotate_left
            · intro w hSw
              try dsimp only at hSw
              go_simp
              try with_reducible rfl
            try simp only [Act.put, List.setIfInBounds_toArray, List.set_cons_zero, List.set_cons_succ]
            refine takeH (i := 1) (d := some 45) (v := ?_) rfl rfl (by kernel_rfl) (by kernel_rfl) (by kernel_rfl) (fun _ _ _ h => h) (Or.inl ⟨by rfl, ?_⟩) (by assumption) ?_
            rotate_left
            · intro w hSw
              try dsimp only at hSw
              go_simp
              try with_reducible rfl
            try simp only [Act.put, List.setIfInBounds_toArray, List.set_cons_zero, List.set_cons_succ]
            refine takeH (i := 2) (d := some 46) (v := ?_) rfl rfl (by kernel_rfl) (by kernel_rfl) (by kernel_rfl) (fun _ _ _ h => h) (Or.inl ⟨by rfl, ?_⟩) (by assumption) ?_
            rotate_left
            · intro w hSw
              try dsimp only at hSw
              have q1 := hSw.cell 1
              simp only [List.getElem?_toArray, List.getElem?_cons_zero, List.getElem?_cons_succ] at q1
              go_simp
              try with_reducible rfl
            try simp only [Act.put, List.setIfInBounds_toArray, List.set_cons_zero, List.set_cons_succ]
            refine takeH (i := 3) (d := some 47) (v := ?_) rfl rfl (by kernel_rfl) (by kernel_rfl) (by kernel_rfl) (fun _ _ _ h => h) (Or.inl ⟨by rfl, ?_⟩) (by assumption) ?_
            rotate_left
            · intro w hSw
              try dsimp only at hSw
              go_simp
              try with_reducible rfl
            try simp only [Act.put, List.setIfInBounds_toArray, List.set_cons_zero, List.set_cons_succ]
            refine takeH (i := 4) (d := some 48) (v := ?_) rfl rfl (by kernel_rfl) (by kernel_rfl) (by kernel_rfl) (fun _ _ _ h => h) (Or.inl ⟨by rfl, ?_⟩) (by assumption) ?_
            rotate_left
            · intro w hSw
              try dsimp only at hSw
              have q1 := hSw.cell 2
              simp only [List.getElem?_toArray, List.getElem?_cons_zero, List.getElem?_cons_succ] at q1
              go_simp
              try with_reducible rfl
            try simp only [Act.put, List.setIfInBounds_toArray, List.set_cons_zero, List.set_cons_succ]
            refine takeH (i := 6) (d := some 50) (v := ?_) rfl rfl (by kernel_rfl) (by kernel_rfl) (by kernel_rfl) (fun _ _ _ h => h) (Or.inl ⟨by rfl, ?_⟩) (by assumption) ?_
            rotate_left
            · intro w hSw
              try dsimp only at hSw
              go_simp
              try with_reducible rfl
            try simp only [Act.put, List.setIfInBounds_toArray, List.set_cons_zero, List.set_cons_succ]
            refine takeH (i := 7) (d := some 51) (v := ?_) rfl rfl (by kernel_rfl) (by kernel_rfl) (by kernel_rfl) (fun _ _ _ h => h) (Or.inl ⟨by rfl, ?_⟩) (by assumption) ?_
            rotate_left
            · intro w hSw
              try dsimp only at hSw
              go_simp
              try with_reducible rfl
            try simp only [Act.put, List.setIfInBounds_toArray, List.set_cons_zero, List.set_cons_succ]
            refine takeH (i := 8) (d := some 52) (v := ?_) rfl rfl (by kernel_rfl) (by kernel_rfl) (by kernel_rfl) (fun _ _ _ h => h) (Or.inl ⟨by rfl, ?_⟩) (by assumption) ?_
            rotate_left
            · intro w hSw
              try dsimp only at hSw
              have q1 := hSw.cell 1
              simp only [List.getElem?_toArray, List.getElem?_cons_zero, List.getElem?_cons_succ] at q1
              go_simp
              try with_reducible rfl
            try simp only [Act.put, List.setIfInBounds_toArray, List.set_cons_zero, List.set_cons_succ]
            refine takeH (i := 9) (d := some 53) (v := ?_) rfl rfl (by kernel_rfl) (by kernel_rfl) (by kernel_rfl) (fun _ _ _ h => h) (Or.inl ⟨by rfl, ?_⟩) (by assumption) ?_
            rotate_left
            · intro w hSw
              try dsimp only at hSw
              go_simp
              try with_reducible rfl
            try simp only [Act.put, List.setIfInBounds_toArray, List.set_cons_zero, List.set_cons_succ]
            refine takeH (i := 10) (d := some 54) (v := ?_) rfl rfl (by kernel_rfl) (by kernel_rfl) (by kernel_rfl) (fun _ _ _ h => h) (Or.inl ⟨by rfl, ?_⟩) (by assumption) ?_
            rotate_left
            · intro w hSw
              try dsimp only at hSw
              have q1 := hSw.cell 2
              simp only [List.getElem?_toArray, List.getElem?_cons_zero, List.getElem?_cons_succ] at q1
              go_simp
              try with_reducible rfl
            try simp only [Act.put, List.setIfInBounds_toArray, List.set_cons_zero, List.set_cons_succ]
            refine wpAnyH_ready (rs := [5]) (by kernel_rfl) (by simp) ?_
            refine AllReadyH.cons rfl (fun K hK => ?_) AllReadyH.nil
            go_simp
            refine (H1.out _ HB0.out.d.h).mono ?_
            rintro e w' ⟨rfl, F2, hh, hst⟩
            have HB1 := Lib.hid (HB0.out.step1 hh hst)
            clear hh hst
            go_wp2_with fail
            refine hK.out _ _ ?_ (fun hHeld => ?_)
            · exact HB1.out.x
            clear hK K
            try simp only [Act.put, List.setIfInBounds_toArray, List.set_cons_zero, List.set_cons_succ]
            refine wpAnyH_ready (rs := [11]) (by kernel_rfl) (by simp) ?_
            refine AllReadyH.cons rfl (fun K hK => ?_) AllReadyH.nil
            go_simp
            refine (H2.out _ HB1.out.d.r).mono ?_
            rintro e w2 ⟨rfl, G2, hh, hst⟩
            have HB2 := Lib.hid (HB1.out.step2 hh hst)
            clear hh hst
            go_wp2_with fail
            refine hK.out _ _ ?_ (fun hHeld => ?_)
            · exact HB2.out.x
            clear hK K
            try simp only [Act.put, List.setIfInBounds_toArray, List.set_cons_zero, List.set_cons_succ]
            refine takeH (i := 12) (d := some 56) (v := ?_) rfl rfl (by kernel_rfl) (by kernel_rfl) (by kernel_rfl) (fun _ _ _ h => h) (Or.inl ⟨by rfl, ?_⟩) (by assumption) ?_
            rotate_left
            · intro w hSw
              try dsimp only at hSw
              go_simp
              try with_reducible rfl
            try simp only [Act.put, List.setIfInBounds_toArray, List.set_cons_zero, List.set_cons_succ]
            refine wpAnyH_done (by kernel_rfl) ?_ _
            clear hHeld
            try clear hHeld
            try clear hHeld
            go_wp2_with fail
            go_meet
            exact ⟨F2, L2, s2, G2, HB2.out, hs2⟩
        have hb1 : (z.k == 1) = false := by simp [hk1]
        by_cases hk2 : z.k = 2
        · have hb2 : (z.k == 2) = true := by simp [hk2]
          obtain ⟨x, ok, L2, h1, h2⟩ := acts_rem (p := p) (F := F) (b := b) (t := 49) (rest := []) (G := G) z.i HU.out hln hs0
          have H1 := Lib.hid h1
          have H2 := Lib.hid h2
          have q1 := HB.out.x.cell 1
          simp only [List.getElem?_toArray, List.getElem?_cons_zero, List.getElem?_cons_succ] at q1
          clear h1 h2 hk1 hk2
          as_aux_lemma =>
            go_wp2_with fail
            refine (H1.out _ HB.out.d.h).mono ?_
            rintro e w' ⟨rfl, F2, hh, hst⟩
            have HB1 := Lib.hid (HB.out.step1 hh hst)
            have q2 := fun (o : Obj) => (HB1.out.x.alloc o).cell 1
            simp only [List.getElem?_toArray, List.getElem?_cons_zero, List.getElem?_cons_succ] at q2
            clear hh hst
            go_wp2_with fail
            have HX1 := Lib.hid (HBox.new HB1.out.d 30 #[.int .i64 x.id, .int .i64 x.when, .int .i64 x.seq])
            have HB1' := Lib.hid (HB1.out.made (alloc_made w' (.cells #[.int .i64 x.id, .int .i64 x.when, .int .i64 x.seq] 30)))
            clear q1 q2 HB1
            generalize w'.alloc (.cells #[.int .i64 x.id, .int .i64 x.when, .int .i64 x.seq] 30) = w1' at *
            generalize w'.heap.size = bX at *
            refine (H2.out _ HB1'.out.d.r).mono ?_
            rintro e w2' ⟨rfl, G2, hh, hst⟩
            have HX2 := Lib.hid (HX1.out.step2 hh hst).x
            have HB2' := Lib.hid (HB1'.out.step2 hh hst)
            clear hh hst HX1 HB1' H1 H2
            go_wp2_with fail
            have HY := Lib.hid (Blk.new w2' 68 #[.int .i64 x.id, .int .i64 x.when, .int .i64 x.seq])
            have HX := Lib.hid (HX2.out.alloc (.cells #[.int .i64 x.id, .int .i64 x.when, .int .i64 x.seq] 68))
            have HB2 := Lib.hid (HB2'.out.made (alloc_made w2' (.cells #[.int .i64 x.id, .int .i64 x.when, .int .i64 x.seq] 68)))
            have hoo : (ok != ok) = false := by simp
            clear HX2 HB2'
            generalize w2'.alloc (.cells #[.int .i64 x.id, .int .i64 x.when, .int .i64 x.seq] 68) = w0 at *
            generalize w2'.heap.size = bY at *
            refine wp_region_held_drew (S := fun w' => Blk w' bX 30 #[.int .i64 x.id, .int .i64 x.when, .int .i64 x.seq] ∧ Blk w' bY 68 #[.int .i64 x.id, .int .i64 x.when, .int .i64 x.seq] ∧ Made w0 w') (by kernel_rfl) ?_ (fun hHeld => ?_)
            · exact ⟨HX.out.turns (Turns.drew (Turns.refl (fun _ => False) w0)) (fun h => h), HY.out.turns (Turns.drew (Turns.refl (fun _ => False) w0)) (fun h => h), Turns.drew (Turns.refl _ w0)⟩
            refine takeH (i := 0) (d := some 73) (v := ?_) rfl rfl (by kernel_rfl) (by kernel_rfl) (by kernel_rfl) (fun _ _ _ h => h) (Or.inl ⟨by rfl, ?_⟩) (by assumption) ?_
            rotate_left
            · intro w hSw
              try dsimp only at hSw
              go_simp
              try with_reducible rfl
            try simp only [Act.put, List.setIfInBounds_toArray, List.set_cons_zero, List.set_cons_succ]
            refine takeH (i := 1) (d := some 74) (v := ?_) rfl rfl (by kernel_rfl) (by kernel_rfl) (by kernel_rfl) (fun _ _ _ h => h) (Or.inl ⟨by rfl, ?_⟩) (by assumption) ?_
            rotate_left
            · intro w hSw
              try dsimp only at hSw
              go_simp
              try with_reducible rfl
            try simp only [Act.put, List.setIfInBounds_toArray, List.set_cons_zero, List.set_cons_succ]
            refine takeH (i := 2) (d := some 75) (v := ?_) rfl rfl (by kernel_rfl) (by kernel_rfl) (by kernel_rfl) (fun _ _ _ h => h) (Or.inl ⟨by rfl, ?_⟩) (by assumption) ?_
            rotate_left
            · intro w hSw
              try dsimp only at hSw
              go_simp
              try with_reducible rfl
            try simp only [Act.put, List.setIfInBounds_toArray, List.set_cons_zero, List.set_cons_succ]
            refine takeH (i := 3) (d := some 76) (v := ?_) rfl rfl (by kernel_rfl) (by kernel_rfl) (by kernel_rfl) (fun _ _ _ h => h) (Or.inl ⟨by rfl, ?_⟩) (by assumption) ?_
            rotate_left
            · intro w hSw
              try dsimp only at hSw
              go_simp
              try with_reducible rfl
            try simp only [Act.put, List.setIfInBounds_toArray, List.set_cons_zero, List.set_cons_succ]
            refine takeH (i := 4) (d := some 77) (v := ?_) rfl rfl (by kernel_rfl) (by kernel_rfl) (by kernel_rfl) (fun _ _ _ h => h) (Or.inl ⟨by rfl, ?_⟩) (by assumption) ?_
            rotate_left
            · intro w hSw
              try dsimp only at hSw
              have q0 := hSw.1.cell 0
              have q1 := hSw.1.cell 1
              have q2 := hSw.1.cell 2
              simp only [List.getElem?_toArray, List.getElem?_cons_zero, List.getElem?_cons_succ] at q0 q1 q2
              go_simp
              try with_reducible rfl
            try simp only [Act.put, List.setIfInBounds_toArray, List.set_cons_zero, List.set_cons_succ]
            refine takeH (i := 6) (d := some 79) (v := ?_) rfl rfl (by kernel_rfl) (by kernel_rfl) (by kernel_rfl) (fun _ _ _ h => h) (Or.inl ⟨by rfl, ?_⟩) (by assumption) ?_
            rotate_left
            · intro w hSw
              try dsimp only at hSw
              have q0 := hSw.2.1.cell 0
              have q1 := hSw.2.1.cell 1
              have q2 := hSw.2.1.cell 2
              simp only [List.getElem?_toArray, List.getElem?_cons_zero, List.getElem?_cons_succ] at q0 q1 q2
              go_simp
              try with_reducible rfl
            try simp only [Act.put, List.setIfInBounds_toArray, List.set_cons_zero, List.set_cons_succ]
            refine wpAnyH_ready (rs := [5]) (by kernel_rfl) (by simp) ?_
            refine AllReadyH.cons rfl (fun K hK => ?_) AllReadyH.nil
            go_simp
            refine (item_c _ _ _ _).mono ?_
            rintro e w' ⟨rfl, hm'⟩
            go_wp2_with fail
            refine hK.out _ _ ?_ (fun hHeld => ?_)
            · exact ⟨hHeld.1.turns hm' (fun h => h), hHeld.2.1.turns hm' (fun h => h), hHeld.2.2.trans hm'⟩
            clear hK K
            try simp only [Act.put, List.setIfInBounds_toArray, List.set_cons_zero, List.set_cons_succ]
            refine wpAnyH_ready (rs := [7]) (by kernel_rfl) (by simp) ?_
            refine AllReadyH.cons rfl (fun K hK => ?_) AllReadyH.nil
            have NQ := neq_item x.id x.when x.seq
            go_simp
            refine hK.out _ _ ?_ (fun hHeld => ?_)
            · exact hHeld
            clear hK K
            try simp only [Act.put, List.setIfInBounds_toArray, List.set_cons_zero, List.set_cons_succ]
            refine takeH (i := 8) (d := some 81) (v := ?_) rfl rfl (by kernel_rfl) (by kernel_rfl) (by kernel_rfl) (fun _ _ _ h => h) (Or.inl ⟨by rfl, ?_⟩) (by assumption) ?_
            rotate_left
            · intro w hSw
              try dsimp only at hSw
              go_simp
              try with_reducible rfl
            try simp only [Act.put, List.setIfInBounds_toArray, List.set_cons_zero, List.set_cons_succ]
            refine wpAnyH_done (by kernel_rfl) ?_ _
            have HM := Lib.hid hHeld.2.2
            clear hHeld
            try clear hHeld
            try clear hHeld
            go_wp2_with fail
            go_meet
            exact ⟨F2, L2, s, G2, HB2.out.made HM.out, by omega⟩
        have hb2 : (z.k == 2) = false := by simp [hk2]
        by_cases hk3 : z.k = 3
        · have hb3 : (z.k == 3) = true := by simp [hk3]
          obtain ⟨r, L2, s2, hs2, h1, h2⟩ := acts_move (p := p) (F := F) (b := b) (t := 49) (rest := []) (G := G) z.i z.w HRI.out HSQ.out HU.out hln hs0
          have H1 := Lib.hid h1
          have H2 := Lib.hid h2
          have hrr : (r != r) = false := by simp
          clear h1 h2 hk1 hk2 hk3
          go_wp2_with fail
          as_aux_lemma =>
            refine wp_region_held_drew (S := fun w' => Blk w' bx 78 #[.int .i64 z.k, .int .i64 z.i, .int .i64 z.w]) (by kernel_rfl) ?_ (fun hHeld => ?_)
            · exact HB.out.x.turns (Turns.drew (Turns.refl (fun _ => False) Wx)) (fun h => h)
            have HB0 := Lib.hid (HB.out.made (Turns.drew (Turns.refl (fun _ => False) Wx)))
            generalize Wx.drew = w0 at *
            refine takeH (i := 0) (d := some 84) (v := ?_) rfl rfl (by kernel_rfl) (by kernel_rfl) (by kernel_rfl) (fun _ _ _ h => h) (Or.inl ⟨by rfl, ?_⟩) (by assumption) ?_
            rotate_left
            · intro w hSw
              try dsimp only at hSw
              go_simp
              try with_reducible rfl
            try simp only [Act.put, List.setIfInBounds_toArray, List.set_cons_zero, List.set_cons_succ]
            refine takeH (i := 1) (d := some 85) (v := ?_) rfl rfl (by kernel_rfl) (by kernel_rfl) (by kernel_rfl) (fun _ _ _ h => h) (Or.inl ⟨by rfl, ?_⟩) (by assumption) ?_
            rotate_left
            · intro w hSw
              try dsimp only at hSw
              go_simp
              try with_reducible rfl
            try simp only [Act.put, List.setIfInBounds_toArray, List.set_cons_zero, List.set_cons_succ]
            refine takeH (i := 2) (d := some 86) (v := ?_) rfl rfl (by kernel_rfl) (by kernel_rfl) (by kernel_rfl) (fun _ _ _ h => h) (Or.inl ⟨by rfl, ?_⟩) (by assumption) ?_
            rotate_left
            · intro w hSw
              try dsimp only at hSw
              have q1 := hSw.cell 1
              simp only [List.getElem?_toArray, List.getElem?_cons_zero, List.getElem?_cons_succ] at q1
              go_simp
              try with_reducible rfl
            try simp only [Act.put, List.setIfInBounds_toArray, List.set_cons_zero, List.set_cons_succ]
            refine takeH (i := 3) (d := some 87) (v := ?_) rfl rfl (by kernel_rfl) (by kernel_rfl) (by kernel_rfl) (fun _ _ _ h => h) (Or.inl ⟨by rfl, ?_⟩) (by assumption) ?_
            rotate_left
            · intro w hSw
              try dsimp only at hSw
              go_simp
              try with_reducible rfl
            try simp only [Act.put, List.setIfInBounds_toArray, List.set_cons_zero, List.set_cons_succ]
            refine takeH (i := 4) (d := some 88) (v := ?_) rfl rfl (by kernel_rfl) (by kernel_rfl) (by kernel_rfl) (fun _ _ _ h => h) (Or.inl ⟨by rfl, ?_⟩) (by assumption) ?_
            rotate_left
            · intro w hSw
              try dsimp only at hSw
              have q1 := hSw.cell 2
              simp only [List.getElem?_toArray, List.getElem?_cons_zero, List.getElem?_cons_succ] at q1
              go_simp
              try with_reducible rfl
            try simp only [Act.put, List.setIfInBounds_toArray, List.set_cons_zero, List.set_cons_succ]
            refine takeH (i := 6) (d := some 90) (v := ?_) rfl rfl (by kernel_rfl) (by kernel_rfl) (by kernel_rfl) (fun _ _ _ h => h) (Or.inl ⟨by rfl, ?_⟩) (by assumption) ?_
            rotate_left
            · intro w hSw
              try dsimp only at hSw
              go_simp
              try with_reducible rfl
            try simp only [Act.put, List.setIfInBounds_toArray, List.set_cons_zero, List.set_cons_succ]
            refine takeH (i := 7) (d := some 91) (v := ?_) rfl rfl (by kernel_rfl) (by kernel_rfl) (by kernel_rfl) (fun _ _ _ h => h) (Or.inl ⟨by rfl, ?_⟩) (by assumption) ?_
            rotate_left
            · intro w hSw
              try dsimp only at hSw
              go_simp
              try with_reducible rfl
            try simp only [Act.put, List.setIfInBounds_toArray, List.set_cons_zero, List.set_cons_succ]
            refine takeH (i := 8) (d := some 92) (v := ?_) rfl rfl (by kernel_rfl) (by kernel_rfl) (by kernel_rfl) (fun _ _ _ h => h) (Or.inl ⟨by rfl, ?_⟩) (by assumption) ?_
            rotate_left
            · intro w hSw
              try dsimp only at hSw
              have q1 := hSw.cell 1
              simp only [List.getElem?_toArray, List.getElem?_cons_zero, List.getElem?_cons_succ] at q1
              go_simp
              try with_reducible rfl
            try simp only [Act.put, List.setIfInBounds_toArray, List.set_cons_zero, List.set_cons_succ]
            refine takeH (i := 9) (d := some 93) (v := ?_) rfl rfl (by kernel_rfl) (by kernel_rfl) (by kernel_rfl) (fun _ _ _ h => h) (Or.inl ⟨by rfl, ?_⟩) (by assumption) ?_
            rotate_left
            · intro w hSw
              try dsimp only at hSw
              go_simp
              try with_reducible rfl
            try simp only [Act.put, List.setIfInBounds_toArray, List.set_cons_zero, List.set_cons_succ]
            refine takeH (i := 10) (d := some 94) (v := ?_) rfl rfl (by kernel_rfl) (by kernel_rfl) (by kernel_rfl) (fun _ _ _ h => h) (Or.inl ⟨by rfl, ?_⟩) (by assumption) ?_
            rotate_left
            · intro w hSw
              try dsimp only at hSw
              have q1 := hSw.cell 2
              simp only [List.getElem?_toArray, List.getElem?_cons_zero, List.getElem?_cons_succ] at q1
              go_simp
              try with_reducible rfl
            try simp only [Act.put, List.setIfInBounds_toArray, List.set_cons_zero, List.set_cons_succ]
            refine wpAnyH_ready (rs := [5]) (by kernel_rfl) (by simp) ?_
            refine AllReadyH.cons rfl (fun K hK => ?_) AllReadyH.nil
            go_simp
            refine (H1.out _ HB0.out.d.h).mono ?_
            rintro e w' ⟨rfl, F2, hh, hst⟩
            have HB1 := Lib.hid (HB0.out.step1 hh hst)
            clear hh hst
            go_wp2_with fail
            refine hK.out _ _ ?_ (fun hHeld => ?_)
            · exact HB1.out.x
            clear hK K
            try simp only [Act.put, List.setIfInBounds_toArray, List.set_cons_zero, List.set_cons_succ]
            refine wpAnyH_ready (rs := [11]) (by kernel_rfl) (by simp) ?_
            refine AllReadyH.cons rfl (fun K hK => ?_) AllReadyH.nil
            go_simp
            refine (H2.out _ HB1.out.d.r).mono ?_
            rintro e w2 ⟨rfl, G2, hh, hst⟩
            have HB2 := Lib.hid (HB1.out.step2 hh hst)
            clear hh hst
            go_wp2_with fail
            refine hK.out _ _ ?_ (fun hHeld => ?_)
            · exact HB2.out.x
            clear hK K
            try simp only [Act.put, List.setIfInBounds_toArray, List.set_cons_zero, List.set_cons_succ]
            refine takeH (i := 12) (d := some 96) (v := ?_) rfl rfl (by kernel_rfl) (by kernel_rfl) (by kernel_rfl) (fun _ _ _ h => h) (Or.inl ⟨by rfl, ?_⟩) (by assumption) ?_
            rotate_left
            · intro w hSw
              try dsimp only at hSw
              go_simp
              try with_reducible rfl
            try simp only [Act.put, List.setIfInBounds_toArray, List.set_cons_zero, List.set_cons_succ]
            refine wpAnyH_done (by kernel_rfl) ?_ _
            clear hHeld
            try clear hHeld
            try clear hHeld
            go_wp2_with fail
            go_meet
            exact ⟨F2, L2, s2, G2, HB2.out, hs2⟩
        have hb3 : (z.k == 3) = false := by simp [hk3]
        by_cases hk4 : z.k = 4
        · have hb4 : (z.k == 4) = true := by simp [hk4]
          as_aux_lemma =>
            cases L with
            | nil =>
              rcases HB.out.d.r.row with ⟨_, ar, cr, hrow⟩ | ⟨gr, cr, hrow⟩
              all_goals
                have HPOP := Lib.hid (hpop_none Wx HB.out.d.h)
                unfold aggT zeroT at HPOP
                have HROW := Lib.hid hrow
                clear hrow hk1 hk2 hk3 hk4
                go_wp2_with fail
                refine HPOP.out.mono ?_
                rintro e w' ⟨rfl, hm⟩
                have q0 := (HROW.out _ (hm.alloc (.cells #[.int .i64 0, .int .i64 0, .int .i64 0] 30))).1
                try simp only [List.length_nil] at q0
                have HM := Lib.hid (hm.alloc (.cells #[.int .i64 0, .int .i64 0, .int .i64 0] 30))
                clear hm
                go_wp2_with fail
                go_meet
                exact ⟨F, [], s, G, HB.out.made HM.out, by omega⟩
            | cons c l =>
              rcases HB.out.d.r.row with ⟨h0, _⟩ | ⟨gr, cr, hrow⟩
              · cases h0
              have HPOP := Lib.hid (hpop_c Wx HB.out.d.h (by omega))
              unfold aggT at HPOP
              have hfc : findL c.id (c :: l) = some c := (findL_some HU.out _ _).2 ⟨List.mem_cons_self .., rfl⟩
              have HREM := Lib.hid (fun w' (h : RefAt w' b 49 [] G (c :: l) s) => rrem_c c.id h hln hfc HU.out)
              rw [delL_head HU.out] at HREM
              unfold aggT at HREM
              have HROW := Lib.hid hrow
              clear hrow hk1 hk2 hk3 hk4 hfc
              go_wp2_with fail
              refine HPOP.out.mono ?_
              rintro e w' ⟨rfl, hh, hst⟩
              have HX1 := Lib.hid (HBox.new (HB.out.step1 hh hst).d 30 #[.int .i64 c.id, .int .i64 c.when, .int .i64 c.seq])
              have HB1' := Lib.hid ((HB.out.step1 hh hst).made (alloc_made w' (.cells #[.int .i64 c.id, .int .i64 c.when, .int .i64 c.seq] 30)))
              clear hh hst HPOP HROW
              have hrow2 := HB1'.out.d.r.row
              rcases hrow2 with ⟨h0, _⟩ | ⟨gr2, cr2, hrow2⟩
              · cases h0
              have q0 := (hrow2 _ (Turns.refl _ _)).1
              have p0 := Owns.cell encT_len (hrow2 _ (Turns.refl _ _)).2 (i := 0) (x := c) rfl (j := 0) rfl
              simp only [Nat.zero_mul, Nat.zero_add, List.length_cons] at q0 p0
              have l0 : (0 : Int) < ((l.length + 1 : Nat) : Int) := by omega
              have l1 : (0 : Int) < (l.length : Int) + 1 := by omega
              clear hrow2
              go_wp2_with fail
              clear q0 p0
              generalize w'.alloc (.cells #[.int .i64 c.id, .int .i64 c.when, .int .i64 c.seq] 30) = w1' at *
              generalize w'.heap.size = bX at *
              refine (HREM.out _ HB1'.out.d.r).mono ?_
              rintro e w2' ⟨rfl, G2, hh, hst⟩
              have HX2 := Lib.hid (HX1.out.step2 hh hst).x
              have HB2' := Lib.hid (HB1'.out.step2 hh hst)
              clear hh hst HX1 HB1' HREM
              go_wp2_with fail
              have HY := Lib.hid (Blk.new w2' 68 #[.int .i64 c.id, .int .i64 c.when, .int .i64 c.seq])
              have HX := Lib.hid (HX2.out.alloc (.cells #[.int .i64 c.id, .int .i64 c.when, .int .i64 c.seq] 68))
              have HB2 := Lib.hid (HB2'.out.made (alloc_made w2' (.cells #[.int .i64 c.id, .int .i64 c.when, .int .i64 c.seq] 68)))
              clear HX2 HB2'
              generalize w2'.alloc (.cells #[.int .i64 c.id, .int .i64 c.when, .int .i64 c.seq] 68) = w0 at *
              generalize w2'.heap.size = bY at *
              refine wp_region_held_drew (S := fun w' => Blk w' bX 30 #[.int .i64 c.id, .int .i64 c.when, .int .i64 c.seq] ∧ Blk w' bY 68 #[.int .i64 c.id, .int .i64 c.when, .int .i64 c.seq] ∧ Made w0 w') (by kernel_rfl) ?_ (fun hHeld => ?_)
              · exact ⟨HX.out.turns (Turns.drew (Turns.refl (fun _ => False) w0)) (fun h => h), HY.out.turns (Turns.drew (Turns.refl (fun _ => False) w0)) (fun h => h), Turns.drew (Turns.refl _ w0)⟩
              refine takeH (i := 0) (d := some 125) (v := ?_) rfl rfl (by kernel_rfl) (by kernel_rfl) (by kernel_rfl) (fun _ _ _ h => h) (Or.inl ⟨by rfl, ?_⟩) (by assumption) ?_
              rotate_left
              · intro w hSw
                try dsimp only at hSw
                have q0 := hSw.1.cell 0
                have q1 := hSw.1.cell 1
                have q2 := hSw.1.cell 2
                simp only [List.getElem?_toArray, List.getElem?_cons_zero, List.getElem?_cons_succ] at q0 q1 q2
                go_simp
                try with_reducible rfl
              try simp only [Act.put, List.setIfInBounds_toArray, List.set_cons_zero, List.set_cons_succ]
              refine takeH (i := 2) (d := some 127) (v := ?_) rfl rfl (by kernel_rfl) (by kernel_rfl) (by kernel_rfl) (fun _ _ _ h => h) (Or.inl ⟨by rfl, ?_⟩) (by assumption) ?_
              rotate_left
              · intro w hSw
                try dsimp only at hSw
                have q0 := hSw.2.1.cell 0
                have q1 := hSw.2.1.cell 1
                have q2 := hSw.2.1.cell 2
                simp only [List.getElem?_toArray, List.getElem?_cons_zero, List.getElem?_cons_succ] at q0 q1 q2
                go_simp
                try with_reducible rfl
              try simp only [Act.put, List.setIfInBounds_toArray, List.set_cons_zero, List.set_cons_succ]
              refine wpAnyH_ready (rs := [1]) (by kernel_rfl) (by simp) ?_
              refine AllReadyH.cons rfl (fun K hK => ?_) AllReadyH.nil
              go_simp
              refine (item_c _ _ _ _).mono ?_
              rintro e w' ⟨rfl, hm'⟩
              go_wp2_with fail
              refine hK.out _ _ ?_ (fun hHeld => ?_)
              · exact ⟨hHeld.1.turns hm' (fun h => h), hHeld.2.1.turns hm' (fun h => h), hHeld.2.2.trans hm'⟩
              clear hK K
              try simp only [Act.put, List.setIfInBounds_toArray, List.set_cons_zero, List.set_cons_succ]
              refine wpAnyH_ready (rs := [3]) (by kernel_rfl) (by simp) ?_
              refine AllReadyH.cons rfl (fun K hK => ?_) AllReadyH.nil
              have NQ := neq_item c.id c.when c.seq
              go_simp
              refine hK.out _ _ ?_ (fun hHeld => ?_)
              · exact hHeld
              clear hK K
              try simp only [Act.put, List.setIfInBounds_toArray, List.set_cons_zero, List.set_cons_succ]
              refine wpAnyH_done (by kernel_rfl) ?_ _
              have HM := Lib.hid hHeld.2.2
              clear hHeld
              try clear hHeld
              try clear hHeld
              go_wp2_with fail
              go_meet
              exact ⟨F, l, s, G2, HB2.out.made HM.out, by omega⟩
        · have hb4 : (z.k == 4) = false := by simp [hk4]
          clear hk1 hk2 hk3 hk4
          as_aux_lemma =>
            go_wp2_with fail
            go_meet
            exact ⟨F, L, s, G, HB.out, by omega⟩
      case rest =>
        obtain ⟨F, L, s', G, hbx, hs'⟩ := hcut
        have hs1 : s' ≤ (i : Int) + 1 := by omega
        have hln : L.length ≤ 1000000 := by have := hbx.d.h.len; omega
        have hsb : s' ≤ 1000000 := by omega
        have HB := Lib.hid hbx
        clear hbx HRI HSQ HU hs' hs
        go_wp2_with fail
        have HU := Lib.hid HB.out.d.h.uniq
        have HRI := Lib.hid HB.out.d.h.rise
        have hmin := hmin_c wc HB.out.d.h
        have hfi : ∀ w, HeapAt w p F L s' → _ := fun w h => hfind_c z.i w h
        by_cases hLe : L = []
        · subst hLe
          have HMIN := Lib.hid (show Calls Try.prog 25 #[.pointer (some ⟨p, 0, none⟩)] wc fun e w' => e = .returned (.tuple #[.agg #[.int .i64 0, .int .i64 0, .int .i64 0], .bool false]) ∧ Made wc w' from hmin)
          have HFI := Lib.hid (show ∀ w, HeapAt w p F [] s' → Calls Try.prog 26 #[.pointer (some ⟨p, 0, none⟩), .int .i64 z.i] w fun e w' => e = .returned (.tuple #[.agg #[.int .i64 0, .int .i64 0, .int .i64 0], .bool false]) ∧ Made w w' from hfi)
          have HRF := Lib.hid (fun w (h : RefAt w b 49 [] G [] s') => rfind_n z.i h hln rfl)
          clear hmin hfi
          as_aux_lemma =>
            refine HMIN.out.mono ?_
            rintro e w1' ⟨rfl, hm⟩
            have HB1 := Lib.hid (HB.out.made (hm.alloc (.cells #[.int .i64 0, .int .i64 0, .int .i64 0] 30)))
            have HX := Lib.hid (Blk.new w1' 30 #[.int .i64 0, .int .i64 0, .int .i64 0])
            have q1 := HB1.out.x.cell 1
            simp only [List.getElem?_toArray, List.getElem?_cons_zero, List.getElem?_cons_succ] at q1
            clear hm HMIN
            go_wp2_with fail
            clear q1
            generalize w1'.alloc (.cells #[.int .i64 0, .int .i64 0, .int .i64 0] 30) = w2' at *
            generalize w1'.heap.size = bX at *
            refine (HFI.out _ HB1.out.d.h).mono ?_
            rintro e w3' ⟨rfl, hm⟩
            have HB2 := Lib.hid (HB1.out.made (hm.alloc (.cells #[.int .i64 0, .int .i64 0, .int .i64 0] 30)))
            have HX2 := Lib.hid (HX.out.turns (hm.alloc (.cells #[.int .i64 0, .int .i64 0, .int .i64 0] 30)) (fun h => h))
            have HY := Lib.hid (Blk.new w3' 30 #[.int .i64 0, .int .i64 0, .int .i64 0])
            have q1 := HB2.out.x.cell 1
            simp only [List.getElem?_toArray, List.getElem?_cons_zero, List.getElem?_cons_succ] at q1
            clear hm HX HFI HB1
            go_wp2_with fail
            clear q1
            generalize w3'.alloc (.cells #[.int .i64 0, .int .i64 0, .int .i64 0] 30) = W at *
            generalize w3'.heap.size = bY at *
            have HX := Lib.hid HX2.out
            clear HX2
            refine (HRF.out _ HB2.out.d.r).mono ?_
            rintro e w5' ⟨rfl, rfl⟩
            clear HRF
            have HD := Lib.hid HB2.out.d
            clear HB2
            go_wp2_with fail
            obtain ⟨ar, cr, hrow⟩ : ∃ a c, ∀ w', Made W w' → w'.cell? ⟨b, 0, none⟩ = some (.slice a 0 c) ∧ Owns encT 68 3 w' (.slice a 0 c) ([] : List It) := by
              rcases HD.out.r.row with ⟨_, a, c, h⟩ | ⟨g, c, h⟩
              · exact ⟨_, _, h⟩
              · exact ⟨_, _, h⟩
            have HROW := Lib.hid hrow
            clear hrow
            refine wp_region_held_drew (S := fun w' => Made W w') (by kernel_rfl) ?_ (fun hHeld => ?_)
            · exact Turns.drew (Turns.refl _ W)
            refine takeH (i := 0) (d := some 145) (v := ?_) rfl rfl (by kernel_rfl) (by kernel_rfl) (by kernel_rfl) (fun _ _ _ h => h) (Or.inl ⟨by rfl, ?_⟩) (by assumption) ?_
            rotate_left
            · intro w hSw
              try dsimp only at hSw
              go_simp
              try with_reducible rfl
            try simp only [Act.put, List.setIfInBounds_toArray, List.set_cons_zero, List.set_cons_succ]
            refine takeH (i := 1) (d := some 146) (v := ?_) rfl rfl (by kernel_rfl) (by kernel_rfl) (by kernel_rfl) (fun _ _ _ h => h) (Or.inl ⟨by rfl, ?_⟩) (by assumption) ?_
            rotate_left
            · intro w hSw
              try dsimp only at hSw
              go_simp
              try with_reducible rfl
            try simp only [Act.put, List.setIfInBounds_toArray, List.set_cons_zero, List.set_cons_succ]
            refine takeH (i := 2) (d := some 147) (v := ?_) rfl rfl (by kernel_rfl) (by kernel_rfl) (by kernel_rfl) (fun _ _ _ h => h) (Or.inl ⟨by rfl, ?_⟩) (by assumption) ?_
            rotate_left
            · intro w hSw
              try dsimp only at hSw
              go_simp
              try with_reducible rfl
            try simp only [Act.put, List.setIfInBounds_toArray, List.set_cons_zero, List.set_cons_succ]
            refine takeH (i := 3) (d := some 148) (v := ?_) rfl rfl (by kernel_rfl) (by kernel_rfl) (by kernel_rfl) (fun _ _ _ h => h) (Or.inl ⟨by rfl, ?_⟩) (by assumption) ?_
            rotate_left
            · intro w hSw
              try dsimp only at hSw
              go_simp
              try with_reducible rfl
            try simp only [Act.put, List.setIfInBounds_toArray, List.set_cons_zero, List.set_cons_succ]
            refine takeH (i := 4) (d := some 149) (v := ?_) rfl rfl (by kernel_rfl) (by kernel_rfl) (by kernel_rfl) (fun _ _ _ h => h) (Or.inl ⟨by rfl, ?_⟩) (by assumption) ?_
            rotate_left
            · intro w hSw
              try dsimp only at hSw
              have q0 := (HROW.out _ hSw).1
              try simp only [List.length_nil] at q0
              go_simp
              try with_reducible rfl
            try simp only [Act.put, List.setIfInBounds_toArray, List.set_cons_zero, List.set_cons_succ]
            refine takeH (i := 5) (d := some 150) (v := ?_) rfl rfl (by kernel_rfl) (by kernel_rfl) (by kernel_rfl) (fun _ _ _ h => h) (Or.inl ⟨by rfl, ?_⟩) (by assumption) ?_
            rotate_left
            · intro w hSw
              try dsimp only at hSw
              go_simp
              try with_reducible rfl
            try simp only [Act.put, List.setIfInBounds_toArray, List.set_cons_zero, List.set_cons_succ]
            refine takeH (i := 6) (d := some 151) (v := ?_) rfl rfl (by kernel_rfl) (by kernel_rfl) (by kernel_rfl) (fun _ _ _ h => h) (Or.inl ⟨by rfl, ?_⟩) (by assumption) ?_
            rotate_left
            · intro w hSw
              try dsimp only at hSw
              go_simp
              try with_reducible rfl
            try simp only [Act.put, List.setIfInBounds_toArray, List.set_cons_zero, List.set_cons_succ]
            refine takeH (i := 7) (d := some 152) (v := ?_) rfl rfl (by kernel_rfl) (by kernel_rfl) (by kernel_rfl) (fun _ _ _ h => h) (Or.inl ⟨by rfl, ?_⟩) (by assumption) ?_
            rotate_left
            · intro w hSw
              try dsimp only at hSw
              go_simp
              try with_reducible rfl
            try simp only [Act.put, List.setIfInBounds_toArray, List.set_cons_zero, List.set_cons_succ]
            refine takeH (i := 8) (d := some 153) (v := ?_) rfl rfl (by kernel_rfl) (by kernel_rfl) (by kernel_rfl) (fun _ _ _ h => h) (Or.inl ⟨by rfl, ?_⟩) (by assumption) ?_
            rotate_left
            · intro w hSw
              try dsimp only at hSw
              go_simp
              try with_reducible rfl
            try simp only [Act.put, List.setIfInBounds_toArray, List.set_cons_zero, List.set_cons_succ]
            refine takeH (i := 9) (d := some 154) (v := ?_) rfl rfl (by kernel_rfl) (by kernel_rfl) (by kernel_rfl) (fun _ _ _ h => h) (Or.inl ⟨by rfl, ?_⟩) (by assumption) ?_
            rotate_left
            · intro w hSw
              try dsimp only at hSw
              go_simp
              try with_reducible rfl
            try simp only [Act.put, List.setIfInBounds_toArray, List.set_cons_zero, List.set_cons_succ]
            refine takeH (i := 10) (d := some 155) (v := ?_) rfl rfl (by kernel_rfl) (by kernel_rfl) (by kernel_rfl) (fun _ _ _ h => h) (Or.inl ⟨by rfl, ?_⟩) (by assumption) ?_
            rotate_left
            · intro w hSw
              try dsimp only at hSw
              go_simp
              try with_reducible rfl
            try simp only [Act.put, List.setIfInBounds_toArray, List.set_cons_zero, List.set_cons_succ]
            refine takeH (i := 11) (d := some 156) (v := undef) rfl rfl (by kernel_rfl) (by kernel_rfl) (by kernel_rfl) (fun _ _ _ h => h) (Or.inr ⟨by rfl, rfl⟩) (by assumption) ?_
            try simp only [Act.put, List.setIfInBounds_toArray, List.set_cons_zero, List.set_cons_succ]
            refine takeH (i := 12) (d := some 157) (v := undef) rfl rfl (by kernel_rfl) (by kernel_rfl) (by kernel_rfl) (fun _ _ _ h => h) (Or.inr ⟨by rfl, rfl⟩) (by assumption) ?_
            try simp only [Act.put, List.setIfInBounds_toArray, List.set_cons_zero, List.set_cons_succ]
            refine takeH (i := 13) (d := some 158) (v := undef) rfl rfl (by kernel_rfl) (by kernel_rfl) (by kernel_rfl) (fun _ _ _ h => h) (Or.inr ⟨by rfl, rfl⟩) (by assumption) ?_
            try simp only [Act.put, List.setIfInBounds_toArray, List.set_cons_zero, List.set_cons_succ]
            refine takeH (i := 14) (d := some 159) (v := undef) rfl rfl (by kernel_rfl) (by kernel_rfl) (by kernel_rfl) (fun _ _ _ h => h) (Or.inr ⟨by rfl, rfl⟩) (by assumption) ?_
            try simp only [Act.put, List.setIfInBounds_toArray, List.set_cons_zero, List.set_cons_succ]
            refine takeH (i := 15) (d := some 160) (v := undef) rfl rfl (by kernel_rfl) (by kernel_rfl) (by kernel_rfl) (fun _ _ _ h => h) (Or.inr ⟨by rfl, rfl⟩) (by assumption) ?_
            try simp only [Act.put, List.setIfInBounds_toArray, List.set_cons_zero, List.set_cons_succ]
            refine takeH (i := 16) (d := some 161) (v := undef) rfl rfl (by kernel_rfl) (by kernel_rfl) (by kernel_rfl) (fun _ _ _ h => h) (Or.inr ⟨by rfl, rfl⟩) (by assumption) ?_
            try simp only [Act.put, List.setIfInBounds_toArray, List.set_cons_zero, List.set_cons_succ]
            refine takeH (i := 17) (d := some 162) (v := undef) rfl rfl (by kernel_rfl) (by kernel_rfl) (by kernel_rfl) (fun _ _ _ h => h) (Or.inr ⟨by rfl, rfl⟩) (by assumption) ?_
            try simp only [Act.put, List.setIfInBounds_toArray, List.set_cons_zero, List.set_cons_succ]
            refine takeH (i := 18) (d := some 163) (v := undef) rfl rfl (by kernel_rfl) (by kernel_rfl) (by kernel_rfl) (fun _ _ _ h => h) (Or.inr ⟨by rfl, rfl⟩) (by assumption) ?_
            try simp only [Act.put, List.setIfInBounds_toArray, List.set_cons_zero, List.set_cons_succ]
            refine takeH (i := 19) (d := some 164) (v := undef) rfl rfl (by kernel_rfl) (by kernel_rfl) (by kernel_rfl) (fun _ _ _ h => h) (Or.inr ⟨by rfl, rfl⟩) (by assumption) ?_
            try simp only [Act.put, List.setIfInBounds_toArray, List.set_cons_zero, List.set_cons_succ]
            refine takeH (i := 20) (d := some 165) (v := ?_) rfl rfl (by kernel_rfl) (by kernel_rfl) (by kernel_rfl) (fun _ _ _ h => h) (Or.inl ⟨by rfl, ?_⟩) (by assumption) ?_
            rotate_left
            · intro w hSw
              try dsimp only at hSw
              go_simp
              try with_reducible rfl
            try simp only [Act.put, List.setIfInBounds_toArray, List.set_cons_zero, List.set_cons_succ]
            refine takeH (i := 21) (d := some 166) (v := ?_) rfl rfl (by kernel_rfl) (by kernel_rfl) (by kernel_rfl) (fun _ _ _ h => h) (Or.inl ⟨by rfl, ?_⟩) (by assumption) ?_
            rotate_left
            · intro w hSw
              try dsimp only at hSw
              go_simp
              try with_reducible rfl
            try simp only [Act.put, List.setIfInBounds_toArray, List.set_cons_zero, List.set_cons_succ]
            refine takeH (i := 22) (d := some 167) (v := ?_) rfl rfl (by kernel_rfl) (by kernel_rfl) (by kernel_rfl) (fun _ _ _ h => h) (Or.inl ⟨by rfl, ?_⟩) (by assumption) ?_
            rotate_left
            · intro w hSw
              try dsimp only at hSw
              go_simp
              try with_reducible rfl
            try simp only [Act.put, List.setIfInBounds_toArray, List.set_cons_zero, List.set_cons_succ]
            refine takeH (i := 23) (d := some 168) (v := ?_) rfl rfl (by kernel_rfl) (by kernel_rfl) (by kernel_rfl) (fun _ _ _ h => h) (Or.inl ⟨by rfl, ?_⟩) (by assumption) ?_
            rotate_left
            · intro w hSw
              try dsimp only at hSw
              go_simp
              try with_reducible rfl
            try simp only [Act.put, List.setIfInBounds_toArray, List.set_cons_zero, List.set_cons_succ]
            refine takeH (i := 24) (d := some 169) (v := ?_) rfl rfl (by kernel_rfl) (by kernel_rfl) (by kernel_rfl) (fun _ _ _ h => h) (Or.inl ⟨by rfl, ?_⟩) (by assumption) ?_
            rotate_left
            · intro w hSw
              try dsimp only at hSw
              go_simp
              try with_reducible rfl
            try simp only [Act.put, List.setIfInBounds_toArray, List.set_cons_zero, List.set_cons_succ]
            refine takeH (i := 25) (d := some 170) (v := ?_) rfl rfl (by kernel_rfl) (by kernel_rfl) (by kernel_rfl) (fun _ _ _ h => h) (Or.inl ⟨by rfl, ?_⟩) (by assumption) ?_
            rotate_left
            · intro w hSw
              try dsimp only at hSw
              go_simp
              try with_reducible rfl
            try simp only [Act.put, List.setIfInBounds_toArray, List.set_cons_zero, List.set_cons_succ]
            refine takeH (i := 26) (d := some 171) (v := ?_) rfl rfl (by kernel_rfl) (by kernel_rfl) (by kernel_rfl) (fun _ _ _ h => h) (Or.inl ⟨by rfl, ?_⟩) (by assumption) ?_
            rotate_left
            · intro w hSw
              try dsimp only at hSw
              go_simp
              try with_reducible rfl
            try simp only [Act.put, List.setIfInBounds_toArray, List.set_cons_zero, List.set_cons_succ]
            refine takeH (i := 27) (d := some 172) (v := ?_) rfl rfl (by kernel_rfl) (by kernel_rfl) (by kernel_rfl) (fun _ _ _ h => h) (Or.inl ⟨by rfl, ?_⟩) (by assumption) ?_
            rotate_left
            · intro w hSw
              try dsimp only at hSw
              go_simp
              try with_reducible rfl
            try simp only [Act.put, List.setIfInBounds_toArray, List.set_cons_zero, List.set_cons_succ]
            refine takeH (i := 28) (d := some 173) (v := ?_) rfl rfl (by kernel_rfl) (by kernel_rfl) (by kernel_rfl) (fun _ _ _ h => h) (Or.inl ⟨by rfl, ?_⟩) (by assumption) ?_
            rotate_left
            · intro w hSw
              try dsimp only at hSw
              go_simp
              try with_reducible rfl
            try simp only [Act.put, List.setIfInBounds_toArray, List.set_cons_zero, List.set_cons_succ]
            refine takeH (i := 29) (d := some 174) (v := ?_) rfl rfl (by kernel_rfl) (by kernel_rfl) (by kernel_rfl) (fun _ _ _ h => h) (Or.inl ⟨by rfl, ?_⟩) (by assumption) ?_
            rotate_left
            · intro w hSw
              try dsimp only at hSw
              go_simp
              try with_reducible rfl
            try simp only [Act.put, List.setIfInBounds_toArray, List.set_cons_zero, List.set_cons_succ]
            refine takeH (i := 30) (d := some 175) (v := ?_) rfl rfl (by kernel_rfl) (by kernel_rfl) (by kernel_rfl) (fun _ _ _ h => h) (Or.inl ⟨by rfl, ?_⟩) (by assumption) ?_
            rotate_left
            · intro w hSw
              try dsimp only at hSw
              go_simp
              try with_reducible rfl
            try simp only [Act.put, List.setIfInBounds_toArray, List.set_cons_zero, List.set_cons_succ]
            refine takeH (i := 31) (d := some 176) (v := undef) rfl rfl (by kernel_rfl) (by kernel_rfl) (by kernel_rfl) (fun _ _ _ h => h) (Or.inr ⟨by rfl, rfl⟩) (by assumption) ?_
            try simp only [Act.put, List.setIfInBounds_toArray, List.set_cons_zero, List.set_cons_succ]
            refine takeH (i := 32) (d := some 177) (v := undef) rfl rfl (by kernel_rfl) (by kernel_rfl) (by kernel_rfl) (fun _ _ _ h => h) (Or.inr ⟨by rfl, rfl⟩) (by assumption) ?_
            try simp only [Act.put, List.setIfInBounds_toArray, List.set_cons_zero, List.set_cons_succ]
            refine takeH (i := 33) (d := some 178) (v := undef) rfl rfl (by kernel_rfl) (by kernel_rfl) (by kernel_rfl) (fun _ _ _ h => h) (Or.inr ⟨by rfl, rfl⟩) (by assumption) ?_
            try simp only [Act.put, List.setIfInBounds_toArray, List.set_cons_zero, List.set_cons_succ]
            refine takeH (i := 34) (d := some 179) (v := undef) rfl rfl (by kernel_rfl) (by kernel_rfl) (by kernel_rfl) (fun _ _ _ h => h) (Or.inr ⟨by rfl, rfl⟩) (by assumption) ?_
            try simp only [Act.put, List.setIfInBounds_toArray, List.set_cons_zero, List.set_cons_succ]
            refine takeH (i := 35) (d := some 180) (v := undef) rfl rfl (by kernel_rfl) (by kernel_rfl) (by kernel_rfl) (fun _ _ _ h => h) (Or.inr ⟨by rfl, rfl⟩) (by assumption) ?_
            try simp only [Act.put, List.setIfInBounds_toArray, List.set_cons_zero, List.set_cons_succ]
            refine takeH (i := 36) (d := some 181) (v := undef) rfl rfl (by kernel_rfl) (by kernel_rfl) (by kernel_rfl) (fun _ _ _ h => h) (Or.inr ⟨by rfl, rfl⟩) (by assumption) ?_
            try simp only [Act.put, List.setIfInBounds_toArray, List.set_cons_zero, List.set_cons_succ]
            refine takeH (i := 37) (d := some 182) (v := undef) rfl rfl (by kernel_rfl) (by kernel_rfl) (by kernel_rfl) (fun _ _ _ h => h) (Or.inr ⟨by rfl, rfl⟩) (by assumption) ?_
            try simp only [Act.put, List.setIfInBounds_toArray, List.set_cons_zero, List.set_cons_succ]
            refine takeH (i := 38) (d := some 183) (v := undef) rfl rfl (by kernel_rfl) (by kernel_rfl) (by kernel_rfl) (fun _ _ _ h => h) (Or.inr ⟨by rfl, rfl⟩) (by assumption) ?_
            try simp only [Act.put, List.setIfInBounds_toArray, List.set_cons_zero, List.set_cons_succ]
            refine takeH (i := 39) (d := some 184) (v := undef) rfl rfl (by kernel_rfl) (by kernel_rfl) (by kernel_rfl) (fun _ _ _ h => h) (Or.inr ⟨by rfl, rfl⟩) (by assumption) ?_
            try simp only [Act.put, List.setIfInBounds_toArray, List.set_cons_zero, List.set_cons_succ]
            refine takeH (i := 40) (d := some 185) (v := undef) rfl rfl (by kernel_rfl) (by kernel_rfl) (by kernel_rfl) (fun _ _ _ h => h) (Or.inr ⟨by rfl, rfl⟩) (by assumption) ?_
            try simp only [Act.put, List.setIfInBounds_toArray, List.set_cons_zero, List.set_cons_succ]
            refine takeH (i := 41) (d := some 186) (v := ?_) rfl rfl (by kernel_rfl) (by kernel_rfl) (by kernel_rfl) (fun _ _ _ h => h) (Or.inl ⟨by rfl, ?_⟩) (by assumption) ?_
            rotate_left
            · intro w hSw
              try dsimp only at hSw
              go_simp
              try with_reducible rfl
            try simp only [Act.put, List.setIfInBounds_toArray, List.set_cons_zero, List.set_cons_succ]
            refine takeH (i := 42) (d := some 187) (v := ?_) rfl rfl (by kernel_rfl) (by kernel_rfl) (by kernel_rfl) (fun _ _ _ h => h) (Or.inl ⟨by rfl, ?_⟩) (by assumption) ?_
            rotate_left
            · intro w hSw
              try dsimp only at hSw
              go_simp
              try with_reducible rfl
            try simp only [Act.put, List.setIfInBounds_toArray, List.set_cons_zero, List.set_cons_succ]
            refine takeH (i := 43) (d := some 188) (v := ?_) rfl rfl (by kernel_rfl) (by kernel_rfl) (by kernel_rfl) (fun _ _ _ h => h) (Or.inl ⟨by rfl, ?_⟩) (by assumption) ?_
            rotate_left
            · intro w hSw
              try dsimp only at hSw
              go_simp
              try with_reducible rfl
            try simp only [Act.put, List.setIfInBounds_toArray, List.set_cons_zero, List.set_cons_succ]
            refine takeH (i := 44) (d := some 189) (v := ?_) rfl rfl (by kernel_rfl) (by kernel_rfl) (by kernel_rfl) (fun _ _ _ h => h) (Or.inl ⟨by rfl, ?_⟩) (by assumption) ?_
            rotate_left
            · intro w hSw
              try dsimp only at hSw
              go_simp
              try with_reducible rfl
            try simp only [Act.put, List.setIfInBounds_toArray, List.set_cons_zero, List.set_cons_succ]
            refine takeH (i := 46) (d := some 191) (v := ?_) rfl rfl (by kernel_rfl) (by kernel_rfl) (by kernel_rfl) (fun _ _ _ h => h) (Or.inl ⟨by rfl, ?_⟩) (by assumption) ?_
            rotate_left
            · intro w hSw
              try dsimp only at hSw
              go_simp
              try with_reducible rfl
            try simp only [Act.put, List.setIfInBounds_toArray, List.set_cons_zero, List.set_cons_succ]
            refine takeH (i := 47) (d := some 192) (v := ?_) rfl rfl (by kernel_rfl) (by kernel_rfl) (by kernel_rfl) (fun _ _ _ h => h) (Or.inl ⟨by rfl, ?_⟩) (by assumption) ?_
            rotate_left
            · intro w hSw
              try dsimp only at hSw
              go_simp
              try with_reducible rfl
            try simp only [Act.put, List.setIfInBounds_toArray, List.set_cons_zero, List.set_cons_succ]
            refine takeH (i := 48) (d := some 193) (v := ?_) rfl rfl (by kernel_rfl) (by kernel_rfl) (by kernel_rfl) (fun _ _ _ h => h) (Or.inl ⟨by rfl, ?_⟩) (by assumption) ?_
            rotate_left
            · intro w hSw
              try dsimp only at hSw
              go_simp
              try with_reducible rfl
            try simp only [Act.put, List.setIfInBounds_toArray, List.set_cons_zero, List.set_cons_succ]
            refine takeH (i := 49) (d := some 194) (v := ?_) rfl rfl (by kernel_rfl) (by kernel_rfl) (by kernel_rfl) (fun _ _ _ h => h) (Or.inl ⟨by rfl, ?_⟩) (by assumption) ?_
            rotate_left
            · intro w hSw
              try dsimp only at hSw
              have q0 := (HROW.out _ hSw).1
              try simp only [List.length_nil] at q0
              go_simp
              try with_reducible rfl
            try simp only [Act.put, List.setIfInBounds_toArray, List.set_cons_zero, List.set_cons_succ]
            refine takeH (i := 50) (d := some 195) (v := ?_) rfl rfl (by kernel_rfl) (by kernel_rfl) (by kernel_rfl) (fun _ _ _ h => h) (Or.inl ⟨by rfl, ?_⟩) (by assumption) ?_
            rotate_left
            · intro w hSw
              try dsimp only at hSw
              go_simp
              try with_reducible rfl
            try simp only [Act.put, List.setIfInBounds_toArray, List.set_cons_zero, List.set_cons_succ]
            refine wpAnyH_ready (rs := [45]) (by kernel_rfl) (by simp) ?_
            refine AllReadyH.cons rfl (fun K hK => ?_) AllReadyH.nil
            go_simp
            refine (hlen_c _ (HD.out.h.made hHeld)).mono ?_
            rintro e w' ⟨rfl, rfl⟩
            go_wp2_with fail
            refine hK.out _ _ ?_ (fun hHeld => ?_)
            · exact hHeld
            clear hK K
            try simp only [Act.put, List.setIfInBounds_toArray, List.set_cons_zero, List.set_cons_succ]
            refine takeH (i := 51) (d := some 196) (v := ?_) rfl rfl (by kernel_rfl) (by kernel_rfl) (by kernel_rfl) (fun _ _ _ h => h) (Or.inl ⟨by rfl, ?_⟩) (by assumption) ?_
            rotate_left
            · intro w hSw
              try dsimp only at hSw
              go_simp
              try with_reducible rfl
            try simp only [Act.put, List.setIfInBounds_toArray, List.set_cons_zero, List.set_cons_succ]
            refine takeH (i := 52) (d := some 197) (v := ?_) rfl rfl (by kernel_rfl) (by kernel_rfl) (by kernel_rfl) (fun _ _ _ h => h) (Or.inl ⟨by rfl, ?_⟩) (by assumption) ?_
            rotate_left
            · intro w hSw
              try dsimp only at hSw
              go_simp
              try with_reducible rfl
            try simp only [Act.put, List.setIfInBounds_toArray, List.set_cons_zero, List.set_cons_succ]
            refine takeH (i := 53) (d := some 198) (v := ?_) rfl rfl (by kernel_rfl) (by kernel_rfl) (by kernel_rfl) (fun _ _ _ h => h) (Or.inl ⟨by rfl, ?_⟩) (by assumption) ?_
            rotate_left
            · intro w hSw
              try dsimp only at hSw
              go_simp
              try with_reducible rfl
            try simp only [Act.put, List.setIfInBounds_toArray, List.set_cons_zero, List.set_cons_succ]
            refine takeH (i := 54) (d := some 199) (v := ?_) rfl rfl (by kernel_rfl) (by kernel_rfl) (by kernel_rfl) (fun _ _ _ h => h) (Or.inl ⟨by rfl, ?_⟩) (by assumption) ?_
            rotate_left
            · intro w hSw
              try dsimp only at hSw
              go_simp
              try with_reducible rfl
            try simp only [Act.put, List.setIfInBounds_toArray, List.set_cons_zero, List.set_cons_succ]
            refine takeH (i := 56) (d := some 201) (v := ?_) rfl rfl (by kernel_rfl) (by kernel_rfl) (by kernel_rfl) (fun _ _ _ h => h) (Or.inl ⟨by rfl, ?_⟩) (by assumption) ?_
            rotate_left
            · intro w hSw
              try dsimp only at hSw
              go_simp
              try with_reducible rfl
            try simp only [Act.put, List.setIfInBounds_toArray, List.set_cons_zero, List.set_cons_succ]
            refine takeH (i := 57) (d := some 202) (v := ?_) rfl rfl (by kernel_rfl) (by kernel_rfl) (by kernel_rfl) (fun _ _ _ h => h) (Or.inl ⟨by rfl, ?_⟩) (by assumption) ?_
            rotate_left
            · intro w hSw
              try dsimp only at hSw
              go_simp
              try with_reducible rfl
            try simp only [Act.put, List.setIfInBounds_toArray, List.set_cons_zero, List.set_cons_succ]
            refine takeH (i := 58) (d := some 203) (v := ?_) rfl rfl (by kernel_rfl) (by kernel_rfl) (by kernel_rfl) (fun _ _ _ h => h) (Or.inl ⟨by rfl, ?_⟩) (by assumption) ?_
            rotate_left
            · intro w hSw
              try dsimp only at hSw
              go_simp
              try with_reducible rfl
            try simp only [Act.put, List.setIfInBounds_toArray, List.set_cons_zero, List.set_cons_succ]
            refine takeH (i := 59) (d := some 204) (v := ?_) rfl rfl (by kernel_rfl) (by kernel_rfl) (by kernel_rfl) (fun _ _ _ h => h) (Or.inl ⟨by rfl, ?_⟩) (by assumption) ?_
            rotate_left
            · intro w hSw
              try dsimp only at hSw
              have q0 := (HROW.out _ hSw).1
              try simp only [List.length_nil] at q0
              go_simp
              try with_reducible rfl
            try simp only [Act.put, List.setIfInBounds_toArray, List.set_cons_zero, List.set_cons_succ]
            refine wpAnyH_ready (rs := [55]) (by kernel_rfl) (by simp) ?_
            refine AllReadyH.cons rfl (fun K hK => ?_) AllReadyH.nil
            go_simp
            refine (hall_c _ (HD.out.h.made hHeld) (by omega)).mono ?_
            rintro e w' ⟨va, rfl, hoa, hm', hfa⟩
            have HOA := Lib.hid hoa
            clear hoa hfa
            go_wp2_with fail
            refine hK.out _ _ ?_ (fun hHeld => ?_)
            · exact Turns.trans hHeld hm'
            clear hK K
            try simp only [Act.put, List.setIfInBounds_toArray, List.set_cons_zero, List.set_cons_succ]
            refine wpAnyH_ready (rs := [60]) (by kernel_rfl) (by simp) ?_
            refine AllReadyH.cons rfl (fun K hK => ?_) AllReadyH.nil
            go_simp
            refine (same_c va _ _ _ (by first | exact HOA.out | exact HOA.out.turns hHeld (fun _ _ h => h)) (HROW.out _ hHeld).2 hln).mono ?_
            rintro e w' ⟨rfl, hm'⟩
            go_wp2_with fail
            refine hK.out _ _ ?_ (fun hHeld => ?_)
            · exact Turns.trans hHeld hm'
            clear hK K
            try simp only [Act.put, List.setIfInBounds_toArray, List.set_cons_zero, List.set_cons_succ]
            refine takeH (i := 61) (d := some 206) (v := ?_) rfl rfl (by kernel_rfl) (by kernel_rfl) (by kernel_rfl) (fun _ _ _ h => h) (Or.inl ⟨by rfl, ?_⟩) (by assumption) ?_
            rotate_left
            · intro w hSw
              try dsimp only at hSw
              go_simp
              try with_reducible rfl
            try simp only [Act.put, List.setIfInBounds_toArray, List.set_cons_zero, List.set_cons_succ]
            refine takeH (i := 62) (d := some 207) (v := ?_) rfl rfl (by kernel_rfl) (by kernel_rfl) (by kernel_rfl) (fun _ _ _ h => h) (Or.inl ⟨by rfl, ?_⟩) (by assumption) ?_
            rotate_left
            · intro w hSw
              try dsimp only at hSw
              go_simp
              try with_reducible rfl
            try simp only [Act.put, List.setIfInBounds_toArray, List.set_cons_zero, List.set_cons_succ]
            refine wpAnyH_done (by kernel_rfl) ?_ _
            have HM2 := Lib.hid hHeld
            clear hHeld HX HY HOA
            try clear hHeld
            try clear hHeld
            try clear hHeld
            try clear hHeld
            try clear hHeld
            try clear hHeld
            try clear hm'
            try clear hm'
            try clear hm'
            try clear hm'
            try clear hm'
            go_wp2_with fail
            refine (hrows_c _ (HD.out.h.made HM2.out) (by omega)).mono ?_
            rintro e w6' ⟨vr, ys, rfl, ho, hm, hfar, hord, hp⟩
            obtain rfl : ys = [] := by simpa using hp
            obtain ⟨av, cv, rfl⟩ : ∃ a c, vr = .slice a 0 c := owns_slice ho
            have q0 := (HROW.out _ (HM2.out.trans hm)).1
            have HHP := Lib.hid (heaped_c _ _ _ ho (hstr hord hp HU.out HRI.out) (by simp))
            have HD6 := Lib.hid (HD.out.made (HM2.out.trans hm))
            clear ho hm hfar hord hp HM2 HD
            go_wp2_with fail
            refine HHP.out.mono ?_
            rintro e w7' ⟨rfl, hm⟩
            have HD7 := Lib.hid (HD6.out.made hm)
            clear hm HHP HD6 q0
            go_wp2_with fail
            go_roundw
            case rel => exact ⟨i + 1, F, [], s', G, by omega, by go_num, HD7.out, by omega⟩
            case measure => simp [intOf]; omega
        obtain ⟨c, hc⟩ : ∃ c, L[0]? = some c := by
          cases L with
          | nil => exact absurd rfl hLe
          | cons c l => exact ⟨c, rfl⟩
        rw [hc] at hmin
        have HMIN := Lib.hid (show Calls Try.prog 25 #[.pointer (some ⟨p, 0, none⟩)] wc fun e w' => e = .returned (.tuple #[.agg #[.int .i64 c.id, .int .i64 c.when, .int .i64 c.seq], .bool true]) ∧ Made wc w' from hmin)
        have HC := Lib.hid hc
        have HNE := Lib.hid hLe
        have hl0 : (0 : Int) < (L.length : Int) := by have := (List.getElem?_eq_some_iff.1 hc).1; omega
        clear hLe hc hmin
        cases hfd : findL z.i L with
        | some y =>
          rw [hfd] at hfi
          have HFI := Lib.hid (show ∀ w, HeapAt w p F L s' → Calls Try.prog 26 #[.pointer (some ⟨p, 0, none⟩), .int .i64 z.i] w fun e w' => e = .returned (.tuple #[.agg #[.int .i64 y.id, .int .i64 y.when, .int .i64 y.seq], .bool true]) ∧ Made w w' from hfi)
          have HRF := Lib.hid (fun w (h : RefAt w b 49 [] G L s') => rfind_c z.i h hln hfd HU.out)
          clear hfi hfd
          as_aux_lemma =>
            refine HMIN.out.mono ?_
            rintro e w1' ⟨rfl, hm⟩
            have HB1 := Lib.hid (HB.out.made (hm.alloc (.cells #[.int .i64 c.id, .int .i64 c.when, .int .i64 c.seq] 30)))
            have HX := Lib.hid (Blk.new w1' 30 #[.int .i64 c.id, .int .i64 c.when, .int .i64 c.seq])
            have q1 := HB1.out.x.cell 1
            simp only [List.getElem?_toArray, List.getElem?_cons_zero, List.getElem?_cons_succ] at q1
            clear hm HMIN
            go_wp2_with fail
            clear q1
            generalize w1'.alloc (.cells #[.int .i64 c.id, .int .i64 c.when, .int .i64 c.seq] 30) = w2' at *
            generalize w1'.heap.size = bX at *
            refine (HFI.out _ HB1.out.d.h).mono ?_
            rintro e w3' ⟨rfl, hm⟩
            have HB2 := Lib.hid (HB1.out.made (hm.alloc (.cells #[.int .i64 y.id, .int .i64 y.when, .int .i64 y.seq] 30)))
            have HX2 := Lib.hid (HX.out.turns (hm.alloc (.cells #[.int .i64 y.id, .int .i64 y.when, .int .i64 y.seq] 30)) (fun h => h))
            have HY := Lib.hid (Blk.new w3' 30 #[.int .i64 y.id, .int .i64 y.when, .int .i64 y.seq])
            have q1 := HB2.out.x.cell 1
            simp only [List.getElem?_toArray, List.getElem?_cons_zero, List.getElem?_cons_succ] at q1
            clear hm HX HFI HB1
            go_wp2_with fail
            clear q1
            generalize w3'.alloc (.cells #[.int .i64 y.id, .int .i64 y.when, .int .i64 y.seq] 30) = W at *
            generalize w3'.heap.size = bY at *
            have HX := Lib.hid HX2.out
            clear HX2
            refine (HRF.out _ HB2.out.d.r).mono ?_
            rintro e w5' ⟨k, rfl, rfl, hk⟩
            have HK := Lib.hid hk
            have k0 : (0 : Int) ≤ (k : Int) := Int.natCast_nonneg _
            have k1 : (k : Int) < (L.length : Int) := by have := (List.getElem?_eq_some_iff.1 hk).1; omega
            clear hk
            clear HRF
            have HD := Lib.hid HB2.out.d
            clear HB2
            go_wp2_with fail
            obtain ⟨gr, cr, hrow⟩ : ∃ g c, ∀ w', Made W w' → w'.cell? ⟨b, 0, none⟩ = some (.slice (some ⟨g, 0, none⟩) L.length c) ∧ Owns encT 68 3 w' (.slice (some ⟨g, 0, none⟩) L.length c) L := by
              rcases HD.out.r.row with ⟨h0, _⟩ | h
              · exact absurd h0 HNE.out
              · exact h
            have HROW := Lib.hid hrow
            clear hrow
            have hlN : 0 < L.length := (List.getElem?_eq_some_iff.1 HC.out).1
            have hlI : (0 : Int) < (L.length : Int) := by omega
            have hlD : decide ((0 : Int) < (L.length : Int)) = true := decide_eq_true hlI
            have hlE : decide (0 < L.length) = true := decide_eq_true hlN
            have k2 : (0 : Int) ≤ (k : Int) := Int.natCast_nonneg _
            have k4 : k < L.length := (List.getElem?_eq_some_iff.1 HK.out).1
            have k3 : (k : Int) < (L.length : Int) := by omega
            refine wp_region_held_drew (S := fun w' => Made W w') (by kernel_rfl) ?_ (fun hHeld => ?_)
            · exact Turns.drew (Turns.refl _ W)
            refine takeH (i := 0) (d := some 145) (v := ?_) rfl rfl (by kernel_rfl) (by kernel_rfl) (by kernel_rfl) (fun _ _ _ h => h) (Or.inl ⟨by rfl, ?_⟩) (by assumption) ?_
            rotate_left
            · intro w hSw
              try dsimp only at hSw
              go_simp
              try with_reducible rfl
            try simp only [Act.put, List.setIfInBounds_toArray, List.set_cons_zero, List.set_cons_succ]
            refine takeH (i := 1) (d := some 146) (v := ?_) rfl rfl (by kernel_rfl) (by kernel_rfl) (by kernel_rfl) (fun _ _ _ h => h) (Or.inl ⟨by rfl, ?_⟩) (by assumption) ?_
            rotate_left
            · intro w hSw
              try dsimp only at hSw
              go_simp
              try with_reducible rfl
            try simp only [Act.put, List.setIfInBounds_toArray, List.set_cons_zero, List.set_cons_succ]
            refine takeH (i := 2) (d := some 147) (v := ?_) rfl rfl (by kernel_rfl) (by kernel_rfl) (by kernel_rfl) (fun _ _ _ h => h) (Or.inl ⟨by rfl, ?_⟩) (by assumption) ?_
            rotate_left
            · intro w hSw
              try dsimp only at hSw
              go_simp
              try with_reducible rfl
            try simp only [Act.put, List.setIfInBounds_toArray, List.set_cons_zero, List.set_cons_succ]
            refine takeH (i := 3) (d := some 148) (v := ?_) rfl rfl (by kernel_rfl) (by kernel_rfl) (by kernel_rfl) (fun _ _ _ h => h) (Or.inl ⟨by rfl, ?_⟩) (by assumption) ?_
            rotate_left
            · intro w hSw
              try dsimp only at hSw
              go_simp
              try with_reducible rfl
            try simp only [Act.put, List.setIfInBounds_toArray, List.set_cons_zero, List.set_cons_succ]
            refine takeH (i := 4) (d := some 149) (v := ?_) rfl rfl (by kernel_rfl) (by kernel_rfl) (by kernel_rfl) (fun _ _ _ h => h) (Or.inl ⟨by rfl, ?_⟩) (by assumption) ?_
            rotate_left
            · intro w hSw
              try dsimp only at hSw
              have q0 := (HROW.out _ hSw).1
              go_simp
              try with_reducible rfl
            try simp only [Act.put, List.setIfInBounds_toArray, List.set_cons_zero, List.set_cons_succ]
            refine takeH (i := 5) (d := some 150) (v := ?_) rfl rfl (by kernel_rfl) (by kernel_rfl) (by kernel_rfl) (fun _ _ _ h => h) (Or.inl ⟨by rfl, ?_⟩) (by assumption) ?_
            rotate_left
            · intro w hSw
              try dsimp only at hSw
              go_simp
              try with_reducible rfl
            try simp only [Act.put, List.setIfInBounds_toArray, List.set_cons_zero, List.set_cons_succ]
            refine takeH (i := 6) (d := some 151) (v := ?_) rfl rfl (by kernel_rfl) (by kernel_rfl) (by kernel_rfl) (fun _ _ _ h => h) (Or.inl ⟨by rfl, ?_⟩) (by assumption) ?_
            rotate_left
            · intro w hSw
              try dsimp only at hSw
              go_simp
              try with_reducible rfl
            try simp only [Act.put, List.setIfInBounds_toArray, List.set_cons_zero, List.set_cons_succ]
            refine takeH (i := 7) (d := some 152) (v := ?_) rfl rfl (by kernel_rfl) (by kernel_rfl) (by kernel_rfl) (fun _ _ _ h => h) (Or.inl ⟨by rfl, ?_⟩) (by assumption) ?_
            rotate_left
            · intro w hSw
              try dsimp only at hSw
              go_simp
              try with_reducible rfl
            try simp only [Act.put, List.setIfInBounds_toArray, List.set_cons_zero, List.set_cons_succ]
            refine takeH (i := 8) (d := some 153) (v := ?_) rfl rfl (by kernel_rfl) (by kernel_rfl) (by kernel_rfl) (fun _ _ _ h => h) (Or.inl ⟨by rfl, ?_⟩) (by assumption) ?_
            rotate_left
            · intro w hSw
              try dsimp only at hSw
              go_simp
              try with_reducible rfl
            try simp only [Act.put, List.setIfInBounds_toArray, List.set_cons_zero, List.set_cons_succ]
            refine takeH (i := 9) (d := some 154) (v := ?_) rfl rfl (by kernel_rfl) (by kernel_rfl) (by kernel_rfl) (fun _ _ _ h => h) (Or.inl ⟨by rfl, ?_⟩) (by assumption) ?_
            rotate_left
            · intro w hSw
              try dsimp only at hSw
              go_simp
              try with_reducible rfl
            try simp only [Act.put, List.setIfInBounds_toArray, List.set_cons_zero, List.set_cons_succ]
            refine takeH (i := 10) (d := some 155) (v := ?_) rfl rfl (by kernel_rfl) (by kernel_rfl) (by kernel_rfl) (fun _ _ _ h => h) (Or.inl ⟨by rfl, ?_⟩) (by assumption) ?_
            rotate_left
            · intro w hSw
              try dsimp only at hSw
              go_simp
              try with_reducible rfl
            try simp only [Act.put, List.setIfInBounds_toArray, List.set_cons_zero, List.set_cons_succ]
            refine takeH (i := 11) (d := some 156) (v := ?_) rfl rfl (by kernel_rfl) (by kernel_rfl) (by kernel_rfl) (fun _ _ _ h => h) (Or.inl ⟨by rfl, ?_⟩) (by assumption) ?_
            rotate_left
            · intro w hSw
              try dsimp only at hSw
              have q0 := (HX.out.turns hSw (fun h => h)).cell 0
              have q1 := (HX.out.turns hSw (fun h => h)).cell 1
              have q2 := (HX.out.turns hSw (fun h => h)).cell 2
              simp only [List.getElem?_toArray, List.getElem?_cons_zero, List.getElem?_cons_succ] at q0 q1 q2
              go_simp
              try with_reducible rfl
            try simp only [Act.put, List.setIfInBounds_toArray, List.set_cons_zero, List.set_cons_succ]
            refine takeH (i := 13) (d := some 158) (v := ?_) rfl rfl (by kernel_rfl) (by kernel_rfl) (by kernel_rfl) (fun _ _ _ h => h) (Or.inl ⟨by rfl, ?_⟩) (by assumption) ?_
            rotate_left
            · intro w hSw
              try dsimp only at hSw
              go_simp
              try with_reducible rfl
            try simp only [Act.put, List.setIfInBounds_toArray, List.set_cons_zero, List.set_cons_succ]
            refine takeH (i := 14) (d := some 159) (v := ?_) rfl rfl (by kernel_rfl) (by kernel_rfl) (by kernel_rfl) (fun _ _ _ h => h) (Or.inl ⟨by rfl, ?_⟩) (by assumption) ?_
            rotate_left
            · intro w hSw
              try dsimp only at hSw
              go_simp
              try with_reducible rfl
            try simp only [Act.put, List.setIfInBounds_toArray, List.set_cons_zero, List.set_cons_succ]
            refine takeH (i := 15) (d := some 160) (v := ?_) rfl rfl (by kernel_rfl) (by kernel_rfl) (by kernel_rfl) (fun _ _ _ h => h) (Or.inl ⟨by rfl, ?_⟩) (by assumption) ?_
            rotate_left
            · intro w hSw
              try dsimp only at hSw
              go_simp
              try with_reducible rfl
            try simp only [Act.put, List.setIfInBounds_toArray, List.set_cons_zero, List.set_cons_succ]
            refine takeH (i := 16) (d := some 161) (v := ?_) rfl rfl (by kernel_rfl) (by kernel_rfl) (by kernel_rfl) (fun _ _ _ h => h) (Or.inl ⟨by rfl, ?_⟩) (by assumption) ?_
            rotate_left
            · intro w hSw
              try dsimp only at hSw
              have q0 := (HROW.out _ hSw).1
              go_simp
              try with_reducible rfl
            try simp only [Act.put, List.setIfInBounds_toArray, List.set_cons_zero, List.set_cons_succ]
            refine takeH (i := 17) (d := some 162) (v := ?_) rfl rfl (by kernel_rfl) (by kernel_rfl) (by kernel_rfl) (fun _ _ _ h => h) (Or.inl ⟨by rfl, ?_⟩) (by assumption) ?_
            rotate_left
            · intro w hSw
              try dsimp only at hSw
              go_simp
              try with_reducible rfl
            try simp only [Act.put, List.setIfInBounds_toArray, List.set_cons_zero, List.set_cons_succ]
            refine takeH (i := 18) (d := some 163) (v := ?_) rfl rfl (by kernel_rfl) (by kernel_rfl) (by kernel_rfl) (fun _ _ _ h => h) (Or.inl ⟨by rfl, ?_⟩) (by assumption) ?_
            rotate_left
            · intro w hSw
              try dsimp only at hSw
              have q0 := Owns.cell encT_len (HROW.out _ hSw).2 HC.out (j := 0) rfl
              have q1 := Owns.cell encT_len (HROW.out _ hSw).2 HC.out (j := 1) rfl
              have q2 := Owns.cell encT_len (HROW.out _ hSw).2 HC.out (j := 2) rfl
              simp only [Nat.zero_mul, Nat.zero_add, Nat.add_zero] at q0 q1 q2
              go_simp
              try with_reducible rfl
            try simp only [Act.put, List.setIfInBounds_toArray, List.set_cons_zero, List.set_cons_succ]
            refine wpAnyH_ready (rs := [12]) (by kernel_rfl) (by simp) ?_
            refine AllReadyH.cons rfl (fun K hK => ?_) AllReadyH.nil
            go_simp
            refine (item_c _ _ _ _).mono ?_
            rintro e w' ⟨rfl, hm'⟩
            go_wp2_with fail
            refine hK.out _ _ ?_ (fun hHeld => ?_)
            · exact Turns.trans hHeld hm'
            clear hK K
            try simp only [Act.put, List.setIfInBounds_toArray, List.set_cons_zero, List.set_cons_succ]
            refine wpAnyH_ready (rs := [19]) (by kernel_rfl) (by simp) ?_
            refine AllReadyH.cons rfl (fun K hK => ?_) AllReadyH.nil
            have NQ := neq_item c.id c.when c.seq
            go_simp
            refine hK.out _ _ ?_ (fun hHeld => ?_)
            · exact hHeld
            clear hK K
            try simp only [Act.put, List.setIfInBounds_toArray, List.set_cons_zero, List.set_cons_succ]
            refine takeH (i := 20) (d := some 165) (v := ?_) rfl rfl (by kernel_rfl) (by kernel_rfl) (by kernel_rfl) (fun _ _ _ h => h) (Or.inl ⟨by rfl, ?_⟩) (by assumption) ?_
            rotate_left
            · intro w hSw
              try dsimp only at hSw
              go_simp
              try with_reducible rfl
            try simp only [Act.put, List.setIfInBounds_toArray, List.set_cons_zero, List.set_cons_succ]
            refine takeH (i := 21) (d := some 166) (v := ?_) rfl rfl (by kernel_rfl) (by kernel_rfl) (by kernel_rfl) (fun _ _ _ h => h) (Or.inl ⟨by rfl, ?_⟩) (by assumption) ?_
            rotate_left
            · intro w hSw
              try dsimp only at hSw
              go_simp
              try with_reducible rfl
            try simp only [Act.put, List.setIfInBounds_toArray, List.set_cons_zero, List.set_cons_succ]
            refine takeH (i := 22) (d := some 167) (v := ?_) rfl rfl (by kernel_rfl) (by kernel_rfl) (by kernel_rfl) (fun _ _ _ h => h) (Or.inl ⟨by rfl, ?_⟩) (by assumption) ?_
            rotate_left
            · intro w hSw
              try dsimp only at hSw
              go_simp
              try with_reducible rfl
            try simp only [Act.put, List.setIfInBounds_toArray, List.set_cons_zero, List.set_cons_succ]
            refine takeH (i := 23) (d := some 168) (v := ?_) rfl rfl (by kernel_rfl) (by kernel_rfl) (by kernel_rfl) (fun _ _ _ h => h) (Or.inl ⟨by rfl, ?_⟩) (by assumption) ?_
            rotate_left
            · intro w hSw
              try dsimp only at hSw
              go_simp
              try with_reducible rfl
            try simp only [Act.put, List.setIfInBounds_toArray, List.set_cons_zero, List.set_cons_succ]
            refine takeH (i := 24) (d := some 169) (v := ?_) rfl rfl (by kernel_rfl) (by kernel_rfl) (by kernel_rfl) (fun _ _ _ h => h) (Or.inl ⟨by rfl, ?_⟩) (by assumption) ?_
            rotate_left
            · intro w hSw
              try dsimp only at hSw
              go_simp
              try with_reducible rfl
            try simp only [Act.put, List.setIfInBounds_toArray, List.set_cons_zero, List.set_cons_succ]
            refine takeH (i := 25) (d := some 170) (v := ?_) rfl rfl (by kernel_rfl) (by kernel_rfl) (by kernel_rfl) (fun _ _ _ h => h) (Or.inl ⟨by rfl, ?_⟩) (by assumption) ?_
            rotate_left
            · intro w hSw
              try dsimp only at hSw
              go_simp
              try with_reducible rfl
            try simp only [Act.put, List.setIfInBounds_toArray, List.set_cons_zero, List.set_cons_succ]
            refine takeH (i := 26) (d := some 171) (v := ?_) rfl rfl (by kernel_rfl) (by kernel_rfl) (by kernel_rfl) (fun _ _ _ h => h) (Or.inl ⟨by rfl, ?_⟩) (by assumption) ?_
            rotate_left
            · intro w hSw
              try dsimp only at hSw
              go_simp
              try with_reducible rfl
            try simp only [Act.put, List.setIfInBounds_toArray, List.set_cons_zero, List.set_cons_succ]
            refine takeH (i := 27) (d := some 172) (v := ?_) rfl rfl (by kernel_rfl) (by kernel_rfl) (by kernel_rfl) (fun _ _ _ h => h) (Or.inl ⟨by rfl, ?_⟩) (by assumption) ?_
            rotate_left
            · intro w hSw
              try dsimp only at hSw
              go_simp
              try with_reducible rfl
            try simp only [Act.put, List.setIfInBounds_toArray, List.set_cons_zero, List.set_cons_succ]
            refine takeH (i := 28) (d := some 173) (v := ?_) rfl rfl (by kernel_rfl) (by kernel_rfl) (by kernel_rfl) (fun _ _ _ h => h) (Or.inl ⟨by rfl, ?_⟩) (by assumption) ?_
            rotate_left
            · intro w hSw
              try dsimp only at hSw
              go_simp
              try with_reducible rfl
            try simp only [Act.put, List.setIfInBounds_toArray, List.set_cons_zero, List.set_cons_succ]
            refine takeH (i := 29) (d := some 174) (v := ?_) rfl rfl (by kernel_rfl) (by kernel_rfl) (by kernel_rfl) (fun _ _ _ h => h) (Or.inl ⟨by rfl, ?_⟩) (by assumption) ?_
            rotate_left
            · intro w hSw
              try dsimp only at hSw
              go_simp
              try with_reducible rfl
            try simp only [Act.put, List.setIfInBounds_toArray, List.set_cons_zero, List.set_cons_succ]
            refine takeH (i := 30) (d := some 175) (v := ?_) rfl rfl (by kernel_rfl) (by kernel_rfl) (by kernel_rfl) (fun _ _ _ h => h) (Or.inl ⟨by rfl, ?_⟩) (by assumption) ?_
            rotate_left
            · intro w hSw
              try dsimp only at hSw
              go_simp
              try with_reducible rfl
            try simp only [Act.put, List.setIfInBounds_toArray, List.set_cons_zero, List.set_cons_succ]
            refine takeH (i := 31) (d := some 176) (v := ?_) rfl rfl (by kernel_rfl) (by kernel_rfl) (by kernel_rfl) (fun _ _ _ h => h) (Or.inl ⟨by rfl, ?_⟩) (by assumption) ?_
            rotate_left
            · intro w hSw
              try dsimp only at hSw
              have q0 := (HY.out.turns hSw (fun h => h)).cell 0
              have q1 := (HY.out.turns hSw (fun h => h)).cell 1
              have q2 := (HY.out.turns hSw (fun h => h)).cell 2
              simp only [List.getElem?_toArray, List.getElem?_cons_zero, List.getElem?_cons_succ] at q0 q1 q2
              go_simp
              try with_reducible rfl
            try simp only [Act.put, List.setIfInBounds_toArray, List.set_cons_zero, List.set_cons_succ]
            refine takeH (i := 33) (d := some 178) (v := ?_) rfl rfl (by kernel_rfl) (by kernel_rfl) (by kernel_rfl) (fun _ _ _ h => h) (Or.inl ⟨by rfl, ?_⟩) (by assumption) ?_
            rotate_left
            · intro w hSw
              try dsimp only at hSw
              go_simp
              try with_reducible rfl
            try simp only [Act.put, List.setIfInBounds_toArray, List.set_cons_zero, List.set_cons_succ]
            refine takeH (i := 34) (d := some 179) (v := ?_) rfl rfl (by kernel_rfl) (by kernel_rfl) (by kernel_rfl) (fun _ _ _ h => h) (Or.inl ⟨by rfl, ?_⟩) (by assumption) ?_
            rotate_left
            · intro w hSw
              try dsimp only at hSw
              go_simp
              try with_reducible rfl
            try simp only [Act.put, List.setIfInBounds_toArray, List.set_cons_zero, List.set_cons_succ]
            refine takeH (i := 35) (d := some 180) (v := ?_) rfl rfl (by kernel_rfl) (by kernel_rfl) (by kernel_rfl) (fun _ _ _ h => h) (Or.inl ⟨by rfl, ?_⟩) (by assumption) ?_
            rotate_left
            · intro w hSw
              try dsimp only at hSw
              go_simp
              try with_reducible rfl
            try simp only [Act.put, List.setIfInBounds_toArray, List.set_cons_zero, List.set_cons_succ]
            refine takeH (i := 36) (d := some 181) (v := ?_) rfl rfl (by kernel_rfl) (by kernel_rfl) (by kernel_rfl) (fun _ _ _ h => h) (Or.inl ⟨by rfl, ?_⟩) (by assumption) ?_
            rotate_left
            · intro w hSw
              try dsimp only at hSw
              have q0 := (HROW.out _ hSw).1
              go_simp
              try with_reducible rfl
            try simp only [Act.put, List.setIfInBounds_toArray, List.set_cons_zero, List.set_cons_succ]
            refine takeH (i := 37) (d := some 182) (v := ?_) rfl rfl (by kernel_rfl) (by kernel_rfl) (by kernel_rfl) (fun _ _ _ h => h) (Or.inl ⟨by rfl, ?_⟩) (by assumption) ?_
            rotate_left
            · intro w hSw
              try dsimp only at hSw
              go_simp
              try with_reducible rfl
            try simp only [Act.put, List.setIfInBounds_toArray, List.set_cons_zero, List.set_cons_succ]
            refine takeH (i := 38) (d := some 183) (v := ?_) rfl rfl (by kernel_rfl) (by kernel_rfl) (by kernel_rfl) (fun _ _ _ h => h) (Or.inl ⟨by rfl, ?_⟩) (by assumption) ?_
            rotate_left
            · intro w hSw
              try dsimp only at hSw
              go_simp
              try with_reducible rfl
            try simp only [Act.put, List.setIfInBounds_toArray, List.set_cons_zero, List.set_cons_succ]
            refine takeH (i := 39) (d := some 184) (v := ?_) rfl rfl (by kernel_rfl) (by kernel_rfl) (by kernel_rfl) (fun _ _ _ h => h) (Or.inl ⟨by rfl, ?_⟩) (by assumption) ?_
            rotate_left
            · intro w hSw
              try dsimp only at hSw
              have q0 := Owns.cell encT_len (HROW.out _ hSw).2 HK.out (j := 0) rfl
              have q1 := Owns.cell encT_len (HROW.out _ hSw).2 HK.out (j := 1) rfl
              have q2 := Owns.cell encT_len (HROW.out _ hSw).2 HK.out (j := 2) rfl
              simp only [Nat.zero_mul, Nat.zero_add, Nat.add_zero] at q0 q1 q2
              go_simp
              try with_reducible rfl
            try simp only [Act.put, List.setIfInBounds_toArray, List.set_cons_zero, List.set_cons_succ]
            refine wpAnyH_ready (rs := [32]) (by kernel_rfl) (by simp) ?_
            refine AllReadyH.cons rfl (fun K hK => ?_) AllReadyH.nil
            go_simp
            refine (item_c _ _ _ _).mono ?_
            rintro e w' ⟨rfl, hm'⟩
            go_wp2_with fail
            refine hK.out _ _ ?_ (fun hHeld => ?_)
            · exact Turns.trans hHeld hm'
            clear hK K
            try simp only [Act.put, List.setIfInBounds_toArray, List.set_cons_zero, List.set_cons_succ]
            refine wpAnyH_ready (rs := [40]) (by kernel_rfl) (by simp) ?_
            refine AllReadyH.cons rfl (fun K hK => ?_) AllReadyH.nil
            have NQ := neq_item y.id y.when y.seq
            go_simp
            refine hK.out _ _ ?_ (fun hHeld => ?_)
            · exact hHeld
            clear hK K
            try simp only [Act.put, List.setIfInBounds_toArray, List.set_cons_zero, List.set_cons_succ]
            refine takeH (i := 41) (d := some 186) (v := ?_) rfl rfl (by kernel_rfl) (by kernel_rfl) (by kernel_rfl) (fun _ _ _ h => h) (Or.inl ⟨by rfl, ?_⟩) (by assumption) ?_
            rotate_left
            · intro w hSw
              try dsimp only at hSw
              go_simp
              try with_reducible rfl
            try simp only [Act.put, List.setIfInBounds_toArray, List.set_cons_zero, List.set_cons_succ]
            refine takeH (i := 42) (d := some 187) (v := ?_) rfl rfl (by kernel_rfl) (by kernel_rfl) (by kernel_rfl) (fun _ _ _ h => h) (Or.inl ⟨by rfl, ?_⟩) (by assumption) ?_
            rotate_left
            · intro w hSw
              try dsimp only at hSw
              go_simp
              try with_reducible rfl
            try simp only [Act.put, List.setIfInBounds_toArray, List.set_cons_zero, List.set_cons_succ]
            refine takeH (i := 43) (d := some 188) (v := ?_) rfl rfl (by kernel_rfl) (by kernel_rfl) (by kernel_rfl) (fun _ _ _ h => h) (Or.inl ⟨by rfl, ?_⟩) (by assumption) ?_
            rotate_left
            · intro w hSw
              try dsimp only at hSw
              go_simp
              try with_reducible rfl
            try simp only [Act.put, List.setIfInBounds_toArray, List.set_cons_zero, List.set_cons_succ]
            refine takeH (i := 44) (d := some 189) (v := ?_) rfl rfl (by kernel_rfl) (by kernel_rfl) (by kernel_rfl) (fun _ _ _ h => h) (Or.inl ⟨by rfl, ?_⟩) (by assumption) ?_
            rotate_left
            · intro w hSw
              try dsimp only at hSw
              go_simp
              try with_reducible rfl
            try simp only [Act.put, List.setIfInBounds_toArray, List.set_cons_zero, List.set_cons_succ]
            refine takeH (i := 46) (d := some 191) (v := ?_) rfl rfl (by kernel_rfl) (by kernel_rfl) (by kernel_rfl) (fun _ _ _ h => h) (Or.inl ⟨by rfl, ?_⟩) (by assumption) ?_
            rotate_left
            · intro w hSw
              try dsimp only at hSw
              go_simp
              try with_reducible rfl
            try simp only [Act.put, List.setIfInBounds_toArray, List.set_cons_zero, List.set_cons_succ]
            refine takeH (i := 47) (d := some 192) (v := ?_) rfl rfl (by kernel_rfl) (by kernel_rfl) (by kernel_rfl) (fun _ _ _ h => h) (Or.inl ⟨by rfl, ?_⟩) (by assumption) ?_
            rotate_left
            · intro w hSw
              try dsimp only at hSw
              go_simp
              try with_reducible rfl
            try simp only [Act.put, List.setIfInBounds_toArray, List.set_cons_zero, List.set_cons_succ]
            refine takeH (i := 48) (d := some 193) (v := ?_) rfl rfl (by kernel_rfl) (by kernel_rfl) (by kernel_rfl) (fun _ _ _ h => h) (Or.inl ⟨by rfl, ?_⟩) (by assumption) ?_
            rotate_left
            · intro w hSw
              try dsimp only at hSw
              go_simp
              try with_reducible rfl
            try simp only [Act.put, List.setIfInBounds_toArray, List.set_cons_zero, List.set_cons_succ]
            refine takeH (i := 49) (d := some 194) (v := ?_) rfl rfl (by kernel_rfl) (by kernel_rfl) (by kernel_rfl) (fun _ _ _ h => h) (Or.inl ⟨by rfl, ?_⟩) (by assumption) ?_
            rotate_left
            · intro w hSw
              try dsimp only at hSw
              have q0 := (HROW.out _ hSw).1
              go_simp
              try with_reducible rfl
            try simp only [Act.put, List.setIfInBounds_toArray, List.set_cons_zero, List.set_cons_succ]
            refine takeH (i := 50) (d := some 195) (v := ?_) rfl rfl (by kernel_rfl) (by kernel_rfl) (by kernel_rfl) (fun _ _ _ h => h) (Or.inl ⟨by rfl, ?_⟩) (by assumption) ?_
            rotate_left
            · intro w hSw
              try dsimp only at hSw
              go_simp
              try with_reducible rfl
            try simp only [Act.put, List.setIfInBounds_toArray, List.set_cons_zero, List.set_cons_succ]
            refine wpAnyH_ready (rs := [45]) (by kernel_rfl) (by simp) ?_
            refine AllReadyH.cons rfl (fun K hK => ?_) AllReadyH.nil
            go_simp
            refine (hlen_c _ (HD.out.h.made hHeld)).mono ?_
            rintro e w' ⟨rfl, rfl⟩
            go_wp2_with fail
            refine hK.out _ _ ?_ (fun hHeld => ?_)
            · exact hHeld
            clear hK K
            try simp only [Act.put, List.setIfInBounds_toArray, List.set_cons_zero, List.set_cons_succ]
            refine takeH (i := 51) (d := some 196) (v := ?_) rfl rfl (by kernel_rfl) (by kernel_rfl) (by kernel_rfl) (fun _ _ _ h => h) (Or.inl ⟨by rfl, ?_⟩) (by assumption) ?_
            rotate_left
            · intro w hSw
              try dsimp only at hSw
              go_simp
              try with_reducible rfl
            try simp only [Act.put, List.setIfInBounds_toArray, List.set_cons_zero, List.set_cons_succ]
            refine takeH (i := 52) (d := some 197) (v := ?_) rfl rfl (by kernel_rfl) (by kernel_rfl) (by kernel_rfl) (fun _ _ _ h => h) (Or.inl ⟨by rfl, ?_⟩) (by assumption) ?_
            rotate_left
            · intro w hSw
              try dsimp only at hSw
              go_simp
              try with_reducible rfl
            try simp only [Act.put, List.setIfInBounds_toArray, List.set_cons_zero, List.set_cons_succ]
            refine takeH (i := 53) (d := some 198) (v := ?_) rfl rfl (by kernel_rfl) (by kernel_rfl) (by kernel_rfl) (fun _ _ _ h => h) (Or.inl ⟨by rfl, ?_⟩) (by assumption) ?_
            rotate_left
            · intro w hSw
              try dsimp only at hSw
              go_simp
              try with_reducible rfl
            try simp only [Act.put, List.setIfInBounds_toArray, List.set_cons_zero, List.set_cons_succ]
            refine takeH (i := 54) (d := some 199) (v := ?_) rfl rfl (by kernel_rfl) (by kernel_rfl) (by kernel_rfl) (fun _ _ _ h => h) (Or.inl ⟨by rfl, ?_⟩) (by assumption) ?_
            rotate_left
            · intro w hSw
              try dsimp only at hSw
              go_simp
              try with_reducible rfl
            try simp only [Act.put, List.setIfInBounds_toArray, List.set_cons_zero, List.set_cons_succ]
            refine takeH (i := 56) (d := some 201) (v := ?_) rfl rfl (by kernel_rfl) (by kernel_rfl) (by kernel_rfl) (fun _ _ _ h => h) (Or.inl ⟨by rfl, ?_⟩) (by assumption) ?_
            rotate_left
            · intro w hSw
              try dsimp only at hSw
              go_simp
              try with_reducible rfl
            try simp only [Act.put, List.setIfInBounds_toArray, List.set_cons_zero, List.set_cons_succ]
            refine takeH (i := 57) (d := some 202) (v := ?_) rfl rfl (by kernel_rfl) (by kernel_rfl) (by kernel_rfl) (fun _ _ _ h => h) (Or.inl ⟨by rfl, ?_⟩) (by assumption) ?_
            rotate_left
            · intro w hSw
              try dsimp only at hSw
              go_simp
              try with_reducible rfl
            try simp only [Act.put, List.setIfInBounds_toArray, List.set_cons_zero, List.set_cons_succ]
            refine takeH (i := 58) (d := some 203) (v := ?_) rfl rfl (by kernel_rfl) (by kernel_rfl) (by kernel_rfl) (fun _ _ _ h => h) (Or.inl ⟨by rfl, ?_⟩) (by assumption) ?_
            rotate_left
            · intro w hSw
              try dsimp only at hSw
              go_simp
              try with_reducible rfl
            try simp only [Act.put, List.setIfInBounds_toArray, List.set_cons_zero, List.set_cons_succ]
            refine takeH (i := 59) (d := some 204) (v := ?_) rfl rfl (by kernel_rfl) (by kernel_rfl) (by kernel_rfl) (fun _ _ _ h => h) (Or.inl ⟨by rfl, ?_⟩) (by assumption) ?_
            rotate_left
            · intro w hSw
              try dsimp only at hSw
              have q0 := (HROW.out _ hSw).1
              go_simp
              try with_reducible rfl
            try simp only [Act.put, List.setIfInBounds_toArray, List.set_cons_zero, List.set_cons_succ]
            refine wpAnyH_ready (rs := [55]) (by kernel_rfl) (by simp) ?_
            refine AllReadyH.cons rfl (fun K hK => ?_) AllReadyH.nil
            go_simp
            refine (hall_c _ (HD.out.h.made hHeld) (by omega)).mono ?_
            rintro e w' ⟨va, rfl, hoa, hm', hfa⟩
            have HOA := Lib.hid hoa
            clear hoa hfa
            go_wp2_with fail
            refine hK.out _ _ ?_ (fun hHeld => ?_)
            · exact Turns.trans hHeld hm'
            clear hK K
            try simp only [Act.put, List.setIfInBounds_toArray, List.set_cons_zero, List.set_cons_succ]
            refine wpAnyH_ready (rs := [60]) (by kernel_rfl) (by simp) ?_
            refine AllReadyH.cons rfl (fun K hK => ?_) AllReadyH.nil
            go_simp
            refine (same_c va _ _ _ (by first | exact HOA.out | exact HOA.out.turns hHeld (fun _ _ h => h)) (HROW.out _ hHeld).2 hln).mono ?_
            rintro e w' ⟨rfl, hm'⟩
            go_wp2_with fail
            refine hK.out _ _ ?_ (fun hHeld => ?_)
            · exact Turns.trans hHeld hm'
            clear hK K
            try simp only [Act.put, List.setIfInBounds_toArray, List.set_cons_zero, List.set_cons_succ]
            refine takeH (i := 61) (d := some 206) (v := ?_) rfl rfl (by kernel_rfl) (by kernel_rfl) (by kernel_rfl) (fun _ _ _ h => h) (Or.inl ⟨by rfl, ?_⟩) (by assumption) ?_
            rotate_left
            · intro w hSw
              try dsimp only at hSw
              go_simp
              try with_reducible rfl
            try simp only [Act.put, List.setIfInBounds_toArray, List.set_cons_zero, List.set_cons_succ]
            refine takeH (i := 62) (d := some 207) (v := ?_) rfl rfl (by kernel_rfl) (by kernel_rfl) (by kernel_rfl) (fun _ _ _ h => h) (Or.inl ⟨by rfl, ?_⟩) (by assumption) ?_
            rotate_left
            · intro w hSw
              try dsimp only at hSw
              go_simp
              try with_reducible rfl
            try simp only [Act.put, List.setIfInBounds_toArray, List.set_cons_zero, List.set_cons_succ]
            refine wpAnyH_done (by kernel_rfl) ?_ _
            have HM2 := Lib.hid hHeld
            clear hHeld HX HY HOA
            try clear hHeld
            try clear hHeld
            try clear hHeld
            try clear hHeld
            try clear hHeld
            try clear hHeld
            try clear hm'
            try clear hm'
            try clear hm'
            try clear hm'
            try clear hm'
            go_wp2_with fail
            refine (hrows_c _ (HD.out.h.made HM2.out) (by omega)).mono ?_
            rintro e w6' ⟨vr, ys, rfl, ho, hm, hfar, hord, hp⟩
            obtain ⟨av, cv, rfl⟩ := owns_slice ho
            have hyl := hp.length_eq
            have hneq : ((ys.length : Int) != (L.length : Int)) = false := by simp [hyl]
            have q0 := (HROW.out _ (HM2.out.trans hm)).1
            have HHP := Lib.hid (heaped_c _ _ _ ho (hstr hord hp HU.out HRI.out) (by omega))
            clear hyl
            have HD6 := Lib.hid (HD.out.made (HM2.out.trans hm))
            clear ho hm hfar hord hp HM2 HD
            go_wp2_with fail
            refine HHP.out.mono ?_
            rintro e w7' ⟨rfl, hm⟩
            have HD7 := Lib.hid (HD6.out.made hm)
            clear hm HHP HD6 q0
            go_wp2_with fail
            go_roundw
            case rel => exact ⟨i + 1, F, L, s', G, by omega, by go_num, HD7.out, by omega⟩
            case measure => simp [intOf]; omega
        | none =>
          rw [hfd] at hfi
          have HFI := Lib.hid (show ∀ w, HeapAt w p F L s' → Calls Try.prog 26 #[.pointer (some ⟨p, 0, none⟩), .int .i64 z.i] w fun e w' => e = .returned (.tuple #[.agg #[.int .i64 0, .int .i64 0, .int .i64 0], .bool false]) ∧ Made w w' from hfi)
          have HRF := Lib.hid (fun w (h : RefAt w b 49 [] G L s') => rfind_n z.i h hln hfd)
          clear hfi hfd
          as_aux_lemma =>
            refine HMIN.out.mono ?_
            rintro e w1' ⟨rfl, hm⟩
            have HB1 := Lib.hid (HB.out.made (hm.alloc (.cells #[.int .i64 c.id, .int .i64 c.when, .int .i64 c.seq] 30)))
            have HX := Lib.hid (Blk.new w1' 30 #[.int .i64 c.id, .int .i64 c.when, .int .i64 c.seq])
            have q1 := HB1.out.x.cell 1
            simp only [List.getElem?_toArray, List.getElem?_cons_zero, List.getElem?_cons_succ] at q1
            clear hm HMIN
            go_wp2_with fail
            clear q1
            generalize w1'.alloc (.cells #[.int .i64 c.id, .int .i64 c.when, .int .i64 c.seq] 30) = w2' at *
            generalize w1'.heap.size = bX at *
            refine (HFI.out _ HB1.out.d.h).mono ?_
            rintro e w3' ⟨rfl, hm⟩
            have HB2 := Lib.hid (HB1.out.made (hm.alloc (.cells #[.int .i64 0, .int .i64 0, .int .i64 0] 30)))
            have HX2 := Lib.hid (HX.out.turns (hm.alloc (.cells #[.int .i64 0, .int .i64 0, .int .i64 0] 30)) (fun h => h))
            have HY := Lib.hid (Blk.new w3' 30 #[.int .i64 0, .int .i64 0, .int .i64 0])
            have q1 := HB2.out.x.cell 1
            simp only [List.getElem?_toArray, List.getElem?_cons_zero, List.getElem?_cons_succ] at q1
            clear hm HX HFI HB1
            go_wp2_with fail
            clear q1
            generalize w3'.alloc (.cells #[.int .i64 0, .int .i64 0, .int .i64 0] 30) = W at *
            generalize w3'.heap.size = bY at *
            have HX := Lib.hid HX2.out
            clear HX2
            refine (HRF.out _ HB2.out.d.r).mono ?_
            rintro e w5' ⟨rfl, rfl⟩
            clear HRF
            have HD := Lib.hid HB2.out.d
            clear HB2
            go_wp2_with fail
            obtain ⟨gr, cr, hrow⟩ : ∃ g c, ∀ w', Made W w' → w'.cell? ⟨b, 0, none⟩ = some (.slice (some ⟨g, 0, none⟩) L.length c) ∧ Owns encT 68 3 w' (.slice (some ⟨g, 0, none⟩) L.length c) L := by
              rcases HD.out.r.row with ⟨h0, _⟩ | h
              · exact absurd h0 HNE.out
              · exact h
            have HROW := Lib.hid hrow
            clear hrow
            have hlN : 0 < L.length := (List.getElem?_eq_some_iff.1 HC.out).1
            have hlI : (0 : Int) < (L.length : Int) := by omega
            have hlD : decide ((0 : Int) < (L.length : Int)) = true := decide_eq_true hlI
            have hlE : decide (0 < L.length) = true := decide_eq_true hlN
            refine wp_region_held_drew (S := fun w' => Made W w') (by kernel_rfl) ?_ (fun hHeld => ?_)
            · exact Turns.drew (Turns.refl _ W)
            refine takeH (i := 0) (d := some 145) (v := ?_) rfl rfl (by kernel_rfl) (by kernel_rfl) (by kernel_rfl) (fun _ _ _ h => h) (Or.inl ⟨by rfl, ?_⟩) (by assumption) ?_
            rotate_left
            · intro w hSw
              try dsimp only at hSw
              go_simp
              try with_reducible rfl
            try simp only [Act.put, List.setIfInBounds_toArray, List.set_cons_zero, List.set_cons_succ]
            refine takeH (i := 1) (d := some 146) (v := ?_) rfl rfl (by kernel_rfl) (by kernel_rfl) (by kernel_rfl) (fun _ _ _ h => h) (Or.inl ⟨by rfl, ?_⟩) (by assumption) ?_
            rotate_left
            · intro w hSw
              try dsimp only at hSw
              go_simp
              try with_reducible rfl
            try simp only [Act.put, List.setIfInBounds_toArray, List.set_cons_zero, List.set_cons_succ]
            refine takeH (i := 2) (d := some 147) (v := ?_) rfl rfl (by kernel_rfl) (by kernel_rfl) (by kernel_rfl) (fun _ _ _ h => h) (Or.inl ⟨by rfl, ?_⟩) (by assumption) ?_
            rotate_left
            · intro w hSw
              try dsimp only at hSw
              go_simp
              try with_reducible rfl
            try simp only [Act.put, List.setIfInBounds_toArray, List.set_cons_zero, List.set_cons_succ]
            refine takeH (i := 3) (d := some 148) (v := ?_) rfl rfl (by kernel_rfl) (by kernel_rfl) (by kernel_rfl) (fun _ _ _ h => h) (Or.inl ⟨by rfl, ?_⟩) (by assumption) ?_
            rotate_left
            · intro w hSw
              try dsimp only at hSw
              go_simp
              try with_reducible rfl
            try simp only [Act.put, List.setIfInBounds_toArray, List.set_cons_zero, List.set_cons_succ]
            refine takeH (i := 4) (d := some 149) (v := ?_) rfl rfl (by kernel_rfl) (by kernel_rfl) (by kernel_rfl) (fun _ _ _ h => h) (Or.inl ⟨by rfl, ?_⟩) (by assumption) ?_
            rotate_left
            · intro w hSw
              try dsimp only at hSw
              have q0 := (HROW.out _ hSw).1
              go_simp
              try with_reducible rfl
            try simp only [Act.put, List.setIfInBounds_toArray, List.set_cons_zero, List.set_cons_succ]
            refine takeH (i := 5) (d := some 150) (v := ?_) rfl rfl (by kernel_rfl) (by kernel_rfl) (by kernel_rfl) (fun _ _ _ h => h) (Or.inl ⟨by rfl, ?_⟩) (by assumption) ?_
            rotate_left
            · intro w hSw
              try dsimp only at hSw
              go_simp
              try with_reducible rfl
            try simp only [Act.put, List.setIfInBounds_toArray, List.set_cons_zero, List.set_cons_succ]
            refine takeH (i := 6) (d := some 151) (v := ?_) rfl rfl (by kernel_rfl) (by kernel_rfl) (by kernel_rfl) (fun _ _ _ h => h) (Or.inl ⟨by rfl, ?_⟩) (by assumption) ?_
            rotate_left
            · intro w hSw
              try dsimp only at hSw
              go_simp
              try with_reducible rfl
            try simp only [Act.put, List.setIfInBounds_toArray, List.set_cons_zero, List.set_cons_succ]
            refine takeH (i := 7) (d := some 152) (v := ?_) rfl rfl (by kernel_rfl) (by kernel_rfl) (by kernel_rfl) (fun _ _ _ h => h) (Or.inl ⟨by rfl, ?_⟩) (by assumption) ?_
            rotate_left
            · intro w hSw
              try dsimp only at hSw
              go_simp
              try with_reducible rfl
            try simp only [Act.put, List.setIfInBounds_toArray, List.set_cons_zero, List.set_cons_succ]
            refine takeH (i := 8) (d := some 153) (v := ?_) rfl rfl (by kernel_rfl) (by kernel_rfl) (by kernel_rfl) (fun _ _ _ h => h) (Or.inl ⟨by rfl, ?_⟩) (by assumption) ?_
            rotate_left
            · intro w hSw
              try dsimp only at hSw
              go_simp
              try with_reducible rfl
            try simp only [Act.put, List.setIfInBounds_toArray, List.set_cons_zero, List.set_cons_succ]
            refine takeH (i := 9) (d := some 154) (v := ?_) rfl rfl (by kernel_rfl) (by kernel_rfl) (by kernel_rfl) (fun _ _ _ h => h) (Or.inl ⟨by rfl, ?_⟩) (by assumption) ?_
            rotate_left
            · intro w hSw
              try dsimp only at hSw
              go_simp
              try with_reducible rfl
            try simp only [Act.put, List.setIfInBounds_toArray, List.set_cons_zero, List.set_cons_succ]
            refine takeH (i := 10) (d := some 155) (v := ?_) rfl rfl (by kernel_rfl) (by kernel_rfl) (by kernel_rfl) (fun _ _ _ h => h) (Or.inl ⟨by rfl, ?_⟩) (by assumption) ?_
            rotate_left
            · intro w hSw
              try dsimp only at hSw
              go_simp
              try with_reducible rfl
            try simp only [Act.put, List.setIfInBounds_toArray, List.set_cons_zero, List.set_cons_succ]
            refine takeH (i := 11) (d := some 156) (v := ?_) rfl rfl (by kernel_rfl) (by kernel_rfl) (by kernel_rfl) (fun _ _ _ h => h) (Or.inl ⟨by rfl, ?_⟩) (by assumption) ?_
            rotate_left
            · intro w hSw
              try dsimp only at hSw
              have q0 := (HX.out.turns hSw (fun h => h)).cell 0
              have q1 := (HX.out.turns hSw (fun h => h)).cell 1
              have q2 := (HX.out.turns hSw (fun h => h)).cell 2
              simp only [List.getElem?_toArray, List.getElem?_cons_zero, List.getElem?_cons_succ] at q0 q1 q2
              go_simp
              try with_reducible rfl
            try simp only [Act.put, List.setIfInBounds_toArray, List.set_cons_zero, List.set_cons_succ]
            refine takeH (i := 13) (d := some 158) (v := ?_) rfl rfl (by kernel_rfl) (by kernel_rfl) (by kernel_rfl) (fun _ _ _ h => h) (Or.inl ⟨by rfl, ?_⟩) (by assumption) ?_
            rotate_left
            · intro w hSw
              try dsimp only at hSw
              go_simp
              try with_reducible rfl
            try simp only [Act.put, List.setIfInBounds_toArray, List.set_cons_zero, List.set_cons_succ]
            refine takeH (i := 14) (d := some 159) (v := ?_) rfl rfl (by kernel_rfl) (by kernel_rfl) (by kernel_rfl) (fun _ _ _ h => h) (Or.inl ⟨by rfl, ?_⟩) (by assumption) ?_
            rotate_left
            · intro w hSw
              try dsimp only at hSw
              go_simp
              try with_reducible rfl
            try simp only [Act.put, List.setIfInBounds_toArray, List.set_cons_zero, List.set_cons_succ]
            refine takeH (i := 15) (d := some 160) (v := ?_) rfl rfl (by kernel_rfl) (by kernel_rfl) (by kernel_rfl) (fun _ _ _ h => h) (Or.inl ⟨by rfl, ?_⟩) (by assumption) ?_
            rotate_left
            · intro w hSw
              try dsimp only at hSw
              go_simp
              try with_reducible rfl
            try simp only [Act.put, List.setIfInBounds_toArray, List.set_cons_zero, List.set_cons_succ]
            refine takeH (i := 16) (d := some 161) (v := ?_) rfl rfl (by kernel_rfl) (by kernel_rfl) (by kernel_rfl) (fun _ _ _ h => h) (Or.inl ⟨by rfl, ?_⟩) (by assumption) ?_
            rotate_left
            · intro w hSw
              try dsimp only at hSw
              have q0 := (HROW.out _ hSw).1
              go_simp
              try with_reducible rfl
            try simp only [Act.put, List.setIfInBounds_toArray, List.set_cons_zero, List.set_cons_succ]
            refine takeH (i := 17) (d := some 162) (v := ?_) rfl rfl (by kernel_rfl) (by kernel_rfl) (by kernel_rfl) (fun _ _ _ h => h) (Or.inl ⟨by rfl, ?_⟩) (by assumption) ?_
            rotate_left
            · intro w hSw
              try dsimp only at hSw
              go_simp
              try with_reducible rfl
            try simp only [Act.put, List.setIfInBounds_toArray, List.set_cons_zero, List.set_cons_succ]
            refine takeH (i := 18) (d := some 163) (v := ?_) rfl rfl (by kernel_rfl) (by kernel_rfl) (by kernel_rfl) (fun _ _ _ h => h) (Or.inl ⟨by rfl, ?_⟩) (by assumption) ?_
            rotate_left
            · intro w hSw
              try dsimp only at hSw
              have q0 := Owns.cell encT_len (HROW.out _ hSw).2 HC.out (j := 0) rfl
              have q1 := Owns.cell encT_len (HROW.out _ hSw).2 HC.out (j := 1) rfl
              have q2 := Owns.cell encT_len (HROW.out _ hSw).2 HC.out (j := 2) rfl
              simp only [Nat.zero_mul, Nat.zero_add, Nat.add_zero] at q0 q1 q2
              go_simp
              try with_reducible rfl
            try simp only [Act.put, List.setIfInBounds_toArray, List.set_cons_zero, List.set_cons_succ]
            refine wpAnyH_ready (rs := [12]) (by kernel_rfl) (by simp) ?_
            refine AllReadyH.cons rfl (fun K hK => ?_) AllReadyH.nil
            go_simp
            refine (item_c _ _ _ _).mono ?_
            rintro e w' ⟨rfl, hm'⟩
            go_wp2_with fail
            refine hK.out _ _ ?_ (fun hHeld => ?_)
            · exact Turns.trans hHeld hm'
            clear hK K
            try simp only [Act.put, List.setIfInBounds_toArray, List.set_cons_zero, List.set_cons_succ]
            refine wpAnyH_ready (rs := [19]) (by kernel_rfl) (by simp) ?_
            refine AllReadyH.cons rfl (fun K hK => ?_) AllReadyH.nil
            have NQ := neq_item c.id c.when c.seq
            go_simp
            refine hK.out _ _ ?_ (fun hHeld => ?_)
            · exact hHeld
            clear hK K
            try simp only [Act.put, List.setIfInBounds_toArray, List.set_cons_zero, List.set_cons_succ]
            refine takeH (i := 20) (d := some 165) (v := ?_) rfl rfl (by kernel_rfl) (by kernel_rfl) (by kernel_rfl) (fun _ _ _ h => h) (Or.inl ⟨by rfl, ?_⟩) (by assumption) ?_
            rotate_left
            · intro w hSw
              try dsimp only at hSw
              go_simp
              try with_reducible rfl
            try simp only [Act.put, List.setIfInBounds_toArray, List.set_cons_zero, List.set_cons_succ]
            refine takeH (i := 21) (d := some 166) (v := ?_) rfl rfl (by kernel_rfl) (by kernel_rfl) (by kernel_rfl) (fun _ _ _ h => h) (Or.inl ⟨by rfl, ?_⟩) (by assumption) ?_
            rotate_left
            · intro w hSw
              try dsimp only at hSw
              go_simp
              try with_reducible rfl
            try simp only [Act.put, List.setIfInBounds_toArray, List.set_cons_zero, List.set_cons_succ]
            refine takeH (i := 22) (d := some 167) (v := ?_) rfl rfl (by kernel_rfl) (by kernel_rfl) (by kernel_rfl) (fun _ _ _ h => h) (Or.inl ⟨by rfl, ?_⟩) (by assumption) ?_
            rotate_left
            · intro w hSw
              try dsimp only at hSw
              go_simp
              try with_reducible rfl
            try simp only [Act.put, List.setIfInBounds_toArray, List.set_cons_zero, List.set_cons_succ]
            refine takeH (i := 23) (d := some 168) (v := ?_) rfl rfl (by kernel_rfl) (by kernel_rfl) (by kernel_rfl) (fun _ _ _ h => h) (Or.inl ⟨by rfl, ?_⟩) (by assumption) ?_
            rotate_left
            · intro w hSw
              try dsimp only at hSw
              go_simp
              try with_reducible rfl
            try simp only [Act.put, List.setIfInBounds_toArray, List.set_cons_zero, List.set_cons_succ]
            refine takeH (i := 24) (d := some 169) (v := ?_) rfl rfl (by kernel_rfl) (by kernel_rfl) (by kernel_rfl) (fun _ _ _ h => h) (Or.inl ⟨by rfl, ?_⟩) (by assumption) ?_
            rotate_left
            · intro w hSw
              try dsimp only at hSw
              go_simp
              try with_reducible rfl
            try simp only [Act.put, List.setIfInBounds_toArray, List.set_cons_zero, List.set_cons_succ]
            refine takeH (i := 25) (d := some 170) (v := ?_) rfl rfl (by kernel_rfl) (by kernel_rfl) (by kernel_rfl) (fun _ _ _ h => h) (Or.inl ⟨by rfl, ?_⟩) (by assumption) ?_
            rotate_left
            · intro w hSw
              try dsimp only at hSw
              go_simp
              try with_reducible rfl
            try simp only [Act.put, List.setIfInBounds_toArray, List.set_cons_zero, List.set_cons_succ]
            refine takeH (i := 26) (d := some 171) (v := ?_) rfl rfl (by kernel_rfl) (by kernel_rfl) (by kernel_rfl) (fun _ _ _ h => h) (Or.inl ⟨by rfl, ?_⟩) (by assumption) ?_
            rotate_left
            · intro w hSw
              try dsimp only at hSw
              go_simp
              try with_reducible rfl
            try simp only [Act.put, List.setIfInBounds_toArray, List.set_cons_zero, List.set_cons_succ]
            refine takeH (i := 27) (d := some 172) (v := ?_) rfl rfl (by kernel_rfl) (by kernel_rfl) (by kernel_rfl) (fun _ _ _ h => h) (Or.inl ⟨by rfl, ?_⟩) (by assumption) ?_
            rotate_left
            · intro w hSw
              try dsimp only at hSw
              go_simp
              try with_reducible rfl
            try simp only [Act.put, List.setIfInBounds_toArray, List.set_cons_zero, List.set_cons_succ]
            refine takeH (i := 28) (d := some 173) (v := ?_) rfl rfl (by kernel_rfl) (by kernel_rfl) (by kernel_rfl) (fun _ _ _ h => h) (Or.inl ⟨by rfl, ?_⟩) (by assumption) ?_
            rotate_left
            · intro w hSw
              try dsimp only at hSw
              go_simp
              try with_reducible rfl
            try simp only [Act.put, List.setIfInBounds_toArray, List.set_cons_zero, List.set_cons_succ]
            refine takeH (i := 29) (d := some 174) (v := ?_) rfl rfl (by kernel_rfl) (by kernel_rfl) (by kernel_rfl) (fun _ _ _ h => h) (Or.inl ⟨by rfl, ?_⟩) (by assumption) ?_
            rotate_left
            · intro w hSw
              try dsimp only at hSw
              go_simp
              try with_reducible rfl
            try simp only [Act.put, List.setIfInBounds_toArray, List.set_cons_zero, List.set_cons_succ]
            refine takeH (i := 30) (d := some 175) (v := ?_) rfl rfl (by kernel_rfl) (by kernel_rfl) (by kernel_rfl) (fun _ _ _ h => h) (Or.inl ⟨by rfl, ?_⟩) (by assumption) ?_
            rotate_left
            · intro w hSw
              try dsimp only at hSw
              go_simp
              try with_reducible rfl
            try simp only [Act.put, List.setIfInBounds_toArray, List.set_cons_zero, List.set_cons_succ]
            refine takeH (i := 31) (d := some 176) (v := undef) rfl rfl (by kernel_rfl) (by kernel_rfl) (by kernel_rfl) (fun _ _ _ h => h) (Or.inr ⟨by rfl, rfl⟩) (by assumption) ?_
            try simp only [Act.put, List.setIfInBounds_toArray, List.set_cons_zero, List.set_cons_succ]
            refine takeH (i := 32) (d := some 177) (v := undef) rfl rfl (by kernel_rfl) (by kernel_rfl) (by kernel_rfl) (fun _ _ _ h => h) (Or.inr ⟨by rfl, rfl⟩) (by assumption) ?_
            try simp only [Act.put, List.setIfInBounds_toArray, List.set_cons_zero, List.set_cons_succ]
            refine takeH (i := 33) (d := some 178) (v := undef) rfl rfl (by kernel_rfl) (by kernel_rfl) (by kernel_rfl) (fun _ _ _ h => h) (Or.inr ⟨by rfl, rfl⟩) (by assumption) ?_
            try simp only [Act.put, List.setIfInBounds_toArray, List.set_cons_zero, List.set_cons_succ]
            refine takeH (i := 34) (d := some 179) (v := undef) rfl rfl (by kernel_rfl) (by kernel_rfl) (by kernel_rfl) (fun _ _ _ h => h) (Or.inr ⟨by rfl, rfl⟩) (by assumption) ?_
            try simp only [Act.put, List.setIfInBounds_toArray, List.set_cons_zero, List.set_cons_succ]
            refine takeH (i := 35) (d := some 180) (v := undef) rfl rfl (by kernel_rfl) (by kernel_rfl) (by kernel_rfl) (fun _ _ _ h => h) (Or.inr ⟨by rfl, rfl⟩) (by assumption) ?_
            try simp only [Act.put, List.setIfInBounds_toArray, List.set_cons_zero, List.set_cons_succ]
            refine takeH (i := 36) (d := some 181) (v := undef) rfl rfl (by kernel_rfl) (by kernel_rfl) (by kernel_rfl) (fun _ _ _ h => h) (Or.inr ⟨by rfl, rfl⟩) (by assumption) ?_
            try simp only [Act.put, List.setIfInBounds_toArray, List.set_cons_zero, List.set_cons_succ]
            refine takeH (i := 37) (d := some 182) (v := undef) rfl rfl (by kernel_rfl) (by kernel_rfl) (by kernel_rfl) (fun _ _ _ h => h) (Or.inr ⟨by rfl, rfl⟩) (by assumption) ?_
            try simp only [Act.put, List.setIfInBounds_toArray, List.set_cons_zero, List.set_cons_succ]
            refine takeH (i := 38) (d := some 183) (v := undef) rfl rfl (by kernel_rfl) (by kernel_rfl) (by kernel_rfl) (fun _ _ _ h => h) (Or.inr ⟨by rfl, rfl⟩) (by assumption) ?_
            try simp only [Act.put, List.setIfInBounds_toArray, List.set_cons_zero, List.set_cons_succ]
            refine takeH (i := 39) (d := some 184) (v := undef) rfl rfl (by kernel_rfl) (by kernel_rfl) (by kernel_rfl) (fun _ _ _ h => h) (Or.inr ⟨by rfl, rfl⟩) (by assumption) ?_
            try simp only [Act.put, List.setIfInBounds_toArray, List.set_cons_zero, List.set_cons_succ]
            refine takeH (i := 40) (d := some 185) (v := undef) rfl rfl (by kernel_rfl) (by kernel_rfl) (by kernel_rfl) (fun _ _ _ h => h) (Or.inr ⟨by rfl, rfl⟩) (by assumption) ?_
            try simp only [Act.put, List.setIfInBounds_toArray, List.set_cons_zero, List.set_cons_succ]
            refine takeH (i := 41) (d := some 186) (v := ?_) rfl rfl (by kernel_rfl) (by kernel_rfl) (by kernel_rfl) (fun _ _ _ h => h) (Or.inl ⟨by rfl, ?_⟩) (by assumption) ?_
            rotate_left
            · intro w hSw
              try dsimp only at hSw
              go_simp
              try with_reducible rfl
            try simp only [Act.put, List.setIfInBounds_toArray, List.set_cons_zero, List.set_cons_succ]
            refine takeH (i := 42) (d := some 187) (v := ?_) rfl rfl (by kernel_rfl) (by kernel_rfl) (by kernel_rfl) (fun _ _ _ h => h) (Or.inl ⟨by rfl, ?_⟩) (by assumption) ?_
            rotate_left
            · intro w hSw
              try dsimp only at hSw
              go_simp
              try with_reducible rfl
            try simp only [Act.put, List.setIfInBounds_toArray, List.set_cons_zero, List.set_cons_succ]
            refine takeH (i := 43) (d := some 188) (v := ?_) rfl rfl (by kernel_rfl) (by kernel_rfl) (by kernel_rfl) (fun _ _ _ h => h) (Or.inl ⟨by rfl, ?_⟩) (by assumption) ?_
            rotate_left
            · intro w hSw
              try dsimp only at hSw
              go_simp
              try with_reducible rfl
            try simp only [Act.put, List.setIfInBounds_toArray, List.set_cons_zero, List.set_cons_succ]
            refine takeH (i := 44) (d := some 189) (v := ?_) rfl rfl (by kernel_rfl) (by kernel_rfl) (by kernel_rfl) (fun _ _ _ h => h) (Or.inl ⟨by rfl, ?_⟩) (by assumption) ?_
            rotate_left
            · intro w hSw
              try dsimp only at hSw
              go_simp
              try with_reducible rfl
            try simp only [Act.put, List.setIfInBounds_toArray, List.set_cons_zero, List.set_cons_succ]
            refine takeH (i := 46) (d := some 191) (v := ?_) rfl rfl (by kernel_rfl) (by kernel_rfl) (by kernel_rfl) (fun _ _ _ h => h) (Or.inl ⟨by rfl, ?_⟩) (by assumption) ?_
            rotate_left
            · intro w hSw
              try dsimp only at hSw
              go_simp
              try with_reducible rfl
            try simp only [Act.put, List.setIfInBounds_toArray, List.set_cons_zero, List.set_cons_succ]
            refine takeH (i := 47) (d := some 192) (v := ?_) rfl rfl (by kernel_rfl) (by kernel_rfl) (by kernel_rfl) (fun _ _ _ h => h) (Or.inl ⟨by rfl, ?_⟩) (by assumption) ?_
            rotate_left
            · intro w hSw
              try dsimp only at hSw
              go_simp
              try with_reducible rfl
            try simp only [Act.put, List.setIfInBounds_toArray, List.set_cons_zero, List.set_cons_succ]
            refine takeH (i := 48) (d := some 193) (v := ?_) rfl rfl (by kernel_rfl) (by kernel_rfl) (by kernel_rfl) (fun _ _ _ h => h) (Or.inl ⟨by rfl, ?_⟩) (by assumption) ?_
            rotate_left
            · intro w hSw
              try dsimp only at hSw
              go_simp
              try with_reducible rfl
            try simp only [Act.put, List.setIfInBounds_toArray, List.set_cons_zero, List.set_cons_succ]
            refine takeH (i := 49) (d := some 194) (v := ?_) rfl rfl (by kernel_rfl) (by kernel_rfl) (by kernel_rfl) (fun _ _ _ h => h) (Or.inl ⟨by rfl, ?_⟩) (by assumption) ?_
            rotate_left
            · intro w hSw
              try dsimp only at hSw
              have q0 := (HROW.out _ hSw).1
              go_simp
              try with_reducible rfl
            try simp only [Act.put, List.setIfInBounds_toArray, List.set_cons_zero, List.set_cons_succ]
            refine takeH (i := 50) (d := some 195) (v := ?_) rfl rfl (by kernel_rfl) (by kernel_rfl) (by kernel_rfl) (fun _ _ _ h => h) (Or.inl ⟨by rfl, ?_⟩) (by assumption) ?_
            rotate_left
            · intro w hSw
              try dsimp only at hSw
              go_simp
              try with_reducible rfl
            try simp only [Act.put, List.setIfInBounds_toArray, List.set_cons_zero, List.set_cons_succ]
            refine wpAnyH_ready (rs := [45]) (by kernel_rfl) (by simp) ?_
            refine AllReadyH.cons rfl (fun K hK => ?_) AllReadyH.nil
            go_simp
            refine (hlen_c _ (HD.out.h.made hHeld)).mono ?_
            rintro e w' ⟨rfl, rfl⟩
            go_wp2_with fail
            refine hK.out _ _ ?_ (fun hHeld => ?_)
            · exact hHeld
            clear hK K
            try simp only [Act.put, List.setIfInBounds_toArray, List.set_cons_zero, List.set_cons_succ]
            refine takeH (i := 51) (d := some 196) (v := ?_) rfl rfl (by kernel_rfl) (by kernel_rfl) (by kernel_rfl) (fun _ _ _ h => h) (Or.inl ⟨by rfl, ?_⟩) (by assumption) ?_
            rotate_left
            · intro w hSw
              try dsimp only at hSw
              go_simp
              try with_reducible rfl
            try simp only [Act.put, List.setIfInBounds_toArray, List.set_cons_zero, List.set_cons_succ]
            refine takeH (i := 52) (d := some 197) (v := ?_) rfl rfl (by kernel_rfl) (by kernel_rfl) (by kernel_rfl) (fun _ _ _ h => h) (Or.inl ⟨by rfl, ?_⟩) (by assumption) ?_
            rotate_left
            · intro w hSw
              try dsimp only at hSw
              go_simp
              try with_reducible rfl
            try simp only [Act.put, List.setIfInBounds_toArray, List.set_cons_zero, List.set_cons_succ]
            refine takeH (i := 53) (d := some 198) (v := ?_) rfl rfl (by kernel_rfl) (by kernel_rfl) (by kernel_rfl) (fun _ _ _ h => h) (Or.inl ⟨by rfl, ?_⟩) (by assumption) ?_
            rotate_left
            · intro w hSw
              try dsimp only at hSw
              go_simp
              try with_reducible rfl
            try simp only [Act.put, List.setIfInBounds_toArray, List.set_cons_zero, List.set_cons_succ]
            refine takeH (i := 54) (d := some 199) (v := ?_) rfl rfl (by kernel_rfl) (by kernel_rfl) (by kernel_rfl) (fun _ _ _ h => h) (Or.inl ⟨by rfl, ?_⟩) (by assumption) ?_
            rotate_left
            · intro w hSw
              try dsimp only at hSw
              go_simp
              try with_reducible rfl
            try simp only [Act.put, List.setIfInBounds_toArray, List.set_cons_zero, List.set_cons_succ]
            refine takeH (i := 56) (d := some 201) (v := ?_) rfl rfl (by kernel_rfl) (by kernel_rfl) (by kernel_rfl) (fun _ _ _ h => h) (Or.inl ⟨by rfl, ?_⟩) (by assumption) ?_
            rotate_left
            · intro w hSw
              try dsimp only at hSw
              go_simp
              try with_reducible rfl
            try simp only [Act.put, List.setIfInBounds_toArray, List.set_cons_zero, List.set_cons_succ]
            refine takeH (i := 57) (d := some 202) (v := ?_) rfl rfl (by kernel_rfl) (by kernel_rfl) (by kernel_rfl) (fun _ _ _ h => h) (Or.inl ⟨by rfl, ?_⟩) (by assumption) ?_
            rotate_left
            · intro w hSw
              try dsimp only at hSw
              go_simp
              try with_reducible rfl
            try simp only [Act.put, List.setIfInBounds_toArray, List.set_cons_zero, List.set_cons_succ]
            refine takeH (i := 58) (d := some 203) (v := ?_) rfl rfl (by kernel_rfl) (by kernel_rfl) (by kernel_rfl) (fun _ _ _ h => h) (Or.inl ⟨by rfl, ?_⟩) (by assumption) ?_
            rotate_left
            · intro w hSw
              try dsimp only at hSw
              go_simp
              try with_reducible rfl
            try simp only [Act.put, List.setIfInBounds_toArray, List.set_cons_zero, List.set_cons_succ]
            refine takeH (i := 59) (d := some 204) (v := ?_) rfl rfl (by kernel_rfl) (by kernel_rfl) (by kernel_rfl) (fun _ _ _ h => h) (Or.inl ⟨by rfl, ?_⟩) (by assumption) ?_
            rotate_left
            · intro w hSw
              try dsimp only at hSw
              have q0 := (HROW.out _ hSw).1
              go_simp
              try with_reducible rfl
            try simp only [Act.put, List.setIfInBounds_toArray, List.set_cons_zero, List.set_cons_succ]
            refine wpAnyH_ready (rs := [55]) (by kernel_rfl) (by simp) ?_
            refine AllReadyH.cons rfl (fun K hK => ?_) AllReadyH.nil
            go_simp
            refine (hall_c _ (HD.out.h.made hHeld) (by omega)).mono ?_
            rintro e w' ⟨va, rfl, hoa, hm', hfa⟩
            have HOA := Lib.hid hoa
            clear hoa hfa
            go_wp2_with fail
            refine hK.out _ _ ?_ (fun hHeld => ?_)
            · exact Turns.trans hHeld hm'
            clear hK K
            try simp only [Act.put, List.setIfInBounds_toArray, List.set_cons_zero, List.set_cons_succ]
            refine wpAnyH_ready (rs := [60]) (by kernel_rfl) (by simp) ?_
            refine AllReadyH.cons rfl (fun K hK => ?_) AllReadyH.nil
            go_simp
            refine (same_c va _ _ _ (by first | exact HOA.out | exact HOA.out.turns hHeld (fun _ _ h => h)) (HROW.out _ hHeld).2 hln).mono ?_
            rintro e w' ⟨rfl, hm'⟩
            go_wp2_with fail
            refine hK.out _ _ ?_ (fun hHeld => ?_)
            · exact Turns.trans hHeld hm'
            clear hK K
            try simp only [Act.put, List.setIfInBounds_toArray, List.set_cons_zero, List.set_cons_succ]
            refine takeH (i := 61) (d := some 206) (v := ?_) rfl rfl (by kernel_rfl) (by kernel_rfl) (by kernel_rfl) (fun _ _ _ h => h) (Or.inl ⟨by rfl, ?_⟩) (by assumption) ?_
            rotate_left
            · intro w hSw
              try dsimp only at hSw
              go_simp
              try with_reducible rfl
            try simp only [Act.put, List.setIfInBounds_toArray, List.set_cons_zero, List.set_cons_succ]
            refine takeH (i := 62) (d := some 207) (v := ?_) rfl rfl (by kernel_rfl) (by kernel_rfl) (by kernel_rfl) (fun _ _ _ h => h) (Or.inl ⟨by rfl, ?_⟩) (by assumption) ?_
            rotate_left
            · intro w hSw
              try dsimp only at hSw
              go_simp
              try with_reducible rfl
            try simp only [Act.put, List.setIfInBounds_toArray, List.set_cons_zero, List.set_cons_succ]
            refine wpAnyH_done (by kernel_rfl) ?_ _
            have HM2 := Lib.hid hHeld
            clear hHeld HX HY HOA
            try clear hHeld
            try clear hHeld
            try clear hHeld
            try clear hHeld
            try clear hHeld
            try clear hHeld
            try clear hm'
            try clear hm'
            try clear hm'
            try clear hm'
            try clear hm'
            go_wp2_with fail
            refine (hrows_c _ (HD.out.h.made HM2.out) (by omega)).mono ?_
            rintro e w6' ⟨vr, ys, rfl, ho, hm, hfar, hord, hp⟩
            obtain ⟨av, cv, rfl⟩ := owns_slice ho
            have hyl := hp.length_eq
            have hneq : ((ys.length : Int) != (L.length : Int)) = false := by simp [hyl]
            have q0 := (HROW.out _ (HM2.out.trans hm)).1
            have HHP := Lib.hid (heaped_c _ _ _ ho (hstr hord hp HU.out HRI.out) (by omega))
            clear hyl
            have HD6 := Lib.hid (HD.out.made (HM2.out.trans hm))
            clear ho hm hfar hord hp HM2 HD
            go_wp2_with fail
            refine HHP.out.mono ?_
            rintro e w7' ⟨rfl, hm⟩
            have HD7 := Lib.hid (HD6.out.made hm)
            clear hm HHP HD6 q0
            go_wp2_with fail
            go_roundw
            case rel => exact ⟨i + 1, F, L, s', G, by omega, by go_num, HD7.out, by omega⟩
            case measure => simp [intOf]; omega
    · have i2 : ¬ (i : Int) < (len : Int) := by omega
      go_wp2_with fail
      refine (awake_c _).mono ?_
      rintro e w5 ⟨rfl, hm⟩
      have HM5 := Lib.hid (HD.out.m.trans hm)
      clear hm
      go_wp2_with fail
      go_ret
      exact ⟨rfl, HM5.out⟩
end Go.Proofs.Ytgjgopcomgclkaa
