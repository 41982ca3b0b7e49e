/-
  The document's heap with what is its own: Find, Remove, Add, Move.
-/
import Derived.Test.YtgjgopcomgclkaaRq
namespace Go.Proofs.Ytgjgopcomgclkaa
open Go.RowKit
set_option linter.unusedVariables false
set_option linter.unusedSimpArgs false

/-- The document's heap in block b, of the blocks F. -/
structure RefAt (w : World) (b : Nat) (t : TypeId) (rest : List Value) (F : Nat → Prop) (L : List It) (sq : Int) : Prop where
  ref : ∃ lv, RefH w b t rest lv L sq ∧ ∀ k, F k ↔ k = b ∨ lv.ownBlock = some k
theorem RefAt.fb {w : World} {b : Nat} {t : TypeId} {rest : List Value} {F : Nat → Prop} {L : List It} {sq : Int} (h : RefAt w b t rest F L sq) : ∀ k, F k → k < w.heap.size := by
  obtain ⟨lv, hr, hf⟩ := h.ref
  intro k hk
  rcases (hf k).1 hk with rfl | h
  · exact hr.blk.lt
  · exact hr.own.lt h
theorem RefAt.self {w : World} {b : Nat} {t : TypeId} {rest : List Value} {F : Nat → Prop} {L : List It} {sq : Int} (h : RefAt w b t rest F L sq) : F b := by
  obtain ⟨lv, hr, hf⟩ := h.ref
  exact (hf b).2 (.inl rfl)
theorem RefAt.turns {S : Nat → Prop} {w w' : World} {b : Nat} {t : TypeId} {rest : List Value} {F : Nat → Prop} {L : List It} {sq : Int} (h : RefAt w b t rest F L sq) (ht : Turns S w w') (hn : ∀ k, F k → ¬ S k) : RefAt w' b t rest F L sq := by
  obtain ⟨lv, hr, hf⟩ := h.ref
  exact ⟨lv, hr.turns ht (hn b ((hf b).2 (.inl rfl))) (fun k hk => hn k ((hf k).2 (.inr hk))), hf⟩
theorem RefAt.made {w w' : World} {b : Nat} {t : TypeId} {rest : List Value} {F : Nat → Prop} {L : List It} {sq : Int} (h : RefAt w b t rest F L sq) (ht : Made w w') : RefAt w' b t rest F L sq := h.turns ht (fun _ _ h => h)
/-- A new row in the old block. -/
theorem RefAt.anew {w w' : World} {b : Nat} {t : TypeId} {rest : List Value} {F : Nat → Prop} {L L' : List It} {sq sq' : Int} {lv' : Value} (h : RefAt w b t rest F L sq) (hr : RefH w' b t rest lv' L' sq') (ht : Turns (fun c => c = b) w w') (hf : ∀ c, lv'.ownBlock = some c → w.heap.size ≤ c) :
    ∃ F', RefAt w' b t rest F' L' sq' ∧ Stp w w' F F' :=
  ⟨fun k => k = b ∨ lv'.ownBlock = some k, ⟨lv', hr, fun _ => Iff.rfl⟩, ht.mono (fun k _ e => by rw [e]; exact h.self), fun k hk => by
    rcases hk with rfl | h2
    · exact .inl h.self
    · exact .inr (hf k h2)⟩

theorem find_at {L : List It} (hu : Uniq L) {id : Int} {x : It} (h : findL id L = some x) : ∃ k : Nat, L[k]? = some x ∧ x.id = id := by
  obtain ⟨hm, hid⟩ := (findL_some hu id x).1 h
  obtain ⟨k, hk⟩ := List.mem_iff_getElem?.1 hm
  exact ⟨k, hk, hid⟩

theorem rfind_c {w : World} {b : Nat} {t : TypeId} {rest : List Value} {F : Nat → Prop} {L : List It} {sq : Int} (id : Int) (h : RefAt w b t rest F L sq) (hn : L.length ≤ 1000000) {x : It} (hx : findL id L = some x) (hu : Uniq L) :
    Calls Try.prog 44 #[.pointer (some ⟨b, 0, none⟩), .int .i64 id] w fun e w' => ∃ k : Nat, e = .returned (.int .i64 k) ∧ w = w' ∧ L[k]? = some x := by
  obtain ⟨lv, hr, hf⟩ := h.ref
  obtain ⟨k, hk, hid⟩ := find_at hu hx
  exact (rfind_some id w hr hn hk hid hu).mono fun e w' ⟨h1, h2⟩ => ⟨k, h1, h2, hk⟩
theorem rfind_n {w : World} {b : Nat} {t : TypeId} {rest : List Value} {F : Nat → Prop} {L : List It} {sq : Int} (id : Int) (h : RefAt w b t rest F L sq) (hn : L.length ≤ 1000000) (hx : findL id L = none) :
    Calls Try.prog 44 #[.pointer (some ⟨b, 0, none⟩), .int .i64 id] w fun e w' => e = .returned (.int .i64 (-1)) ∧ w = w' := by
  obtain ⟨lv, hr, hf⟩ := h.ref
  exact rfind_none id w hr hn ((findL_none id).1 hx)
theorem rrem_c {w : World} {b : Nat} {t : TypeId} {rest : List Value} {F : Nat → Prop} {L : List It} {sq : Int} (id : Int) (h : RefAt w b t rest F L sq) (hn : L.length ≤ 1000000) {x : It} (hx : findL id L = some x) (hu : Uniq L) :
    Calls Try.prog 41 #[.pointer (some ⟨b, 0, none⟩), .int .i64 id] w fun e w' => e = .returned (.tuple #[aggT x, .bool true]) ∧ ∃ F', RefAt w' b t rest F' (delL id L) sq ∧ Stp w w' F F' := by
  obtain ⟨lv, hr, hf⟩ := h.ref
  obtain ⟨k, hk, hid⟩ := find_at hu hx
  refine (rrem_some id w hr hn hk hid hu).mono ?_
  rintro e w' ⟨rfl, lv', hr', ht, hfar⟩
  refine ⟨rfl, ?_⟩
  rw [← hid, delL_at L k x hu hk]
  exact h.anew hr' ht hfar
theorem rrem_n {w : World} {b : Nat} {t : TypeId} {rest : List Value} {F : Nat → Prop} {L : List It} {sq : Int} (id : Int) (h : RefAt w b t rest F L sq) (hn : L.length ≤ 1000000) (hx : findL id L = none) :
    Calls Try.prog 41 #[.pointer (some ⟨b, 0, none⟩), .int .i64 id] w fun e w' => e = .returned (.tuple #[aggT zeroT, .bool false]) ∧ Made w w' := by
  obtain ⟨lv, hr, hf⟩ := h.ref
  exact rrem_none id w hr hn ((findL_none id).1 hx)
theorem rput_at {w : World} {b : Nat} {t : TypeId} {rest : List Value} {F : Nat → Prop} {L : List It} {sq : Int} (id when : Int) (h : RefAt w b t rest F L sq) (hn : L.length ≤ 1000000) (hsq : 0 ≤ sq ∧ sq < 1000000) (hr : L.Pairwise lt) (hs : ∀ x ∈ L, x.seq ≤ sq) :
    Calls Try.prog 49 #[.pointer (some ⟨b, 0, none⟩), .int .i64 id, .int .i64 when] w fun e w' => (∃ v, e = .returned v) ∧ ∃ F', RefAt w' b t rest F' (insL ⟨id, when, sq + 1⟩ L) (sq + 1) ∧ Stp w w' F F' := by
  obtain ⟨lv, hrf, hf⟩ := h.ref
  refine (rput_c id when w hrf hn hsq hr hs).mono ?_
  rintro e w' ⟨hv, lv', hr', ht, hfar⟩
  exact ⟨hv, h.anew hr' ht hfar⟩

theorem radd_yes {w : World} {b : Nat} {t : TypeId} {rest : List Value} {F : Nat → Prop} {L : List It} {sq : Int} (id when : Int) (h : RefAt w b t rest F L sq) (hn : L.length ≤ 1000000) {x : It} (hx : findL id L = some x) (hu : Uniq L) :
    Calls Try.prog 39 #[.pointer (some ⟨b, 0, none⟩), .int .i64 id, .int .i64 when] w fun e w' => e = .returned (.int .i64 1) ∧ w = w' := by
  have H := Lib.hid (rfind_c id h hn hx hu)
  clear h hx hu
  go_enter Try.func39, Try.ntmps39
  go_wp2_with fail
  refine H.out.mono ?_
  rintro e w' ⟨k, rfl, rfl, hk⟩
  have i1 : (0 : Int) ≤ (k : Int) := Int.natCast_nonneg _
  clear hk H
  go_wp2_with fail
  go_ret
  exact ⟨rfl, rfl⟩
theorem radd_no {w : World} {b : Nat} {t : TypeId} {rest : List Value} {F : Nat → Prop} {L : List It} {sq : Int} (id when : Int) (h : RefAt w b t rest F L sq) (hn : L.length ≤ 1000000) (hsq : 0 ≤ sq ∧ sq < 1000000) (hr : L.Pairwise lt) (hs : ∀ x ∈ L, x.seq ≤ sq) (hx : findL id L = none) :
    Calls Try.prog 39 #[.pointer (some ⟨b, 0, none⟩), .int .i64 id, .int .i64 when] w fun e w' => e = .returned (.int .i64 0) ∧ ∃ F', RefAt w' b t rest F' (insL ⟨id, when, sq + 1⟩ L) (sq + 1) ∧ Stp w w' F F' := by
  have H := Lib.hid (rfind_n id h hn hx)
  have HP := Lib.hid (rput_at id when h hn hsq hr hs)
  clear h hx hr hs hsq
  go_enter Try.func39, Try.ntmps39
  go_wp2_with fail
  refine H.out.mono ?_
  rintro e w' ⟨rfl, rfl⟩
  go_wp2_with fail
  refine HP.out.mono ?_
  rintro e w' ⟨⟨v, rfl⟩, F', hr, hs⟩
  have HR := Lib.hid hr
  have HS := Lib.hid hs
  clear hr hs HP H
  go_wp2_with fail
  go_ret
  exact ⟨rfl, F', HR.out, HS.out⟩
theorem rmove_no {w : World} {b : Nat} {t : TypeId} {rest : List Value} {F : Nat → Prop} {L : List It} {sq : Int} (id when : Int) (h : RefAt w b t rest F L sq) (hn : L.length ≤ 1000000) (hx : findL id L = none) :
    Calls Try.prog 43 #[.pointer (some ⟨b, 0, none⟩), .int .i64 id, .int .i64 when] w fun e w' => e = .returned (.int .i64 4) ∧ Made w w' := by
  have H := Lib.hid (rrem_n id h hn hx)
  unfold aggT zeroT at H
  clear h hx
  go_enter Try.func43, Try.ntmps43
  go_wp2_with fail
  refine H.out.mono ?_
  rintro e w' ⟨rfl, hm⟩
  have HM := Lib.hid hm
  clear hm
  go_wp2_with fail
  go_ret
  exact ⟨rfl, by first | exact HM.out | exact HM.out.alloc _⟩
theorem rmove_yes {w : World} {b : Nat} {t : TypeId} {rest : List Value} {F : Nat → Prop} {L : List It} {sq : Int} (id when : Int) (h : RefAt w b t rest F L sq) (hn : L.length ≤ 1000000) (hsq : 0 ≤ sq ∧ sq < 1000000) (hr : L.Pairwise lt) (hs : ∀ x ∈ L, x.seq ≤ sq) {x : It} (hx : findL id L = some x) (hu : Uniq L) :
    Calls Try.prog 43 #[.pointer (some ⟨b, 0, none⟩), .int .i64 id, .int .i64 when] w fun e w' => e = .returned (.int .i64 0) ∧ ∃ F', RefAt w' b t rest F' (insL ⟨id, when, sq + 1⟩ (delL id L)) (sq + 1) ∧ Stp w w' F F' := by
  have H := Lib.hid (rrem_c id h hn hx hu)
  have HRI := Lib.hid (delL_rise hr id)
  have HSQ := Lib.hid (show ∀ x ∈ delL id L, x.seq ≤ sq from fun x hx => hs x (delL_mem.1 hx).1)
  have hn' : (delL id L).length ≤ 1000000 := Nat.le_trans (delL_le L id) hn
  unfold aggT at H
  clear h hx hu hr hs hn
  go_enter Try.func43, Try.ntmps43
  go_wp2_with fail
  refine H.out.mono ?_
  rintro e w' ⟨rfl, F', hr, hs⟩
  have HR := Lib.hid hr
  have HS := Lib.hid hs
  clear hr hs H
  go_wp2_with fail
  refine (rput_at id when (by first | exact HR.out | exact HR.out.made ((Turns.refl _ _).alloc _)) hn' hsq HRI.out HSQ.out).mono ?_
  rintro e w2 ⟨⟨v, rfl⟩, F2, hr, hs⟩
  have HR2 := Lib.hid hr
  have HS2 := Lib.hid hs
  clear hr hs HR
  go_wp2_with fail
  go_ret
  exact ⟨rfl, F2, HR2.out, by first | exact HS.out.trans HS2.out | exact (HS.out.trans (Stp.made ((Turns.refl _ _).alloc _))).trans HS2.out⟩
end Go.Proofs.Ytgjgopcomgclkaa
