/-
  Contracts of package heap: New, Len, Find, Min, Rows.
-/
import Derived.Test.YtgjgopcomgclkaaHpS
import Derived.Handy
import Derived.Carry
namespace Go.Proofs.Ytgjgopcomgclkaa
open Go.RowKit
set_option linter.unusedVariables false
set_option linter.unusedSimpArgs false

theorem Try.infoT : (Try.prog.info? 30).map (fun i => (i.zero, i.size, i.bytes)) = some (some (.agg #[.int .i64 0, .int .i64 0, .int .i64 0]), 3, 24) := by kernel_rfl

def zeroT : It := ⟨0, 0, 0⟩
def optT (o : Option It) : It := o.getD zeroT

theorem run_mkmap {P : Program} (t : TypeId) (w : World) : (Instr.makeMap t none).run P w = .ok (.map (some w.heap.size)) (w.alloc (.map #[] 0)) := rfl
attribute [local go_sem] run_mkmap

theorem hnew_c (w : World) : Calls Try.prog 16 #[] w fun e w' => ∃ (p : Nat) (F : Nat → Prop), e = .returned (.pointer (some ⟨p, 0, none⟩)) ∧ HeapAt w' p F [] 0 ∧ Made w w' ∧ (∀ k, F k → w.heap.size ≤ k) := by
  have hm := MapI.new w
  have hb := Blk.new (w.alloc (.map #[] 0)) 89 #[.slice none 0 0, .map (some w.heap.size), .int .i64 0]
  have hmm := hm.alloc (.cells #[.slice none 0 0, .map (some w.heap.size), .int .i64 0] 89)
  have ht : Made w ((w.alloc (.map #[] 0)).alloc (.cells #[.slice none 0 0, .map (some w.heap.size), .int .i64 0] 89)) := ((Turns.refl _ _).alloc _).alloc _
  have hs : (w.alloc (.map #[] 0)).heap.size = w.heap.size + 1 := by simp
  rw [hs] at hb
  have HM := Lib.hid hmm
  have HB := Lib.hid hb
  have HT := Lib.hid ht
  clear hm hmm hb ht
  go_enter Try.func16, Try.ntmps16
  go_wp2_with fail
  go_ret
  refine ⟨w.heap.size + 1, fun k => k = w.heap.size + 1 ∨ k = w.heap.size, by simp, ⟨w.heap.size, _, [], _, { raw := ⟨HB.out, ⟨rfl, .inl ⟨rfl, rfl⟩⟩, HM.out, by simp [Value.ownBlock], by simp [Value.ownBlock], by omega⟩, pos := ?_, uniq := ?_, ord := ?_, perm := List.Perm.refl _, rise := List.Pairwise.nil, seqs := ?_, len := by simp, fp := .inl rfl, fm := .inr rfl, fl := ?_, fb := ?_ }⟩, HT.out, ?_⟩
  · intro id v
    simp
  · intro a b x y ha; simp at ha
  · intro k u v _ hu; simp at hu
  · intro x hx; cases hx
  · intro k hk; simp [Value.ownBlock] at hk
  · intro k hk; have := HB.out.lt; rcases hk with rfl | rfl <;> omega
  · intro k hk; rcases hk with rfl | rfl <;> omega

theorem hlen_nil (w : World) : Calls Try.prog 20 #[.pointer none] w fun e w' => e = .returned (.int .i64 0) ∧ w = w' := by
  go_enter Try.func20, Try.ntmps20
  go_wp2
  go_ret
  exact ⟨rfl, rfl⟩
theorem hlen_raw {p mb : Nat} {lv : Value} {sq : Int} {ys : List It} {f : Int → Option Value} (w : World) (h : HRaw w p mb lv sq ys f) : Calls Try.prog 20 #[.pointer (some ⟨p, 0, none⟩)] w fun e w' => e = .returned (.int .i64 ys.length) ∧ w = w' := by
  have c0 := h.blk.cell 0
  simp only [List.getElem?_toArray, List.getElem?_cons_zero] at c0
  rcases h.own.form with ⟨rfl, rfl⟩ | ⟨g, cap, rfl, hg, hl, hm⟩
  all_goals
    clear h
    go_enter Try.func20, Try.ntmps20
    go_wp2
    go_ret
    exact ⟨by simp, rfl⟩
theorem hlen_c {p : Nat} {F : Nat → Prop} {L : List It} {sq : Int} (w : World) (h : HeapAt w p F L sq) : Calls Try.prog 20 #[.pointer (some ⟨p, 0, none⟩)] w fun e w' => e = .returned (.int .i64 L.length) ∧ w = w' := by
  obtain ⟨mb, lv, ys, f, h⟩ := h
  rw [← h.perm.length_eq]
  exact hlen_raw w h.raw

theorem hmin_nil (w : World) : Calls Try.prog 25 #[.pointer none] w fun e w' => e = .returned (.tuple #[aggT zeroT, .bool false]) ∧ Made w w' := by
  have H := Lib.hid (fun (w' : World) => hlen_nil w')
  unfold aggT zeroT
  go_enter Try.func25, Try.ntmps25
  go_wp2_with fail
  refine (H.out _).mono ?_
  rintro e w' ⟨rfl, rfl⟩
  go_wp2_with fail
  go_returns
  exact ⟨by simp, ((Turns.refl _ _).alloc _)⟩

theorem hmin_raw {p mb : Nat} {lv : Value} {sq : Int} {ys : List It} {f : Int → Option Value} (w : World) (h : HRaw w p mb lv sq ys f) : Calls Try.prog 25 #[.pointer (some ⟨p, 0, none⟩)] w fun e w' => e = .returned (.tuple #[aggT (optT ys[0]?), .bool ys[0]?.isSome]) ∧ Made w w' := by
  cases hy : ys with
  | nil =>
    subst hy
    have H := Lib.hid (fun (w' : World) (hm : Made w w') => hlen_raw w' (h.made hm))
    have HM := Lib.hid (fun (o : Obj) => ((Turns.refl (fun _ => False) w).alloc o))
    clear h
    simp only [List.getElem?_nil, optT, Option.getD_none, zeroT, aggT, Option.isSome_none]
    go_enter Try.func25, Try.ntmps25
    go_wp2_with fail
    refine (H.out _ (HM.out _)).mono ?_
    rintro e w' ⟨rfl, rfl⟩
    go_wp2_with fail
    go_returns
    exact ⟨by simp, ((Turns.refl _ _).alloc _)⟩
  | cons x l =>
    have hn : ¬ ((ys.length : Int) = 0) := by rw [hy]; simp; omega
    have hn2 : ((ys.length : Int) == 0) = false := beq_eq_false_iff_ne.mpr hn
    rcases h.own.form with ⟨rfl, h0⟩ | ⟨g, cap, rfl, hg, hl, hm⟩
    · rw [h0] at hy; cases hy
    have hx : ys[0]? = some x := by rw [hy]; rfl
    have H := Lib.hid (fun (w' : World) (hm : Made w w') => hlen_raw w' (h.made hm))
    have HM := Lib.hid (fun (o : Obj) => ((Turns.refl (fun _ => False) w).alloc o))
    have c0 := h.blk.cell 0
    have e0 : w.cell? ⟨g, 0 * 3, none⟩ = some (.int .i64 x.id) := Owns.cell encT_len h.own hx (j := 0) rfl
    have e1 : w.cell? ⟨g, 0 * 3 + 1, none⟩ = some (.int .i64 x.when) := Owns.cell encT_len h.own hx (j := 1) rfl
    have e2 : w.cell? ⟨g, 0 * 3 + 2, none⟩ = some (.int .i64 x.seq) := Owns.cell encT_len h.own hx (j := 2) rfl
    simp only [List.getElem?_toArray, List.getElem?_cons_zero, Nat.zero_mul, Nat.zero_add] at c0 e0 e1 e2
    have hpl := h.blk.lt
    rw [← hy]
    have hy2 : 0 < ys.length := by rw [hy]; simp
    rw [hx]
    clear hy h
    simp only [optT, Option.getD_some, aggT, Option.isSome_some]
    go_enter Try.func25, Try.ntmps25
    go_wp2_with fail
    refine (H.out _ (HM.out _)).mono ?_
    rintro e w' ⟨rfl, rfl⟩
    go_wp2_with fail
    go_returns
    exact ⟨by simp, ((Turns.refl _ _).alloc _)⟩
theorem hmin_c {p : Nat} {F : Nat → Prop} {L : List It} {sq : Int} (w : World) (h : HeapAt w p F L sq) : Calls Try.prog 25 #[.pointer (some ⟨p, 0, none⟩)] w fun e w' => e = .returned (.tuple #[aggT (optT L[0]?), .bool L[0]?.isSome]) ∧ Made w w' := by
  obtain ⟨mb, lv, ys, f, h⟩ := h
  rw [← h.first]
  exact hmin_raw w h.raw

theorem hfind_nil (id : Int) (w : World) : Calls Try.prog 26 #[.pointer none, .int .i64 id] w fun e w' => e = .returned (.tuple #[aggT zeroT, .bool false]) ∧ Made w w' := by
  unfold aggT zeroT
  go_enter Try.func26, Try.ntmps26
  go_wp2_with fail
  go_returns
  exact ⟨by simp, ((Turns.refl _ _).alloc _)⟩
theorem zero_int (w : World) : (zeroValue 3).run Try.prog w = .ok (.int .i64 0) w := by kernel_rfl
theorem hfind_in {p mb : Nat} {lv : Value} {sq : Int} {ys : List It} {f : Int → Option Value} {F : Nat → Prop} {L : List It} (id : Int) (w : World) (h : HeapIn w p mb lv sq ys f F L) : Calls Try.prog 26 #[.pointer (some ⟨p, 0, none⟩), .int .i64 id] w fun e w' => e = .returned (.tuple #[aggT (optT (findL id L)), .bool (findL id L).isSome]) ∧ Made w w' := by
  have c0 := h.raw.blk.cell 0
  have c1 := h.raw.blk.cell 1
  simp only [List.getElem?_toArray, List.getElem?_cons_zero, List.getElem?_cons_succ] at c0 c1
  have hpl := h.raw.blk.lt
  have H := Lib.hid (fun (o : Obj) => (h.raw.map.alloc o).look Try.underlying87 Try.underlying3 (zero_int _) id true)
  rcases h.find id with ⟨hf, hfi, _⟩ | ⟨k, x, hf, hfi, hk, hid, hx⟩
  · rw [hf]
    rw [hfi] at H
    clear h hf
    simp only [optT, Option.getD_none, aggT, zeroT, Option.isSome_none] at H ⊢
    go_enter Try.func26, Try.ntmps26
    go_wp2_with (at_lookup; refine wpList_lookrun _ rfl _ _ 87 true rfl _ _ _ rfl rfl (H.out _) ?_)
    go_returns
    exact ⟨by simp, ((Turns.refl _ _).alloc _)⟩
  · rw [hf]
    rw [hfi] at H
    rcases h.raw.own.form with ⟨rfl, h0⟩ | ⟨g, cap, rfl, hg, hl, hm⟩
    · rw [h0] at hk; simp at hk
    have e0 : w.cell? ⟨g, k * 3, none⟩ = some (.int .i64 x.id) := Owns.cell encT_len h.raw.own hk (j := 0) rfl
    have e1 : w.cell? ⟨g, k * 3 + 1, none⟩ = some (.int .i64 x.when) := Owns.cell encT_len h.raw.own hk (j := 1) rfl
    have e2 : w.cell? ⟨g, k * 3 + 2, none⟩ = some (.int .i64 x.seq) := Owns.cell encT_len h.raw.own hk (j := 2) rfl
    have hkl := (List.getElem?_eq_some_iff.1 hk).1
    have i1 : (0 : Int) ≤ (k : Int) := Int.natCast_nonneg _
    have i2 : (k : Int) < (ys.length : Int) := by omega
    clear h hf hk
    simp only [optT, Option.getD_some, aggT, zeroT, Option.isSome_some] at H ⊢
    go_enter Try.func26, Try.ntmps26
    go_wp2_with (at_lookup; refine wpList_lookrun _ rfl _ _ 87 true rfl _ _ _ rfl rfl (H.out _) ?_)
    go_returns
    exact ⟨by simp [hid], ((Turns.refl _ _).alloc _)⟩
theorem hfind_c {p : Nat} {F : Nat → Prop} {L : List It} {sq : Int} (id : Int) (w : World) (h : HeapAt w p F L sq) : Calls Try.prog 26 #[.pointer (some ⟨p, 0, none⟩), .int .i64 id] w fun e w' => e = .returned (.tuple #[aggT (optT (findL id L)), .bool (findL id L).isSome]) ∧ Made w w' := by
  obtain ⟨mb, lv, ys, f, h⟩ := h
  exact hfind_in id w h

theorem encT_one (ds : List It) : ∀ u ∈ flat encT ds, u.oneCell' = true := by
  intro u hu
  obtain ⟨d, _, hd⟩ := List.mem_flatMap.1 hu
  simp only [encT, List.mem_cons, List.not_mem_nil, or_false] at hd
  rcases hd with rfl | rfl | rfl <;> rfl

set_option maxHeartbeats 400000 in
theorem clone_c (v : Value) (ds : List It) (w : World) (ho : Owns encT 30 3 w v ds) (hn : ds.length ≤ 1000000) :
    Calls Try.prog 48 #[v] w fun e w' => ∃ v', e = .returned v' ∧ Owns encT 30 3 w' v' ds ∧ Made w w' ∧ (∀ k, v'.ownBlock = some k → w.heap.size ≤ k) := by
  rcases ho.form with ⟨rfl, rfl⟩ | ⟨g, cap, rfl, hg, hl, hm⟩
  · have hnil := Lib.run_eql_slice_nil (P := Try.prog)
    go_enter Try.func48, Try.ntmps48
    go_wp2
    go_ret
    exact ⟨_, rfl, ho, Turns.refl _ _, fun k hk => by simp [Value.ownBlock] at hk⟩
  · obtain ⟨i0, hi0, hz0, hz1, hz2⟩ := info_parts Try.infoT
    have hnil := Lib.run_eql_slice_nil (P := Try.prog)
    have HO := Lib.hid ho
    clear ho
    go_enter Try.func48, Try.ntmps48
    go_wp2_with (at_builtin; refine wpList_append_own _ rfl (.tmp 5) (.tmp 6) 39 rfl w.heap.size 30 i0 _ 3 24 Try.underlying39 hi0 hz0 hz1 hz2 rfl (by omega) _ 0 [] rfl ?own ⟨g, 0, none⟩ ds.length cap (flat encT ds) rfl ?len ?cells ?one ?b1 ?b2 ?b3 ?_)
    case own => exact World.ownsRow_made w #[] 0 (Nat.le_refl _) (Nat.zero_le _) rfl
    case len => exact flat_length encT_len ds
    case cells =>
      intro j u hu
      rw [Addr.add_lit]
      have h0 := World.ownsRow.cells (g := g) HO.out rfl j u hu
      rw [Addr.add_lit] at h0
      exact ((Below.refl w.heap.size w).alloc (Nat.le_refl _) _).cell (p := ⟨g, 0 + j, none⟩) hg |>.trans h0
    case one => exact encT_one ds
    case b1 => unfold maxLen; omega
    case b2 => omega
    case b3 => simp
    intro v' w1 hown hgrow _
    have hf := hown
    go_wp2
    go_ret
    refine ⟨v', rfl, ?_, ?_, ?_⟩
    · unfold Owns; simpa using owns_zero hown
    · exact ((Turns.refl _ _).alloc _).grown hgrow (fun k hk hlt => by simp [Value.ownBlock] at hk; omega)
    · exact fun k hk => (World.ownsRow.lt hown k hk).1

theorem hrows_c {p : Nat} {F : Nat → Prop} {L : List It} {sq : Int} (w : World) (h : HeapAt w p F L sq) (hn : sq ≤ 1000000) : Calls Try.prog 24 #[.pointer (some ⟨p, 0, none⟩)] w fun e w' => ∃ v' ys, e = .returned v' ∧ Owns encT 30 3 w' v' ys ∧ Made w w' ∧ (∀ k, v'.ownBlock = some k → w.heap.size ≤ k) ∧ HOrd ys ∧ ys.Perm L := by
  obtain ⟨mb, lv, ys, f, h⟩ := h
  have hc := h.raw.blk.cell 0
  simp only [List.getElem?_toArray, List.getElem?_cons_zero] at hc
  have HC := Lib.hid (clone_c lv ys w h.raw.own (by have := h.len; have := h.perm.length_eq; omega))
  have HE := Lib.hid (And.intro h.ord h.perm)
  clear h
  go_enter Try.func24, Try.ntmps24
  go_wp2_with fail
  refine HC.out.mono ?_
  rintro e w' ⟨v', rfl, h1, h2, h3⟩
  go_wp2_with fail
  go_ret
  exact ⟨v', ys, rfl, h1, h2, h3, HE.out.1, HE.out.2⟩
end Go.Proofs.Ytgjgopcomgclkaa
