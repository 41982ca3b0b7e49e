/-
  Contracts of package deal: New, Add.
-/
import Derived.Test.YtninfnpecgpfhaaProg
import Derived.Test.YtninfnpecgpfhaaMem
import Derived.WalkKit
import Derived.WalkSpells
import Derived.WalkLawsBesides
import Derived.BigQuiet
import Derived.Deep.QuietTactic
import Derived.Deep.DeepFit
namespace Go.Proofs.Ytninfnpecgpfhaa
open Go.RowKit
set_option linter.unusedVariables false
set_option linter.unusedSimpArgs false

/-- A deal. -/
structure DealT where
  ch : Int
  task : Int
  value : Int
  got : Bool
  at_ : Int
def encD (d : DealT) : List Value := [.int .i64 d.ch, .int .i64 d.task, .int .i64 d.value, .bool d.got, .int .i64 d.at_]
theorem encD_len (d : DealT) : (encD d).length = 5 := rfl
def aggD (d : DealT) : Value := .agg #[.int .i64 d.ch, .int .i64 d.task, .int .i64 d.value, .bool d.got, .int .i64 d.at_]

theorem Try.infoD : (Try.prog.info? 27).map (fun i => (i.zero, i.size, i.bytes)) = some (some (.agg #[.int .i64 0, .int .i64 0, .int .i64 0, .bool false, .int .i64 0]), 5, 40) := by kernel_rfl
theorem Try.infoI : (Try.prog.info? 3).map (fun i => (i.zero, i.size, i.bytes)) = some (some (.int .i64 0), 1, 8) := by kernel_rfl

/-- The log behind a pointer. -/
structure LogAt (w : World) (p : Nat) (lv : Value) (ds : List DealT) : Prop where
  blk : Blk w p 42 #[lv]
  own : Owns encD 27 5 w lv ds
  ne : lv.ownBlock ≠ some p

theorem dnew_c (w : World) : Calls Try.prog 9 #[] w fun e w' => e = .returned (.pointer (some ⟨w.heap.size, 0, none⟩)) ∧ w.alloc (.cells #[.slice none 0 0] 42) = w' := by
  go_enter Try.func9, Try.ntmps9
  go_wp2
  go_ret
  exact ⟨rfl, rfl⟩

theorem dadd_nil (d : DealT) (w : World) : Calls Try.prog 10 #[.pointer none, aggD d] w fun e w' => e = .returned (.int .i64 1) ∧ w.alloc (.cells (encD d).toArray 27) = w' := by
  unfold aggD encD
  go_enter Try.func10, Try.ntmps10
  go_wp2
  go_ret
  exact ⟨rfl, rfl⟩

theorem dadd_bad (d : DealT) (a : Addr) (hb : d.ch < 0 ∨ d.task < -1) (w : World) : Calls Try.prog 10 #[.pointer (some a), aggD d] w fun e w' => e = .returned (.int .i64 1) ∧ w.alloc (.cells (encD d).toArray 27) = w' := by
  unfold aggD encD
  by_cases h1 : d.ch < 0
  · clear hb
    go_enter Try.func10, Try.ntmps10
    go_wp2
    go_ret
    exact ⟨rfl, rfl⟩
  · have h2 : d.task < -1 := by omega
    clear hb
    go_enter Try.func10, Try.ntmps10
    go_wp2
    go_ret
    exact ⟨rfl, rfl⟩

/-- What the append and the store leave. -/
theorem log_added {w W w1 : World} {p : Nat} {lv : Value} {ds : List DealT} {d : DealT} {o : Obj} {gg cap : Nat} (HP : Blk W p 42 #[lv]) (HT : Turns (fun k => k = p ∨ lv.ownBlock = some k) w W) (HN : lv.ownBlock ≠ some p)
    (hgrow : (W.alloc o).drew.grownBy w1 lv.ownBlock) (hown : w1.ownsRow 0 27 5 (.slice (some ⟨gg, 0, none⟩) (ds.length + 1) cap) (ds.length + 1) (flat encD ds ++ encD d))
    (hat : lv.ownBlock = some gg ∨ gg = W.heap.size + 1) :
    ∃ lv', LogAt (w1.setCell ⟨p, 0, none⟩ (.slice (some ⟨gg, 0, none⟩) (ds.length + 1) cap)) p lv' (ds ++ [d]) ∧ Turns (fun k => k = p ∨ lv.ownBlock = some k) w (w1.setCell ⟨p, 0, none⟩ (.slice (some ⟨gg, 0, none⟩) (ds.length + 1) cap)) ∧
      (∀ k, lv'.ownBlock = some k → lv.ownBlock = some k ∨ w.heap.size ≤ k) := by
  have hpl := HP.lt
  have hg : ¬ gg = p := by
    rcases hat with h | h
    · intro e; subst e; exact HN h
    · omega
  have hp1 : Blk w1 p 42 #[lv] := (hgrow.block p (by simp; omega) (fun e => HN e.symm)).trans (HP.alloc o)
  have ht1 : Turns (fun k => k = p) w1 (w1.setCell ⟨p, 0, none⟩ (.slice (some ⟨gg, 0, none⟩) (ds.length + 1) cap)) := (Turns.refl (fun k => k = p) w1).setCell (p := ⟨p, 0, none⟩) (fun _ => rfl) _
  refine ⟨_, ⟨hp1.put 0 _, ?_, ?_⟩, ?_, ?_⟩
  · have := Turns.owns ht1 hown (fun k hk => by
      simp only [Value.ownBlock, Option.some.injEq] at hk
      omega)
    unfold Owns
    rw [flat_append, List.length_append]
    simpa [flat] using this
  · simp only [Value.ownBlock, ne_eq, Option.some.injEq]
    exact hg
  · exact (((HT.alloc o).drew).grown hgrow (fun k hk _ => .inr hk)).setCell (p := ⟨p, 0, none⟩) (fun _ => .inl rfl) _
  · intro k hk
    simp only [Value.ownBlock, Option.some.injEq] at hk
    subst hk
    rcases hat with h | h
    · exact .inl h
    · have := HT.size; exact .inr (by omega)

set_option maxHeartbeats 1000000 in
set_option maxRecDepth 100000 in
theorem dadd_c (d : DealT) (p : Nat) (lv : Value) (ds : List DealT) (w : World) (h1 : 0 ≤ d.ch) (h2 : -1 ≤ d.task) (hl : LogAt w p lv ds) (hn : ds.length ≤ 1000000) :
    Calls Try.prog 10 #[.pointer (some ⟨p, 0, none⟩), aggD d] w fun e w' => e = .returned (.int .i64 0) ∧ ∃ lv', LogAt w' p lv' (ds ++ [d]) ∧ Turns (fun k => k = p ∨ lv.ownBlock = some k) w w' ∧ (∀ k, lv'.ownBlock = some k → lv.ownBlock = some k ∨ w.heap.size ≤ k) := by
  unfold aggD
  have n1 : ¬ d.ch < 0 := by omega
  have n2 : ¬ d.task < -1 := by omega
  have hcell := hl.blk.cell 0
  simp only [List.getElem?_toArray, List.getElem?_cons_zero] at hcell
  have hf := hl.blk.free 0
  have hlt := hl.blk.lt
  obtain ⟨i0, hi0, hz0, hz1, hz2⟩ := info_parts Try.infoD
  go_enter Try.func10, Try.ntmps10
  go_wp2_with (fail)
  have hbox := Blk.new w 27 (encD d).toArray
  have hblk1 := hl.blk.alloc (.cells (encD d).toArray 27)
  have hown1 : Owns encD 27 5 (w.alloc (.cells (encD d).toArray 27)) lv ds := World.ownsRow.alloc hl.own _
  have ht1 : Turns (fun k => k = p ∨ lv.ownBlock = some k) w (w.alloc (.cells (encD d).toArray 27)) := (Turns.refl _ _).alloc _
  have hsz1 : (w.alloc (.cells (encD d).toArray 27)).heap.size = w.heap.size + 1 := by simp
  have hne := hl.ne
  have hlo := fun k (hk : lv.ownBlock = some k) => hl.own.lt hk
  clear hcell hf hl
  unfold encD at hbox hblk1 hown1 ht1 hsz1
  generalize w.alloc (.cells [.int .i64 d.ch, .int .i64 d.task, .int .i64 d.value, .bool d.got, .int .i64 d.at_].toArray 27) = W at *
  have c0 := hblk1.cell 0
  have f0 := hblk1.free 0
  have b0 := hbox.cell 0
  have b1 := hbox.cell 1
  have b2 := hbox.cell 2
  have b3 := hbox.cell 3
  have b4 := hbox.cell 4
  simp only [List.getElem?_toArray, List.getElem?_cons_zero, List.getElem?_cons_succ] at c0 b0 b1 b2 b3 b4
  have hpb : ¬ w.heap.size = p := by omega
  have HP := Lib.hid hblk1
  have HB := Lib.hid hbox
  have HO := Lib.hid hown1
  have HT := Lib.hid ht1
  have HS := Lib.hid hsz1
  have HN := Lib.hid hne
  have HL := Lib.hid hlo
  clear hblk1 hbox hown1 ht1 hsz1 hne hlo
  have HLn : ¬ lv.ownBlock = some w.heap.size := fun e => by have := HL.out _ e; omega
  have hWp : p < W.heap.size := HP.out.lt
  have hWb : w.heap.size < W.heap.size := HB.out.lt
  go_region_law
    ((refine step_append_lies _ (by rfl) _ _ _ (by rfl) 0 27 i0 _ 5 40 Try.underlying24 hi0 hz0 hz1 hz2 rfl (by omega) lv ds.length (flat encD ds) (by rfl) (World.ownsRow.drew (World.ownsRow.alloc HO.out _))
        ⟨W.heap.size, 0, none⟩ 1 1 (encD d) (by rfl) (by rfl) (World.news_of_block (cs := (encD d).toArray) (t := 27) (fr := (0, 0)) (heap_alloc_new W _)) (by simp [encD, Value.oneCell'])
        (by omega) (by unfold maxLen; omega) (by omega) (by simp) (W.heap.size + 1) (by simp) ?_; intro gg cap w1 hown1 hgrow hat hlt; have hfz1 : w1.frozen? ⟨p, 0, none⟩ = false := (hgrow.frozen_far ⟨p, 0, none⟩ (by simp; omega) (fun e => HN.out e.symm)).trans ((HP.out.alloc _).free 0); have hcz1 : w1.cell? ⟨p, 0, none⟩ = some lv := (hgrow.cell_far ⟨p, 0, none⟩ (by simp; omega) (fun e => HN.out e.symm)).trans ((HP.out.alloc _).cell 0)))
  all_goals
    go_wp2_with (fail)
    go_ret
    exact ⟨rfl, log_added HP.out HT.out HN.out hgrow hown1 hat⟩
end Go.Proofs.Ytninfnpecgpfhaa
