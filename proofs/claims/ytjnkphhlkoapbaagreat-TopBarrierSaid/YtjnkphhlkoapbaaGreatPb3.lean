/-
  Walks and laws under LawTopBarrier, part 3.
-/
import Derived.Deep.DeepCutAuto
import Derived.Deep.CutBlock
import Derived.Deep.RegionLaw
import Derived.Test.YtjnkphhlkoapbaaGreatPb2
namespace Go.Proofs.YtjnkphhlkoapbaaGreat
open Go.RowKit
set_option linter.unusedVariables false
set_option linter.unusedSimpArgs false
theorem setCells_mid : ∀ (vs : List Value) (o : Nat) {w : World} {g : Nat} {t : TypeId} {pre old post : List Value}, pre.length = o → old.length = vs.length → Blk w g t (pre ++ old ++ post).toArray → Blk (w.setCells g o vs) g t (pre ++ vs ++ post).toArray
 | [], o, w, g, t, pre, old, post, h1, h2, hb => by
  have h0 : old = [] := List.length_eq_zero_iff.1 h2
  subst h0
  exact hb
 | v :: vs, o, w, g, t, pre, old, post, h1, h2, hb => by
  cases old with
  | nil => simp at h2
  | cons u old =>
   have hb2 : Blk (w.setCell ⟨g, o, none⟩ v) g t ((pre ++ [v]) ++ old ++ post).toArray := by
    have := hb.put o v
    subst h1
    simpa using this
   have := setCells_mid vs (o + 1) (pre := pre ++ [v]) (old := old) (post := post) (by simp [h1]) (by simpa using h2) hb2
   simpa [World.setCells] using this
section
variable {P : Program} {ops : Array Oper} {o : Oper} {a : Act} {K : Act → World → Prop} {Q : Exit → Act → World → Prop} {E : Prop} {w : World}
theorem exec_store_mid {ev : Operand → Value} {ty : TypeId} {x y : Operand} (ho : o.op = .store ty x y) {g n : Nat} (hx : ev x = .pointer (some ⟨g, n, none⟩)) {cs pre old post : List Value} {t : TypeId} (hy : ev y = .agg cs.toArray) (hb : Blk w g t (pre ++ old ++ post).toArray) (hn : pre.length = n) (hl : old.length = cs.length)
  (h1 : ∀ u ∈ cs, u.oneCell' = true) (hi : (P.info? ty).map (·.size) = some cs.length) : (execOp ev o).run P w = .ok .skip (w.setCells g n cs) := by
 unfold execOp
 have hst := run_storeVar_at (P := P) w g n ty cs (fun j hj => by rw [hb.cell (n + j)]; simp; omega) (fun j hj => hb.free _) h1 hi
 simp only [ho, hx, hy, Instr.storeAt, Instr.sureAddr, Sem.run_bind, Sem.run_pure, Result.andThen_ok, hst]
theorem step_store_mid (hgd : o.guard = none) (hdst : o.dst = none) (ty : TypeId) (x y : Operand) (ho : o.op = .store ty x y) {g n : Nat} (hx : a.eval x = .pointer (some ⟨g, n, none⟩)) (cs pre old post : List Value) {t : TypeId} (hy : a.eval y = .agg cs.toArray) (hb : Blk w g t (pre ++ old ++ post).toArray) (hn : pre.length = n) (hl : old.length = cs.length)
  (h1 : ∀ u ∈ cs, u.oneCell' = true) (hi : (P.info? ty).map (·.size) = some cs.length)
  (h : ∀ w', Blk w' g t (pre ++ cs ++ post).toArray → Turns (fun k => k = g) w w' → K a w') :
  if Region.wanted o (yielded ops a.tmps) = true then Oper.wp P o a w K Q else E := by
 have hw : Region.wanted o (yielded ops a.tmps) = true := by simp [Region.wanted, hgd]
 rw [if_pos hw]
 unfold Oper.wp
 rw [exec_store_mid ho hx hy hb hn hl h1 hi]
 show K (a.put o.dst undef) _
 rw [hdst]
 exact h _ (setCells_mid cs n hn hl hb) (setCells_turns (S := fun k => k = g) g rfl cs n w)
theorem wpList_store_mid {rest : List Oper} (hgd : o.guard = none) (hdst : o.dst = none) (ty : TypeId) (x y : Operand) (ho : o.op = .store ty x y) {g n : Nat} (hx : a.eval x = .pointer (some ⟨g, n, none⟩)) (cs pre old post : List Value) {t : TypeId} (hy : a.eval y = .agg cs.toArray) (hb : Blk w g t (pre ++ old ++ post).toArray) (hn : pre.length = n) (hl : old.length = cs.length)
  (h1 : ∀ u ∈ cs, u.oneCell' = true) (hi : (P.info? ty).map (·.size) = some cs.length)
  (h : ∀ w', Blk w' g t (pre ++ cs ++ post).toArray → Turns (fun k => k = g) w w' → wpList P ops Q rest a w') : wpList P ops Q (o :: rest) a w := by
 refine wpList_plain hgd fun K hK => ?_
 unfold Oper.wp
 rw [exec_store_mid ho hx hy hb hn hl h1 hi]
 have := h _ (setCells_mid cs n hn hl hb) (setCells_turns (S := fun k => k = g) g rfl cs n w)
 exact hK (a.put o.dst undef) _ (by rw [hdst]; exact this)
end
def regC (r : Reg) : List Value := [.int .i64 r.r0, .int .i64 r.r1, .int .i64 r.r2, .int .i64 r.r3, .int .i64 r.r4, .int .i64 r.r5, .int .i64 r.r6, .int .i64 r.r7]
theorem regC_one (r : Reg) : ∀ u ∈ regC r, u.oneCell' = true := by
 intro u hu
 simp only [regC, List.mem_cons, List.not_mem_nil, or_false] at hu
 rcases hu with rfl | rfl | rfl | rfl | rfl | rfl | rfl | rfl <;> rfl
theorem insC_one (x : Ins) : ∀ u ∈ insC x, u.oneCell' = true := by
 intro u hu
 simp only [insC, List.mem_cons, List.not_mem_nil, or_false] at hu
 rcases hu with rfl | rfl | rfl | rfl | rfl | rfl <;> rfl
theorem Tryz.sizeReg : (Tryz.prog.info? 36).map (·.size) = some 8 := by kernel_rfl
theorem Tryz.sizeIns : (Tryz.prog.info? 25).map (·.size) = some 6 := by kernel_rfl
theorem rowIn_one {w : World} {b : Nat} {t : TypeId} {x : Ins} (h : Blk w b t (insC x).toArray) : RowIn insC 6 w (some ⟨b, 0, none⟩) 1 [x] := by
 refine ⟨rfl, .inr ⟨b, 0, rfl, h.lt, fun k z hz j v hv => ?_⟩⟩
 have hk : k = 0 := by
  have := (List.getElem?_eq_some_iff.1 hz).1
  simp at this
  omega
 subst hk
 simp only [List.getElem?_cons_zero, Option.some.injEq] at hz
 subst hz
 have := h.cell (0 + 0 * 6 + j)
 rw [this]
 simpa using hv
end Go.Proofs.YtjnkphhlkoapbaaGreat
namespace Go.Proofs.YtjnkphhlkoapbaaGreat
open Go.RowKit
set_option linter.unusedVariables false
set_option linter.unusedSimpArgs false
set_option maxRecDepth 100000 in
set_option maxHeartbeats 4000000 in
theorem tabput_c {w : World} {q i : Nat} {F : Nat → Prop} {ts : List Tsk} {rd : List Int} {x : Tsk} {pc : Int} {r : Reg} (h : TabAt w q F ts rd) (hx : ts[i]? = some x) (hl : ts.length ≤ 64) (hst : x.st = 0) :
  Calls Tryz.prog 53 #[.pointer (some ⟨q, 0, none⟩), .int .i64 i, .int .i64 pc, regV r] w fun e w' => e = .returned (.int .i64 0) ∧ ∃ F', TabAt w' q F' (ts.set i ⟨x.prog, pc, x.st, x.how, r, x.ins⟩) rd ∧ Stp w w' F F' := by
 have hilt := (List.getElem?_eq_some_iff.1 hx).1
 have HM := Lib.hid ((Turns.refl (fun _ => False) w).alloc (.cells (regC r).toArray 36))
 have HR := Lib.hid (Blk.new w 36 (regC r).toArray)
 have HA := Lib.hid (tabis_run (h.made HM.out) hx hl hst)
 have HT := Lib.hid h
 clear h hx hst
 go_enter Tryz.func53, Tryz.ntmps53
 go_wp2_with fail
 refine HA.out.mono ?_
 rintro e w1 ⟨rfl, hm1⟩
 have HM1 := Lib.hid hm1
 clear hm1
 go_wp2_with (first
  | (refine wpList_store_blk (o := ⟨none, .store 38 (.tmp 9) (.tmp 15), _, _, _, _⟩) rfl _ _ _ rfl rfl _ rfl (tskC x) ([.int .i64 0, .int .i64 0, .int .i64 0, .int .i64 0, .int .i64 0, .int .i64 0, .int .i64 0, .int .i64 0, .int .i64 0, .int .i64 0, .int .i64 0, .int .i64 0, .int .i64 0, .int .i64 0, .int .i64 0, .int .i64 0, .slice none 0 0, .bool false]) 38 rfl (Blk.new _ _ _) rfl (tskC_one x) Tryz.sizeTsk ?_; intro w2 hb2 ht2; have HB2 := Lib.hid hb2; have HT2 := Lib.hid ht2; clear hb2 ht2)
  | fail)
 have HM2 := Lib.hid (show Made w w2 from HM.out.trans ((HM1.out.alloc _).then HT2.out (fun k hk e => by have := HM1.out.size; omega)))
 obtain ⟨pa, pl, lb, hin, hlab⟩ := HT.out
 have HIN0 := Lib.hid hin
 have HLB0 := Lib.hid hlab
 clear hin hlab HT
 have hlt : w.heap.size < w1.heap.size := (HR.out.turns HM1.out (fun h => h)).lt
 have HR2 := Lib.hid (HR.out.turns ((HM1.out.alloc (.cells tskZ 38)).then HT2.out (S := fun _ => False) (fun k hk e => by have := HM1.out.size; omega)) (fun h => h))
 refine wp_region_z (S := fun w' => Blk w' (w.heap.size) 36 (regC r).toArray ∧ Turns (fun k => k = w1.heap.size) w2 w') 5 (by kernel_rfl) ?_ (fun hHeld => ?_)
 ·exact ⟨HR2.out, (Turns.refl _ w2).drew⟩
 refine takeZ (i := 0) (d := some 19) (v := ?_) rfl rfl (by kernel_rfl) (by kernel_rfl) (by kernel_rfl) (by kernel_rfl) (fun _ _ _ h => h) (Or.inl ⟨by rfl, ?_⟩) (by assumption) ?_
 rotate_left
 ·intro w hSw
  try dsimp only at hSw
  go_simp
  try with_reducible rfl
 try simp only [Act.put, List.setIfInBounds_toArray, List.set_cons_zero, List.set_cons_succ]
 refine takeZ (i := 1) (d := some 20) (v := ?_) rfl rfl (by kernel_rfl) (by kernel_rfl) (by kernel_rfl) (by kernel_rfl) (fun _ _ _ h => h) (Or.inl ⟨by rfl, ?_⟩) (by assumption) ?_
 rotate_left
 ·intro w hSw
  try dsimp only at hSw
  refine exec_load_row (P := Tryz.prog) (x := .tmp 7) ?_ ?_ hSw.1 Tryz.underlying36 ?_ Tryz.sizeReg <;> rfl
 try simp only [Act.put, List.setIfInBounds_toArray, List.set_cons_zero, List.set_cons_succ]
 refine takeZ (i := 2) (d := some 21) (v := ?_) rfl rfl (by kernel_rfl) (by kernel_rfl) (by kernel_rfl) (by kernel_rfl) (fun _ _ _ h => h) (Or.inl ⟨by rfl, ?_⟩) (by assumption) ?_
 rotate_left
 ·intro w hSw
  try dsimp only at hSw
  go_simp
  try with_reducible rfl
 try simp only [Act.put, List.setIfInBounds_toArray, List.set_cons_zero, List.set_cons_succ]
 refine wpAnyZ_ready (rs := [3]) (by kernel_rfl) (by simp) ?_
 refine AllReadyZ.cons rfl (fun K hK => ?_) AllReadyZ.nil
 have qz := HB2.out.cell 1
 have qf := HB2.out.free 1
 simp only [tskC, List.getElem?_toArray, List.getElem?_cons_zero, List.getElem?_cons_succ] at qz
 have q2 : w2.drew.cell? ⟨w1.heap.size, 1, none⟩ = _ := qz
 have q3 : w2.drew.frozen? ⟨w1.heap.size, 1, none⟩ = _ := qf
 simp only [World.cell?_drew, World.frozen?_drew] at q2 q3
 go_simp
 refine hK.out _ _ ?_ (fun hHeld => ?_)
 ·exact ⟨hHeld.1.far (p := ⟨w1.heap.size, 1, none⟩) (fun e => by simp only at e; omega) _, hHeld.2.setCell (p := ⟨w1.heap.size, 1, none⟩) (fun _ => rfl) _⟩
 clear hK K
 try simp only [Act.put, List.setIfInBounds_toArray, List.set_cons_zero, List.set_cons_succ]
 refine takeZ (i := 4) (d := some 22) (v := ?_) rfl rfl (by kernel_rfl) (by kernel_rfl) (by kernel_rfl) (by kernel_rfl) (fun _ _ _ h => h) (Or.inl ⟨by rfl, ?_⟩) (by assumption) ?_
 rotate_left
 ·intro w hSw
  try dsimp only at hSw
  go_simp
  try with_reducible rfl
 try simp only [Act.put, List.setIfInBounds_toArray, List.set_cons_zero, List.set_cons_succ]
 refine wpAnyZ_ready (rs := [5]) (by kernel_rfl) (by simp) ?_
 refine AllReadyZ.last rfl (fun K hK => ?_) AllReadyZ.nil
 refine step_store_mid rfl rfl _ _ _ (by rfl) (by rfl) (regC r) [.int .i64 x.prog, .int .i64 pc, .int .i64 x.st, .int .i64 x.how] (regC x.regs) (insC x.ins) (by rfl) (t := 38) (show Blk (w2.setCell ⟨w1.heap.size, 1, none⟩ (.int .i64 pc)) w1.heap.size _ _ from by simpa [tskC, regC, insC] using HB2.out.put 1 (.int .i64 pc)) (by rfl) (by rfl) (regC_one r) Tryz.sizeReg ?_
 intro w3 hb3 ht3
 refine hK.out _ _ ?_
 clear hK K
 try simp only [Act.put, List.setIfInBounds_toArray, List.set_cons_zero, List.set_cons_succ]
 refine wpAnyZ_done (by kernel_rfl) ?_ _
 have HB3 : Hid (Blk w3 w1.heap.size 38 (tskA ⟨x.prog, pc, x.st, x.how, r, x.ins⟩)) := Lib.hid (by simpa [regC, insC] using hb3)
 have HM3 := Lib.hid (show Made w w3 from HM2.out.then ((((Turns.refl (fun k => k = w1.heap.size) w2).drew).setCell (p := ⟨w1.heap.size, 1, none⟩) (fun _ => rfl) (.int .i64 pc)).trans ht3) (fun k hk e => by omega))
 have HIN := Lib.hid (HIN0.out.turns HM3.out (fun _ _ h => h))
 have HLB := Lib.hid (HLB0.out.turns HM3.out)
 clear hHeld hb3 ht3
 go_wp2_with fail
 have HAR := Lib.hid (arset_c (w := w3.drew) ⟨x.prog, pc, x.st, x.how, r, x.ins⟩ (HIN.out.ar.made (Turns.refl (fun _ => False) w3).drew) hilt hl)
 have HQ := Lib.hid HIN.out.blk
 have HNQ := Lib.hid (show ¬ lb q = 2 from by rw [HIN.out.lq]; omega)
 have HNB := Lib.hid (show ¬ lb (w1.heap.size) = 2 from fun e => by have := HLB0.out.lt (w1.heap.size) (by omega); have := HM2.out.size; have := HM1.out.size; have := HM.out.size; omega)
 refine wp_region_held_drew (S := fun w' => Blk w' (q) 87 #[.pointer (some ⟨pa, 0, none⟩), .pointer (some ⟨pl, 0, none⟩)] ∧ Blk w' (w1.heap.size) 38 (tskA ⟨x.prog, pc, x.st, x.how, r, x.ins⟩) ∧ Turns (fun k => lb k = 2) w3 w') (by kernel_rfl) ?_ (fun hHeld => ?_)
 ·exact ⟨HQ.out, HB3.out, (Turns.refl _ w3).drew⟩
 refine takeH (i := 0) (d := some 23) (v := ?_) rfl rfl (by kernel_rfl) (by kernel_rfl) (by kernel_rfl) (fun _ _ _ h => h) (Or.inl ⟨by rfl, ?_⟩) (by assumption) ?_
 rotate_left
 ·intro w hSw
  try dsimp only at hSw
  go_simp
  try with_reducible rfl
 try simp only [Act.put, List.setIfInBounds_toArray, List.set_cons_zero, List.set_cons_succ]
 refine takeH (i := 1) (d := some 24) (v := ?_) rfl rfl (by kernel_rfl) (by kernel_rfl) (by kernel_rfl) (fun _ _ _ h => h) (Or.inl ⟨by rfl, ?_⟩) (by assumption) ?_
 rotate_left
 ·intro w hSw
  try dsimp only at hSw
  go_simp
  try with_reducible rfl
 try simp only [Act.put, List.setIfInBounds_toArray, List.set_cons_zero, List.set_cons_succ]
 refine takeH (i := 2) (d := some 25) (v := ?_) rfl rfl (by kernel_rfl) (by kernel_rfl) (by kernel_rfl) (fun _ _ _ h => h) (Or.inl ⟨by rfl, ?_⟩) (by assumption) ?_
 rotate_left
 ·intro w hSw
  try dsimp only at hSw
  go_simp
  try with_reducible rfl
 try simp only [Act.put, List.setIfInBounds_toArray, List.set_cons_zero, List.set_cons_succ]
 refine takeH (i := 3) (d := some 26) (v := ?_) rfl rfl (by kernel_rfl) (by kernel_rfl) (by kernel_rfl) (fun _ _ _ h => h) (Or.inl ⟨by rfl, ?_⟩) (by assumption) ?_
 rotate_left
 ·intro w hSw
  try dsimp only at hSw
  have q0_0 := hSw.1.cell 0
  have q0_1 := hSw.1.cell 1
  simp only [List.getElem?_toArray, List.getElem?_cons_zero, List.getElem?_cons_succ] at q0_0 q0_1
  go_simp
  try with_reducible rfl
 try simp only [Act.put, List.setIfInBounds_toArray, List.set_cons_zero, List.set_cons_succ]
 refine takeH (i := 4) (d := some 27) (v := ?_) rfl rfl (by kernel_rfl) (by kernel_rfl) (by kernel_rfl) (fun _ _ _ h => h) (Or.inl ⟨by rfl, ?_⟩) (by assumption) ?_
 rotate_left
 ·intro w hSw
  try dsimp only at hSw
  go_simp
  try with_reducible rfl
 try simp only [Act.put, List.setIfInBounds_toArray, List.set_cons_zero, List.set_cons_succ]
 refine takeH (i := 5) (d := some 28) (v := ?_) rfl rfl (by kernel_rfl) (by kernel_rfl) (by kernel_rfl) (fun _ _ _ h => h) (Or.inl ⟨by rfl, ?_⟩) (by assumption) ?_
 rotate_left
 ·intro w hSw
  try dsimp only at hSw
  refine exec_load_row (P := Tryz.prog) (x := .tmp 9) ?_ ?_ hSw.2.1 Tryz.underlying38 ?_ Tryz.sizeTsk <;> rfl
 try simp only [Act.put, List.setIfInBounds_toArray, List.set_cons_zero, List.set_cons_succ]
 refine wpAnyH_ready (rs := [6]) (by kernel_rfl) (by simp) ?_
 refine AllReadyH.cons rfl (fun K hK => ?_) AllReadyH.nil
 go_simp
 refine HAR.out.mono ?_
 rintro e w4 ⟨rfl, ha4, ht4⟩
 refine hK.out _ _ ?_ (fun hHeld => ?_)
 ·exact ⟨hHeld.1.turns ht4 HNQ.out, hHeld.2.1.turns ht4 HNB.out, hHeld.2.2.trans ht4⟩
 clear hK K
 try simp only [Act.put, List.setIfInBounds_toArray, List.set_cons_zero, List.set_cons_succ]
 refine wpAnyH_done (by kernel_rfl) ?_ _
 obtain ⟨lb4, F4, hin4, hlb4, hst4⟩ := (HIN.out.turns (Turns.refl (fun _ => False) w3).drew (fun _ _ h => h)).setAr (HLB.out.turns (Turns.refl (fun _ => False) w3).drew) ha4 (Stp.same ht4)
 have HIN4 := Lib.hid hin4
 have HLB4 := Lib.hid hlb4
 have HST4 := Lib.hid ((Stp.made (F := F) ((Turns.refl (fun _ => False) w3).drew)).trans hst4)
 clear hHeld ha4 ht4 hin4 hlb4 hst4
 go_wp2_with fail
 go_ret
 exact ⟨rfl, F4, ⟨pa, pl, lb4, HIN4.out, HLB4.out⟩, (Stp.made HM3.out).trans HST4.out⟩
end Go.Proofs.YtjnkphhlkoapbaaGreat
namespace Go.Proofs.YtjnkphhlkoapbaaGreat
open Go.RowKit
set_option linter.unusedVariables false
set_option linter.unusedSimpArgs false
set_option maxRecDepth 100000 in
set_option maxHeartbeats 4000000 in
theorem tabend_c {w : World} {q i : Nat} {F : Nat → Prop} {ts : List Tsk} {rd : List Int} {x : Tsk} {how : Int} {j : Nat} (h : TabAt w q F ts rd) (hx : ts[i]? = some x) (hl : ts.length ≤ 64) (hst : x.st = 0) (hj : rd[j]? = some (i : Int)) (hfj : ∀ k, k < j → rd[k]? ≠ some (i : Int)) (hrl : rd.length ≤ 1000) :
  Calls Tryz.prog 51 #[.pointer (some ⟨q, 0, none⟩), .int .i64 i, .int .i64 how] w fun e w' => e = .returned (.int .i64 0) ∧ ∃ F', TabAt w' q F' (ts.set i ⟨x.prog, x.pc, 2, how, x.regs, ⟨0, 0, 0, 0⟩⟩) (rd.eraseIdx j) ∧ Stp w w' F F' := by
 have hilt := (List.getElem?_eq_some_iff.1 hx).1
 have HM := Lib.hid (Turns.refl (fun _ => False) w)
 have hst : x.st ≠ 2 := by omega
 have HJ := Lib.hid (And.intro hj hfj)
 clear hj hfj
 have HA := Lib.hid (tabis_live (h.made HM.out) hx hl hst)
 have HT := Lib.hid h
 clear h hx hst
 go_enter Tryz.func51, Tryz.ntmps51
 go_wp2_with fail
 refine HA.out.mono ?_
 rintro e w1 ⟨rfl, hm1⟩
 have HM1 := Lib.hid hm1
 clear hm1
 go_wp2_with (first
  | (refine wpList_store_blk (o := ⟨none, .store 38 (.tmp 7) (.tmp 13), _, _, _, _⟩) rfl _ _ _ rfl rfl _ rfl (tskC x) ([.int .i64 0, .int .i64 0, .int .i64 0, .int .i64 0, .int .i64 0, .int .i64 0, .int .i64 0, .int .i64 0, .int .i64 0, .int .i64 0, .int .i64 0, .int .i64 0, .int .i64 0, .int .i64 0, .int .i64 0, .int .i64 0, .slice none 0 0, .bool false]) 38 rfl (Blk.new _ _ _) rfl (tskC_one x) Tryz.sizeTsk ?_; intro w2 hb2 ht2; have HB2 := Lib.hid hb2; have HT2 := Lib.hid ht2; have c2 := hb2.cell 2; have c3 := hb2.cell 3; have f2 := hb2.free 2; have f3 := hb2.free 3; simp only [tskC, List.getElem?_toArray, List.getElem?_cons_zero, List.getElem?_cons_succ] at c2 c3; clear hb2 ht2)
  | (refine wpList_store_mid (o := ⟨none, .store 25 (.tmp 22) (.tmp 19), _, _, _, _⟩) rfl rfl _ _ _ rfl rfl (insC ⟨0, 0, 0, 0⟩) [.int .i64 x.prog, .int .i64 x.pc, .int .i64 2, .int .i64 how, .int .i64 x.regs.r0, .int .i64 x.regs.r1, .int .i64 x.regs.r2, .int .i64 x.regs.r3, .int .i64 x.regs.r4, .int .i64 x.regs.r5, .int .i64 x.regs.r6, .int .i64 x.regs.r7] (insC x.ins) [] (t := 38) rfl (show Blk ((w2.setCell ⟨w1.heap.size, 2, none⟩ (.int .i64 2)).setCell ⟨w1.heap.size, 3, none⟩ (.int .i64 how)) w1.heap.size _ _ from by simpa [tskC, insC] using (HB2.out.put 2 (.int .i64 2)).put 3 (.int .i64 how)) rfl rfl (insC_one _) Tryz.sizeIns ?_; intro w3 hb3 ht3; have HB30 := Lib.hid hb3; have HT30 := Lib.hid ht3; clear hb3 ht3)
  | fail)
 have HM2 := Lib.hid (show Made w w2 from HM.out.trans ((HM1.out.alloc _).then HT2.out (fun k hk e => by have := HM1.out.size; omega)))
 obtain ⟨pa, pl, lb, hin, hlab⟩ := HT.out
 have HIN0 := Lib.hid hin
 have HLB0 := Lib.hid hlab
 clear hin hlab HT
 have HB3 : Hid (Blk w3 w1.heap.size 38 (tskA ⟨x.prog, x.pc, 2, how, x.regs, ⟨0, 0, 0, 0⟩⟩)) := Lib.hid (by simpa [insC] using HB30.out)
 have HM3 := Lib.hid (show Made w w3 from HM2.out.then ((((Turns.refl (fun k => k = w1.heap.size) w2).setCell (p := ⟨w1.heap.size, 2, none⟩) (fun _ => rfl) (.int .i64 2)).setCell (p := ⟨w1.heap.size, 3, none⟩) (fun _ => rfl) (.int .i64 how)).trans HT30.out) (fun k hk e => by have := HM1.out.size; omega))
 have HIN := Lib.hid (HIN0.out.turns HM3.out (fun _ _ h => h))
 have HLB := Lib.hid (HLB0.out.turns HM3.out)
 have HAR := Lib.hid (arset_c (w := w3.drew) ⟨x.prog, x.pc, 2, how, x.regs, ⟨0, 0, 0, 0⟩⟩ (HIN.out.ar.made (Turns.refl (fun _ => False) w3).drew) hilt hl)
 have HQ := Lib.hid HIN.out.blk
 have HNQ := Lib.hid (show ¬ lb q = 2 from by rw [HIN.out.lq]; omega)
 have HNB := Lib.hid (show ¬ lb (w1.heap.size) = 2 from fun e => by have := HLB0.out.lt (w1.heap.size) (by omega); have := HM2.out.size; have := HM1.out.size; have := HM.out.size; omega)
 refine wp_region_held_drew (S := fun w' => Blk w' (q) 87 #[.pointer (some ⟨pa, 0, none⟩), .pointer (some ⟨pl, 0, none⟩)] ∧ Blk w' (w1.heap.size) 38 (tskA ⟨x.prog, x.pc, 2, how, x.regs, ⟨0, 0, 0, 0⟩⟩) ∧ Turns (fun k => lb k = 2) w3 w') (by kernel_rfl) ?_ (fun hHeld => ?_)
 ·exact ⟨HQ.out, HB3.out, (Turns.refl _ w3).drew⟩
 refine takeH (i := 0) (d := some 23) (v := ?_) rfl rfl (by kernel_rfl) (by kernel_rfl) (by kernel_rfl) (fun _ _ _ h => h) (Or.inl ⟨by rfl, ?_⟩) (by assumption) ?_
 rotate_left
 ·intro w hSw
  try dsimp only at hSw
  go_simp
  try with_reducible rfl
 try simp only [Act.put, List.setIfInBounds_toArray, List.set_cons_zero, List.set_cons_succ]
 refine takeH (i := 1) (d := some 24) (v := ?_) rfl rfl (by kernel_rfl) (by kernel_rfl) (by kernel_rfl) (fun _ _ _ h => h) (Or.inl ⟨by rfl, ?_⟩) (by assumption) ?_
 rotate_left
 ·intro w hSw
  try dsimp only at hSw
  go_simp
  try with_reducible rfl
 try simp only [Act.put, List.setIfInBounds_toArray, List.set_cons_zero, List.set_cons_succ]
 refine takeH (i := 2) (d := some 25) (v := ?_) rfl rfl (by kernel_rfl) (by kernel_rfl) (by kernel_rfl) (fun _ _ _ h => h) (Or.inl ⟨by rfl, ?_⟩) (by assumption) ?_
 rotate_left
 ·intro w hSw
  try dsimp only at hSw
  go_simp
  try with_reducible rfl
 try simp only [Act.put, List.setIfInBounds_toArray, List.set_cons_zero, List.set_cons_succ]
 refine takeH (i := 3) (d := some 26) (v := ?_) rfl rfl (by kernel_rfl) (by kernel_rfl) (by kernel_rfl) (fun _ _ _ h => h) (Or.inl ⟨by rfl, ?_⟩) (by assumption) ?_
 rotate_left
 ·intro w hSw
  try dsimp only at hSw
  have q0_0 := hSw.1.cell 0
  have q0_1 := hSw.1.cell 1
  simp only [List.getElem?_toArray, List.getElem?_cons_zero, List.getElem?_cons_succ] at q0_0 q0_1
  go_simp
  try with_reducible rfl
 try simp only [Act.put, List.setIfInBounds_toArray, List.set_cons_zero, List.set_cons_succ]
 refine takeH (i := 4) (d := some 27) (v := ?_) rfl rfl (by kernel_rfl) (by kernel_rfl) (by kernel_rfl) (fun _ _ _ h => h) (Or.inl ⟨by rfl, ?_⟩) (by assumption) ?_
 rotate_left
 ·intro w hSw
  try dsimp only at hSw
  go_simp
  try with_reducible rfl
 try simp only [Act.put, List.setIfInBounds_toArray, List.set_cons_zero, List.set_cons_succ]
 refine takeH (i := 5) (d := some 28) (v := ?_) rfl rfl (by kernel_rfl) (by kernel_rfl) (by kernel_rfl) (fun _ _ _ h => h) (Or.inl ⟨by rfl, ?_⟩) (by assumption) ?_
 rotate_left
 ·intro w hSw
  try dsimp only at hSw
  refine exec_load_row (P := Tryz.prog) (x := .tmp 7) ?_ ?_ hSw.2.1 Tryz.underlying38 ?_ Tryz.sizeTsk <;> rfl
 try simp only [Act.put, List.setIfInBounds_toArray, List.set_cons_zero, List.set_cons_succ]
 refine wpAnyH_ready (rs := [6]) (by kernel_rfl) (by simp) ?_
 refine AllReadyH.cons rfl (fun K hK => ?_) AllReadyH.nil
 go_simp
 refine HAR.out.mono ?_
 rintro e w4 ⟨rfl, ha4, ht4⟩
 refine hK.out _ _ ?_ (fun hHeld => ?_)
 ·exact ⟨hHeld.1.turns ht4 HNQ.out, hHeld.2.1.turns ht4 HNB.out, hHeld.2.2.trans ht4⟩
 clear hK K
 try simp only [Act.put, List.setIfInBounds_toArray, List.set_cons_zero, List.set_cons_succ]
 refine wpAnyH_done (by kernel_rfl) ?_ _
 obtain ⟨lb4, F4, hin4, hlb4, hst4⟩ := (HIN.out.turns (Turns.refl (fun _ => False) w3).drew (fun _ _ h => h)).setAr (HLB.out.turns (Turns.refl (fun _ => False) w3).drew) ha4 (Stp.same ht4)
 have HIN4 := Lib.hid hin4
 have HLB4 := Lib.hid hlb4
 have HST4 := Lib.hid ((Stp.made (F := F) ((Turns.refl (fun _ => False) w3).drew)).trans hst4)
 clear hHeld ha4 ht4 hin4 hlb4 hst4
 have q1 := HIN4.out.blk.cell 1
 simp only [List.getElem?_toArray, List.getElem?_cons_zero, List.getElem?_cons_succ] at q1
 go_wp2_with fail
 refine (rdrem_c (i := j) (i : Int) HIN4.out.rl HJ.out.1 HJ.out.2 hrl).mono ?_
 rintro e w5 ⟨rfl, hr5, ht5⟩
 obtain ⟨lb5, F5, hin5, hlb5, hst5⟩ := HIN4.out.setRd HLB4.out hr5 (Stp.same ht5)
 have HE := Lib.hid (And.intro hin5 (And.intro hlb5 hst5))
 clear hr5 ht5 hin5 hlb5 hst5 q1
 go_wp2_with fail
 go_ret
 exact ⟨rfl, F5, ⟨pa, pl, lb5, HE.out.1, HE.out.2.1⟩, ((Stp.made HM3.out).trans HST4.out).trans HE.out.2.2⟩
set_option maxRecDepth 100000 in
set_option maxHeartbeats 4000000 in
theorem tabpark_c {w : World} {q i : Nat} {F : Nat → Prop} {ts : List Tsk} {rd : List Int} {x : Tsk} {ia ib ic : Int} {j : Nat} (h : TabAt w q F ts rd) (hx : ts[i]? = some x) (hl : ts.length ≤ 64) (hst : x.st = 0) (hgd : GoodC ⟨11, ia, ib, ic⟩ 1) (hj : rd[j]? = some (i : Int)) (hfj : ∀ k, k < j → rd[k]? ≠ some (i : Int)) (hrl : rd.length ≤ 1000) :
  Calls Tryz.prog 52 #[.pointer (some ⟨q, 0, none⟩), .int .i64 i, insV ⟨11, ia, ib, ic⟩] w fun e w' => e = .returned (.int .i64 0) ∧ ∃ F', TabAt w' q F' (ts.set i ⟨x.prog, x.pc, 1, x.how, x.regs, ⟨11, ia, ib, ic⟩⟩) (rd.eraseIdx j) ∧ Stp w w' F F' := by
 have hilt := (List.getElem?_eq_some_iff.1 hx).1
 have HM := Lib.hid ((Turns.refl (fun _ => False) w).alloc (.cells #[.int .i64 11, .int .i64 ia, .int .i64 ib, .int .i64 ic, .slice none 0 0, .bool false] 25))
 have HI := Lib.hid (Blk.new w 25 #[.int .i64 11, .int .i64 ia, .int .i64 ib, .int .i64 ic, .slice none 0 0, .bool false])
 have HJ := Lib.hid (And.intro hj hfj)
 have HGD := Lib.hid hgd
 clear hj hfj hgd
 have HA := Lib.hid (tabis_run (h.made HM.out) hx hl hst)
 have HT := Lib.hid h
 clear h hx hst
 go_enter Tryz.func52, Tryz.ntmps52
 go_wp2_with fail
 refine HA.out.mono ?_
 rintro e w1 ⟨rfl, hm1⟩
 have HM1 := Lib.hid hm1
 clear hm1
 go_wp2_with (first
  | (refine wpList_store_blk (o := ⟨none, .store 38 (.tmp 7) (.tmp 13), _, _, _, _⟩) rfl _ _ _ rfl rfl _ rfl (tskC x) ([.int .i64 0, .int .i64 0, .int .i64 0, .int .i64 0, .int .i64 0, .int .i64 0, .int .i64 0, .int .i64 0, .int .i64 0, .int .i64 0, .int .i64 0, .int .i64 0, .int .i64 0, .int .i64 0, .int .i64 0, .int .i64 0, .slice none 0 0, .bool false]) 38 rfl (Blk.new _ _ _) rfl (tskC_one x) Tryz.sizeTsk ?_; intro w2 hb2 ht2; have HB2 := Lib.hid hb2; have HT2 := Lib.hid ht2; have HI2 := HI.out.turns ((HM1.out.alloc (.cells tskZ 38)).then HT2.out (S := fun _ => False) (fun k hk e => by have := HM1.out.size; omega)) (fun h => h); have i0 := HI2.cell 0; have i1 := HI2.cell 1; have i2 := HI2.cell 2; have i3 := HI2.cell 3; have i4 := HI2.cell 4; have i5 := HI2.cell 5; simp only [List.getElem?_toArray, List.getElem?_cons_zero, List.getElem?_cons_succ] at i0 i1 i2 i3 i4 i5; have HI2 := Lib.hid HI2; clear hb2 ht2)
  | fail)
 have HM2 := Lib.hid (show Made w w2 from HM.out.trans ((HM1.out.alloc _).then HT2.out (fun k hk e => by have := HM1.out.size; omega)))
 obtain ⟨pa, pl, lb, hin, hlab⟩ := HT.out
 have HIN0 := Lib.hid hin
 have HLB0 := Lib.hid hlab
 clear hin hlab HT
 have HBN := Blk.new w2 25 (insC ⟨11, ia, ib, ic⟩).toArray
 refine (check_c (xs := [⟨11, ia, ib, ic⟩]) (len := 1) (cap := 1) (w2.alloc (.cells (insC ⟨11, ia, ib, ic⟩).toArray 25)) (fun z hz => by simp only [List.mem_cons, List.not_mem_nil, or_false] at hz; subst hz; exact HGD.out) (rowIn_one HBN) (by omega)).mono ?_
 rintro e w3 ⟨rfl, hm3⟩
 have HM23 := Lib.hid (show Made w2 w3 from ((Turns.refl (fun _ => False) w2).alloc _).trans hm3)
 have HM3 := Lib.hid (HM2.out.trans HM23.out)
 have hi3 := HI2.out.turns HM23.out (fun h => h)
 have z4 := hi3.cell 4
 have fz4 := hi3.free 4
 simp only [List.getElem?_toArray, List.getElem?_cons_zero, List.getElem?_cons_succ] at z4
 have HI3 := Lib.hid hi3
 have HB3 := Lib.hid (HB2.out.turns HM23.out (fun h => h))
 clear HBN hm3 hi3
 go_wp2_with fail
 refine (noCases_c _).mono ?_
 rintro e w4 ⟨rfl, rfl⟩
 go_upto_region 7 with fail
 have hlt : w.heap.size < w1.heap.size := by
  have h1 := (HM1.out).size
  simp only [World.size_alloc] at h1
  omega
 have HI4 := HI3.out.put 4 (.slice none 0 0)
 simp only [List.setIfInBounds_toArray, List.set_cons_zero, List.set_cons_succ] at HI4
 have HI4 := Lib.hid HI4
 have HB4 := Lib.hid (HB3.out.far (p := ⟨w.heap.size, 4, none⟩) (fun e => by simp only at e; omega) (.slice none 0 0))
 have HM4 := Lib.hid (HM3.out.then (set1 w3 w.heap.size 4 (.slice none 0 0)) (fun k hk e => by omega))
 clear z4 fz4
 generalize w3.setCell ⟨w.heap.size, 4, none⟩ (.slice none 0 0) = V at *
 refine wp_region_held_drew (S := fun w' => Blk w' (w.heap.size) 25 #[.int .i64 11, .int .i64 ia, .int .i64 ib, .int .i64 ic, .slice none 0 0, .bool false] ∧ Turns (fun k => k = w1.heap.size) V w') (by kernel_rfl) ?_ (fun hHeld => ?_)
 ·exact ⟨HI4.out, (Turns.refl _ V).drew⟩
 refine takeH (i := 0) (d := some 41) (v := ?_) rfl rfl (by kernel_rfl) (by kernel_rfl) (by kernel_rfl) (fun _ _ _ h => h) (Or.inl ⟨by rfl, ?_⟩) (by assumption) ?_
 rotate_left
 ·intro w hSw
  try dsimp only at hSw
  refine exec_load_row (P := Tryz.prog) (x := .tmp 5) ?_ ?_ hSw.1 Tryz.underlying25 ?_ Tryz.sizeIns <;> rfl
 try simp only [Act.put, List.setIfInBounds_toArray, List.set_cons_zero, List.set_cons_succ]
 refine takeH (i := 1) (d := some 42) (v := ?_) rfl rfl (by kernel_rfl) (by kernel_rfl) (by kernel_rfl) (fun _ _ _ h => h) (Or.inl ⟨by rfl, ?_⟩) (by assumption) ?_
 rotate_left
 ·intro w hSw
  try dsimp only at hSw
  go_simp
  try with_reducible rfl
 try simp only [Act.put, List.setIfInBounds_toArray, List.set_cons_zero, List.set_cons_succ]
 refine wpAnyH_ready (rs := [2]) (by kernel_rfl) (by simp) ?_
 refine AllReadyH.cons rfl (fun K hK => ?_) AllReadyH.nil
 have qz := HB4.out.cell 2
 have qf := HB4.out.free 2
 simp only [tskC, List.getElem?_toArray, List.getElem?_cons_zero, List.getElem?_cons_succ] at qz
 have q2 : V.drew.cell? ⟨w1.heap.size, 2, none⟩ = _ := qz
 have q3 : V.drew.frozen? ⟨w1.heap.size, 2, none⟩ = _ := qf
 simp only [World.cell?_drew, World.frozen?_drew] at q2 q3
 go_simp
 refine hK.out _ _ ?_ (fun hHeld => ?_)
 ·exact ⟨hHeld.1.far (p := ⟨w1.heap.size, 2, none⟩) (fun e => by simp only at e; omega) _, hHeld.2.setCell (p := ⟨w1.heap.size, 2, none⟩) (fun _ => rfl) _⟩
 clear hK K
 try simp only [Act.put, List.setIfInBounds_toArray, List.set_cons_zero, List.set_cons_succ]
 refine takeH (i := 3) (d := some 43) (v := ?_) rfl rfl (by kernel_rfl) (by kernel_rfl) (by kernel_rfl) (fun _ _ _ h => h) (Or.inl ⟨by rfl, ?_⟩) (by assumption) ?_
 rotate_left
 ·intro w hSw
  try dsimp only at hSw
  go_simp
  try with_reducible rfl
 try simp only [Act.put, List.setIfInBounds_toArray, List.set_cons_zero, List.set_cons_succ]
 refine wpAnyH_ready (rs := [4]) (by kernel_rfl) (by simp) ?_
 refine AllReadyH.cons rfl (fun K hK => ?_) AllReadyH.nil
 refine step_store_mid rfl rfl _ _ _ (by rfl) (by rfl) (insC ⟨11, ia, ib, ic⟩) [.int .i64 x.prog, .int .i64 x.pc, .int .i64 1, .int .i64 x.how, .int .i64 x.regs.r0, .int .i64 x.regs.r1, .int .i64 x.regs.r2, .int .i64 x.regs.r3, .int .i64 x.regs.r4, .int .i64 x.regs.r5, .int .i64 x.regs.r6, .int .i64 x.regs.r7] (insC x.ins) [] (by rfl) (t := 38) (show Blk (V.setCell ⟨w1.heap.size, 2, none⟩ (.int .i64 1)) w1.heap.size _ _ from by simpa [tskC, insC] using HB4.out.put 2 (.int .i64 1)) (by rfl) (by rfl) (insC_one _) Tryz.sizeIns ?_
 intro w5 hb5 ht5
 refine hK.out _ _ ?_ (fun hHeld => ?_)
 ·exact ⟨hHeld.1.turns ht5 (fun e => by omega), hHeld.2.trans ht5⟩
 clear hK K
 try simp only [Act.put, List.setIfInBounds_toArray, List.set_cons_zero, List.set_cons_succ]
 refine wpAnyH_done (by kernel_rfl) ?_ _
 have HB3 : Hid (Blk w5 w1.heap.size 38 (tskA ⟨x.prog, x.pc, 1, x.how, x.regs, ⟨11, ia, ib, ic⟩⟩)) := Lib.hid (by simpa [insC] using hb5)
 have HM3 := Lib.hid (show Made w w5 from HM4.out.then hHeld.2 (fun k hk e => by omega))
 have HIN := Lib.hid (HIN0.out.turns HM3.out (fun _ _ h => h))
 have HLB := Lib.hid (HLB0.out.turns HM3.out)
 clear hHeld hb5 ht5
 go_wp2_with fail
 have HAR := Lib.hid (arset_c (w := w5.drew) ⟨x.prog, x.pc, 1, x.how, x.regs, ⟨11, ia, ib, ic⟩⟩ (HIN.out.ar.made (Turns.refl (fun _ => False) w5).drew) hilt hl)
 have HQ := Lib.hid HIN.out.blk
 have HNQ := Lib.hid (show ¬ lb q = 2 from by rw [HIN.out.lq]; omega)
 have HNB := Lib.hid (show ¬ lb (w1.heap.size) = 2 from fun e => by have := HLB0.out.lt (w1.heap.size) (by omega); have := HM2.out.size; have := HM1.out.size; have := HM.out.size; omega)
 refine wp_region_held_drew (S := fun w' => Blk w' (q) 87 #[.pointer (some ⟨pa, 0, none⟩), .pointer (some ⟨pl, 0, none⟩)] ∧ Blk w' (w1.heap.size) 38 (tskA ⟨x.prog, x.pc, 1, x.how, x.regs, ⟨11, ia, ib, ic⟩⟩) ∧ Turns (fun k => lb k = 2) w5 w') (by kernel_rfl) ?_ (fun hHeld => ?_)
 ·exact ⟨HQ.out, HB3.out, (Turns.refl _ w5).drew⟩
 refine takeH (i := 0) (d := some 44) (v := ?_) rfl rfl (by kernel_rfl) (by kernel_rfl) (by kernel_rfl) (fun _ _ _ h => h) (Or.inl ⟨by rfl, ?_⟩) (by assumption) ?_
 rotate_left
 ·intro w hSw
  try dsimp only at hSw
  go_simp
  try with_reducible rfl
 try simp only [Act.put, List.setIfInBounds_toArray, List.set_cons_zero, List.set_cons_succ]
 refine takeH (i := 1) (d := some 45) (v := ?_) rfl rfl (by kernel_rfl) (by kernel_rfl) (by kernel_rfl) (fun _ _ _ h => h) (Or.inl ⟨by rfl, ?_⟩) (by assumption) ?_
 rotate_left
 ·intro w hSw
  try dsimp only at hSw
  go_simp
  try with_reducible rfl
 try simp only [Act.put, List.setIfInBounds_toArray, List.set_cons_zero, List.set_cons_succ]
 refine takeH (i := 2) (d := some 46) (v := ?_) rfl rfl (by kernel_rfl) (by kernel_rfl) (by kernel_rfl) (fun _ _ _ h => h) (Or.inl ⟨by rfl, ?_⟩) (by assumption) ?_
 rotate_left
 ·intro w hSw
  try dsimp only at hSw
  go_simp
  try with_reducible rfl
 try simp only [Act.put, List.setIfInBounds_toArray, List.set_cons_zero, List.set_cons_succ]
 refine takeH (i := 3) (d := some 47) (v := ?_) rfl rfl (by kernel_rfl) (by kernel_rfl) (by kernel_rfl) (fun _ _ _ h => h) (Or.inl ⟨by rfl, ?_⟩) (by assumption) ?_
 rotate_left
 ·intro w hSw
  try dsimp only at hSw
  have q0_0 := hSw.1.cell 0
  have q0_1 := hSw.1.cell 1
  simp only [List.getElem?_toArray, List.getElem?_cons_zero, List.getElem?_cons_succ] at q0_0 q0_1
  go_simp
  try with_reducible rfl
 try simp only [Act.put, List.setIfInBounds_toArray, List.set_cons_zero, List.set_cons_succ]
 refine takeH (i := 4) (d := some 48) (v := ?_) rfl rfl (by kernel_rfl) (by kernel_rfl) (by kernel_rfl) (fun _ _ _ h => h) (Or.inl ⟨by rfl, ?_⟩) (by assumption) ?_
 rotate_left
 ·intro w hSw
  try dsimp only at hSw
  go_simp
  try with_reducible rfl
 try simp only [Act.put, List.setIfInBounds_toArray, List.set_cons_zero, List.set_cons_succ]
 refine takeH (i := 5) (d := some 49) (v := ?_) rfl rfl (by kernel_rfl) (by kernel_rfl) (by kernel_rfl) (fun _ _ _ h => h) (Or.inl ⟨by rfl, ?_⟩) (by assumption) ?_
 rotate_left
 ·intro w hSw
  try dsimp only at hSw
  refine exec_load_row (P := Tryz.prog) (x := .tmp 7) ?_ ?_ hSw.2.1 Tryz.underlying38 ?_ Tryz.sizeTsk <;> rfl
 try simp only [Act.put, List.setIfInBounds_toArray, List.set_cons_zero, List.set_cons_succ]
 refine wpAnyH_ready (rs := [6]) (by kernel_rfl) (by simp) ?_
 refine AllReadyH.cons rfl (fun K hK => ?_) AllReadyH.nil
 go_simp
 refine HAR.out.mono ?_
 rintro e w6 ⟨rfl, ha4, ht4⟩
 refine hK.out _ _ ?_ (fun hHeld => ?_)
 ·exact ⟨hHeld.1.turns ht4 HNQ.out, hHeld.2.1.turns ht4 HNB.out, hHeld.2.2.trans ht4⟩
 clear hK K
 try simp only [Act.put, List.setIfInBounds_toArray, List.set_cons_zero, List.set_cons_succ]
 refine wpAnyH_done (by kernel_rfl) ?_ _
 obtain ⟨lb4, F4, hin6, hlb4, hst4⟩ := (HIN.out.turns (Turns.refl (fun _ => False) w5).drew (fun _ _ h => h)).setAr (HLB.out.turns (Turns.refl (fun _ => False) w5).drew) ha4 (Stp.same ht4)
 have HIN4 := Lib.hid hin6
 have HLB4 := Lib.hid hlb4
 have HST4 := Lib.hid ((Stp.made (F := F) ((Turns.refl (fun _ => False) w5).drew)).trans hst4)
 clear hHeld ha4 ht4 hin6 hlb4 hst4
 have q1 := HIN4.out.blk.cell 1
 simp only [List.getElem?_toArray, List.getElem?_cons_zero, List.getElem?_cons_succ] at q1
 go_wp2_with fail
 refine (rdrem_c (i := j) (i : Int) HIN4.out.rl HJ.out.1 HJ.out.2 hrl).mono ?_
 rintro e w7 ⟨rfl, hr5, ht5⟩
 obtain ⟨lb5, F5, hin5, hlb5, hst5⟩ := HIN4.out.setRd HLB4.out hr5 (Stp.same ht5)
 have HE := Lib.hid (And.intro hin5 (And.intro hlb5 hst5))
 clear hr5 ht5 hin5 hlb5 hst5 q1
 go_wp2_with fail
 go_ret
 exact ⟨rfl, F5, ⟨pa, pl, lb5, HE.out.1, HE.out.2.1⟩, ((Stp.made HM3.out).trans HST4.out).trans HE.out.2.2⟩
end Go.Proofs.YtjnkphhlkoapbaaGreat
namespace Go.Proofs.YtjnkphhlkoapbaaGreat
open Go.RowKit
set_option linter.unusedVariables false
set_option linter.unusedSimpArgs false
theorem tsk_get (x : Tsk) {j : Nat} (hj : j < 8) : (tskA x)[4 + j]? = some (.int .i64 (x.regs.get j)) := by
 rcases lt8 hj with rfl | rfl | rfl | rfl | rfl | rfl | rfl | rfl <;> rfl
theorem tsk_set (pg pc st how : Int) (r : Reg) (ins : Ins) {j : Nat} (v : Int) (hj : j < 8) : (tskA ⟨pg, pc, st, how, r, ins⟩).setIfInBounds (4 + j) (.int .i64 v) = tskA ⟨pg, pc, st, how, r.set j v, ins⟩ := by
 rcases lt8 hj with rfl | rfl | rfl | rfl | rfl | rfl | rfl | rfl <;> rfl
def bitZ (b : Bool) : Int := if b then 1 else 0
set_option maxRecDepth 100000 in
set_option maxHeartbeats 4000000 in
theorem told_no {w : World} {b j k : Nat} {pg pc st how ia tk ks v : Int} {r : Reg} (hb : Blk w b 38 (tskA ⟨pg, pc, st, how, r, ⟨11, ia, j, k⟩⟩)) (hj : j < 8) (hk : k < 8) :
  Calls Tryz.prog 161 #[.pointer (some ⟨b, 0, none⟩), .agg #[.int .i64 tk, .int .i64 ks, .int .i64 v, .bool false, .bool false]] w fun e w' => e = .returned (.tuple #[]) ∧ Blk w' b 38 (tskA ⟨pg, pc, st, how, ((r.set j v).set k 0), ⟨11, ia, j, k⟩⟩) ∧ Turns (fun q => q = b) w w' := by
 have HM := Lib.hid (((Turns.refl (fun _ => False) w).alloc (.cells #[.int .i64 tk, .int .i64 ks, .int .i64 v, .bool false, .bool false] 207)).alloc (.cells #[.int .i64 11, .int .i64 ia, .int .i64 j, .int .i64 k, .slice none 0 0, .bool false] 25))
 have HB := Lib.hid (hb.turns HM.out (fun h => h))
 have HK := Lib.hid ((Blk.new w 207 #[.int .i64 tk, .int .i64 ks, .int .i64 v, .bool false, .bool false]).alloc (.cells #[.int .i64 11, .int .i64 ia, .int .i64 j, .int .i64 k, .slice none 0 0, .bool false] 25))
 have HI := Blk.new (w.alloc (.cells #[.int .i64 tk, .int .i64 ks, .int .i64 v, .bool false, .bool false] 207)) 25 #[.int .i64 11, .int .i64 ia, .int .i64 j, .int .i64 k, .slice none 0 0, .bool false]
 rw [World.size_alloc] at HI
 have HI := Lib.hid HI
 have hbl := hb.lt
 have z12 := (hb.alloc (.cells #[.int .i64 tk, .int .i64 ks, .int .i64 v, .bool false, .bool false] 207)).cell 12
 have z13 := (hb.alloc (.cells #[.int .i64 tk, .int .i64 ks, .int .i64 v, .bool false, .bool false] 207)).cell 13
 have z14 := (hb.alloc (.cells #[.int .i64 tk, .int .i64 ks, .int .i64 v, .bool false, .bool false] 207)).cell 14
 have z15 := (hb.alloc (.cells #[.int .i64 tk, .int .i64 ks, .int .i64 v, .bool false, .bool false] 207)).cell 15
 have z16 := (hb.alloc (.cells #[.int .i64 tk, .int .i64 ks, .int .i64 v, .bool false, .bool false] 207)).cell 16
 have z17 := (hb.alloc (.cells #[.int .i64 tk, .int .i64 ks, .int .i64 v, .bool false, .bool false] 207)).cell 17
 simp only [List.getElem?_toArray, List.getElem?_cons_zero, List.getElem?_cons_succ] at z12 z13 z14 z15 z16 z17
 clear hb
 go_enter Tryz.func161, Tryz.ntmps161
 go_upto_region 7 with fail
 clear z12 z13 z14 z15 z16 z17
 generalize (w.alloc (.cells #[.int .i64 tk, .int .i64 ks, .int .i64 v, .bool false, .bool false] 207)).alloc (.cells #[.int .i64 11, .int .i64 ia, .int .i64 j, .int .i64 k, .slice none 0 0, .bool false] 25) = V at *
 have jb1 : (0 : Int) ≤ (j : Int) := by omega
 have jb2 : (j : Int) < 8 := by omega
 have kb1 : (0 : Int) ≤ (k : Int) := by omega
 have kb2 : (k : Int) < 8 := by omega
 have HP := HB.out.put (4 + j) (.int .i64 v)
 rw [tsk_set _ _ _ _ _ _ _ hj] at HP
 have HP := Lib.hid HP
 have HG1 := Lib.hid ((HB.out.cell (4 + j)).trans (tsk_get _ hj))
 have HG2 := Lib.hid ((HP.out.cell (4 + k)).trans (tsk_get _ hk))
 refine wp_region_held_drew (S := fun w' => Blk w' (w.heap.size) 207 #[.int .i64 tk, .int .i64 ks, .int .i64 v, .bool false, .bool false] ∧ Blk w' (w.heap.size + 1) 25 #[.int .i64 11, .int .i64 ia, .int .i64 j, .int .i64 k, .slice none 0 0, .bool false] ∧ Turns (fun q => q = b) V w') (by kernel_rfl) ?_ (fun hHeld => ?_)
 ·exact ⟨HK.out, HI.out, (Turns.refl _ V).drew⟩
 refine takeH (i := 0) (d := some 28) (v := ?_) rfl rfl (by kernel_rfl) (by kernel_rfl) (by kernel_rfl) (fun _ _ _ h => h) (Or.inl ⟨by rfl, ?_⟩) (by assumption) ?_
 rotate_left
 ·intro w hSw
  try dsimp only at hSw
  go_simp
  try with_reducible rfl
 try simp only [Act.put, List.setIfInBounds_toArray, List.set_cons_zero, List.set_cons_succ]
 refine takeH (i := 1) (d := some 29) (v := ?_) rfl rfl (by kernel_rfl) (by kernel_rfl) (by kernel_rfl) (fun _ _ _ h => h) (Or.inl ⟨by rfl, ?_⟩) (by assumption) ?_
 rotate_left
 ·intro w hSw
  try dsimp only at hSw
  go_simp
  try with_reducible rfl
 try simp only [Act.put, List.setIfInBounds_toArray, List.set_cons_zero, List.set_cons_succ]
 refine takeH (i := 2) (d := some 30) (v := ?_) rfl rfl (by kernel_rfl) (by kernel_rfl) (by kernel_rfl) (fun _ _ _ h => h) (Or.inl ⟨by rfl, ?_⟩) (by assumption) ?_
 rotate_left
 ·intro w hSw
  try dsimp only at hSw
  have q0_0 := hSw.1.cell 0
  have q0_1 := hSw.1.cell 1
  have q0_2 := hSw.1.cell 2
  have q0_3 := hSw.1.cell 3
  have q0_4 := hSw.1.cell 4
  have q1_0 := hSw.2.1.cell 0
  have q1_1 := hSw.2.1.cell 1
  have q1_2 := hSw.2.1.cell 2
  have q1_3 := hSw.2.1.cell 3
  have q1_4 := hSw.2.1.cell 4
  have q1_5 := hSw.2.1.cell 5
  simp only [List.getElem?_toArray, List.getElem?_cons_zero, List.getElem?_cons_succ] at q0_0 q0_1 q0_2 q0_3 q0_4 q1_0 q1_1 q1_2 q1_3 q1_4 q1_5
  go_simp
  try with_reducible rfl
 try simp only [Act.put, List.setIfInBounds_toArray, List.set_cons_zero, List.set_cons_succ]
 refine takeH (i := 3) (d := some 31) (v := ?_) rfl rfl (by kernel_rfl) (by kernel_rfl) (by kernel_rfl) (fun _ _ _ h => h) (Or.inl ⟨by rfl, ?_⟩) (by assumption) ?_
 rotate_left
 ·intro w hSw
  try dsimp only at hSw
  go_simp
  try with_reducible rfl
 try simp only [Act.put, List.setIfInBounds_toArray, List.set_cons_zero, List.set_cons_succ]
 refine takeH (i := 4) (d := some 32) (v := ?_) rfl rfl (by kernel_rfl) (by kernel_rfl) (by kernel_rfl) (fun _ _ _ h => h) (Or.inl ⟨by rfl, ?_⟩) (by assumption) ?_
 rotate_left
 ·intro w hSw
  try dsimp only at hSw
  go_simp
  try with_reducible rfl
 try simp only [Act.put, List.setIfInBounds_toArray, List.set_cons_zero, List.set_cons_succ]
 refine takeH (i := 5) (d := some 33) (v := ?_) rfl rfl (by kernel_rfl) (by kernel_rfl) (by kernel_rfl) (fun _ _ _ h => h) (Or.inl ⟨by rfl, ?_⟩) (by assumption) ?_
 rotate_left
 ·intro w hSw
  try dsimp only at hSw
  have q0_0 := hSw.1.cell 0
  have q0_1 := hSw.1.cell 1
  have q0_2 := hSw.1.cell 2
  have q0_3 := hSw.1.cell 3
  have q0_4 := hSw.1.cell 4
  have q1_0 := hSw.2.1.cell 0
  have q1_1 := hSw.2.1.cell 1
  have q1_2 := hSw.2.1.cell 2
  have q1_3 := hSw.2.1.cell 3
  have q1_4 := hSw.2.1.cell 4
  have q1_5 := hSw.2.1.cell 5
  simp only [List.getElem?_toArray, List.getElem?_cons_zero, List.getElem?_cons_succ] at q0_0 q0_1 q0_2 q0_3 q0_4 q1_0 q1_1 q1_2 q1_3 q1_4 q1_5
  go_simp
  try with_reducible rfl
 try simp only [Act.put, List.setIfInBounds_toArray, List.set_cons_zero, List.set_cons_succ]
 refine takeH (i := 6) (d := some 34) (v := ?_) rfl rfl (by kernel_rfl) (by kernel_rfl) (by kernel_rfl) (fun _ _ _ h => h) (Or.inl ⟨by rfl, ?_⟩) (by assumption) ?_
 rotate_left
 ·intro w hSw
  try dsimp only at hSw
  go_simp
  try with_reducible rfl
 try simp only [Act.put, List.setIfInBounds_toArray, List.set_cons_zero, List.set_cons_succ]
 refine takeH (i := 7) (d := some 35) (v := ?_) rfl rfl (by kernel_rfl) (by kernel_rfl) (by kernel_rfl) (fun _ _ _ h => h) (Or.inl ⟨by rfl, ?_⟩) (by assumption) ?_
 rotate_left
 ·intro w hSw
  try dsimp only at hSw
  have q0_0 := hSw.1.cell 0
  have q0_1 := hSw.1.cell 1
  have q0_2 := hSw.1.cell 2
  have q0_3 := hSw.1.cell 3
  have q0_4 := hSw.1.cell 4
  have q1_0 := hSw.2.1.cell 0
  have q1_1 := hSw.2.1.cell 1
  have q1_2 := hSw.2.1.cell 2
  have q1_3 := hSw.2.1.cell 3
  have q1_4 := hSw.2.1.cell 4
  have q1_5 := hSw.2.1.cell 5
  simp only [List.getElem?_toArray, List.getElem?_cons_zero, List.getElem?_cons_succ] at q0_0 q0_1 q0_2 q0_3 q0_4 q1_0 q1_1 q1_2 q1_3 q1_4 q1_5
  go_simp
  try with_reducible rfl
 try simp only [Act.put, List.setIfInBounds_toArray, List.set_cons_zero, List.set_cons_succ]
 refine takeH (i := 8) (d := some 36) (v := ?_) rfl rfl (by kernel_rfl) (by kernel_rfl) (by kernel_rfl) (fun _ _ _ h => h) (Or.inl ⟨by rfl, ?_⟩) (by assumption) ?_
 rotate_left
 ·intro w hSw
  try dsimp only at hSw
  go_simp
  try with_reducible rfl
 try simp only [Act.put, List.setIfInBounds_toArray, List.set_cons_zero, List.set_cons_succ]
 refine takeH (i := 9) (d := some 37) (v := ?_) rfl rfl (by kernel_rfl) (by kernel_rfl) (by kernel_rfl) (fun _ _ _ h => h) (Or.inl ⟨by rfl, ?_⟩) (by assumption) ?_
 rotate_left
 ·intro w hSw
  try dsimp only at hSw
  go_simp
  try with_reducible rfl
 try simp only [Act.put, List.setIfInBounds_toArray, List.set_cons_zero, List.set_cons_succ]
 refine takeH (i := 10) (d := some 38) (v := ?_) rfl rfl (by kernel_rfl) (by kernel_rfl) (by kernel_rfl) (fun _ _ _ h => h) (Or.inl ⟨by rfl, ?_⟩) (by assumption) ?_
 rotate_left
 ·intro w hSw
  try dsimp only at hSw
  go_simp
  try with_reducible rfl
 try simp only [Act.put, List.setIfInBounds_toArray, List.set_cons_zero, List.set_cons_succ]
 refine takeH (i := 12) (d := some 39) (v := ?_) rfl rfl (by kernel_rfl) (by kernel_rfl) (by kernel_rfl) (fun _ _ _ h => h) (Or.inl ⟨by rfl, ?_⟩) (by assumption) ?_
 rotate_left
 ·intro w hSw
  try dsimp only at hSw
  go_simp
  try with_reducible rfl
 try simp only [Act.put, List.setIfInBounds_toArray, List.set_cons_zero, List.set_cons_succ]
 refine takeH (i := 13) (d := some 40) (v := ?_) rfl rfl (by kernel_rfl) (by kernel_rfl) (by kernel_rfl) (fun _ _ _ h => h) (Or.inl ⟨by rfl, ?_⟩) (by assumption) ?_
 rotate_left
 ·intro w hSw
  try dsimp only at hSw
  go_simp
  try with_reducible rfl
 try simp only [Act.put, List.setIfInBounds_toArray, List.set_cons_zero, List.set_cons_succ]
 refine wpAnyH_ready (rs := [11]) (by kernel_rfl) (by simp) ?_
 refine AllReadyH.cons rfl (fun K hK => ?_) AllReadyH.nil
 have qz : V.drew.cell? ⟨b, 4 + j, none⟩ = _ := HG1.out
 have qf : V.drew.frozen? ⟨b, 4 + j, none⟩ = _ := HB.out.free (4 + j)
 simp only [World.cell?_drew, World.frozen?_drew] at qz qf
 go_simp
 refine hK.out _ _ ?_ (fun hHeld => ?_)
 ·exact ⟨hHeld.1.far (p := ⟨b, 4 + j, none⟩) (fun e => by simp only at e; omega) _, hHeld.2.1.far (p := ⟨b, 4 + j, none⟩) (fun e => by simp only at e; omega) _, hHeld.2.2.setCell (p := ⟨b, 4 + j, none⟩) (fun _ => rfl) _⟩
 clear hK K
 try simp only [Act.put, List.setIfInBounds_toArray, List.set_cons_zero, List.set_cons_succ]
 refine takeH (i := 14) (d := some 41) (v := ?_) rfl rfl (by kernel_rfl) (by kernel_rfl) (by kernel_rfl) (fun _ _ _ h => h) (Or.inl ⟨by rfl, ?_⟩) (by assumption) ?_
 rotate_left
 ·intro w hSw
  try dsimp only at hSw
  go_simp
  try with_reducible rfl
 try simp only [Act.put, List.setIfInBounds_toArray, List.set_cons_zero, List.set_cons_succ]
 refine wpAnyH_ready (rs := [15]) (by kernel_rfl) (by simp) ?_
 refine AllReadyH.cons rfl (fun K hK => ?_) AllReadyH.nil
 have qz := HG2.out
 have qf := HP.out.free (4 + k)
 go_simp
 refine hK.out _ _ ?_ (fun hHeld => ?_)
 ·exact ⟨hHeld.1.far (p := ⟨b, 4 + k, none⟩) (fun e => by simp only at e; omega) _, hHeld.2.1.far (p := ⟨b, 4 + k, none⟩) (fun e => by simp only at e; omega) _, hHeld.2.2.setCell (p := ⟨b, 4 + k, none⟩) (fun _ => rfl) _⟩
 clear hK K
 try simp only [Act.put, List.setIfInBounds_toArray, List.set_cons_zero, List.set_cons_succ]
 refine wpAnyH_done (by kernel_rfl) ?_ _
 have HP2 := HP.out.put (4 + k) (.int .i64 0)
 rw [tsk_set _ _ _ _ _ _ _ hk] at HP2
 have HP2 : Hid (Blk ((V.setCell ⟨b, 4 + j, none⟩ (.int .i64 v)).setCell ⟨b, 4 + k, none⟩ (.int .i64 0)).drew b 38 _) := Lib.hid HP2
 have HK2 : Hid (Blk ((V.setCell ⟨b, 4 + j, none⟩ (.int .i64 v)).setCell ⟨b, 4 + k, none⟩ (.int .i64 0)).drew w.heap.size 207 #[.int .i64 tk, .int .i64 ks, .int .i64 v, .bool false, .bool false]) := Lib.hid hHeld.1
 have HI2 : Hid (Blk ((V.setCell ⟨b, 4 + j, none⟩ (.int .i64 v)).setCell ⟨b, 4 + k, none⟩ (.int .i64 0)).drew (w.heap.size + 1) 25 #[.int .i64 11, .int .i64 ia, .int .i64 j, .int .i64 k, .slice none 0 0, .bool false]) := Lib.hid hHeld.2.1
 have HT2 : Hid (Turns (fun q => q = b) w ((V.setCell ⟨b, 4 + j, none⟩ (.int .i64 v)).setCell ⟨b, 4 + k, none⟩ (.int .i64 0)).drew) := Lib.hid ((HM.out.mono (S' := fun q => q = b) (fun _ _ h => h.elim)).trans hHeld.2.2)
 clear hHeld
 generalize ((V.setCell ⟨b, 4 + j, none⟩ (.int .i64 v)).setCell ⟨b, 4 + k, none⟩ (.int .i64 0)).drew = V2 at *
 have y3 := HK2.out.cell 3
 simp only [List.getElem?_toArray, List.getElem?_cons_zero, List.getElem?_cons_succ] at y3
 go_wp2_with fail
 go_end0
 exact ⟨rfl, HP2.out, HT2.out⟩
set_option maxRecDepth 100000 in
set_option maxHeartbeats 4000000 in
theorem told_yes {w : World} {b j k : Nat} {pg pc st how ia tk ks v : Int} {r : Reg} (hb : Blk w b 38 (tskA ⟨pg, pc, st, how, r, ⟨11, ia, j, k⟩⟩)) (hj : j < 8) (hk : k < 8) :
  Calls Tryz.prog 161 #[.pointer (some ⟨b, 0, none⟩), .agg #[.int .i64 tk, .int .i64 ks, .int .i64 v, .bool true, .bool false]] w fun e w' => e = .returned (.tuple #[]) ∧ Blk w' b 38 (tskA ⟨pg, pc, st, how, (((r.set j v).set k 1)), ⟨11, ia, j, k⟩⟩) ∧ Turns (fun q => q = b) w w' := by
 have HM := Lib.hid (((Turns.refl (fun _ => False) w).alloc (.cells #[.int .i64 tk, .int .i64 ks, .int .i64 v, .bool true, .bool false] 207)).alloc (.cells #[.int .i64 11, .int .i64 ia, .int .i64 j, .int .i64 k, .slice none 0 0, .bool false] 25))
 have HB := Lib.hid (hb.turns HM.out (fun h => h))
 have HK := Lib.hid ((Blk.new w 207 #[.int .i64 tk, .int .i64 ks, .int .i64 v, .bool true, .bool false]).alloc (.cells #[.int .i64 11, .int .i64 ia, .int .i64 j, .int .i64 k, .slice none 0 0, .bool false] 25))
 have HI := Blk.new (w.alloc (.cells #[.int .i64 tk, .int .i64 ks, .int .i64 v, .bool true, .bool false] 207)) 25 #[.int .i64 11, .int .i64 ia, .int .i64 j, .int .i64 k, .slice none 0 0, .bool false]
 rw [World.size_alloc] at HI
 have HI := Lib.hid HI
 have hbl := hb.lt
 have z12 := (hb.alloc (.cells #[.int .i64 tk, .int .i64 ks, .int .i64 v, .bool true, .bool false] 207)).cell 12
 have z13 := (hb.alloc (.cells #[.int .i64 tk, .int .i64 ks, .int .i64 v, .bool true, .bool false] 207)).cell 13
 have z14 := (hb.alloc (.cells #[.int .i64 tk, .int .i64 ks, .int .i64 v, .bool true, .bool false] 207)).cell 14
 have z15 := (hb.alloc (.cells #[.int .i64 tk, .int .i64 ks, .int .i64 v, .bool true, .bool false] 207)).cell 15
 have z16 := (hb.alloc (.cells #[.int .i64 tk, .int .i64 ks, .int .i64 v, .bool true, .bool false] 207)).cell 16
 have z17 := (hb.alloc (.cells #[.int .i64 tk, .int .i64 ks, .int .i64 v, .bool true, .bool false] 207)).cell 17
 simp only [List.getElem?_toArray, List.getElem?_cons_zero, List.getElem?_cons_succ] at z12 z13 z14 z15 z16 z17
 clear hb
 go_enter Tryz.func161, Tryz.ntmps161
 go_upto_region 7 with fail
 clear z12 z13 z14 z15 z16 z17
 generalize (w.alloc (.cells #[.int .i64 tk, .int .i64 ks, .int .i64 v, .bool true, .bool false] 207)).alloc (.cells #[.int .i64 11, .int .i64 ia, .int .i64 j, .int .i64 k, .slice none 0 0, .bool false] 25) = V at *
 have jb1 : (0 : Int) ≤ (j : Int) := by omega
 have jb2 : (j : Int) < 8 := by omega
 have kb1 : (0 : Int) ≤ (k : Int) := by omega
 have kb2 : (k : Int) < 8 := by omega
 have HP := HB.out.put (4 + j) (.int .i64 v)
 rw [tsk_set _ _ _ _ _ _ _ hj] at HP
 have HP := Lib.hid HP
 have HG1 := Lib.hid ((HB.out.cell (4 + j)).trans (tsk_get _ hj))
 have HG2 := Lib.hid ((HP.out.cell (4 + k)).trans (tsk_get _ hk))
 refine wp_region_held_drew (S := fun w' => Blk w' (w.heap.size) 207 #[.int .i64 tk, .int .i64 ks, .int .i64 v, .bool true, .bool false] ∧ Blk w' (w.heap.size + 1) 25 #[.int .i64 11, .int .i64 ia, .int .i64 j, .int .i64 k, .slice none 0 0, .bool false] ∧ Turns (fun q => q = b) V w') (by kernel_rfl) ?_ (fun hHeld => ?_)
 ·exact ⟨HK.out, HI.out, (Turns.refl _ V).drew⟩
 refine takeH (i := 0) (d := some 28) (v := ?_) rfl rfl (by kernel_rfl) (by kernel_rfl) (by kernel_rfl) (fun _ _ _ h => h) (Or.inl ⟨by rfl, ?_⟩) (by assumption) ?_
 rotate_left
 ·intro w hSw
  try dsimp only at hSw
  go_simp
  try with_reducible rfl
 try simp only [Act.put, List.setIfInBounds_toArray, List.set_cons_zero, List.set_cons_succ]
 refine takeH (i := 1) (d := some 29) (v := ?_) rfl rfl (by kernel_rfl) (by kernel_rfl) (by kernel_rfl) (fun _ _ _ h => h) (Or.inl ⟨by rfl, ?_⟩) (by assumption) ?_
 rotate_left
 ·intro w hSw
  try dsimp only at hSw
  go_simp
  try with_reducible rfl
 try simp only [Act.put, List.setIfInBounds_toArray, List.set_cons_zero, List.set_cons_succ]
 refine takeH (i := 2) (d := some 30) (v := ?_) rfl rfl (by kernel_rfl) (by kernel_rfl) (by kernel_rfl) (fun _ _ _ h => h) (Or.inl ⟨by rfl, ?_⟩) (by assumption) ?_
 rotate_left
 ·intro w hSw
  try dsimp only at hSw
  have q0_0 := hSw.1.cell 0
  have q0_1 := hSw.1.cell 1
  have q0_2 := hSw.1.cell 2
  have q0_3 := hSw.1.cell 3
  have q0_4 := hSw.1.cell 4
  have q1_0 := hSw.2.1.cell 0
  have q1_1 := hSw.2.1.cell 1
  have q1_2 := hSw.2.1.cell 2
  have q1_3 := hSw.2.1.cell 3
  have q1_4 := hSw.2.1.cell 4
  have q1_5 := hSw.2.1.cell 5
  simp only [List.getElem?_toArray, List.getElem?_cons_zero, List.getElem?_cons_succ] at q0_0 q0_1 q0_2 q0_3 q0_4 q1_0 q1_1 q1_2 q1_3 q1_4 q1_5
  go_simp
  try with_reducible rfl
 try simp only [Act.put, List.setIfInBounds_toArray, List.set_cons_zero, List.set_cons_succ]
 refine takeH (i := 3) (d := some 31) (v := ?_) rfl rfl (by kernel_rfl) (by kernel_rfl) (by kernel_rfl) (fun _ _ _ h => h) (Or.inl ⟨by rfl, ?_⟩) (by assumption) ?_
 rotate_left
 ·intro w hSw
  try dsimp only at hSw
  go_simp
  try with_reducible rfl
 try simp only [Act.put, List.setIfInBounds_toArray, List.set_cons_zero, List.set_cons_succ]
 refine takeH (i := 4) (d := some 32) (v := ?_) rfl rfl (by kernel_rfl) (by kernel_rfl) (by kernel_rfl) (fun _ _ _ h => h) (Or.inl ⟨by rfl, ?_⟩) (by assumption) ?_
 rotate_left
 ·intro w hSw
  try dsimp only at hSw
  go_simp
  try with_reducible rfl
 try simp only [Act.put, List.setIfInBounds_toArray, List.set_cons_zero, List.set_cons_succ]
 refine takeH (i := 5) (d := some 33) (v := ?_) rfl rfl (by kernel_rfl) (by kernel_rfl) (by kernel_rfl) (fun _ _ _ h => h) (Or.inl ⟨by rfl, ?_⟩) (by assumption) ?_
 rotate_left
 ·intro w hSw
  try dsimp only at hSw
  have q0_0 := hSw.1.cell 0
  have q0_1 := hSw.1.cell 1
  have q0_2 := hSw.1.cell 2
  have q0_3 := hSw.1.cell 3
  have q0_4 := hSw.1.cell 4
  have q1_0 := hSw.2.1.cell 0
  have q1_1 := hSw.2.1.cell 1
  have q1_2 := hSw.2.1.cell 2
  have q1_3 := hSw.2.1.cell 3
  have q1_4 := hSw.2.1.cell 4
  have q1_5 := hSw.2.1.cell 5
  simp only [List.getElem?_toArray, List.getElem?_cons_zero, List.getElem?_cons_succ] at q0_0 q0_1 q0_2 q0_3 q0_4 q1_0 q1_1 q1_2 q1_3 q1_4 q1_5
  go_simp
  try with_reducible rfl
 try simp only [Act.put, List.setIfInBounds_toArray, List.set_cons_zero, List.set_cons_succ]
 refine takeH (i := 6) (d := some 34) (v := ?_) rfl rfl (by kernel_rfl) (by kernel_rfl) (by kernel_rfl) (fun _ _ _ h => h) (Or.inl ⟨by rfl, ?_⟩) (by assumption) ?_
 rotate_left
 ·intro w hSw
  try dsimp only at hSw
  go_simp
  try with_reducible rfl
 try simp only [Act.put, List.setIfInBounds_toArray, List.set_cons_zero, List.set_cons_succ]
 refine takeH (i := 7) (d := some 35) (v := ?_) rfl rfl (by kernel_rfl) (by kernel_rfl) (by kernel_rfl) (fun _ _ _ h => h) (Or.inl ⟨by rfl, ?_⟩) (by assumption) ?_
 rotate_left
 ·intro w hSw
  try dsimp only at hSw
  have q0_0 := hSw.1.cell 0
  have q0_1 := hSw.1.cell 1
  have q0_2 := hSw.1.cell 2
  have q0_3 := hSw.1.cell 3
  have q0_4 := hSw.1.cell 4
  have q1_0 := hSw.2.1.cell 0
  have q1_1 := hSw.2.1.cell 1
  have q1_2 := hSw.2.1.cell 2
  have q1_3 := hSw.2.1.cell 3
  have q1_4 := hSw.2.1.cell 4
  have q1_5 := hSw.2.1.cell 5
  simp only [List.getElem?_toArray, List.getElem?_cons_zero, List.getElem?_cons_succ] at q0_0 q0_1 q0_2 q0_3 q0_4 q1_0 q1_1 q1_2 q1_3 q1_4 q1_5
  go_simp
  try with_reducible rfl
 try simp only [Act.put, List.setIfInBounds_toArray, List.set_cons_zero, List.set_cons_succ]
 refine takeH (i := 8) (d := some 36) (v := ?_) rfl rfl (by kernel_rfl) (by kernel_rfl) (by kernel_rfl) (fun _ _ _ h => h) (Or.inl ⟨by rfl, ?_⟩) (by assumption) ?_
 rotate_left
 ·intro w hSw
  try dsimp only at hSw
  go_simp
  try with_reducible rfl
 try simp only [Act.put, List.setIfInBounds_toArray, List.set_cons_zero, List.set_cons_succ]
 refine takeH (i := 9) (d := some 37) (v := ?_) rfl rfl (by kernel_rfl) (by kernel_rfl) (by kernel_rfl) (fun _ _ _ h => h) (Or.inl ⟨by rfl, ?_⟩) (by assumption) ?_
 rotate_left
 ·intro w hSw
  try dsimp only at hSw
  go_simp
  try with_reducible rfl
 try simp only [Act.put, List.setIfInBounds_toArray, List.set_cons_zero, List.set_cons_succ]
 refine takeH (i := 10) (d := some 38) (v := ?_) rfl rfl (by kernel_rfl) (by kernel_rfl) (by kernel_rfl) (fun _ _ _ h => h) (Or.inl ⟨by rfl, ?_⟩) (by assumption) ?_
 rotate_left
 ·intro w hSw
  try dsimp only at hSw
  go_simp
  try with_reducible rfl
 try simp only [Act.put, List.setIfInBounds_toArray, List.set_cons_zero, List.set_cons_succ]
 refine takeH (i := 12) (d := some 39) (v := ?_) rfl rfl (by kernel_rfl) (by kernel_rfl) (by kernel_rfl) (fun _ _ _ h => h) (Or.inl ⟨by rfl, ?_⟩) (by assumption) ?_
 rotate_left
 ·intro w hSw
  try dsimp only at hSw
  go_simp
  try with_reducible rfl
 try simp only [Act.put, List.setIfInBounds_toArray, List.set_cons_zero, List.set_cons_succ]
 refine takeH (i := 13) (d := some 40) (v := ?_) rfl rfl (by kernel_rfl) (by kernel_rfl) (by kernel_rfl) (fun _ _ _ h => h) (Or.inl ⟨by rfl, ?_⟩) (by assumption) ?_
 rotate_left
 ·intro w hSw
  try dsimp only at hSw
  go_simp
  try with_reducible rfl
 try simp only [Act.put, List.setIfInBounds_toArray, List.set_cons_zero, List.set_cons_succ]
 refine wpAnyH_ready (rs := [11]) (by kernel_rfl) (by simp) ?_
 refine AllReadyH.cons rfl (fun K hK => ?_) AllReadyH.nil
 have qz : V.drew.cell? ⟨b, 4 + j, none⟩ = _ := HG1.out
 have qf : V.drew.frozen? ⟨b, 4 + j, none⟩ = _ := HB.out.free (4 + j)
 simp only [World.cell?_drew, World.frozen?_drew] at qz qf
 go_simp
 refine hK.out _ _ ?_ (fun hHeld => ?_)
 ·exact ⟨hHeld.1.far (p := ⟨b, 4 + j, none⟩) (fun e => by simp only at e; omega) _, hHeld.2.1.far (p := ⟨b, 4 + j, none⟩) (fun e => by simp only at e; omega) _, hHeld.2.2.setCell (p := ⟨b, 4 + j, none⟩) (fun _ => rfl) _⟩
 clear hK K
 try simp only [Act.put, List.setIfInBounds_toArray, List.set_cons_zero, List.set_cons_succ]
 refine takeH (i := 14) (d := some 41) (v := ?_) rfl rfl (by kernel_rfl) (by kernel_rfl) (by kernel_rfl) (fun _ _ _ h => h) (Or.inl ⟨by rfl, ?_⟩) (by assumption) ?_
 rotate_left
 ·intro w hSw
  try dsimp only at hSw
  go_simp
  try with_reducible rfl
 try simp only [Act.put, List.setIfInBounds_toArray, List.set_cons_zero, List.set_cons_succ]
 refine wpAnyH_ready (rs := [15]) (by kernel_rfl) (by simp) ?_
 refine AllReadyH.cons rfl (fun K hK => ?_) AllReadyH.nil
 have qz := HG2.out
 have qf := HP.out.free (4 + k)
 go_simp
 refine hK.out _ _ ?_ (fun hHeld => ?_)
 ·exact ⟨hHeld.1.far (p := ⟨b, 4 + k, none⟩) (fun e => by simp only at e; omega) _, hHeld.2.1.far (p := ⟨b, 4 + k, none⟩) (fun e => by simp only at e; omega) _, hHeld.2.2.setCell (p := ⟨b, 4 + k, none⟩) (fun _ => rfl) _⟩
 clear hK K
 try simp only [Act.put, List.setIfInBounds_toArray, List.set_cons_zero, List.set_cons_succ]
 refine wpAnyH_done (by kernel_rfl) ?_ _
 have HP2 := HP.out.put (4 + k) (.int .i64 0)
 rw [tsk_set _ _ _ _ _ _ _ hk] at HP2
 have HP2 : Hid (Blk ((V.setCell ⟨b, 4 + j, none⟩ (.int .i64 v)).setCell ⟨b, 4 + k, none⟩ (.int .i64 0)).drew b 38 _) := Lib.hid HP2
 have HK2 : Hid (Blk ((V.setCell ⟨b, 4 + j, none⟩ (.int .i64 v)).setCell ⟨b, 4 + k, none⟩ (.int .i64 0)).drew w.heap.size 207 #[.int .i64 tk, .int .i64 ks, .int .i64 v, .bool true, .bool false]) := Lib.hid hHeld.1
 have HI2 : Hid (Blk ((V.setCell ⟨b, 4 + j, none⟩ (.int .i64 v)).setCell ⟨b, 4 + k, none⟩ (.int .i64 0)).drew (w.heap.size + 1) 25 #[.int .i64 11, .int .i64 ia, .int .i64 j, .int .i64 k, .slice none 0 0, .bool false]) := Lib.hid hHeld.2.1
 have HT2 : Hid (Turns (fun q => q = b) w ((V.setCell ⟨b, 4 + j, none⟩ (.int .i64 v)).setCell ⟨b, 4 + k, none⟩ (.int .i64 0)).drew) := Lib.hid ((HM.out.mono (S' := fun q => q = b) (fun _ _ h => h.elim)).trans hHeld.2.2)
 clear hHeld
 generalize ((V.setCell ⟨b, 4 + j, none⟩ (.int .i64 v)).setCell ⟨b, 4 + k, none⟩ (.int .i64 0)).drew = V2 at *
 have y3 := HK2.out.cell 3
 simp only [List.getElem?_toArray, List.getElem?_cons_zero, List.getElem?_cons_succ] at y3
 go_upto_region 9 with fail
 clear y3
 have HG3 := Lib.hid ((HP2.out.cell (4 + k)).trans (tsk_get _ hk))
 refine wp_region_held_drew (S := fun w' => Blk w' (w.heap.size + 1) 25 #[.int .i64 11, .int .i64 ia, .int .i64 j, .int .i64 k, .slice none 0 0, .bool false] ∧ Turns (fun q => q = b) V2 w') (by kernel_rfl) ?_ (fun hHeld => ?_)
 ·exact ⟨HI2.out, (Turns.refl _ V2).drew⟩
 refine takeH (i := 0) (d := some 44) (v := ?_) rfl rfl (by kernel_rfl) (by kernel_rfl) (by kernel_rfl) (fun _ _ _ h => h) (Or.inl ⟨by rfl, ?_⟩) (by assumption) ?_
 rotate_left
 ·intro w hSw
  try dsimp only at hSw
  go_simp
  try with_reducible rfl
 try simp only [Act.put, List.setIfInBounds_toArray, List.set_cons_zero, List.set_cons_succ]
 refine takeH (i := 1) (d := some 45) (v := ?_) rfl rfl (by kernel_rfl) (by kernel_rfl) (by kernel_rfl) (fun _ _ _ h => h) (Or.inl ⟨by rfl, ?_⟩) (by assumption) ?_
 rotate_left
 ·intro w hSw
  try dsimp only at hSw
  go_simp
  try with_reducible rfl
 try simp only [Act.put, List.setIfInBounds_toArray, List.set_cons_zero, List.set_cons_succ]
 refine takeH (i := 2) (d := some 46) (v := ?_) rfl rfl (by kernel_rfl) (by kernel_rfl) (by kernel_rfl) (fun _ _ _ h => h) (Or.inl ⟨by rfl, ?_⟩) (by assumption) ?_
 rotate_left
 ·intro w hSw
  try dsimp only at hSw
  have q0_0 := hSw.1.cell 0
  have q0_1 := hSw.1.cell 1
  have q0_2 := hSw.1.cell 2
  have q0_3 := hSw.1.cell 3
  have q0_4 := hSw.1.cell 4
  have q0_5 := hSw.1.cell 5
  simp only [List.getElem?_toArray, List.getElem?_cons_zero, List.getElem?_cons_succ] at q0_0 q0_1 q0_2 q0_3 q0_4 q0_5
  go_simp
  try with_reducible rfl
 try simp only [Act.put, List.setIfInBounds_toArray, List.set_cons_zero, List.set_cons_succ]
 refine takeH (i := 3) (d := some 47) (v := ?_) rfl rfl (by kernel_rfl) (by kernel_rfl) (by kernel_rfl) (fun _ _ _ h => h) (Or.inl ⟨by rfl, ?_⟩) (by assumption) ?_
 rotate_left
 ·intro w hSw
  try dsimp only at hSw
  go_simp
  try with_reducible rfl
 try simp only [Act.put, List.setIfInBounds_toArray, List.set_cons_zero, List.set_cons_succ]
 refine takeH (i := 4) (d := some 48) (v := ?_) rfl rfl (by kernel_rfl) (by kernel_rfl) (by kernel_rfl) (fun _ _ _ h => h) (Or.inl ⟨by rfl, ?_⟩) (by assumption) ?_
 rotate_left
 ·intro w hSw
  try dsimp only at hSw
  go_simp
  try with_reducible rfl
 try simp only [Act.put, List.setIfInBounds_toArray, List.set_cons_zero, List.set_cons_succ]
 refine takeH (i := 5) (d := some 49) (v := ?_) rfl rfl (by kernel_rfl) (by kernel_rfl) (by kernel_rfl) (fun _ _ _ h => h) (Or.inl ⟨by rfl, ?_⟩) (by assumption) ?_
 rotate_left
 ·intro w hSw
  try dsimp only at hSw
  go_simp
  try with_reducible rfl
 try simp only [Act.put, List.setIfInBounds_toArray, List.set_cons_zero, List.set_cons_succ]
 refine wpAnyH_ready (rs := [6]) (by kernel_rfl) (by simp) ?_
 refine AllReadyH.cons rfl (fun K hK => ?_) AllReadyH.nil
 have qz : V2.drew.cell? ⟨b, 4 + k, none⟩ = _ := HG3.out
 have qf : V2.drew.frozen? ⟨b, 4 + k, none⟩ = _ := HP2.out.free (4 + k)
 simp only [World.cell?_drew, World.frozen?_drew] at qz qf
 go_simp
 refine hK.out _ _ ?_ (fun hHeld => ?_)
 ·exact ⟨hHeld.1.far (p := ⟨b, 4 + k, none⟩) (fun e => by simp only at e; omega) _, hHeld.2.setCell (p := ⟨b, 4 + k, none⟩) (fun _ => rfl) _⟩
 clear hK K
 try simp only [Act.put, List.setIfInBounds_toArray, List.set_cons_zero, List.set_cons_succ]
 refine wpAnyH_done (by kernel_rfl) ?_ _
 have HP3 := HP2.out.put (4 + k) (.int .i64 1)
 rw [tsk_set _ _ _ _ _ _ _ hk] at HP3
 have e1 : ((r.set j v).set k 0).set k 1 = (r.set j v).set k 1 := by
  rcases lt8 hk with rfl | rfl | rfl | rfl | rfl | rfl | rfl | rfl <;> rfl
 rw [e1] at HP3
 have HP3 := Lib.hid HP3
 have HT3 := Lib.hid (HT2.out.trans hHeld.2)
 clear hHeld e1
 go_wp2_with fail
 go_end0
 exact ⟨rfl, HP3.out, HT3.out⟩
end Go.Proofs.YtjnkphhlkoapbaaGreat
namespace Go.Proofs.YtjnkphhlkoapbaaGreat
open Go.RowKit
set_option linter.unusedVariables false
set_option linter.unusedSimpArgs false
theorem Lab.stay {w w' : World} {lb lb' : Nat → Nat} {F F' : Nat → Prop} (h : Lab w lb F) (h' : Lab w' lb' F') (hs : Stp w w' F F') {k : Nat} (hk : k < w.heap.size) (h0 : lb k = 0) : lb' k = 0 := by
 by_cases e : lb' k = 0
 ·exact e
 ·rcases hs.f k ((h'.on k).2 e) with h1 | h1
  ·exact absurd h0 ((h.on k).1 h1)
  ·omega
set_option maxRecDepth 100000 in
set_option maxHeartbeats 4000000 in
theorem tabwake_no {w : World} {q i j k : Nat} {F : Nat → Prop} {ts : List Tsk} {rd : List Int} {pg pc how ia ks v : Int} {r : Reg} (h : TabAt w q F ts rd) (hx : ts[i]? = some ⟨pg, pc, 1, how, r, ⟨11, ia, j, k⟩⟩) (hl : ts.length ≤ 64) (hj : j < 8) (hk : k < 8) (hpc : 0 ≤ pc ∧ pc ≤ 1000) (hni : (i : Int) ∉ rd) (hrl : rd.length ≤ 1000) :
  Calls Tryz.prog 116 #[.pointer (some ⟨q, 0, none⟩), .agg #[.int .i64 i, .int .i64 ks, .int .i64 v, .bool false, .bool false]] w fun e w' => e = .returned (.int .i64 0) ∧ ∃ F', TabAt w' q F' (ts.set i ⟨pg, pc + 1, 0, how, ((r.set j v).set k 0), ⟨0, 0, 0, 0⟩⟩) (rd ++ [(i : Int)]) ∧ Stp w w' F F' := by
 have hilt := (List.getElem?_eq_some_iff.1 hx).1
 obtain ⟨hpc1, hpc2⟩ := hpc
 have HM := Lib.hid ((Turns.refl (fun _ => False) w).alloc (.cells #[.int .i64 i, .int .i64 ks, .int .i64 v, .bool false, .bool false] 207))
 have HK := Lib.hid (Blk.new w 207 #[.int .i64 i, .int .i64 ks, .int .i64 v, .bool false, .bool false])
 have HA := Lib.hid (tabis_parked (h.made HM.out) hx hl rfl)
 have HT := Lib.hid h
 have HNI := Lib.hid hni
 clear h hx hni
 go_enter Tryz.func116, Tryz.ntmps116
 go_wp2_with fail
 refine HA.out.mono ?_
 rintro e w1 ⟨rfl, hm1⟩
 have HM1 := Lib.hid hm1
 have hlt : w.heap.size < w1.heap.size := (HK.out.turns hm1 (fun h => h)).lt
 clear hm1
 go_wp2_with (first
  | (refine wpList_store_blk (o := ⟨none, .store 38 (.tmp 5) (.tmp 12), _, _, _, _⟩) rfl _ _ _ rfl rfl _ rfl (tskC ⟨pg, pc, 1, how, r, ⟨11, ia, j, k⟩⟩) ([.int .i64 0, .int .i64 0, .int .i64 0, .int .i64 0, .int .i64 0, .int .i64 0, .int .i64 0, .int .i64 0, .int .i64 0, .int .i64 0, .int .i64 0, .int .i64 0, .int .i64 0, .int .i64 0, .int .i64 0, .int .i64 0, .slice none 0 0, .bool false]) 38 rfl (Blk.new _ _ _) rfl (tskC_one ⟨pg, pc, 1, how, r, ⟨11, ia, j, k⟩⟩) Tryz.sizeTsk ?_; intro w2 hb2 ht2; have HB2 := Lib.hid hb2; have HT2 := Lib.hid ht2; have HK2 := HK.out.turns ((HM1.out.alloc (.cells tskZ 38)).then HT2.out (S := fun _ => False) (fun k hk e => by have := HM1.out.size; omega)) (fun h => h); have i0 := HK2.cell 0; have i1 := HK2.cell 1; have i2 := HK2.cell 2; have i3 := HK2.cell 3; have i4 := HK2.cell 4; simp only [List.getElem?_toArray, List.getElem?_cons_zero, List.getElem?_cons_succ] at i0 i1 i2 i3 i4; have HK2 := Lib.hid HK2; clear hb2 ht2)
  | fail)
 refine (told_no HB2.out hj hk).mono ?_
 rintro e w3 ⟨rfl, hb3, ht3⟩
 have HB3 := Lib.hid hb3
 have HK3 := Lib.hid (HK2.out.turns ht3 (fun e => by omega))
 have HM3 := Lib.hid (show Made w w3 from (HM.out.trans ((HM1.out.alloc _).then HT2.out (fun k hk e => by have := HM1.out.size; omega))).then ht3 (fun k hk e => by omega))
 have b1 := hb3.cell 1
 have b2 := hb3.cell 2
 have fb1 := hb3.free 1
 have fb2 := hb3.free 2
 simp only [List.getElem?_toArray, List.getElem?_cons_zero, List.getElem?_cons_succ] at b1 b2
 clear hb3 ht3
 go_upto_region 9 with fail
 obtain ⟨pa, pl, lb, hin, hlab⟩ := HT.out
 have HLB0 := Lib.hid hlab
 have hm4 := (HM3.out.then (set1 w3 w1.heap.size 1 (.int .i64 (pc + 1))) (fun k hk e => by omega)).then (set1 _ w1.heap.size 2 (.int .i64 0)) (fun k hk e => by omega)
 have HIN4 := Lib.hid (hin.turns hm4 (fun _ _ h => h))
 have HLB4 := Lib.hid (hlab.turns hm4)
 have HB4 := (HB3.out.put 1 (.int .i64 (pc + 1))).put 2 (.int .i64 0)
 simp only [List.setIfInBounds_toArray, List.set_cons_zero, List.set_cons_succ] at HB4
 have HB4 := Lib.hid HB4
 have HK4 := Lib.hid ((HK3.out.far (p := ⟨w1.heap.size, 1, none⟩) (fun e => by simp only at e; omega) (.int .i64 (pc + 1))).far (p := ⟨w1.heap.size, 2, none⟩) (fun e => by simp only at e; omega) (.int .i64 0))
 have HM4 := Lib.hid hm4
 clear hin hlab hm4 b1 b2 fb1 fb2
 generalize (w3.setCell ⟨w1.heap.size, 1, none⟩ (.int .i64 (pc + 1))).setCell ⟨w1.heap.size, 2, none⟩ (.int .i64 0) = V at *
 have HQ4 := Lib.hid HIN4.out.blk
 have HAD := Lib.hid (rdadd_c (w := V.drew) (i : Int) (HIN4.out.rl.made (Turns.refl (fun _ => False) V).drew) HNI.out (by omega) hrl)
 have hlq := HIN4.out.lq
 have HNQ3 := Lib.hid (show ¬ lb q = 3 from by rw [hlq]; omega)
 have HNK3 := Lib.hid (show ¬ lb w.heap.size = 3 from fun e => by have := HLB0.out.lt w.heap.size (by omega); omega)
 have HNQ2 := Lib.hid (show ¬ lb q = 2 from by rw [hlq]; omega)
 have HNK2 := Lib.hid (show ¬ lb w.heap.size = 2 from fun e => by have := HLB0.out.lt w.heap.size (by omega); omega)
 have HNB3 := Lib.hid (show ¬ lb w1.heap.size = 3 from fun e => by have := HLB0.out.lt w1.heap.size (by omega); omega)
 have HNB2 := Lib.hid (show ¬ lb w1.heap.size = 2 from fun e => by have := HLB0.out.lt w1.heap.size (by omega); omega)
 have HLQ := Lib.hid hlq
 clear hlq
 refine wp_region_held_drew (S := fun w' => Blk w' (q) 87 #[.pointer (some ⟨pa, 0, none⟩), .pointer (some ⟨pl, 0, none⟩)] ∧ Blk w' (w.heap.size) 207 #[.int .i64 i, .int .i64 ks, .int .i64 v, .bool false, .bool false] ∧ Turns (fun k => lb k = 3) V w') (by kernel_rfl) ?_ (fun hHeld => ?_)
 ·exact ⟨HQ4.out, HK4.out, (Turns.refl _ V).drew⟩
 refine takeH (i := 0) (d := some 28) (v := ?_) rfl rfl (by kernel_rfl) (by kernel_rfl) (by kernel_rfl) (fun _ _ _ h => h) (Or.inl ⟨by rfl, ?_⟩) (by assumption) ?_
 rotate_left
 ·intro w hSw
  try dsimp only at hSw
  go_simp
  try with_reducible rfl
 try simp only [Act.put, List.setIfInBounds_toArray, List.set_cons_zero, List.set_cons_succ]
 refine takeH (i := 1) (d := some 29) (v := ?_) rfl rfl (by kernel_rfl) (by kernel_rfl) (by kernel_rfl) (fun _ _ _ h => h) (Or.inl ⟨by rfl, ?_⟩) (by assumption) ?_
 rotate_left
 ·intro w hSw
  try dsimp only at hSw
  go_simp
  try with_reducible rfl
 try simp only [Act.put, List.setIfInBounds_toArray, List.set_cons_zero, List.set_cons_succ]
 refine takeH (i := 2) (d := some 30) (v := ?_) rfl rfl (by kernel_rfl) (by kernel_rfl) (by kernel_rfl) (fun _ _ _ h => h) (Or.inl ⟨by rfl, ?_⟩) (by assumption) ?_
 rotate_left
 ·intro w hSw
  try dsimp only at hSw
  go_simp
  try with_reducible rfl
 try simp only [Act.put, List.setIfInBounds_toArray, List.set_cons_zero, List.set_cons_succ]
 refine takeH (i := 3) (d := some 31) (v := ?_) rfl rfl (by kernel_rfl) (by kernel_rfl) (by kernel_rfl) (fun _ _ _ h => h) (Or.inl ⟨by rfl, ?_⟩) (by assumption) ?_
 rotate_left
 ·intro w hSw
  try dsimp only at hSw
  have q0_0 := hSw.1.cell 0
  have q0_1 := hSw.1.cell 1
  have q1_0 := hSw.2.1.cell 0
  have q1_1 := hSw.2.1.cell 1
  have q1_2 := hSw.2.1.cell 2
  have q1_3 := hSw.2.1.cell 3
  have q1_4 := hSw.2.1.cell 4
  simp only [List.getElem?_toArray, List.getElem?_cons_zero, List.getElem?_cons_succ] at q0_0 q0_1 q1_0 q1_1 q1_2 q1_3 q1_4
  go_simp
  try with_reducible rfl
 try simp only [Act.put, List.setIfInBounds_toArray, List.set_cons_zero, List.set_cons_succ]
 refine takeH (i := 4) (d := some 32) (v := ?_) rfl rfl (by kernel_rfl) (by kernel_rfl) (by kernel_rfl) (fun _ _ _ h => h) (Or.inl ⟨by rfl, ?_⟩) (by assumption) ?_
 rotate_left
 ·intro w hSw
  try dsimp only at hSw
  go_simp
  try with_reducible rfl
 try simp only [Act.put, List.setIfInBounds_toArray, List.set_cons_zero, List.set_cons_succ]
 refine takeH (i := 5) (d := some 33) (v := ?_) rfl rfl (by kernel_rfl) (by kernel_rfl) (by kernel_rfl) (fun _ _ _ h => h) (Or.inl ⟨by rfl, ?_⟩) (by assumption) ?_
 rotate_left
 ·intro w hSw
  try dsimp only at hSw
  have q0_0 := hSw.1.cell 0
  have q0_1 := hSw.1.cell 1
  have q1_0 := hSw.2.1.cell 0
  have q1_1 := hSw.2.1.cell 1
  have q1_2 := hSw.2.1.cell 2
  have q1_3 := hSw.2.1.cell 3
  have q1_4 := hSw.2.1.cell 4
  simp only [List.getElem?_toArray, List.getElem?_cons_zero, List.getElem?_cons_succ] at q0_0 q0_1 q1_0 q1_1 q1_2 q1_3 q1_4
  go_simp
  try with_reducible rfl
 try simp only [Act.put, List.setIfInBounds_toArray, List.set_cons_zero, List.set_cons_succ]
 refine wpAnyH_ready (rs := [6]) (by kernel_rfl) (by simp) ?_
 refine AllReadyH.cons rfl (fun K hK => ?_) AllReadyH.nil
 go_simp
 refine HAD.out.mono ?_
 rintro e w5 ⟨rfl, F5, hr5, hs5⟩
 refine hK.out _ _ ?_ (fun hHeld => ?_)
 ·exact ⟨hHeld.1.turns hs5.t HNQ3.out, hHeld.2.1.turns hs5.t HNK3.out, hHeld.2.2.trans hs5.t⟩
 clear hK K
 try simp only [Act.put, List.setIfInBounds_toArray, List.set_cons_zero, List.set_cons_succ]
 refine wpAnyH_done (by kernel_rfl) ?_ _
 have HB5 := HB4.out.drew.turns hs5.t HNB3.out
 obtain ⟨lb5, FF5, hin5, hlb5, hst5⟩ := (HIN4.out.turns (Turns.refl (fun _ => False) V).drew (fun _ _ h => h)).setRd (HLB4.out.turns (Turns.refl (fun _ => False) V).drew) hr5 hs5
 have HB5 := Lib.hid HB5
 have HK5 := Lib.hid hHeld.2.1
 have HS5 := Lib.hid (((Stp.made (F := F) HM4.out).trans (Stp.made (Turns.refl (fun _ => False) V).drew)).trans hst5)
 have HIN5 := Lib.hid hin5
 have HLB5 := Lib.hid hlb5
 have hz1 : lb w.heap.size = 0 := by
  by_cases e : lb w.heap.size = 0
  ·exact e
  ·have := HLB0.out.lt _ e; omega
 have hz2 : lb w1.heap.size = 0 := by
  by_cases e : lb w1.heap.size = 0
  ·exact e
  ·have := HLB0.out.lt _ e; omega
 have HZ5 := Lib.hid (show lb5 w.heap.size = 0 ∧ lb5 w1.heap.size = 0 from ⟨(HLB4.out.turns (Turns.refl (fun _ => False) V).drew).stay hlb5 hst5 (by have := HK4.out.lt; exact this) hz1, (HLB4.out.turns (Turns.refl (fun _ => False) V).drew).stay hlb5 hst5 (by have := HB4.out.lt; exact this) hz2⟩)
 clear hz1 hz2
 have HN5 := Lib.hid (show ¬ lb5 w.heap.size = 2 ∧ ¬ lb5 w1.heap.size = 2 ∧ ¬ lb5 q = 2 from ⟨fun e => by rw [HZ5.out.1] at e; omega, fun e => by rw [HZ5.out.2] at e; omega, by rw [hin5.lq]; omega⟩)
 have HSZ5 := Lib.hid (show w1.heap.size < w5.heap.size from by have h1 := (HB5.out).lt; omega)
 clear hHeld hr5 hs5 hin5 hlb5 hst5
 go_wp2_with (first
  | (refine wpList_store_mid (o := ⟨none, .store 25 (.tmp 36) (.tmp 35), _, _, _, _⟩) rfl rfl _ _ _ rfl rfl (insC ⟨0, 0, 0, 0⟩) [.int .i64 pg, .int .i64 (pc + 1), .int .i64 0, .int .i64 how, .int .i64 ((r.set j v).set k 0).r0, .int .i64 ((r.set j v).set k 0).r1, .int .i64 ((r.set j v).set k 0).r2, .int .i64 ((r.set j v).set k 0).r3, .int .i64 ((r.set j v).set k 0).r4, .int .i64 ((r.set j v).set k 0).r5, .int .i64 ((r.set j v).set k 0).r6, .int .i64 ((r.set j v).set k 0).r7] (insC ⟨11, ia, j, k⟩) [] (t := 38) rfl (show Blk w5 w1.heap.size _ _ from by simpa [insC] using HB5.out) rfl rfl (insC_one _) Tryz.sizeIns ?_; intro w6 hb6 ht6; have HB60 := Lib.hid hb6; have HT60 := Lib.hid ht6; clear hb6 ht6)
  | fail)
 have HB6 : Hid (Blk w6 w1.heap.size 38 (tskA ⟨pg, pc + 1, 0, how, ((r.set j v).set k 0), ⟨0, 0, 0, 0⟩⟩)) := Lib.hid (by simpa [insC] using HB60.out)
 have HS6 : Hid (Stp w w6 F FF5) := Lib.hid ⟨HS5.out.t.then HT60.out (fun k hk e => by omega), HS5.out.f⟩
 have HIN6 := Lib.hid (HIN5.out.turns HT60.out (fun k hk e => by rw [e] at hk; exact hk HZ5.out.2))
 have HLB6 := Lib.hid (HLB5.out.turns HT60.out)
 have HK6 := Lib.hid (HK5.out.turns HT60.out (fun e => by omega))
 have HAR := Lib.hid (arset_c (w := w6.drew) ⟨pg, pc + 1, 0, how, ((r.set j v).set k 0), ⟨0, 0, 0, 0⟩⟩ (HIN6.out.ar.made (Turns.refl (fun _ => False) w6).drew) hilt hl)
 have HQ6 := Lib.hid HIN6.out.blk
 refine wp_region_held_drew (S := fun w' => Blk w' (q) 87 #[.pointer (some ⟨pa, 0, none⟩), .pointer (some ⟨pl, 0, none⟩)] ∧ Blk w' (w1.heap.size) 38 (tskA ⟨pg, pc + 1, 0, how, ((r.set j v).set k 0), ⟨0, 0, 0, 0⟩⟩) ∧ Blk w' (w.heap.size) 207 #[.int .i64 i, .int .i64 ks, .int .i64 v, .bool false, .bool false] ∧ Turns (fun k => lb5 k = 2) w6 w') (by kernel_rfl) ?_ (fun hHeld => ?_)
 ·exact ⟨HQ6.out, HB6.out, HK6.out, (Turns.refl _ w6).drew⟩
 refine takeH (i := 0) (d := some 37) (v := ?_) rfl rfl (by kernel_rfl) (by kernel_rfl) (by kernel_rfl) (fun _ _ _ h => h) (Or.inl ⟨by rfl, ?_⟩) (by assumption) ?_
 rotate_left
 ·intro w hSw
  try dsimp only at hSw
  go_simp
  try with_reducible rfl
 try simp only [Act.put, List.setIfInBounds_toArray, List.set_cons_zero, List.set_cons_succ]
 refine takeH (i := 1) (d := some 38) (v := ?_) rfl rfl (by kernel_rfl) (by kernel_rfl) (by kernel_rfl) (fun _ _ _ h => h) (Or.inl ⟨by rfl, ?_⟩) (by assumption) ?_
 rotate_left
 ·intro w hSw
  try dsimp only at hSw
  go_simp
  try with_reducible rfl
 try simp only [Act.put, List.setIfInBounds_toArray, List.set_cons_zero, List.set_cons_succ]
 refine takeH (i := 2) (d := some 39) (v := ?_) rfl rfl (by kernel_rfl) (by kernel_rfl) (by kernel_rfl) (fun _ _ _ h => h) (Or.inl ⟨by rfl, ?_⟩) (by assumption) ?_
 rotate_left
 ·intro w hSw
  try dsimp only at hSw
  go_simp
  try with_reducible rfl
 try simp only [Act.put, List.setIfInBounds_toArray, List.set_cons_zero, List.set_cons_succ]
 refine takeH (i := 3) (d := some 40) (v := ?_) rfl rfl (by kernel_rfl) (by kernel_rfl) (by kernel_rfl) (fun _ _ _ h => h) (Or.inl ⟨by rfl, ?_⟩) (by assumption) ?_
 rotate_left
 ·intro w hSw
  try dsimp only at hSw
  have q0_0 := hSw.1.cell 0
  have q0_1 := hSw.1.cell 1
  have q2_0 := hSw.2.2.1.cell 0
  have q2_1 := hSw.2.2.1.cell 1
  have q2_2 := hSw.2.2.1.cell 2
  have q2_3 := hSw.2.2.1.cell 3
  have q2_4 := hSw.2.2.1.cell 4
  simp only [List.getElem?_toArray, List.getElem?_cons_zero, List.getElem?_cons_succ] at q0_0 q0_1 q2_0 q2_1 q2_2 q2_3 q2_4
  go_simp
  try with_reducible rfl
 try simp only [Act.put, List.setIfInBounds_toArray, List.set_cons_zero, List.set_cons_succ]
 refine takeH (i := 4) (d := some 41) (v := ?_) rfl rfl (by kernel_rfl) (by kernel_rfl) (by kernel_rfl) (fun _ _ _ h => h) (Or.inl ⟨by rfl, ?_⟩) (by assumption) ?_
 rotate_left
 ·intro w hSw
  try dsimp only at hSw
  go_simp
  try with_reducible rfl
 try simp only [Act.put, List.setIfInBounds_toArray, List.set_cons_zero, List.set_cons_succ]
 refine takeH (i := 5) (d := some 42) (v := ?_) rfl rfl (by kernel_rfl) (by kernel_rfl) (by kernel_rfl) (fun _ _ _ h => h) (Or.inl ⟨by rfl, ?_⟩) (by assumption) ?_
 rotate_left
 ·intro w hSw
  try dsimp only at hSw
  have q0_0 := hSw.1.cell 0
  have q0_1 := hSw.1.cell 1
  have q2_0 := hSw.2.2.1.cell 0
  have q2_1 := hSw.2.2.1.cell 1
  have q2_2 := hSw.2.2.1.cell 2
  have q2_3 := hSw.2.2.1.cell 3
  have q2_4 := hSw.2.2.1.cell 4
  simp only [List.getElem?_toArray, List.getElem?_cons_zero, List.getElem?_cons_succ] at q0_0 q0_1 q2_0 q2_1 q2_2 q2_3 q2_4
  go_simp
  try with_reducible rfl
 try simp only [Act.put, List.setIfInBounds_toArray, List.set_cons_zero, List.set_cons_succ]
 refine takeH (i := 6) (d := some 43) (v := ?_) rfl rfl (by kernel_rfl) (by kernel_rfl) (by kernel_rfl) (fun _ _ _ h => h) (Or.inl ⟨by rfl, ?_⟩) (by assumption) ?_
 rotate_left
 ·intro w hSw
  try dsimp only at hSw
  refine exec_load_row (P := Tryz.prog) (x := .tmp 5) ?_ ?_ hSw.2.1 Tryz.underlying38 ?_ Tryz.sizeTsk <;> rfl
 try simp only [Act.put, List.setIfInBounds_toArray, List.set_cons_zero, List.set_cons_succ]
 refine wpAnyH_ready (rs := [7]) (by kernel_rfl) (by simp) ?_
 refine AllReadyH.cons rfl (fun K hK => ?_) AllReadyH.nil
 go_simp
 refine HAR.out.mono ?_
 rintro e w7 ⟨rfl, ha7, ht7⟩
 refine hK.out _ _ ?_ (fun hHeld => ?_)
 ·exact ⟨hHeld.1.turns ht7 HN5.out.2.2, hHeld.2.1.turns ht7 HN5.out.2.1, hHeld.2.2.1.turns ht7 HN5.out.1, hHeld.2.2.2.trans ht7⟩
 clear hK K
 try simp only [Act.put, List.setIfInBounds_toArray, List.set_cons_zero, List.set_cons_succ]
 refine wpAnyH_done (by kernel_rfl) ?_ _
 obtain ⟨lb7, F7, hin7, hlb7, hst7⟩ := (HIN6.out.turns (Turns.refl (fun _ => False) w6).drew (fun _ _ h => h)).setAr (HLB6.out.turns (Turns.refl (fun _ => False) w6).drew) ha7 (Stp.same ht7)
 have HE := Lib.hid (And.intro hin7 (And.intro hlb7 ((HS6.out.trans (Stp.made (Turns.refl (fun _ => False) w6).drew)).trans hst7)))
 clear hHeld ha7 ht7 hin7 hlb7 hst7
 go_wp2_with fail
 go_ret
 exact ⟨rfl, F7, ⟨pa, pl, lb7, HE.out.1, HE.out.2.1⟩, HE.out.2.2⟩
set_option maxRecDepth 100000 in
set_option maxHeartbeats 4000000 in
theorem tabwake_yes {w : World} {q i j k : Nat} {F : Nat → Prop} {ts : List Tsk} {rd : List Int} {pg pc how ia ks v : Int} {r : Reg} (h : TabAt w q F ts rd) (hx : ts[i]? = some ⟨pg, pc, 1, how, r, ⟨11, ia, j, k⟩⟩) (hl : ts.length ≤ 64) (hj : j < 8) (hk : k < 8) (hpc : 0 ≤ pc ∧ pc ≤ 1000) (hni : (i : Int) ∉ rd) (hrl : rd.length ≤ 1000) :
  Calls Tryz.prog 116 #[.pointer (some ⟨q, 0, none⟩), .agg #[.int .i64 i, .int .i64 ks, .int .i64 v, .bool true, .bool false]] w fun e w' => e = .returned (.int .i64 0) ∧ ∃ F', TabAt w' q F' (ts.set i ⟨pg, pc + 1, 0, how, ((r.set j v).set k 1), ⟨0, 0, 0, 0⟩⟩) (rd ++ [(i : Int)]) ∧ Stp w w' F F' := by
 have hilt := (List.getElem?_eq_some_iff.1 hx).1
 obtain ⟨hpc1, hpc2⟩ := hpc
 have HM := Lib.hid ((Turns.refl (fun _ => False) w).alloc (.cells #[.int .i64 i, .int .i64 ks, .int .i64 v, .bool true, .bool false] 207))
 have HK := Lib.hid (Blk.new w 207 #[.int .i64 i, .int .i64 ks, .int .i64 v, .bool true, .bool false])
 have HA := Lib.hid (tabis_parked (h.made HM.out) hx hl rfl)
 have HT := Lib.hid h
 have HNI := Lib.hid hni
 clear h hx hni
 go_enter Tryz.func116, Tryz.ntmps116
 go_wp2_with fail
 refine HA.out.mono ?_
 rintro e w1 ⟨rfl, hm1⟩
 have HM1 := Lib.hid hm1
 have hlt : w.heap.size < w1.heap.size := (HK.out.turns hm1 (fun h => h)).lt
 clear hm1
 go_wp2_with (first
  | (refine wpList_store_blk (o := ⟨none, .store 38 (.tmp 5) (.tmp 12), _, _, _, _⟩) rfl _ _ _ rfl rfl _ rfl (tskC ⟨pg, pc, 1, how, r, ⟨11, ia, j, k⟩⟩) ([.int .i64 0, .int .i64 0, .int .i64 0, .int .i64 0, .int .i64 0, .int .i64 0, .int .i64 0, .int .i64 0, .int .i64 0, .int .i64 0, .int .i64 0, .int .i64 0, .int .i64 0, .int .i64 0, .int .i64 0, .int .i64 0, .slice none 0 0, .bool false]) 38 rfl (Blk.new _ _ _) rfl (tskC_one ⟨pg, pc, 1, how, r, ⟨11, ia, j, k⟩⟩) Tryz.sizeTsk ?_; intro w2 hb2 ht2; have HB2 := Lib.hid hb2; have HT2 := Lib.hid ht2; have HK2 := HK.out.turns ((HM1.out.alloc (.cells tskZ 38)).then HT2.out (S := fun _ => False) (fun k hk e => by have := HM1.out.size; omega)) (fun h => h); have i0 := HK2.cell 0; have i1 := HK2.cell 1; have i2 := HK2.cell 2; have i3 := HK2.cell 3; have i4 := HK2.cell 4; simp only [List.getElem?_toArray, List.getElem?_cons_zero, List.getElem?_cons_succ] at i0 i1 i2 i3 i4; have HK2 := Lib.hid HK2; clear hb2 ht2)
  | fail)
 refine (told_yes HB2.out hj hk).mono ?_
 rintro e w3 ⟨rfl, hb3, ht3⟩
 have HB3 := Lib.hid hb3
 have HK3 := Lib.hid (HK2.out.turns ht3 (fun e => by omega))
 have HM3 := Lib.hid (show Made w w3 from (HM.out.trans ((HM1.out.alloc _).then HT2.out (fun k hk e => by have := HM1.out.size; omega))).then ht3 (fun k hk e => by omega))
 have b1 := hb3.cell 1
 have b2 := hb3.cell 2
 have fb1 := hb3.free 1
 have fb2 := hb3.free 2
 simp only [List.getElem?_toArray, List.getElem?_cons_zero, List.getElem?_cons_succ] at b1 b2
 clear hb3 ht3
 go_upto_region 9 with fail
 obtain ⟨pa, pl, lb, hin, hlab⟩ := HT.out
 have HLB0 := Lib.hid hlab
 have hm4 := (HM3.out.then (set1 w3 w1.heap.size 1 (.int .i64 (pc + 1))) (fun k hk e => by omega)).then (set1 _ w1.heap.size 2 (.int .i64 0)) (fun k hk e => by omega)
 have HIN4 := Lib.hid (hin.turns hm4 (fun _ _ h => h))
 have HLB4 := Lib.hid (hlab.turns hm4)
 have HB4 := (HB3.out.put 1 (.int .i64 (pc + 1))).put 2 (.int .i64 0)
 simp only [List.setIfInBounds_toArray, List.set_cons_zero, List.set_cons_succ] at HB4
 have HB4 := Lib.hid HB4
 have HK4 := Lib.hid ((HK3.out.far (p := ⟨w1.heap.size, 1, none⟩) (fun e => by simp only at e; omega) (.int .i64 (pc + 1))).far (p := ⟨w1.heap.size, 2, none⟩) (fun e => by simp only at e; omega) (.int .i64 0))
 have HM4 := Lib.hid hm4
 clear hin hlab hm4 b1 b2 fb1 fb2
 generalize (w3.setCell ⟨w1.heap.size, 1, none⟩ (.int .i64 (pc + 1))).setCell ⟨w1.heap.size, 2, none⟩ (.int .i64 0) = V at *
 have HQ4 := Lib.hid HIN4.out.blk
 have HAD := Lib.hid (rdadd_c (w := V.drew) (i : Int) (HIN4.out.rl.made (Turns.refl (fun _ => False) V).drew) HNI.out (by omega) hrl)
 have hlq := HIN4.out.lq
 have HNQ3 := Lib.hid (show ¬ lb q = 3 from by rw [hlq]; omega)
 have HNK3 := Lib.hid (show ¬ lb w.heap.size = 3 from fun e => by have := HLB0.out.lt w.heap.size (by omega); omega)
 have HNQ2 := Lib.hid (show ¬ lb q = 2 from by rw [hlq]; omega)
 have HNK2 := Lib.hid (show ¬ lb w.heap.size = 2 from fun e => by have := HLB0.out.lt w.heap.size (by omega); omega)
 have HNB3 := Lib.hid (show ¬ lb w1.heap.size = 3 from fun e => by have := HLB0.out.lt w1.heap.size (by omega); omega)
 have HNB2 := Lib.hid (show ¬ lb w1.heap.size = 2 from fun e => by have := HLB0.out.lt w1.heap.size (by omega); omega)
 have HLQ := Lib.hid hlq
 clear hlq
 refine wp_region_held_drew (S := fun w' => Blk w' (q) 87 #[.pointer (some ⟨pa, 0, none⟩), .pointer (some ⟨pl, 0, none⟩)] ∧ Blk w' (w.heap.size) 207 #[.int .i64 i, .int .i64 ks, .int .i64 v, .bool true, .bool false] ∧ Turns (fun k => lb k = 3) V w') (by kernel_rfl) ?_ (fun hHeld => ?_)
 ·exact ⟨HQ4.out, HK4.out, (Turns.refl _ V).drew⟩
 refine takeH (i := 0) (d := some 28) (v := ?_) rfl rfl (by kernel_rfl) (by kernel_rfl) (by kernel_rfl) (fun _ _ _ h => h) (Or.inl ⟨by rfl, ?_⟩) (by assumption) ?_
 rotate_left
 ·intro w hSw
  try dsimp only at hSw
  go_simp
  try with_reducible rfl
 try simp only [Act.put, List.setIfInBounds_toArray, List.set_cons_zero, List.set_cons_succ]
 refine takeH (i := 1) (d := some 29) (v := ?_) rfl rfl (by kernel_rfl) (by kernel_rfl) (by kernel_rfl) (fun _ _ _ h => h) (Or.inl ⟨by rfl, ?_⟩) (by assumption) ?_
 rotate_left
 ·intro w hSw
  try dsimp only at hSw
  go_simp
  try with_reducible rfl
 try simp only [Act.put, List.setIfInBounds_toArray, List.set_cons_zero, List.set_cons_succ]
 refine takeH (i := 2) (d := some 30) (v := ?_) rfl rfl (by kernel_rfl) (by kernel_rfl) (by kernel_rfl) (fun _ _ _ h => h) (Or.inl ⟨by rfl, ?_⟩) (by assumption) ?_
 rotate_left
 ·intro w hSw
  try dsimp only at hSw
  go_simp
  try with_reducible rfl
 try simp only [Act.put, List.setIfInBounds_toArray, List.set_cons_zero, List.set_cons_succ]
 refine takeH (i := 3) (d := some 31) (v := ?_) rfl rfl (by kernel_rfl) (by kernel_rfl) (by kernel_rfl) (fun _ _ _ h => h) (Or.inl ⟨by rfl, ?_⟩) (by assumption) ?_
 rotate_left
 ·intro w hSw
  try dsimp only at hSw
  have q0_0 := hSw.1.cell 0
  have q0_1 := hSw.1.cell 1
  have q1_0 := hSw.2.1.cell 0
  have q1_1 := hSw.2.1.cell 1
  have q1_2 := hSw.2.1.cell 2
  have q1_3 := hSw.2.1.cell 3
  have q1_4 := hSw.2.1.cell 4
  simp only [List.getElem?_toArray, List.getElem?_cons_zero, List.getElem?_cons_succ] at q0_0 q0_1 q1_0 q1_1 q1_2 q1_3 q1_4
  go_simp
  try with_reducible rfl
 try simp only [Act.put, List.setIfInBounds_toArray, List.set_cons_zero, List.set_cons_succ]
 refine takeH (i := 4) (d := some 32) (v := ?_) rfl rfl (by kernel_rfl) (by kernel_rfl) (by kernel_rfl) (fun _ _ _ h => h) (Or.inl ⟨by rfl, ?_⟩) (by assumption) ?_
 rotate_left
 ·intro w hSw
  try dsimp only at hSw
  go_simp
  try with_reducible rfl
 try simp only [Act.put, List.setIfInBounds_toArray, List.set_cons_zero, List.set_cons_succ]
 refine takeH (i := 5) (d := some 33) (v := ?_) rfl rfl (by kernel_rfl) (by kernel_rfl) (by kernel_rfl) (fun _ _ _ h => h) (Or.inl ⟨by rfl, ?_⟩) (by assumption) ?_
 rotate_left
 ·intro w hSw
  try dsimp only at hSw
  have q0_0 := hSw.1.cell 0
  have q0_1 := hSw.1.cell 1
  have q1_0 := hSw.2.1.cell 0
  have q1_1 := hSw.2.1.cell 1
  have q1_2 := hSw.2.1.cell 2
  have q1_3 := hSw.2.1.cell 3
  have q1_4 := hSw.2.1.cell 4
  simp only [List.getElem?_toArray, List.getElem?_cons_zero, List.getElem?_cons_succ] at q0_0 q0_1 q1_0 q1_1 q1_2 q1_3 q1_4
  go_simp
  try with_reducible rfl
 try simp only [Act.put, List.setIfInBounds_toArray, List.set_cons_zero, List.set_cons_succ]
 refine wpAnyH_ready (rs := [6]) (by kernel_rfl) (by simp) ?_
 refine AllReadyH.cons rfl (fun K hK => ?_) AllReadyH.nil
 go_simp
 refine HAD.out.mono ?_
 rintro e w5 ⟨rfl, F5, hr5, hs5⟩
 refine hK.out _ _ ?_ (fun hHeld => ?_)
 ·exact ⟨hHeld.1.turns hs5.t HNQ3.out, hHeld.2.1.turns hs5.t HNK3.out, hHeld.2.2.trans hs5.t⟩
 clear hK K
 try simp only [Act.put, List.setIfInBounds_toArray, List.set_cons_zero, List.set_cons_succ]
 refine wpAnyH_done (by kernel_rfl) ?_ _
 have HB5 := HB4.out.drew.turns hs5.t HNB3.out
 obtain ⟨lb5, FF5, hin5, hlb5, hst5⟩ := (HIN4.out.turns (Turns.refl (fun _ => False) V).drew (fun _ _ h => h)).setRd (HLB4.out.turns (Turns.refl (fun _ => False) V).drew) hr5 hs5
 have HB5 := Lib.hid HB5
 have HK5 := Lib.hid hHeld.2.1
 have HS5 := Lib.hid (((Stp.made (F := F) HM4.out).trans (Stp.made (Turns.refl (fun _ => False) V).drew)).trans hst5)
 have HIN5 := Lib.hid hin5
 have HLB5 := Lib.hid hlb5
 have hz1 : lb w.heap.size = 0 := by
  by_cases e : lb w.heap.size = 0
  ·exact e
  ·have := HLB0.out.lt _ e; omega
 have hz2 : lb w1.heap.size = 0 := by
  by_cases e : lb w1.heap.size = 0
  ·exact e
  ·have := HLB0.out.lt _ e; omega
 have HZ5 := Lib.hid (show lb5 w.heap.size = 0 ∧ lb5 w1.heap.size = 0 from ⟨(HLB4.out.turns (Turns.refl (fun _ => False) V).drew).stay hlb5 hst5 (by have := HK4.out.lt; exact this) hz1, (HLB4.out.turns (Turns.refl (fun _ => False) V).drew).stay hlb5 hst5 (by have := HB4.out.lt; exact this) hz2⟩)
 clear hz1 hz2
 have HN5 := Lib.hid (show ¬ lb5 w.heap.size = 2 ∧ ¬ lb5 w1.heap.size = 2 ∧ ¬ lb5 q = 2 from ⟨fun e => by rw [HZ5.out.1] at e; omega, fun e => by rw [HZ5.out.2] at e; omega, by rw [hin5.lq]; omega⟩)
 have HSZ5 := Lib.hid (show w1.heap.size < w5.heap.size from by have h1 := (HB5.out).lt; omega)
 clear hHeld hr5 hs5 hin5 hlb5 hst5
 go_wp2_with (first
  | (refine wpList_store_mid (o := ⟨none, .store 25 (.tmp 36) (.tmp 35), _, _, _, _⟩) rfl rfl _ _ _ rfl rfl (insC ⟨0, 0, 0, 0⟩) [.int .i64 pg, .int .i64 (pc + 1), .int .i64 0, .int .i64 how, .int .i64 ((r.set j v).set k 1).r0, .int .i64 ((r.set j v).set k 1).r1, .int .i64 ((r.set j v).set k 1).r2, .int .i64 ((r.set j v).set k 1).r3, .int .i64 ((r.set j v).set k 1).r4, .int .i64 ((r.set j v).set k 1).r5, .int .i64 ((r.set j v).set k 1).r6, .int .i64 ((r.set j v).set k 1).r7] (insC ⟨11, ia, j, k⟩) [] (t := 38) rfl (show Blk w5 w1.heap.size _ _ from by simpa [insC] using HB5.out) rfl rfl (insC_one _) Tryz.sizeIns ?_; intro w6 hb6 ht6; have HB60 := Lib.hid hb6; have HT60 := Lib.hid ht6; clear hb6 ht6)
  | fail)
 have HB6 : Hid (Blk w6 w1.heap.size 38 (tskA ⟨pg, pc + 1, 0, how, ((r.set j v).set k 1), ⟨0, 0, 0, 0⟩⟩)) := Lib.hid (by simpa [insC] using HB60.out)
 have HS6 : Hid (Stp w w6 F FF5) := Lib.hid ⟨HS5.out.t.then HT60.out (fun k hk e => by omega), HS5.out.f⟩
 have HIN6 := Lib.hid (HIN5.out.turns HT60.out (fun k hk e => by rw [e] at hk; exact hk HZ5.out.2))
 have HLB6 := Lib.hid (HLB5.out.turns HT60.out)
 have HK6 := Lib.hid (HK5.out.turns HT60.out (fun e => by omega))
 have HAR := Lib.hid (arset_c (w := w6.drew) ⟨pg, pc + 1, 0, how, ((r.set j v).set k 1), ⟨0, 0, 0, 0⟩⟩ (HIN6.out.ar.made (Turns.refl (fun _ => False) w6).drew) hilt hl)
 have HQ6 := Lib.hid HIN6.out.blk
 refine wp_region_held_drew (S := fun w' => Blk w' (q) 87 #[.pointer (some ⟨pa, 0, none⟩), .pointer (some ⟨pl, 0, none⟩)] ∧ Blk w' (w1.heap.size) 38 (tskA ⟨pg, pc + 1, 0, how, ((r.set j v).set k 1), ⟨0, 0, 0, 0⟩⟩) ∧ Blk w' (w.heap.size) 207 #[.int .i64 i, .int .i64 ks, .int .i64 v, .bool true, .bool false] ∧ Turns (fun k => lb5 k = 2) w6 w') (by kernel_rfl) ?_ (fun hHeld => ?_)
 ·exact ⟨HQ6.out, HB6.out, HK6.out, (Turns.refl _ w6).drew⟩
 refine takeH (i := 0) (d := some 37) (v := ?_) rfl rfl (by kernel_rfl) (by kernel_rfl) (by kernel_rfl) (fun _ _ _ h => h) (Or.inl ⟨by rfl, ?_⟩) (by assumption) ?_
 rotate_left
 ·intro w hSw
  try dsimp only at hSw
  go_simp
  try with_reducible rfl
 try simp only [Act.put, List.setIfInBounds_toArray, List.set_cons_zero, List.set_cons_succ]
 refine takeH (i := 1) (d := some 38) (v := ?_) rfl rfl (by kernel_rfl) (by kernel_rfl) (by kernel_rfl) (fun _ _ _ h => h) (Or.inl ⟨by rfl, ?_⟩) (by assumption) ?_
 rotate_left
 ·intro w hSw
  try dsimp only at hSw
  go_simp
  try with_reducible rfl
 try simp only [Act.put, List.setIfInBounds_toArray, List.set_cons_zero, List.set_cons_succ]
 refine takeH (i := 2) (d := some 39) (v := ?_) rfl rfl (by kernel_rfl) (by kernel_rfl) (by kernel_rfl) (fun _ _ _ h => h) (Or.inl ⟨by rfl, ?_⟩) (by assumption) ?_
 rotate_left
 ·intro w hSw
  try dsimp only at hSw
  go_simp
  try with_reducible rfl
 try simp only [Act.put, List.setIfInBounds_toArray, List.set_cons_zero, List.set_cons_succ]
 refine takeH (i := 3) (d := some 40) (v := ?_) rfl rfl (by kernel_rfl) (by kernel_rfl) (by kernel_rfl) (fun _ _ _ h => h) (Or.inl ⟨by rfl, ?_⟩) (by assumption) ?_
 rotate_left
 ·intro w hSw
  try dsimp only at hSw
  have q0_0 := hSw.1.cell 0
  have q0_1 := hSw.1.cell 1
  have q2_0 := hSw.2.2.1.cell 0
  have q2_1 := hSw.2.2.1.cell 1
  have q2_2 := hSw.2.2.1.cell 2
  have q2_3 := hSw.2.2.1.cell 3
  have q2_4 := hSw.2.2.1.cell 4
  simp only [List.getElem?_toArray, List.getElem?_cons_zero, List.getElem?_cons_succ] at q0_0 q0_1 q2_0 q2_1 q2_2 q2_3 q2_4
  go_simp
  try with_reducible rfl
 try simp only [Act.put, List.setIfInBounds_toArray, List.set_cons_zero, List.set_cons_succ]
 refine takeH (i := 4) (d := some 41) (v := ?_) rfl rfl (by kernel_rfl) (by kernel_rfl) (by kernel_rfl) (fun _ _ _ h => h) (Or.inl ⟨by rfl, ?_⟩) (by assumption) ?_
 rotate_left
 ·intro w hSw
  try dsimp only at hSw
  go_simp
  try with_reducible rfl
 try simp only [Act.put, List.setIfInBounds_toArray, List.set_cons_zero, List.set_cons_succ]
 refine takeH (i := 5) (d := some 42) (v := ?_) rfl rfl (by kernel_rfl) (by kernel_rfl) (by kernel_rfl) (fun _ _ _ h => h) (Or.inl ⟨by rfl, ?_⟩) (by assumption) ?_
 rotate_left
 ·intro w hSw
  try dsimp only at hSw
  have q0_0 := hSw.1.cell 0
  have q0_1 := hSw.1.cell 1
  have q2_0 := hSw.2.2.1.cell 0
  have q2_1 := hSw.2.2.1.cell 1
  have q2_2 := hSw.2.2.1.cell 2
  have q2_3 := hSw.2.2.1.cell 3
  have q2_4 := hSw.2.2.1.cell 4
  simp only [List.getElem?_toArray, List.getElem?_cons_zero, List.getElem?_cons_succ] at q0_0 q0_1 q2_0 q2_1 q2_2 q2_3 q2_4
  go_simp
  try with_reducible rfl
 try simp only [Act.put, List.setIfInBounds_toArray, List.set_cons_zero, List.set_cons_succ]
 refine takeH (i := 6) (d := some 43) (v := ?_) rfl rfl (by kernel_rfl) (by kernel_rfl) (by kernel_rfl) (fun _ _ _ h => h) (Or.inl ⟨by rfl, ?_⟩) (by assumption) ?_
 rotate_left
 ·intro w hSw
  try dsimp only at hSw
  refine exec_load_row (P := Tryz.prog) (x := .tmp 5) ?_ ?_ hSw.2.1 Tryz.underlying38 ?_ Tryz.sizeTsk <;> rfl
 try simp only [Act.put, List.setIfInBounds_toArray, List.set_cons_zero, List.set_cons_succ]
 refine wpAnyH_ready (rs := [7]) (by kernel_rfl) (by simp) ?_
 refine AllReadyH.cons rfl (fun K hK => ?_) AllReadyH.nil
 go_simp
 refine HAR.out.mono ?_
 rintro e w7 ⟨rfl, ha7, ht7⟩
 refine hK.out _ _ ?_ (fun hHeld => ?_)
 ·exact ⟨hHeld.1.turns ht7 HN5.out.2.2, hHeld.2.1.turns ht7 HN5.out.2.1, hHeld.2.2.1.turns ht7 HN5.out.1, hHeld.2.2.2.trans ht7⟩
 clear hK K
 try simp only [Act.put, List.setIfInBounds_toArray, List.set_cons_zero, List.set_cons_succ]
 refine wpAnyH_done (by kernel_rfl) ?_ _
 obtain ⟨lb7, F7, hin7, hlb7, hst7⟩ := (HIN6.out.turns (Turns.refl (fun _ => False) w6).drew (fun _ _ h => h)).setAr (HLB6.out.turns (Turns.refl (fun _ => False) w6).drew) ha7 (Stp.same ht7)
 have HE := Lib.hid (And.intro hin7 (And.intro hlb7 ((HS6.out.trans (Stp.made (Turns.refl (fun _ => False) w6).drew)).trans hst7)))
 clear hHeld ha7 ht7 hin7 hlb7 hst7
 go_wp2_with fail
 go_ret
 exact ⟨rfl, F7, ⟨pa, pl, lb7, HE.out.1, HE.out.2.1⟩, HE.out.2.2⟩
end Go.Proofs.YtjnkphhlkoapbaaGreat
namespace Go.Proofs.YtjnkphhlkoapbaaGreat
open Go.RowKit
set_option linter.unusedVariables false
set_option linter.unusedSimpArgs false
theorem tabready_c {w : World} {q : Nat} {F : Nat → Prop} {ts : List Tsk} {rd : List Int} (h : TabAt w q F ts rd) (hrl : rd.length ≤ 1000) :
  Calls Tryz.prog 46 #[.pointer (some ⟨q, 0, none⟩)] w fun e w' => ∃ v', e = .returned v' ∧ Owns encI 3 1 w' v' rd ∧ Made w w' ∧ (∀ k, v'.ownBlock = some k → w.heap.size ≤ k) := by
 obtain ⟨pa, pl, lb, hin, hlab⟩ := h
 have q1 := hin.blk.cell 1
 simp only [List.getElem?_toArray, List.getElem?_cons_zero, List.getElem?_cons_succ] at q1
 have H := Lib.hid (rdall_c hin.rl (by omega))
 clear hin hlab
 go_enter Tryz.func46, Tryz.ntmps46
 go_wp2_with fail
 refine H.out.mono ?_
 rintro e w1 ⟨v', rfl, h1, h2, h3⟩
 have HH := Lib.hid (And.intro h1 (And.intro h2 h3))
 clear h1 h2 h3
 go_wp2_with fail
 go_ret
 exact ⟨v', rfl, HH.out⟩
theorem tabpick_none {w : World} {q : Nat} {F : Nat → Prop} {ts : List Tsk} (n : Int) (h : TabAt w q F ts []) :
  Calls Tryz.prog 47 #[.pointer (some ⟨q, 0, none⟩), .int .i64 n] w fun e w' => e = .returned (.tuple #[.int .i64 0, .bool false]) ∧ w = w' := by
 obtain ⟨pa, pl, lb, hin, hlab⟩ := h
 have q1 := hin.blk.cell 1
 simp only [List.getElem?_toArray, List.getElem?_cons_zero, List.getElem?_cons_succ] at q1
 have H := Lib.hid (rdpick_none n hin.rl)
 clear hin hlab
 go_enter Tryz.func47, Tryz.ntmps47
 go_wp2_with fail
 refine H.out.mono ?_
 rintro e w1 ⟨rfl, rfl⟩
 go_wp2_with fail
 go_ret2
 exact ⟨rfl, rfl⟩
theorem tabpick_c {w : World} {q j : Nat} {F : Nat → Prop} {ts : List Tsk} {rd : List Int} {x : Int} (n : Int) (h : TabAt w q F ts rd) (hj : pickZ n rd.length = j) (hx : rd[j]? = some x) (hrl : rd.length ≤ 1000) :
  Calls Tryz.prog 47 #[.pointer (some ⟨q, 0, none⟩), .int .i64 n] w fun e w' => e = .returned (.tuple #[.int .i64 x, .bool true]) ∧ Made w w' := by
 obtain ⟨pa, pl, lb, hin, hlab⟩ := h
 have q1 := hin.blk.cell 1
 simp only [List.getElem?_toArray, List.getElem?_cons_zero, List.getElem?_cons_succ] at q1
 have H := Lib.hid (rdpick_c n hin.rl hj hx hrl)
 clear hin hlab hj hx
 go_enter Tryz.func47, Tryz.ntmps47
 go_wp2_with fail
 refine H.out.mono ?_
 rintro e w1 ⟨rfl, hm⟩
 have HM := Lib.hid hm
 clear hm
 go_wp2_with fail
 go_ret2
 exact ⟨rfl, HM.out⟩
set_option maxRecDepth 100000 in
set_option maxHeartbeats 4000000 in
theorem tabstart_c {w : World} {q : Nat} {F : Nat → Prop} {ts : List Tsk} {rd : List Int} {pg : Int} {r : Reg} (h : TabAt w q F ts rd) (hl : ts.length < 64) (hpg : 0 ≤ pg) (hni : (ts.length : Int) ∉ rd) (hrl : rd.length ≤ 1000) :
  Calls Tryz.prog 22 #[.pointer (some ⟨q, 0, none⟩), .int .i64 pg, regV r] w fun e w' => e = .returned (.tuple #[.int .i64 ts.length, .int .i64 0]) ∧ ∃ F', TabAt w' q F' (ts ++ [⟨pg, 0, 0, 0, r, ⟨0, 0, 0, 0⟩⟩]) (rd ++ [(ts.length : Int)]) ∧ Stp w w' F F' := by
 have HM := Lib.hid ((Turns.refl (fun _ => False) w).alloc (.cells #[.int .i64 r.r0, .int .i64 r.r1, .int .i64 r.r2, .int .i64 r.r3, .int .i64 r.r4, .int .i64 r.r5, .int .i64 r.r6, .int .i64 r.r7] 36))
 have HR := Lib.hid (Blk.new w 36 #[.int .i64 r.r0, .int .i64 r.r1, .int .i64 r.r2, .int .i64 r.r3, .int .i64 r.r4, .int .i64 r.r5, .int .i64 r.r6, .int .i64 r.r7])
 obtain ⟨pa, pl, lb, hin, hlab⟩ := h
 have HLB0 := Lib.hid hlab
 have HIN := Lib.hid (hin.turns HM.out (fun _ _ h => h))
 have HLB := Lib.hid (hlab.turns HM.out)
 have HNI := Lib.hid hni
 have HNR := Lib.hid (show ¬ lb w.heap.size = 2 from fun e => by have := hlab.lt w.heap.size (by omega); omega)
 have HNQ := Lib.hid (show ¬ lb q = 2 from by rw [hin.lq]; omega)
 clear hin hlab hni
 go_enter Tryz.func22, Tryz.ntmps22
 go_wp2_with fail
 generalize w.alloc (.cells #[.int .i64 r.r0, .int .i64 r.r1, .int .i64 r.r2, .int .i64 r.r3, .int .i64 r.r4, .int .i64 r.r5, .int .i64 r.r6, .int .i64 r.r7] 36) = W at *
 have HQ := Lib.hid HIN.out.blk
 have HAD := Lib.hid (aradd_c (w := W.drew) ⟨pg, 0, 0, 0, r, ⟨0, 0, 0, 0⟩⟩ (HIN.out.ar.made (Turns.refl (fun _ => False) W).drew) hl)
 refine wp_region_held_drew (S := fun w' => Blk w' (q) 87 #[.pointer (some ⟨pa, 0, none⟩), .pointer (some ⟨pl, 0, none⟩)] ∧ Blk w' (w.heap.size) 36 #[.int .i64 r.r0, .int .i64 r.r1, .int .i64 r.r2, .int .i64 r.r3, .int .i64 r.r4, .int .i64 r.r5, .int .i64 r.r6, .int .i64 r.r7] ∧ Turns (fun k => lb k = 2) W w') (by kernel_rfl) ?_ (fun hHeld => ?_)
 ·exact ⟨HQ.out, HR.out, (Turns.refl _ W).drew⟩
 refine takeH (i := 0) (d := some 17) (v := ?_) rfl rfl (by kernel_rfl) (by kernel_rfl) (by kernel_rfl) (fun _ _ _ h => h) (Or.inl ⟨by rfl, ?_⟩) (by assumption) ?_
 rotate_left
 ·intro w hSw
  try dsimp only at hSw
  go_simp
  try with_reducible rfl
 try simp only [Act.put, List.setIfInBounds_toArray, List.set_cons_zero, List.set_cons_succ]
 refine takeH (i := 1) (d := some 18) (v := ?_) rfl rfl (by kernel_rfl) (by kernel_rfl) (by kernel_rfl) (fun _ _ _ h => h) (Or.inl ⟨by rfl, ?_⟩) (by assumption) ?_
 rotate_left
 ·intro w hSw
  try dsimp only at hSw
  go_simp
  try with_reducible rfl
 try simp only [Act.put, List.setIfInBounds_toArray, List.set_cons_zero, List.set_cons_succ]
 refine takeH (i := 2) (d := some 19) (v := ?_) rfl rfl (by kernel_rfl) (by kernel_rfl) (by kernel_rfl) (fun _ _ _ h => h) (Or.inl ⟨by rfl, ?_⟩) (by assumption) ?_
 rotate_left
 ·intro w hSw
  try dsimp only at hSw
  go_simp
  try with_reducible rfl
 try simp only [Act.put, List.setIfInBounds_toArray, List.set_cons_zero, List.set_cons_succ]
 refine takeH (i := 3) (d := some 20) (v := ?_) rfl rfl (by kernel_rfl) (by kernel_rfl) (by kernel_rfl) (fun _ _ _ h => h) (Or.inl ⟨by rfl, ?_⟩) (by assumption) ?_
 rotate_left
 ·intro w hSw
  try dsimp only at hSw
  have q0_0 := hSw.1.cell 0
  have q0_1 := hSw.1.cell 1
  simp only [List.getElem?_toArray, List.getElem?_cons_zero, List.getElem?_cons_succ] at q0_0 q0_1
  go_simp
  try with_reducible rfl
 try simp only [Act.put, List.setIfInBounds_toArray, List.set_cons_zero, List.set_cons_succ]
 refine takeH (i := 4) (d := some 21) (v := ?_) rfl rfl (by kernel_rfl) (by kernel_rfl) (by kernel_rfl) (fun _ _ _ h => h) (Or.inl ⟨by rfl, ?_⟩) (by assumption) ?_
 rotate_left
 ·intro w hSw
  try dsimp only at hSw
  go_simp
  try with_reducible rfl
 try simp only [Act.put, List.setIfInBounds_toArray, List.set_cons_zero, List.set_cons_succ]
 refine takeH (i := 5) (d := some 22) (v := ?_) rfl rfl (by kernel_rfl) (by kernel_rfl) (by kernel_rfl) (fun _ _ _ h => h) (Or.inl ⟨by rfl, ?_⟩) (by assumption) ?_
 rotate_left
 ·intro w hSw
  try dsimp only at hSw
  refine exec_load_row (P := Tryz.prog) (x := .tmp 5) ?_ ?_ hSw.2.1 Tryz.underlying36 ?_ Tryz.sizeReg <;> rfl
 try simp only [Act.put, List.setIfInBounds_toArray, List.set_cons_zero, List.set_cons_succ]
 refine takeH (i := 6) (d := some 23) (v := ?_) rfl rfl (by kernel_rfl) (by kernel_rfl) (by kernel_rfl) (fun _ _ _ h => h) (Or.inl ⟨by rfl, ?_⟩) (by assumption) ?_
 rotate_left
 ·intro w hSw
  try dsimp only at hSw
  go_simp
  try with_reducible rfl
 try simp only [Act.put, List.setIfInBounds_toArray, List.set_cons_zero, List.set_cons_succ]
 refine wpAnyH_ready (rs := [7]) (by kernel_rfl) (by simp) ?_
 refine AllReadyH.cons rfl (fun K hK => ?_) AllReadyH.nil
 go_simp
 refine HAD.out.mono ?_
 rintro e w2 ⟨rfl, F2, ha2, hs2⟩
 refine hK.out _ _ ?_ (fun hHeld => ?_)
 ·exact ⟨hHeld.1.turns hs2.t HNQ.out, hHeld.2.1.turns hs2.t HNR.out, hHeld.2.2.trans hs2.t⟩
 clear hK K
 try simp only [Act.put, List.setIfInBounds_toArray, List.set_cons_zero, List.set_cons_succ]
 refine takeH (i := 8) (d := some 16) (v := ?_) rfl rfl (by kernel_rfl) (by kernel_rfl) (by kernel_rfl) (fun _ _ _ h => h) (Or.inl ⟨by rfl, ?_⟩) (by assumption) ?_
 rotate_left
 ·intro w hSw
  try dsimp only at hSw
  go_simp
  try with_reducible rfl
 try simp only [Act.put, List.setIfInBounds_toArray, List.set_cons_zero, List.set_cons_succ]
 refine takeH (i := 9) (d := some 25) (v := ?_) rfl rfl (by kernel_rfl) (by kernel_rfl) (by kernel_rfl) (fun _ _ _ h => h) (Or.inl ⟨by rfl, ?_⟩) (by assumption) ?_
 rotate_left
 ·intro w hSw
  try dsimp only at hSw
  go_simp
  try with_reducible rfl
 try simp only [Act.put, List.setIfInBounds_toArray, List.set_cons_zero, List.set_cons_succ]
 refine takeH (i := 10) (d := some 26) (v := ?_) rfl rfl (by kernel_rfl) (by kernel_rfl) (by kernel_rfl) (fun _ _ _ h => h) (Or.inl ⟨by rfl, ?_⟩) (by assumption) ?_
 rotate_left
 ·intro w hSw
  try dsimp only at hSw
  go_simp
  try with_reducible rfl
 try simp only [Act.put, List.setIfInBounds_toArray, List.set_cons_zero, List.set_cons_succ]
 refine takeH (i := 11) (d := some 8) (v := ?_) rfl rfl (by kernel_rfl) (by kernel_rfl) (by kernel_rfl) (fun _ _ _ h => h) (Or.inl ⟨by rfl, ?_⟩) (by assumption) ?_
 rotate_left
 ·intro w hSw
  try dsimp only at hSw
  go_simp
  try with_reducible rfl
 try simp only [Act.put, List.setIfInBounds_toArray, List.set_cons_zero, List.set_cons_succ]
 refine takeH (i := 12) (d := some 9) (v := ?_) rfl rfl (by kernel_rfl) (by kernel_rfl) (by kernel_rfl) (fun _ _ _ h => h) (Or.inl ⟨by rfl, ?_⟩) (by assumption) ?_
 rotate_left
 ·intro w hSw
  try dsimp only at hSw
  go_simp
  try with_reducible rfl
 try simp only [Act.put, List.setIfInBounds_toArray, List.set_cons_zero, List.set_cons_succ]
 refine wpAnyH_done (by kernel_rfl) ?_ _
 obtain ⟨lb2, F3, hin2, hlb2, hst2⟩ := (HIN.out.turns (Turns.refl (fun _ => False) W).drew (fun _ _ h => h)).setAr (HLB.out.turns (Turns.refl (fun _ => False) W).drew) ha2 hs2
 have HE := Lib.hid (And.intro hin2 (And.intro hlb2 (((Stp.made (F := F) HM.out).trans (Stp.made (Turns.refl (fun _ => False) W).drew)).trans hst2)))
 have q1 := hin2.blk.cell 1
 simp only [List.getElem?_toArray, List.getElem?_cons_zero, List.getElem?_cons_succ] at q1
 have HAD2 := Lib.hid (rdadd_c (w := w2) (ts.length : Int) hin2.rl HNI.out (by omega) hrl)
 clear hHeld ha2 hs2 hin2 hlb2 hst2
 go_wp2_with fail
 refine HAD2.out.mono ?_
 rintro e w3 ⟨rfl, F4, hr3, hs3⟩
 obtain ⟨lb3, F5, hin3, hlb3, hst3⟩ := HE.out.1.setRd HE.out.2.1 hr3 hs3
 have HE2 := Lib.hid (And.intro hin3 (And.intro hlb3 (HE.out.2.2.trans hst3)))
 clear hr3 hs3 hin3 hlb3 hst3 q1
 go_wp2_with fail
 go_ret2
 exact ⟨rfl, F5, ⟨pa, pl, lb3, HE2.out.1, HE2.out.2.1⟩, HE2.out.2.2⟩
end Go.Proofs.YtjnkphhlkoapbaaGreat
namespace Go.Proofs.YtjnkphhlkoapbaaGreat
open Go.RowKit
set_option linter.unusedVariables false
set_option linter.unusedSimpArgs false
set_option maxHeartbeats 1000000 in
theorem rgpush_c {w : World} {p : Nat} {F : Nat → Prop} (v : Int) (h : RIn w p F true none) :
  Calls Tryz.prog 107 #[.pointer (some ⟨p, 0, none⟩), .int .i64 v] w fun e w' => e = .returned (.bool true) ∧ RIn w' p F true (some v) ∧ Turns F w w' := by
 cases h with
 | one g c v0 o h hg hv hne hf =>
  have q0 := h.cell 0
  have q2 := h.cell 2
  have hne2 : p ≠ g := fun e => hne e.symm
  simp only [List.getElem?_toArray, List.getElem?_cons_zero, List.getElem?_cons_succ, Option.isSome_none, Bool.false_eq_true, if_false] at q0 q2
  go_enter Tryz.func107, Tryz.ntmps107
  go_wp2_with fail
  go_quiet (fail)
  go_wp2_with fail
  clear q0 q2
  have HP : Hid (Blk (w.drewN nq) p 249 #[.slice (some ⟨g, 0, none⟩) 1 c, .int .i64 0, .int .i64 0]) := Lib.hid h
  have HG : Hid (Blk (w.drewN nq) g 3 #[.int .i64 v0]) := Lib.hid hg
  have HM : Hid (Made w (w.drewN nq)) := Lib.hid ((Turns.refl _ w).drewN _)
  have HF := Lib.hid hf
  clear h hg hf hv
  generalize w.drewN nq = W at *
  refine wp_region_z (S := fun w' => Blk w' (p) 249 #[.slice (some ⟨g, 0, none⟩) 1 c, .int .i64 0, .int .i64 0] ∧ Turns (fun k => k = g) W w') 21 (by kernel_rfl) ?_ (fun hHeld => ?_)
  ·exact ⟨HP.out, (Turns.refl _ W).drew⟩
  refine takeZ (i := 0) (d := some 19) (v := ?_) rfl rfl (by kernel_rfl) (by kernel_rfl) (by kernel_rfl) (by kernel_rfl) (fun _ _ _ h => h) (Or.inl ⟨by rfl, ?_⟩) (by assumption) ?_
  rotate_left
  ·intro w hSw
   try dsimp only at hSw
   go_simp
   try with_reducible rfl
  try simp only [Act.put, List.setIfInBounds_toArray, List.set_cons_zero, List.set_cons_succ]
  refine takeZ (i := 1) (d := some 20) (v := ?_) rfl rfl (by kernel_rfl) (by kernel_rfl) (by kernel_rfl) (by kernel_rfl) (fun _ _ _ h => h) (Or.inl ⟨by rfl, ?_⟩) (by assumption) ?_
  rotate_left
  ·intro w hSw
   try dsimp only at hSw
   go_simp
   try with_reducible rfl
  try simp only [Act.put, List.setIfInBounds_toArray, List.set_cons_zero, List.set_cons_succ]
  refine takeZ (i := 2) (d := some 21) (v := ?_) rfl rfl (by kernel_rfl) (by kernel_rfl) (by kernel_rfl) (by kernel_rfl) (fun _ _ _ h => h) (Or.inl ⟨by rfl, ?_⟩) (by assumption) ?_
  rotate_left
  ·intro w hSw
   try dsimp only at hSw
   go_simp
   try with_reducible rfl
  try simp only [Act.put, List.setIfInBounds_toArray, List.set_cons_zero, List.set_cons_succ]
  refine takeZ (i := 3) (d := some 22) (v := ?_) rfl rfl (by kernel_rfl) (by kernel_rfl) (by kernel_rfl) (by kernel_rfl) (fun _ _ _ h => h) (Or.inl ⟨by rfl, ?_⟩) (by assumption) ?_
  rotate_left
  ·intro w hSw
   try dsimp only at hSw
   have q0_0 := hSw.1.cell 0
   have q0_1 := hSw.1.cell 1
   have q0_2 := hSw.1.cell 2
   simp only [List.getElem?_toArray, List.getElem?_cons_zero, List.getElem?_cons_succ] at q0_0 q0_1 q0_2
   go_simp
   try with_reducible rfl
  try simp only [Act.put, List.setIfInBounds_toArray, List.set_cons_zero, List.set_cons_succ]
  refine takeZ (i := 4) (d := some 23) (v := ?_) rfl rfl (by kernel_rfl) (by kernel_rfl) (by kernel_rfl) (by kernel_rfl) (fun _ _ _ h => h) (Or.inl ⟨by rfl, ?_⟩) (by assumption) ?_
  rotate_left
  ·intro w hSw
   try dsimp only at hSw
   go_simp
   try with_reducible rfl
  try simp only [Act.put, List.setIfInBounds_toArray, List.set_cons_zero, List.set_cons_succ]
  refine takeZ (i := 5) (d := some 24) (v := ?_) rfl rfl (by kernel_rfl) (by kernel_rfl) (by kernel_rfl) (by kernel_rfl) (fun _ _ _ h => h) (Or.inl ⟨by rfl, ?_⟩) (by assumption) ?_
  rotate_left
  ·intro w hSw
   try dsimp only at hSw
   go_simp
   try with_reducible rfl
  try simp only [Act.put, List.setIfInBounds_toArray, List.set_cons_zero, List.set_cons_succ]
  refine takeZ (i := 6) (d := some 25) (v := ?_) rfl rfl (by kernel_rfl) (by kernel_rfl) (by kernel_rfl) (by kernel_rfl) (fun _ _ _ h => h) (Or.inl ⟨by rfl, ?_⟩) (by assumption) ?_
  rotate_left
  ·intro w hSw
   try dsimp only at hSw
   go_simp
   try with_reducible rfl
  try simp only [Act.put, List.setIfInBounds_toArray, List.set_cons_zero, List.set_cons_succ]
  refine takeZ (i := 7) (d := some 26) (v := ?_) rfl rfl (by kernel_rfl) (by kernel_rfl) (by kernel_rfl) (by kernel_rfl) (fun _ _ _ h => h) (Or.inl ⟨by rfl, ?_⟩) (by assumption) ?_
  rotate_left
  ·intro w hSw
   try dsimp only at hSw
   have q0_0 := hSw.1.cell 0
   have q0_1 := hSw.1.cell 1
   have q0_2 := hSw.1.cell 2
   simp only [List.getElem?_toArray, List.getElem?_cons_zero, List.getElem?_cons_succ] at q0_0 q0_1 q0_2
   go_simp
   try with_reducible rfl
  try simp only [Act.put, List.setIfInBounds_toArray, List.set_cons_zero, List.set_cons_succ]
  refine takeZ (i := 8) (d := some 27) (v := ?_) rfl rfl (by kernel_rfl) (by kernel_rfl) (by kernel_rfl) (by kernel_rfl) (fun _ _ _ h => h) (Or.inl ⟨by rfl, ?_⟩) (by assumption) ?_
  rotate_left
  ·intro w hSw
   try dsimp only at hSw
   go_simp
   try with_reducible rfl
  try simp only [Act.put, List.setIfInBounds_toArray, List.set_cons_zero, List.set_cons_succ]
  refine takeZ (i := 9) (d := some 28) (v := ?_) rfl rfl (by kernel_rfl) (by kernel_rfl) (by kernel_rfl) (by kernel_rfl) (fun _ _ _ h => h) (Or.inl ⟨by rfl, ?_⟩) (by assumption) ?_
  rotate_left
  ·intro w hSw
   try dsimp only at hSw
   go_simp
   try with_reducible rfl
  try simp only [Act.put, List.setIfInBounds_toArray, List.set_cons_zero, List.set_cons_succ]
  refine takeZ (i := 10) (d := some 29) (v := ?_) rfl rfl (by kernel_rfl) (by kernel_rfl) (by kernel_rfl) (by kernel_rfl) (fun _ _ _ h => h) (Or.inl ⟨by rfl, ?_⟩) (by assumption) ?_
  rotate_left
  ·intro w hSw
   try dsimp only at hSw
   go_simp
   try with_reducible rfl
  try simp only [Act.put, List.setIfInBounds_toArray, List.set_cons_zero, List.set_cons_succ]
  refine takeZ (i := 11) (d := some 30) (v := ?_) rfl rfl (by kernel_rfl) (by kernel_rfl) (by kernel_rfl) (by kernel_rfl) (fun _ _ _ h => h) (Or.inl ⟨by rfl, ?_⟩) (by assumption) ?_
  rotate_left
  ·intro w hSw
   try dsimp only at hSw
   have q0_0 := hSw.1.cell 0
   have q0_1 := hSw.1.cell 1
   have q0_2 := hSw.1.cell 2
   simp only [List.getElem?_toArray, List.getElem?_cons_zero, List.getElem?_cons_succ] at q0_0 q0_1 q0_2
   go_simp
   try with_reducible rfl
  try simp only [Act.put, List.setIfInBounds_toArray, List.set_cons_zero, List.set_cons_succ]
  refine takeZ (i := 12) (d := some 31) (v := ?_) rfl rfl (by kernel_rfl) (by kernel_rfl) (by kernel_rfl) (by kernel_rfl) (fun _ _ _ h => h) (Or.inl ⟨by rfl, ?_⟩) (by assumption) ?_
  rotate_left
  ·intro w hSw
   try dsimp only at hSw
   go_simp
   try with_reducible rfl
  try simp only [Act.put, List.setIfInBounds_toArray, List.set_cons_zero, List.set_cons_succ]
  refine takeZ (i := 13) (d := some 32) (v := ?_) rfl rfl (by kernel_rfl) (by kernel_rfl) (by kernel_rfl) (by kernel_rfl) (fun _ _ _ h => h) (Or.inl ⟨by rfl, ?_⟩) (by assumption) ?_
  rotate_left
  ·intro w hSw
   try dsimp only at hSw
   go_simp
   try with_reducible rfl
  try simp only [Act.put, List.setIfInBounds_toArray, List.set_cons_zero, List.set_cons_succ]
  refine takeZ (i := 14) (d := some 33) (v := ?_) rfl rfl (by kernel_rfl) (by kernel_rfl) (by kernel_rfl) (by kernel_rfl) (fun _ _ _ h => h) (Or.inl ⟨by rfl, ?_⟩) (by assumption) ?_
  rotate_left
  ·intro w hSw
   try dsimp only at hSw
   go_simp
   try with_reducible rfl
  try simp only [Act.put, List.setIfInBounds_toArray, List.set_cons_zero, List.set_cons_succ]
  refine takeZ (i := 15) (d := some 34) (v := ?_) rfl rfl (by kernel_rfl) (by kernel_rfl) (by kernel_rfl) (by kernel_rfl) (fun _ _ _ h => h) (Or.inl ⟨by rfl, ?_⟩) (by assumption) ?_
  rotate_left
  ·intro w hSw
   try dsimp only at hSw
   go_simp
   try with_reducible rfl
  try simp only [Act.put, List.setIfInBounds_toArray, List.set_cons_zero, List.set_cons_succ]
  refine takeZ (i := 16) (d := some 35) (v := ?_) rfl rfl (by kernel_rfl) (by kernel_rfl) (by kernel_rfl) (by kernel_rfl) (fun _ _ _ h => h) (Or.inl ⟨by rfl, ?_⟩) (by assumption) ?_
  rotate_left
  ·intro w hSw
   try dsimp only at hSw
   have q0_0 := hSw.1.cell 0
   have q0_1 := hSw.1.cell 1
   have q0_2 := hSw.1.cell 2
   simp only [List.getElem?_toArray, List.getElem?_cons_zero, List.getElem?_cons_succ] at q0_0 q0_1 q0_2
   go_simp
   try with_reducible rfl
  try simp only [Act.put, List.setIfInBounds_toArray, List.set_cons_zero, List.set_cons_succ]
  refine takeZ (i := 17) (d := some 36) (v := ?_) rfl rfl (by kernel_rfl) (by kernel_rfl) (by kernel_rfl) (by kernel_rfl) (fun _ _ _ h => h) (Or.inl ⟨by rfl, ?_⟩) (by assumption) ?_
  rotate_left
  ·intro w hSw
   try dsimp only at hSw
   go_simp
   try with_reducible rfl
  try simp only [Act.put, List.setIfInBounds_toArray, List.set_cons_zero, List.set_cons_succ]
  refine takeZ (i := 18) (d := some 37) (v := ?_) rfl rfl (by kernel_rfl) (by kernel_rfl) (by kernel_rfl) (by kernel_rfl) (fun _ _ _ h => h) (Or.inl ⟨by rfl, ?_⟩) (by assumption) ?_
  rotate_left
  ·intro w hSw
   try dsimp only at hSw
   go_simp
   try with_reducible rfl
  try simp only [Act.put, List.setIfInBounds_toArray, List.set_cons_zero, List.set_cons_succ]
  refine takeZ (i := 19) (d := some 38) (v := ?_) rfl rfl (by kernel_rfl) (by kernel_rfl) (by kernel_rfl) (by kernel_rfl) (fun _ _ _ h => h) (Or.inl ⟨by rfl, ?_⟩) (by assumption) ?_
  rotate_left
  ·intro w hSw
   try dsimp only at hSw
   go_simp
   try with_reducible rfl
  try simp only [Act.put, List.setIfInBounds_toArray, List.set_cons_zero, List.set_cons_succ]
  refine takeZ (i := 20) (d := some 39) (v := ?_) rfl rfl (by kernel_rfl) (by kernel_rfl) (by kernel_rfl) (by kernel_rfl) (fun _ _ _ h => h) (Or.inl ⟨by rfl, ?_⟩) (by assumption) ?_
  rotate_left
  ·intro w hSw
   try dsimp only at hSw
   go_simp
   try with_reducible rfl
  try simp only [Act.put, List.setIfInBounds_toArray, List.set_cons_zero, List.set_cons_succ]
  refine wpAnyZ_ready (rs := [21]) (by kernel_rfl) (by simp) ?_
  refine AllReadyZ.last rfl (fun K hK => ?_) AllReadyZ.nil
  have k1 : W.drew.cell? ⟨g, 0, none⟩ = some (.int .i64 v0) := by have := HG.out.cell 0; simpa using this
  have k0 : W.drew.frozen? ⟨g, 0, none⟩ = false := HG.out.free 0
  simp only [World.cell?_drew, World.frozen?_drew] at k0 k1
  go_simp
  refine hK.out _ _ ?_
  clear hK K
  try simp only [Act.put, List.setIfInBounds_toArray, List.set_cons_zero, List.set_cons_succ]
  refine wpAnyZ_done (by kernel_rfl) ?_ _
  have HP2 : Hid (Blk (W.setCell ⟨g, 0, none⟩ (.int .i64 v)).drew p 249 #[.slice (some ⟨g, 0, none⟩) 1 c, .int .i64 0, .int .i64 0]) := Lib.hid (HP.out.far (p := ⟨g, 0, none⟩) hne2 _)
  have HG2 : Hid (Blk (W.setCell ⟨g, 0, none⟩ (.int .i64 v)).drew g 3 #[.int .i64 v]) := Lib.hid (by have := HG.out.put 0 (.int .i64 v); simpa using this.drew)
  have HT2 : Hid (Turns (fun k => k = g) w (W.setCell ⟨g, 0, none⟩ (.int .i64 v)).drew) := Lib.hid (((HM.out.mono (S' := fun k => k = g) (fun _ _ h => h.elim)).setCell (p := ⟨g, 0, none⟩) (fun _ => rfl) _).drew)
  clear hHeld
  generalize (W.setCell ⟨g, 0, none⟩ (.int .i64 v)).drew = V at *
  have q2 := HP2.out.cell 2
  have f2 := HP2.out.free 2
  simp only [List.getElem?_toArray, List.getElem?_cons_zero, List.getElem?_cons_succ] at q2
  go_wp2_with fail
  go_ret
  refine ⟨rfl, .one g c v (some v) (by simpa using HP2.out.put 2 (.int .i64 1)) (HG2.out.far (p := ⟨p, 2, none⟩) hne _) (by simp) hne HF.out, ?_⟩
  exact (HT2.out.mono (S' := F) (fun k _ e => (HF.out k).2 (.inr e))).setCell (p := ⟨p, 2, none⟩) (fun _ => (HF.out p).2 (.inl rfl)) _
end Go.Proofs.YtjnkphhlkoapbaaGreat
namespace Go.Proofs.YtjnkphhlkoapbaaGreat
open Go.RowKit
set_option linter.unusedVariables false
set_option linter.unusedSimpArgs false
structure Wt where
 task : Int
 kase : Int
 val : Int
def pt (o : Option Nat) : Option Addr := o.map fun b => ⟨b, 0, none⟩
structure QIn (w : World) (p : Nat) (bs : List Nat) (l : List Wt) : Prop where
 blk : Blk w p 287 #[.pointer (pt bs[0]?), .pointer (pt bs[bs.length - 1]?), .int .i64 bs.length]
 len : bs.length = l.length
 node : ∀ i b x, bs[i]? = some b → l[i]? = some x → Blk w b 295 #[.int .i64 x.task, .int .i64 x.kase, .int .i64 x.val, .pointer (pt (if i = 0 then none else bs[i - 1]?)), .pointer (pt bs[i + 1]?)]
 nd : bs.Nodup
 np : p ∉ bs
def QAt (w : World) (p : Nat) (F : Nat → Prop) (l : List Wt) : Prop := ∃ bs, QIn w p bs l ∧ ∀ k, F k ↔ k = p ∨ k ∈ bs
theorem QIn.turns {S : Nat → Prop} {w w' : World} {p : Nat} {bs : List Nat} {l : List Wt} (h : QIn w p bs l) (ht : Turns S w w') (h1 : ¬ S p) (h2 : ∀ k ∈ bs, ¬ S k) : QIn w' p bs l :=
 { h with blk := h.blk.turns ht h1, node := fun i b x hb hx => (h.node i b x hb hx).turns ht (h2 b (List.mem_of_getElem? hb)) }
theorem QIn.lt {w : World} {p : Nat} {bs : List Nat} {l : List Wt} (h : QIn w p bs l) : ∀ k ∈ bs, k < w.heap.size := fun k hk => by
 obtain ⟨i, hi, rfl⟩ := List.getElem_of_mem hk
 have hi' : i < l.length := by have := h.len; omega
 exact (h.node i _ l[i] (List.getElem?_eq_getElem hi) (List.getElem?_eq_getElem hi')).lt
theorem QAt.turns {S : Nat → Prop} {w w' : World} {p : Nat} {F : Nat → Prop} {l : List Wt} (h : QAt w p F l) (ht : Turns S w w') (hn : ∀ k, F k → ¬ S k) : QAt w' p F l := by
 obtain ⟨bs, hq, hf⟩ := h
 exact ⟨bs, hq.turns ht (hn p ((hf p).2 (.inl rfl))) (fun k hk => hn k ((hf k).2 (.inr hk))), hf⟩
theorem QAt.made {w w' : World} {p : Nat} {F : Nat → Prop} {l : List Wt} (h : QAt w p F l) (ht : Made w w') : QAt w' p F l := h.turns ht (fun _ _ h => h)
theorem QAt.fb {w : World} {p : Nat} {F : Nat → Prop} {l : List Wt} (h : QAt w p F l) : ∀ k, F k → k < w.heap.size := by
 obtain ⟨bs, hq, hf⟩ := h
 intro k hk
 rcases (hf k).1 hk with rfl | h
 ·exact hq.blk.lt
 ·exact hq.lt k h
theorem wnew_c (w : World) : Calls Tryz.prog 163 #[] w fun e w' => ∃ p, e = .returned (.pointer (some ⟨p, 0, none⟩)) ∧ QAt w' p (fun k => k = p) [] ∧ Made w w' ∧ w.heap.size ≤ p := by
 go_enter Tryz.func163, Tryz.ntmps163
 go_wp2_with fail
 go_ret
 exact ⟨_, rfl, ⟨[], ⟨Blk.new w _ _, rfl, fun i b x hb => by simp at hb, List.nodup_nil, by simp⟩, fun k => by simp⟩, (Turns.refl _ _).alloc _, Nat.le_refl _⟩
theorem QIn.snoc {w w' : World} {p : Nat} {bs : List Nat} {l : List Wt} (h : QIn w p bs l) (x : Wt) (b : Nat) (hb : w.heap.size ≤ b)
  (h1 : Blk w' p 287 #[.pointer (pt (bs ++ [b])[0]?), .pointer (pt (some b)), .int .i64 (bs.length + 1 : Nat)])
  (h2 : Blk w' b 295 #[.int .i64 x.task, .int .i64 x.kase, .int .i64 x.val, .pointer (pt bs[bs.length - 1]?), .pointer (pt none)])
  (h3 : ∀ i c y, i + 1 < bs.length → bs[i]? = some c → l[i]? = some y → Blk w' c 295 #[.int .i64 y.task, .int .i64 y.kase, .int .i64 y.val, .pointer (pt (if i = 0 then none else bs[i - 1]?)), .pointer (pt bs[i + 1]?)])
  (h4 : ∀ i c y, i + 1 = bs.length → bs[i]? = some c → l[i]? = some y → Blk w' c 295 #[.int .i64 y.task, .int .i64 y.kase, .int .i64 y.val, .pointer (pt (if i = 0 then none else bs[i - 1]?)), .pointer (pt (some b))]) :
  QIn w' p (bs ++ [b]) (l ++ [x]) := by
 have hl := h.len
 refine ⟨by simpa using h1, by simp [hl], fun i c y hc hy => ?_, ?_, ?_⟩
 ·rcases Nat.lt_or_ge i bs.length with hi | hi
  ·have e1 : (bs ++ [b])[i]? = bs[i]? := List.getElem?_append_left hi
   have e2 : (l ++ [x])[i]? = l[i]? := List.getElem?_append_left (by omega)
   have e3 : (bs ++ [b])[i - 1]? = bs[i - 1]? := List.getElem?_append_left (by omega)
   rw [e1] at hc
   rw [e2] at hy
   rw [e3]
   rcases Nat.lt_or_ge (i + 1) bs.length with hj | hj
   ·rw [List.getElem?_append_left hj]
    exact h3 i c y hj hc hy
   ·have e4 : i + 1 = bs.length := by omega
    rw [e4, List.getElem?_concat_length]
    exact h4 i c y e4 hc hy
  ·have e0 : i = bs.length := by
    have := (List.getElem?_eq_some_iff.1 hc).1
    simp at this
    omega
   subst e0
   rw [List.getElem?_concat_length] at hc
   cases hc
   rw [hl, List.getElem?_concat_length] at hy
   cases hy
   have e5 : (bs ++ [b])[bs.length + 1]? = none := by simp
   rw [e5]
   rcases Nat.eq_zero_or_pos bs.length with h0 | h0
   ·rw [if_pos h0]
    have : bs[bs.length - 1]? = none := by simp [h0]
    rw [this] at h2
    exact h2
   ·rw [if_neg (by omega), List.getElem?_append_left (by omega)]
    exact h2
 ·rw [List.nodup_append]
  refine ⟨h.nd, by simp, fun a ha c hc e => ?_⟩
  have := h.lt a ha
  simp at hc
  omega
 ·simp only [List.mem_append, List.mem_singleton]
  rintro (h5 | h5)
  ·exact h.np h5
  ·have := h.blk.lt
   omega
set_option maxHeartbeats 4000000 in
theorem wpush_c (x : Wt) {w : World} {p : Nat} {F : Nat → Prop} {l : List Wt} (h : QAt w p F l) (hl : l.length ≤ 1000000) :
  Calls Tryz.prog 199 #[.pointer (some ⟨p, 0, none⟩), .agg #[.int .i64 x.task, .int .i64 x.kase, .int .i64 x.val]] w fun e w' => e = .returned (.int .i64 (l.length + 1 : Nat)) ∧ ∃ F', QAt w' p F' (l ++ [x]) ∧ Stp w w' F F' := by
 obtain ⟨bs, hq, hf⟩ := h
 have HQ := Lib.hid hq
 have hbl := hq.len
 have hnp := hq.np
 have hpl := hq.blk.lt
 have hFp : F p := (hf p).2 (.inl rfl)
 clear hq
 rcases hlast : bs[bs.length - 1]? with _ | e
 ·have h0 : bs = [] := by
   cases bs with
   | nil => rfl
   | cons a l => simp at hlast
  subst h0
  go_enter Tryz.func199, Tryz.ntmps199
  go_wp2_with fail
  have HX := Lib.hid (Blk.new w 245 #[.int .i64 x.task, .int .i64 x.kase, .int .i64 x.val])
  have HP := Lib.hid (HQ.out.blk.alloc (.cells #[.int .i64 x.task, .int .i64 x.kase, .int .i64 x.val] 245))
  have HM := Lib.hid ((Turns.refl (fun _ => False) w).alloc (.cells #[.int .i64 x.task, .int .i64 x.kase, .int .i64 x.val] 245))
  generalize w.alloc (.cells #[.int .i64 x.task, .int .i64 x.kase, .int .i64 x.val] 245) = W at *
  refine wp_region_held_drew (S := fun w' => Blk w' w.heap.size 245 #[.int .i64 x.task, .int .i64 x.kase, .int .i64 x.val] ∧ Blk w' p 287 #[.pointer (pt ([] : List Nat)[0]?), .pointer (pt none), .int .i64 ([] : List Nat).length] ∧ Made W w') (by kernel_rfl) ?_ (fun hHeld => ?_)
  ·exact ⟨HX.out.turns (Turns.drew (Turns.refl (fun _ => False) W)) (fun h => h), HP.out.turns (Turns.drew (Turns.refl (fun _ => False) W)) (fun h => h), Turns.drew (Turns.refl _ W)⟩
  refine takeH (i := 0) (d := some 8) (v := ?_) rfl rfl (by kernel_rfl) (by kernel_rfl) (by kernel_rfl) (fun _ _ _ h => h) (Or.inl ⟨by rfl, ?_⟩) (by assumption) ?_
  rotate_left
  ·intro w hSw
   try dsimp only at hSw
   have q0 := hSw.1.cell 0
   have q1 := hSw.1.cell 1
   have q2 := hSw.1.cell 2
   simp only [List.getElem?_toArray, List.getElem?_cons_zero, List.getElem?_cons_succ, pt, Option.map] at q0 q1 q2
   go_simp
   try with_reducible rfl
  try simp only [Act.put, List.setIfInBounds_toArray, List.set_cons_zero, List.set_cons_succ]
  refine takeH (i := 1) (d := some 9) (v := ?_) rfl rfl (by kernel_rfl) (by kernel_rfl) (by kernel_rfl) (fun _ _ _ h => h) (Or.inl ⟨by rfl, ?_⟩) (by assumption) ?_
  rotate_left
  ·intro w hSw
   try dsimp only at hSw
   go_simp
   try with_reducible rfl
  try simp only [Act.put, List.setIfInBounds_toArray, List.set_cons_zero, List.set_cons_succ]
  refine takeH (i := 2) (d := some 10) (v := ?_) rfl rfl (by kernel_rfl) (by kernel_rfl) (by kernel_rfl) (fun _ _ _ h => h) (Or.inl ⟨by rfl, ?_⟩) (by assumption) ?_
  rotate_left
  ·intro w hSw
   try dsimp only at hSw
   go_simp
   try with_reducible rfl
  try simp only [Act.put, List.setIfInBounds_toArray, List.set_cons_zero, List.set_cons_succ]
  refine takeH (i := 3) (d := some 11) (v := ?_) rfl rfl (by kernel_rfl) (by kernel_rfl) (by kernel_rfl) (fun _ _ _ h => h) (Or.inl ⟨by rfl, ?_⟩) (by assumption) ?_
  rotate_left
  ·intro w hSw
   try dsimp only at hSw
   go_simp
   try with_reducible rfl
  try simp only [Act.put, List.setIfInBounds_toArray, List.set_cons_zero, List.set_cons_succ]
  refine takeH (i := 4) (d := some 12) (v := ?_) rfl rfl (by kernel_rfl) (by kernel_rfl) (by kernel_rfl) (fun _ _ _ h => h) (Or.inl ⟨by rfl, ?_⟩) (by assumption) ?_
  rotate_left
  ·intro w hSw
   try dsimp only at hSw
   have q1 := hSw.2.1.cell 1
   simp only [List.getElem?_toArray, List.getElem?_cons_zero, List.getElem?_cons_succ, pt, Option.map] at q1
   go_simp
   try with_reducible rfl
  try simp only [Act.put, List.setIfInBounds_toArray, List.set_cons_zero, List.set_cons_succ]
  refine takeH (i := 5) (d := some 13) (v := ?_) rfl rfl (by kernel_rfl) (by kernel_rfl) (by kernel_rfl) (fun _ _ _ h => h) (Or.inl ⟨by rfl, ?_⟩) (by assumption) ?_
  rotate_left
  ·intro w hSw
   try dsimp only at hSw
   go_simp
   try with_reducible rfl
  try simp only [Act.put, List.setIfInBounds_toArray, List.set_cons_zero, List.set_cons_succ]
  refine wpAnyH_ready (rs := [6]) (by kernel_rfl) (by simp) ?_
  refine AllReadyH.cons rfl (fun K hK => ?_) AllReadyH.nil
  go_simp
  refine hK.out _ _ ?_ (fun hHeld => ?_)
  ·exact ⟨hHeld.1.alloc _, hHeld.2.1.alloc _, hHeld.2.2.alloc _⟩
  clear hK K
  try simp only [Act.put, List.setIfInBounds_toArray, List.set_cons_zero, List.set_cons_succ]
  refine takeH (i := 7) (d := some 5) (v := ?_) rfl rfl (by kernel_rfl) (by kernel_rfl) (by kernel_rfl) (fun _ _ _ h => h) (Or.inl ⟨by rfl, ?_⟩) (by assumption) ?_
  rotate_left
  ·intro w hSw
   try dsimp only at hSw
   go_simp
   try with_reducible rfl
  try simp only [Act.put, List.setIfInBounds_toArray, List.set_cons_zero, List.set_cons_succ]
  refine wpAnyH_done (by kernel_rfl) ?_ _
  have HN : Blk (W.alloc (.cells #[.int .i64 x.task, .int .i64 x.kase, .int .i64 x.val, .pointer none, .pointer none] 295)).drew W.heap.size 295 #[.int .i64 x.task, .int .i64 x.kase, .int .i64 x.val, .pointer none, .pointer none] := Blk.new W _ _
  have HM2 := Lib.hid (show Made w (W.alloc (.cells #[.int .i64 x.task, .int .i64 x.kase, .int .i64 x.val, .pointer none, .pointer none] 295)).drew from (HM.out.alloc _).drew)
  have HP2 : Blk (W.alloc (.cells #[.int .i64 x.task, .int .i64 x.kase, .int .i64 x.val, .pointer none, .pointer none] 295)).drew p _ _ := HP.out.alloc _
  have hbb : w.heap.size ≤ W.heap.size := HM.out.size
  clear hHeld
  try clear hHeld
  try clear hHeld
  generalize (W.alloc (.cells #[.int .i64 x.task, .int .i64 x.kase, .int .i64 x.val, .pointer none, .pointer none] 295)).drew = V at *
  generalize W.heap.size = b at *
  have q0 := HP2.cell 0
  have q1 := HP2.cell 1
  have q2 := HP2.cell 2
  have f0 := HP2.free 0
  have f1 := HP2.free 1
  have f2 := HP2.free 2
  simp only [List.getElem?_toArray, List.getElem?_cons_zero, List.getElem?_cons_succ, pt, Option.map] at q0 q1 q2
  go_wp2_with fail
  go_ret
  have hbp : b ≠ p := by omega
  refine ⟨by simp [← hbl], fun k => k = p ∨ k ∈ ([] ++ [b] : List Nat), ⟨[] ++ [b], HQ.out.snoc x b hbb ?_ ?_ (fun i c y _ hc => by simp at hc) (fun i c y _ hc => by simp at hc), fun k => Iff.rfl⟩, ⟨(((HM2.out.mono (fun _ _ h => h.elim)).setCell (fun _ => hFp) _).setCell (fun _ => hFp) _).setCell (fun _ => hFp) _, fun k hk => ?_⟩⟩
  ·have h := ((HP2.put 0 (.pointer (some ⟨b, 0, none⟩))).put 1 (.pointer (some ⟨b, 0, none⟩))).put 2 (.int .i64 ((l.length : Int) + 1))
   simpa [pt, ← hbl] using h
  ·have h := ((HN.far (p := ⟨p, 0, none⟩) hbp (.pointer (some ⟨b, 0, none⟩))).far (p := ⟨p, 1, none⟩) hbp (.pointer (some ⟨b, 0, none⟩))).far (p := ⟨p, 2, none⟩) hbp (.int .i64 ((l.length : Int) + 1))
   simpa [pt] using h
  ·rcases hk with rfl | hk
   ·exact .inl hFp
   ·simp at hk
    exact .inr (by omega)
 ·go_enter Tryz.func199, Tryz.ntmps199
  go_wp2_with fail
  have HX := Lib.hid (Blk.new w 245 #[.int .i64 x.task, .int .i64 x.kase, .int .i64 x.val])
  have hp0 := HQ.out.blk
  rw [hlast] at hp0
  have HP := Lib.hid (hp0.alloc (.cells #[.int .i64 x.task, .int .i64 x.kase, .int .i64 x.val] 245))
  have HM := Lib.hid ((Turns.refl (fun _ => False) w).alloc (.cells #[.int .i64 x.task, .int .i64 x.kase, .int .i64 x.val] 245))
  clear hp0
  generalize w.alloc (.cells #[.int .i64 x.task, .int .i64 x.kase, .int .i64 x.val] 245) = W at *
  refine wp_region_held_drew (S := fun w' => Blk w' w.heap.size 245 #[.int .i64 x.task, .int .i64 x.kase, .int .i64 x.val] ∧ Blk w' p 287 #[.pointer (pt bs[0]?), .pointer (pt (some e)), .int .i64 bs.length] ∧ Made W w') (by kernel_rfl) ?_ (fun hHeld => ?_)
  ·exact ⟨HX.out.turns (Turns.drew (Turns.refl (fun _ => False) W)) (fun h => h), HP.out.turns (Turns.drew (Turns.refl (fun _ => False) W)) (fun h => h), Turns.drew (Turns.refl _ W)⟩
  refine takeH (i := 0) (d := some 8) (v := ?_) rfl rfl (by kernel_rfl) (by kernel_rfl) (by kernel_rfl) (fun _ _ _ h => h) (Or.inl ⟨by rfl, ?_⟩) (by assumption) ?_
  rotate_left
  ·intro w hSw
   try dsimp only at hSw
   have q0 := hSw.1.cell 0
   have q1 := hSw.1.cell 1
   have q2 := hSw.1.cell 2
   simp only [List.getElem?_toArray, List.getElem?_cons_zero, List.getElem?_cons_succ, pt, Option.map] at q0 q1 q2
   go_simp
   try with_reducible rfl
  try simp only [Act.put, List.setIfInBounds_toArray, List.set_cons_zero, List.set_cons_succ]
  refine takeH (i := 1) (d := some 9) (v := ?_) rfl rfl (by kernel_rfl) (by kernel_rfl) (by kernel_rfl) (fun _ _ _ h => h) (Or.inl ⟨by rfl, ?_⟩) (by assumption) ?_
  rotate_left
  ·intro w hSw
   try dsimp only at hSw
   go_simp
   try with_reducible rfl
  try simp only [Act.put, List.setIfInBounds_toArray, List.set_cons_zero, List.set_cons_succ]
  refine takeH (i := 2) (d := some 10) (v := ?_) rfl rfl (by kernel_rfl) (by kernel_rfl) (by kernel_rfl) (fun _ _ _ h => h) (Or.inl ⟨by rfl, ?_⟩) (by assumption) ?_
  rotate_left
  ·intro w hSw
   try dsimp only at hSw
   go_simp
   try with_reducible rfl
  try simp only [Act.put, List.setIfInBounds_toArray, List.set_cons_zero, List.set_cons_succ]
  refine takeH (i := 3) (d := some 11) (v := ?_) rfl rfl (by kernel_rfl) (by kernel_rfl) (by kernel_rfl) (fun _ _ _ h => h) (Or.inl ⟨by rfl, ?_⟩) (by assumption) ?_
  rotate_left
  ·intro w hSw
   try dsimp only at hSw
   go_simp
   try with_reducible rfl
  try simp only [Act.put, List.setIfInBounds_toArray, List.set_cons_zero, List.set_cons_succ]
  refine takeH (i := 4) (d := some 12) (v := ?_) rfl rfl (by kernel_rfl) (by kernel_rfl) (by kernel_rfl) (fun _ _ _ h => h) (Or.inl ⟨by rfl, ?_⟩) (by assumption) ?_
  rotate_left
  ·intro w hSw
   try dsimp only at hSw
   have q1 := hSw.2.1.cell 1
   simp only [List.getElem?_toArray, List.getElem?_cons_zero, List.getElem?_cons_succ, pt, Option.map] at q1
   go_simp
   try with_reducible rfl
  try simp only [Act.put, List.setIfInBounds_toArray, List.set_cons_zero, List.set_cons_succ]
  refine takeH (i := 5) (d := some 13) (v := ?_) rfl rfl (by kernel_rfl) (by kernel_rfl) (by kernel_rfl) (fun _ _ _ h => h) (Or.inl ⟨by rfl, ?_⟩) (by assumption) ?_
  rotate_left
  ·intro w hSw
   try dsimp only at hSw
   go_simp
   try with_reducible rfl
  try simp only [Act.put, List.setIfInBounds_toArray, List.set_cons_zero, List.set_cons_succ]
  refine wpAnyH_ready (rs := [6]) (by kernel_rfl) (by simp) ?_
  refine AllReadyH.cons rfl (fun K hK => ?_) AllReadyH.nil
  go_simp
  refine hK.out _ _ ?_ (fun hHeld => ?_)
  ·exact ⟨hHeld.1.alloc _, hHeld.2.1.alloc _, hHeld.2.2.alloc _⟩
  clear hK K
  try simp only [Act.put, List.setIfInBounds_toArray, List.set_cons_zero, List.set_cons_succ]
  refine takeH (i := 7) (d := some 5) (v := ?_) rfl rfl (by kernel_rfl) (by kernel_rfl) (by kernel_rfl) (fun _ _ _ h => h) (Or.inl ⟨by rfl, ?_⟩) (by assumption) ?_
  rotate_left
  ·intro w hSw
   try dsimp only at hSw
   go_simp
   try with_reducible rfl
  try simp only [Act.put, List.setIfInBounds_toArray, List.set_cons_zero, List.set_cons_succ]
  refine wpAnyH_done (by kernel_rfl) ?_ _
  have HN : Blk (W.alloc (.cells #[.int .i64 x.task, .int .i64 x.kase, .int .i64 x.val, .pointer (some ⟨e, 0, none⟩), .pointer none] 295)).drew W.heap.size 295 #[.int .i64 x.task, .int .i64 x.kase, .int .i64 x.val, .pointer (some ⟨e, 0, none⟩), .pointer none] := Blk.new W _ _
  have HM2 := Lib.hid (show Made w (W.alloc (.cells #[.int .i64 x.task, .int .i64 x.kase, .int .i64 x.val, .pointer (some ⟨e, 0, none⟩), .pointer none] 295)).drew from (HM.out.alloc _).drew)
  have HP2 : Blk (W.alloc (.cells #[.int .i64 x.task, .int .i64 x.kase, .int .i64 x.val, .pointer (some ⟨e, 0, none⟩), .pointer none] 295)).drew p _ _ := HP.out.alloc _
  have hbb : w.heap.size ≤ W.heap.size := HM.out.size
  clear hHeld
  try clear hHeld
  try clear hHeld
  generalize (W.alloc (.cells #[.int .i64 x.task, .int .i64 x.kase, .int .i64 x.val, .pointer (some ⟨e, 0, none⟩), .pointer none] 295)).drew = V at *
  generalize W.heap.size = b at *
  have hL : 0 < bs.length := by
   rcases Nat.eq_zero_or_pos bs.length with h | h
   ·have : bs = [] := List.length_eq_zero_iff.1 h
    subst this
    simp at hlast
   ·exact h
  have heb : e ∈ bs := List.mem_of_getElem? hlast
  have hpe : p ≠ e := fun h => hnp (h ▸ heb)
  have hep : e ≠ p := fun h => hpe h.symm
  obtain ⟨y0, hY⟩ : ∃ y, l[bs.length - 1]? = some y := ⟨_, List.getElem?_eq_getElem (by omega)⟩
  have HE := (HQ.out.node _ e y0 hlast hY).turns HM2.out (fun h => h)
  have g4 := HE.free 4
  have g5 := HE.cell 4
  simp only [List.getElem?_toArray, List.getElem?_cons_zero, List.getElem?_cons_succ, pt, Option.map] at g5
  have q0 := HP2.cell 0
  have q1 := HP2.cell 1
  have q2 := HP2.cell 2
  have f0 := HP2.free 0
  have f1 := HP2.free 1
  have f2 := HP2.free 2
  simp only [List.getElem?_toArray, List.getElem?_cons_zero, List.getElem?_cons_succ, pt, Option.map] at q0 q1 q2
  go_upto_region 7 with fail
  have hbp : b ≠ p := by omega
  have hel := HQ.out.lt e heb
  have hbe : b ≠ e := by omega
  have hFe : F e := (hf e).2 (.inr heb)
  have kp0 := HP2.far (p := ⟨e, 4, none⟩) hpe (.pointer (some ⟨b, 0, none⟩))
  have kb0 := HN.far (p := ⟨e, 4, none⟩) hbe (.pointer (some ⟨b, 0, none⟩))
  have ke0 := HE.put 4 (.pointer (some ⟨b, 0, none⟩))
  have km0 := ((HM2.out.mono (S' := F) (fun _ _ h => h.elim)).setCell (p := ⟨e, 4, none⟩) (fun _ => hFe) (.pointer (some ⟨b, 0, none⟩)))
  have kn0 : ∀ i c y, i + 1 < bs.length → bs[i]? = some c → l[i]? = some y → Blk (V.setCell ⟨e, 4, none⟩ (.pointer (some ⟨b, 0, none⟩))) c 295 #[.int .i64 y.task, .int .i64 y.kase, .int .i64 y.val, .pointer (pt (if i = 0 then none else bs[i - 1]?)), .pointer (pt bs[i + 1]?)] := fun i c y hi hc hy =>
   ((HQ.out.node i c y hc hy).turns HM2.out (fun h => h)).far (p := ⟨e, 4, none⟩) (fun (h : c = e) => by
      subst h
      have h1 := (List.getElem?_eq_some_iff.1 hc)
      have h2 := (List.getElem?_eq_some_iff.1 hlast)
      obtain ⟨a1, b1⟩ := h1
      obtain ⟨a2, b2⟩ := h2
      have hh := (List.pairwise_iff_getElem.1 HQ.out.nd) i (bs.length - 1) a1 a2 (by omega)
      exact hh (b1.trans b2.symm)) _
  have KN := Lib.hid kn0
  have KB := Lib.hid kb0
  have KE := Lib.hid ke0
  have KM := Lib.hid km0
  clear HP2 HN HE kn0 kb0 ke0 km0 f0 f1 f2 q0 q1 q2 g4 g5
  generalize V.setCell ⟨e, 4, none⟩ (.pointer (some ⟨b, 0, none⟩)) = V2 at *
  have q0 := kp0.cell 0
  have q1 := kp0.cell 1
  have q2 := kp0.cell 2
  have f0 := kp0.free 0
  have f1 := kp0.free 1
  have f2 := kp0.free 2
  simp only [List.getElem?_toArray, List.getElem?_cons_zero, List.getElem?_cons_succ] at q0 q1 q2
  go_wp2_with fail
  go_ret
  have kp := (kp0.put 1 (.pointer (some ⟨b, 0, none⟩))).put 2 (.int .i64 ((l.length : Int) + 1))
  have far2 : ∀ {c : Nat} {t : TypeId} {cs : Array Value}, c ≠ p → Blk V2 c t cs → Blk ((V2.setCell ⟨p, 1, none⟩ (.pointer (some ⟨b, 0, none⟩))).setCell ⟨p, 2, none⟩ (.int .i64 ((l.length : Int) + 1))) c t cs := fun hc h => (h.far (p := ⟨p, 1, none⟩) hc _).far (p := ⟨p, 2, none⟩) hc _
  refine ⟨by simp [← hbl], fun k => k = p ∨ k ∈ bs ++ [b], ⟨bs ++ [b], HQ.out.snoc x b hbb ?_ ?_ (fun i c y hi hc hy => ?_) (fun i c y hi hc hy => ?_), fun k => Iff.rfl⟩, ⟨(KM.out.setCell (fun _ => hFp) _).setCell (fun _ => hFp) _, fun k hk => ?_⟩⟩
  ·have h0 : (bs ++ [b])[0]? = bs[0]? := List.getElem?_append_left hL
   rw [h0]
   simpa [pt, ← hbl] using kp
  ·have h := far2 hbp KB.out
   rw [hlast]
   simpa [pt] using h
  ·exact far2 (fun h => hnp (h ▸ List.mem_of_getElem? hc)) (KN.out i c y hi hc hy)
  ·have hi' : i = bs.length - 1 := by omega
   subst hi'
   rw [hlast] at hc
   cases hc
   have hyy := hY.symm.trans hy
   cases hyy
   have h := far2 hep KE.out
   simpa [pt] using h
  ·rcases hk with rfl | hk
   ·exact .inl hFp
   ·simp at hk
    rcases hk with hk | hk
    ·exact .inl ((hf k).2 (.inr hk))
    ·exact .inr (by omega)
end Go.Proofs.YtjnkphhlkoapbaaGreat
namespace Go.Proofs.YtjnkphhlkoapbaaGreat
open Go.RowKit
set_option linter.unusedVariables false
set_option linter.unusedSimpArgs false
theorem QIn.tail {w w' : World} {p b : Nat} {bs : List Nat} {x : Wt} {l : List Wt} (h : QIn w p (b :: bs) (x :: l))
  (h1 : Blk w' p 287 #[.pointer (pt bs[0]?), .pointer (pt bs[bs.length - 1]?), .int .i64 bs.length])
  (h2 : ∀ c y, bs[0]? = some c → l[0]? = some y → Blk w' c 295 #[.int .i64 y.task, .int .i64 y.kase, .int .i64 y.val, .pointer (pt none), .pointer (pt bs[1]?)])
  (h3 : ∀ i c y, 0 < i → bs[i]? = some c → l[i]? = some y → Blk w c 295 #[.int .i64 y.task, .int .i64 y.kase, .int .i64 y.val, .pointer (pt bs[i - 1]?), .pointer (pt bs[i + 1]?)] → Blk w' c 295 #[.int .i64 y.task, .int .i64 y.kase, .int .i64 y.val, .pointer (pt bs[i - 1]?), .pointer (pt bs[i + 1]?)]) :
  QIn w' p bs l := by
 have hl := h.len
 refine ⟨h1, by simpa using hl, fun i c y hc hy => ?_, (List.nodup_cons.1 h.nd).2, fun hp => h.np (List.mem_cons_of_mem _ hp)⟩
 rcases Nat.eq_zero_or_pos i with h0 | h0
 ·subst h0
  simpa using h2 c y hc hy
 ·rw [if_neg (by omega)]
  refine h3 i c y h0 hc hy ?_
  have hn := h.node (i + 1) c y (by simpa using hc) (by simpa using hy)
  have e1 : (b :: bs)[i + 1 - 1]? = bs[i - 1]? := by
   obtain ⟨j, rfl⟩ : ∃ j, i = j + 1 := ⟨i - 1, by omega⟩
   simp
  rw [e1, if_neg (by omega)] at hn
  simpa using hn
theorem QIn.drew {w : World} {p : Nat} {bs : List Nat} {l : List Wt} (h : QIn w p bs l) : QIn w.drew p bs l := ⟨h.blk, h.len, h.node, h.nd, h.np⟩
theorem nd_ne {bs : List Nat} (h : bs.Nodup) {i j : Nat} {c d : Nat} (hi : bs[i]? = some c) (hj : bs[j]? = some d) (hij : i < j) : d ≠ c := by
 intro e
 subst e
 obtain ⟨a1, b1⟩ := List.getElem?_eq_some_iff.1 hi
 obtain ⟨a2, b2⟩ := List.getElem?_eq_some_iff.1 hj
 exact (List.pairwise_iff_getElem.1 h) i j a1 a2 hij (b1.trans b2.symm)
set_option maxHeartbeats 4000000 in
theorem wdrop_c {w : World} {p b : Nat} {bs : List Nat} {x : Wt} {l : List Wt} (h : QIn w p (b :: bs) (x :: l)) (hlen : l.length ≤ 1000000) :
  Calls Tryz.prog 205 #[.pointer (some ⟨p, 0, none⟩), .pointer (some ⟨b, 0, none⟩)] w fun e w' => e = .returned (.tuple #[]) ∧ QIn w' p bs l ∧ Turns (fun k => k = p ∨ k ∈ bs) w w' := by
 have HQ := Lib.hid h
 have HB := h.node 0 b x rfl rfl
 have HP := h.blk
 have hpb : p ≠ b := fun e => h.np (e ▸ List.mem_cons_self ..)
 have hbp : b ≠ p := fun e => hpb e.symm
 have q0 := HP.cell 0
 have q1 := HP.cell 1
 have q2 := HP.cell 2
 have f0 := HP.free 0
 have f1 := HP.free 1
 have f2 := HP.free 2
 have n3 := HB.cell 3
 have n4 := HB.cell 4
 cases bs with
 | nil =>
  simp only [List.getElem?_toArray, List.getElem?_cons_zero, List.getElem?_cons_succ, pt, Option.map, List.length_cons, List.length_nil, if_true, Nat.zero_add, Nat.sub_self, List.getElem?_nil, Nat.reduceAdd] at q0 q1 q2 n3 n4
  go_enter Tryz.func205, Tryz.ntmps205
  go_wp2_with fail
  go_end0
  have h0 : l = [] := by
   have := h.len
   simpa using this
  subst h0
  refine ⟨rfl, ⟨?_, rfl, fun i c y hc => by simp at hc, List.nodup_nil, by simp⟩, ((((Turns.refl (fun k => k = p) w).setCell (p := ⟨p, 0, none⟩) (fun _ => rfl) _).setCell (p := ⟨p, 1, none⟩) (fun _ => rfl) _).setCell (p := ⟨p, 2, none⟩) (fun _ => rfl) _)⟩
  ·have k := ((HP.put 0 (.pointer none)).put 1 (.pointer none)).put 2 (.int .i64 0)
   simpa [pt] using k
 | cons c bs =>
  have hpc : p ≠ c := fun e => h.np (by simp [e])
  have hcp : c ≠ p := fun e => hpc e.symm
  have hbc : b ≠ c := fun e => (List.nodup_cons.1 h.nd).1 (by simp [e])
  simp only [List.getElem?_toArray, List.getElem?_cons_zero, List.getElem?_cons_succ, pt, Option.map, List.length_cons, if_true, Nat.zero_add] at q0 q1 q2 n3 n4
  obtain ⟨y, l, rfl⟩ : ∃ y l', l = y :: l' := by
   cases l with
   | nil => have := h.len; simp at this
   | cons y l' => exact ⟨y, l', rfl⟩
  have HC := h.node 1 c y rfl rfl
  go_enter Tryz.func205, Tryz.ntmps205
  go_upto_region 5 with fail
  have kp := HP.put 0 (.pointer (some ⟨c, 0, none⟩))
  have kb := HB.far (p := ⟨p, 0, none⟩) hbp (.pointer (some ⟨c, 0, none⟩))
  have kc := HC.far (p := ⟨p, 0, none⟩) hcp (.pointer (some ⟨c, 0, none⟩))
  have KN := Lib.hid (fun (d : Nat) (t : TypeId) (cs : Array Value) (hd : d ≠ p) (hh : Blk w d t cs) => hh.far (p := ⟨p, 0, none⟩) hd (.pointer (some ⟨c, 0, none⟩)))
  have KT := Lib.hid ((Turns.refl (fun k => k = p ∨ k ∈ c :: bs) w).setCell (p := ⟨p, 0, none⟩) (fun _ => Or.inl rfl) (.pointer (some ⟨c, 0, none⟩)))
  clear q0 q1 q2 f0 f1 f2 n3 n4
  generalize w.setCell ⟨p, 0, none⟩ (.pointer (some ⟨c, 0, none⟩)) = V at *
  have q2 := kp.cell 2
  have f2 := kp.free 2
  have n3 := kb.cell 3
  have n4 := kb.cell 4
  have m3 := kc.cell 3
  have g3 := kc.free 3
  simp only [List.getElem?_toArray, List.getElem?_cons_zero, List.getElem?_cons_succ, pt, Option.map, List.length_cons, if_true, Nat.zero_add] at q2 n3 n4 m3
  go_region_law (fail)
  all_goals
   go_wp2_with fail
   go_end0
   have hbl : bs.length = l.length := by simpa using HQ.out.len
   have hlen2 : l.length + 1 ≤ 1000000 := hlen
   have hw : wrap64 ((bs.length : Int) + 1) = (bs.length : Int) + 1 := by unfold wrap64; omega
   rw [hw]
   have kp1 := (kp.far (p := ⟨c, 3, none⟩) hpc (.pointer none)).put 2 (.int .i64 ((bs.length : Int) + 1))
   have kc1 := (kc.put 3 (.pointer none)).far (p := ⟨p, 2, none⟩) hcp (.int .i64 ((bs.length : Int) + 1))
   have hq : QIn ((V.setCell ⟨c, 3, none⟩ (.pointer none)).setCell ⟨p, 2, none⟩ (.int .i64 ((bs.length : Int) + 1))) p (c :: bs) (y :: l) := by
    refine HQ.out.tail ?_ ?_ ?_
    ·simpa [pt] using kp1
    ·intro d y' hd hy'
     cases hd
     cases hy'
     simpa [pt] using kc1
    ·intro i d y' hi hd hy' hb
     have hdp : d ≠ p := fun e => HQ.out.np (e ▸ List.mem_cons_of_mem _ (List.mem_of_getElem? hd))
     have hdc : d ≠ c := nd_ne (List.nodup_cons.1 HQ.out.nd).2 (i := 0) rfl hd hi
     exact ((KN.out d _ _ hdp hb).far (p := ⟨c, 3, none⟩) hdc _).far (p := ⟨p, 2, none⟩) hdp _
   refine ⟨rfl, by first | exact hq | exact hq.drew, ?_⟩
   ·refine Turns.mono (S := fun k => k = p ∨ k ∈ c :: bs) ?_ (fun k _ h => by simpa using h)
    first
    | exact Turns.drew ((KT.out.setCell (p := ⟨c, 3, none⟩) (fun _ => Or.inr (List.mem_cons_self ..)) _).setCell (p := ⟨p, 2, none⟩) (fun _ => Or.inl rfl) _)
    | exact (KT.out.setCell (p := ⟨c, 3, none⟩) (fun _ => Or.inr (List.mem_cons_self ..)) _).setCell (p := ⟨p, 2, none⟩) (fun _ => Or.inl rfl) _
end Go.Proofs.YtjnkphhlkoapbaaGreat
