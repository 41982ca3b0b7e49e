/-
  The document's heap: Remove.
-/
import Derived.Test.YtgjgopcomgclkaaRf
import Derived.Test.YtgjgopcomgclkaaHpF
namespace Go.Proofs.Ytgjgopcomgclkaa
open Go.RowKit
set_option linter.unusedVariables false
set_option linter.unusedSimpArgs false

section
variable {P : Program} {w : World}
/-- 'append' onto a row of the call's own, of however many, as a step of a region. -/
theorem step_append_at {ops : Array Oper} {o : Oper} {a : Act} {K : Act → World → Prop} {Q : Exit → Act → World → Prop} {E : Prop} (hgd : o.guard = none) (s x : Operand) (t : TypeId)
    (ho : o.op = .call { callee := .builtin .append, args := #[s, x], argTypes := #[t, t] })
    (base : Nat) (e : TypeId) (i : TypeInfo) (z : Value) (size bytes : Nat) (ht : P.underlying t = some (.slice e)) (hi : P.info? e = some i) (hz : i.zero = some z)
    (hsize : i.size = size) (hby : i.bytes = bytes) (hzs : z.cells.size = size) (hsz : 0 < size)
    (v : Value) (n : Nat) (xs : List Value) (hs : a.eval s = v) (hown : w.ownsRow base e size v n xs)
    (ad : Addr) (m c : Nat) (news : List Value) (hx : a.eval x = .slice (some ad) m c) (hl : news.length = m * size) (hnews : ∀ j u, news[j]? = some u → w.cell? (ad.add j) = some u) (h1 : ∀ u ∈ news, u.oneCell' = true)
    (h63 : n + m ≤ maxLen) (hbytes : (n + m) * bytes ≤ 140737488355328) (hbase : base ≤ w.heap.size)
    (h : ∀ v' w', w'.ownsRow base e size v' (n + m) (xs ++ news) → w.grownBy w' v.ownBlock → (v'.ownBlock = v.ownBlock ∨ v'.ownBlock = some w.heap.size) → K (a.put o.dst v') w') :
    if Region.wanted o (yielded ops a.tmps) = true then Oper.wp P o a w K Q else E := by
  have hw : Region.wanted o (yielded ops a.tmps) = true := by simp [Region.wanted, hgd]
  rw [if_pos hw]
  obtain ⟨v', w', hr, h2, h3, _, h5⟩ := run_append_own_at (P := P) w base t o.type e i z size bytes ht hi hz hsize hby hzs hsz v n xs hown ad m c news hl hnews h1 h63 hbytes hbase
  unfold Oper.wp execOp
  simp only [ho, resolve, invoke, builtin, Sem.run_bind, Sem.run_pure, Result.andThen_ok, List.map_toArray, List.map_cons, List.map_nil, hs, hx, hr]
  exact h v' w' h2 h3 h5
end

theorem owns_shape {w : World} {base : Nat} {e : TypeId} {size : Nat} {v : Value} {n : Nat} {xs : List Value} (h : w.ownsRow base e size v n xs) : ∃ a' c', v = .slice a' n c' := by
  rcases h.2 with ⟨rfl, rfl⟩ | ⟨g, cap, cur, rfl, _⟩
  · exact ⟨none, 0, rfl⟩
  · exact ⟨_, _, rfl⟩
theorem flat_pre {L : List It} {k j : Nat} {u : Value} (h : (flat encT (L.take k))[j]? = some u) : (flat encT L)[j]? = some u := by
  have e : flat encT L = flat encT (L.take k) ++ flat encT (L.drop k) := by rw [← flat_append, List.take_append_drop]
  rw [e, List.getElem?_append_left (List.getElem?_eq_some_iff.1 h).1]
  exact h
theorem flat_post {L : List It} {k j : Nat} {u : Value} (hk : k ≤ L.length) (h : (flat encT (L.drop k))[j]? = some u) : (flat encT L)[k * 3 + j]? = some u := by
  have e : flat encT L = flat encT (L.take k) ++ flat encT (L.drop k) := by rw [← flat_append, List.take_append_drop]
  have hl : (flat encT (L.take k)).length = k * 3 := by rw [flat_length encT_len, List.length_take, Nat.min_eq_left hk]
  rw [e, List.getElem?_append_right (by omega), hl]
  simpa using h
/-- What the two appends and the store leave of the row, one taken out. -/
theorem ref_cut {W w1 w2 : World} {b g cap N : Nat} {t : TypeId} {rest : List Value} {L M : List It} {sq : Int} {v1 : Value} {a2 : Option Addr} {c2 : Nat} {o : Obj} (HR : RefH W b t rest (.slice (some ⟨g, 0, none⟩) L.length cap) L sq)
    (hg1 : (W.alloc o).drew.grownBy w1 (some W.heap.size)) (hat1 : v1.ownBlock = some W.heap.size ∨ v1.ownBlock = some (W.heap.size + 1)) (hg2 : w1.grownBy w2 v1.ownBlock)
    (hat2 : (Value.slice a2 N c2).ownBlock = v1.ownBlock ∨ (Value.slice a2 N c2).ownBlock = some w1.heap.size)
    (hM : M.length = N) (hown2 : w2.ownsRow 0 68 3 (.slice a2 N c2) N (flat encT M)) :
    RefH (w2.setCell ⟨b, 0, none⟩ (.slice a2 N c2)) b t rest (.slice a2 N c2) M sq ∧ Turns (fun c => c = b) W (w2.setCell ⟨b, 0, none⟩ (.slice a2 N c2)) ∧ (∀ c, (Value.slice a2 N c2).ownBlock = some c → W.heap.size ≤ c) := by
  have hbl := HR.blk.lt
  have hs1 : W.heap.size + 1 ≤ w1.heap.size := by have := hg1.size; simpa using this
  have hfar : ∀ c, (Value.slice a2 N c2).ownBlock = some c → W.heap.size ≤ c := by
    intro c hc
    rcases hat2 with e | e
    · rw [hc] at e
      rcases hat1 with e1 | e1 <;> rw [e1] at e <;> simp only [Option.some.injEq] at e <;> omega
    · rw [hc] at e
      simp only [Option.some.injEq] at e
      omega
  have ht1 : Made W w1 := (((Turns.refl (fun _ => False) W).alloc o).drew).grown hg1 (fun c hc hlt => by simp only [Option.some.injEq] at hc; omega)
  have ht2 : Made W w2 := ht1.grown hg2 (fun c hc hlt => by rcases hat1 with e1 | e1 <;> rw [e1] at hc <;> simp only [Option.some.injEq] at hc <;> omega)
  have hb2 := HR.blk.turns ht2 (fun h => h)
  have ht3 : Turns (fun c => c = b) w2 (w2.setCell ⟨b, 0, none⟩ (.slice a2 N c2)) := (Turns.refl (fun c => c = b) w2).setCell (p := ⟨b, 0, none⟩) (fun _ => rfl) _
  refine ⟨⟨?_, ?_, fun e => by have := hfar b e; omega⟩, (ht2.mono (fun _ _ h => h.elim)).then ht3 (fun _ _ h => h), hfar⟩
  · have := hb2.put 0 (.slice a2 N c2)
    simpa using this
  · unfold Owns
    rw [hM]
    exact ht3.owns hown2 (fun c hc e => by subst e; have := hfar c hc; omega)
theorem res_boxR {fn : Func} {p u : Tmp} (hr : fn.results = #[.cell p 68, .tmp u]) {tmps : Array Value} {w : World} {g : Nat} {a b c v : Value} (hb : Blk w g 68 #[a, b, c]) (hp : tmps.getD p undef = .pointer (some ⟨g, 0, none⟩)) (hv : tmps.getD u undef = v) :
    (results fn tmps).run Try.prog w = .ok (.tuple #[.agg #[a, b, c], v]) w := by
  have c0 := hb.cell 0
  have c1 := hb.cell 1
  have c2 := hb.cell 2
  simp only [List.getElem?_toArray, List.getElem?_cons_zero, List.getElem?_cons_succ] at c0 c1 c2
  rw [results_cell_tmp hr, hp, hv]
  go_simp
theorem rrem_none {b : Nat} {t : TypeId} {rest : List Value} {lv : Value} {L : List It} {sq : Int} (id : Int) (w : World) (h : RefH w b t rest lv L sq) (hn : L.length ≤ 1000000) (hno : ∀ x ∈ L, x.id ≠ id) :
    Calls Try.prog 41 #[.pointer (some ⟨b, 0, none⟩), .int .i64 id] w fun e w' => e = .returned (.tuple #[aggT zeroT, .bool false]) ∧ Made w w' := by
  have H := Lib.hid (rfind_none id _ (h.made (alloc_made w (.cells #[.int .i64 0, .int .i64 0, .int .i64 0] 68))) hn hno)
  have HB := Lib.hid (Blk.new w 68 #[.int .i64 0, .int .i64 0, .int .i64 0])
  have HM := Lib.hid (alloc_made w (.cells #[.int .i64 0, .int .i64 0, .int .i64 0] 68))
  clear h hno
  unfold aggT zeroT
  go_enter Try.func41, Try.ntmps41
  go_wp2_with fail
  refine H.out.mono ?_
  rintro e w' ⟨rfl, rfl⟩
  have b0 := HB.out.cell 0
  have b1 := HB.out.cell 1
  have b2 := HB.out.cell 2
  have g0 := HB.out.free 0
  have g1 := HB.out.free 1
  have g2 := HB.out.free 2
  simp only [List.getElem?_toArray, List.getElem?_cons_zero, List.getElem?_cons_succ] at b0 b1 b2
  go_wp2_with fail
  refine bodyPost_ret (res_boxR rfl HB.out rfl rfl) rfl ?_
  exact ⟨rfl, HM.out⟩

set_option maxHeartbeats 4000000 in
set_option maxRecDepth 100000 in
theorem rrem_some {b : Nat} {t : TypeId} {rest : List Value} {lv : Value} {L : List It} {sq : Int} (id : Int) (w : World) (h : RefH w b t rest lv L sq) (hn : L.length ≤ 1000000) {k : Nat} {x : It} (hk : L[k]? = some x) (hid : x.id = id) (hu : Uniq L) :
    Calls Try.prog 41 #[.pointer (some ⟨b, 0, none⟩), .int .i64 id] w fun e w' => e = .returned (.tuple #[aggT x, .bool true]) ∧ ∃ lv', RefH w' b t rest lv' (L.eraseIdx k) sq ∧ Turns (fun c => c = b) w w' ∧ (∀ c, lv'.ownBlock = some c → w.heap.size ≤ c) := by
  rcases h.own.form with ⟨rfl, h0⟩ | ⟨g, cap, rfl, hg, hlc, hcm⟩
  · rw [h0] at hk; simp at hk
  obtain ⟨i0, hi0, hz0, hz1, hz2⟩ := info_parts Try.infoR
  have hkl := (List.getElem?_eq_some_iff.1 hk).1
  have H := Lib.hid (rfind_some id _ (h.made (alloc_made w (.cells #[.int .i64 0, .int .i64 0, .int .i64 0] 68))) hn hk hid hu)
  have HB := Lib.hid (Blk.new w 68 #[.int .i64 0, .int .i64 0, .int .i64 0])
  have HM := Lib.hid (alloc_made w (.cells #[.int .i64 0, .int .i64 0, .int .i64 0] 68))
  have HR := Lib.hid (h.made (alloc_made w (.cells #[.int .i64 0, .int .i64 0, .int .i64 0] 68)))
  have c0 := HR.out.blk.cell 0
  simp only [List.getElem?_toArray, List.getElem?_cons_zero, List.getElem?_cons_succ] at c0
  have e0 := Owns.cell encT_len HR.out.own hk (j := 0) rfl
  have e1 := Owns.cell encT_len HR.out.own hk (j := 1) rfl
  have e2 := Owns.cell encT_len HR.out.own hk (j := 2) rfl
  simp only [Nat.add_zero] at e0
  have i1 : (0 : Int) ≤ (k : Int) := Int.natCast_nonneg _
  have i2 : (k : Int) < (L.length : Int) := by omega
  have HK := Lib.hid hk
  have hbl := h.blk.lt
  clear h hk hid hu
  unfold aggT
  go_enter Try.func41, Try.ntmps41
  go_wp2_with fail
  refine H.out.mono ?_
  rintro e w' ⟨rfl, rfl⟩
  have HR2 := Lib.hid (HR.out.made (alloc_made _ (.cells #[.int .i64 x.id, .int .i64 x.when, .int .i64 x.seq] 68)))
  have HB4 := Lib.hid (HB.out.made (alloc_made _ (.cells #[.int .i64 x.id, .int .i64 x.when, .int .i64 x.seq] 68)))
  have hX := Blk.new (w.alloc (.cells #[.int .i64 0, .int .i64 0, .int .i64 0] 68)) 68 #[.int .i64 x.id, .int .i64 x.when, .int .i64 x.seq]
  rw [World.size_alloc] at hX
  have HX := Lib.hid hX
  clear hX
  have HM2 := Lib.hid (HM.out.trans (alloc_made _ (.cells #[.int .i64 x.id, .int .i64 x.when, .int .i64 x.seq] 68)))
  go_wp2_with fail
  clear H HB HM HR c0 e0 e1 e2
  generalize (w.alloc (.cells #[.int .i64 0, .int .i64 0, .int .i64 0] 68)).alloc (.cells #[.int .i64 x.id, .int .i64 x.when, .int .i64 x.seq] 68) = W at *
  have c0 := HR2.out.blk.cell 0
  have f0 := HR2.out.blk.free 0
  have hWb := HR2.out.blk.lt
  simp only [List.getElem?_toArray, List.getElem?_cons_zero, List.getElem?_cons_succ] at c0
  have i3 : IntKind.i64.wrap ((k : Int) + 1) = (k : Int) + 1 := wrap_in _ (by omega)
  have i4 : (k : Int) ≤ (L.length : Int) := by omega
  have i5 : (k : Int) + 1 ≤ (L.length : Int) := by omega
  have i6 : (k : Int) ≤ (cap : Int) := by omega
  have i7 : (k : Int) + 1 ≤ (cap : Int) := by omega
  have i8 : (0 : Int) ≤ (k : Int) + 1 := by omega
  have HL1 := Lib.hid (show (flat encT (L.take k)).length = k * 3 by rw [flat_length encT_len, List.length_take, Nat.min_eq_left (by omega)])
  have HL2 := Lib.hid (show (flat encT (L.drop (k + 1))).length = (L.length - (k + 1)) * 3 by rw [flat_length encT_len, List.length_drop])
  have HC1 := Lib.hid (show ∀ j u, (flat encT (L.take k))[j]? = some u → (W.alloc (.cells #[] 68)).drew.cell? ((⟨g, 0, none⟩ : Addr).add j) = some u from fun j u hu =>
    World.ownsRow.cells (g := g) (World.ownsRow.drew (World.ownsRow.alloc HR2.out.own (.cells #[] 68))) rfl j u (flat_pre hu))
  have hgW : g < W.heap.size := HR2.out.own.lt rfl
  have HC2 := Lib.hid (show ∀ w' : World, w'.heap[g]? = W.heap[g]? → ∀ j u, (flat encT (L.drop (k + 1)))[j]? = some u → w'.cell? ((⟨g, (k + 1) * 3, none⟩ : Addr).add j) = some u from fun w' hw j u hu => by
    have h1 := World.ownsRow.cells (g := g) HR2.out.own rfl ((k + 1) * 3 + j) u (flat_post (by omega) hu)
    rw [Addr.add_lit] at h1 ⊢
    rw [World.cell?_of_block (w := W) (by exact hw)]
    simpa using h1)
  have HC2' := Lib.hid (show L.length = k + 1 → ∀ w' : World, ∀ j u, (flat encT (L.drop (k + 1)))[j]? = some u → w'.cell? ((⟨g, 0, none⟩ : Addr).add j) = some u from fun hl w' j u hu => by
    rw [List.drop_of_length_le (by omega)] at hu
    simp [flat] at hu)
  have hbg : b ≠ W.heap.size := by omega
  have hgb : g ≠ b := fun e => HR2.out.ne (by rw [e]; rfl)
  have hw7 := HX.out.lt
  by_cases hcap : cap = k + 1
  · have hll : L.length = k + 1 := by omega
    have i9 : (k : Int) ≤ (k : Int) + 1 := by omega
    subst hcap
    have HLL := Lib.hid hll
    clear hll
    go_region_law
      (first
        | (refine step_append_at (by rfl) _ _ _ (by rfl) 0 68 i0 _ 3 24 Try.underlying47 hi0 hz0 hz1 hz2 rfl (by omega) (.slice (some ⟨W.heap.size, 0, none⟩) 0 0) 0 [] (by rfl) (World.ownsRow.drew (World.ownsRow_made W #[] 0 (Nat.zero_le _) (Nat.zero_le _) rfl)) ⟨g, 0, none⟩ k (k + 1) (flat encT (L.take k)) (by rfl) HL1.out HC1.out (encT_one _) (by unfold maxLen; omega) (by omega) (Nat.zero_le _) ?_; intro v1 w1 hown1 hgrow1 hat1; have hown1 : w1.ownsRow 0 68 3 v1 k (flat encT (L.take k)) := (by simpa using hown1); have hcz1 : w1.cell? ⟨b, 0, none⟩ = some (.slice (some ⟨g, 0, none⟩) L.length (k + 1)) := (hgrow1.cell_far ⟨b, 0, none⟩ (by simp; omega) (by simp [Value.ownBlock]; omega)).trans ((HR2.out.blk.alloc _).cell 0); have hgz1 : w1.heap[g]? = W.heap[g]? := (hgrow1.block g (by simp; omega) (by simp [Value.ownBlock]; omega)).trans (Below.heap_alloc W _ g hgW); have hsz1 : W.heap.size + 1 ≤ w1.heap.size := (by have := hgrow1.size; simpa using this); have hat1' : v1.ownBlock = some W.heap.size ∨ v1.ownBlock = some (W.heap.size + 1) := (by simpa [Value.ownBlock] using hat1); have hbv : some b ≠ v1.ownBlock := (fun e => by rcases hat1' with h | h <;> rw [h] at e <;> simp only [Option.some.injEq] at e <;> omega); have hfz1 : w1.frozen? ⟨b, 0, none⟩ = false := (hgrow1.frozen_far ⟨b, 0, none⟩ (by simp; omega) (by simp [Value.ownBlock]; omega)).trans ((HR2.out.blk.alloc _).free 0))
        | (refine step_append_at (by rfl) _ _ _ (by rfl) 0 68 i0 _ 3 24 Try.underlying47 hi0 hz0 hz1 hz2 rfl (by omega) v1 k (flat encT (L.take k)) (by rfl) hown1 ⟨g, 0, none⟩ 0 0 [] (by rfl) (by rfl) (fun j u hu => by simp at hu) (fun u hu => by cases hu) (by unfold maxLen; omega) (by omega) (Nat.zero_le _) ?_; intro v2 w2 hown2 hgrow2 hat2; have hown2 : w2.ownsRow 0 68 3 v2 k (flat encT (L.take k)) := (by simpa using hown2); have hfz2 : w2.frozen? ⟨b, 0, none⟩ = false := (hgrow2.frozen_far ⟨b, 0, none⟩ (by simp; omega) hbv).trans hfz1; have hcz2 : w2.cell? ⟨b, 0, none⟩ = some (.slice (some ⟨g, 0, none⟩) L.length (k + 1)) := (hgrow2.cell_far ⟨b, 0, none⟩ (by simp; omega) hbv).trans hcz1; obtain ⟨a2, c2, rfl⟩ := owns_shape hown2))
    all_goals
      have hfin := ref_cut (M := L.eraseIdx k) HR2.out hgrow1 hat1' hgrow2 hat2 (by rw [List.length_eraseIdx, if_pos hkl]; have := HLL.out; omega) (by rw [List.eraseIdx_eq_take_drop_succ, List.drop_of_length_le (by have := HLL.out; omega)]; simpa using hown2)
      clear hown1 hgrow1 hat1 hcz1 hgz1 hsz1 hat1' hbv hfz1 hown2 hgrow2 hat2 hfz2 hcz2
      generalize (w2.setCell _ _) = W4 at *
      obtain ⟨hf1, hf2, hf3⟩ := hfin
      have HF1 := Lib.hid hf1
      have HF2 := Lib.hid hf2
      have HF3 := Lib.hid hf3
      have HB5 := Lib.hid (HB4.out.turns hf2 (show ¬ w.heap.size = b by omega))
      have HX5 := Lib.hid (HX.out.turns hf2 (show ¬ w.heap.size + 1 = b by omega))
      have b0 := HB5.out.cell 0
      have b1 := HB5.out.cell 1
      have b2 := HB5.out.cell 2
      have g0 := HB5.out.free 0
      have g1 := HB5.out.free 1
      have g2 := HB5.out.free 2
      have k0 := HX5.out.cell 0
      have k1 := HX5.out.cell 1
      have k2 := HX5.out.cell 2
      simp only [List.getElem?_toArray, List.getElem?_cons_zero, List.getElem?_cons_succ] at b0 b1 b2 k0 k1 k2
      clear hf1 hf2 hf3 c0 f0
      go_wp2_with fail
      refine bodyPost_ret (res_boxR rfl (HB5.out.put3 _ _ _) rfl rfl) rfl ?_
      refine ⟨rfl, _, HF1.out.turns (set3 _ w.heap.size) (by omega) (fun c hc e => by have := HF3.out c hc; have := HM2.out.size; have := HX.out.lt; omega), ?_, fun c hc => by have := HF3.out c hc; have := HM2.out.size; omega⟩
      exact ((HM2.out.mono (fun _ _ h => h.elim)).then HF2.out (fun _ _ h => h)).then (set3 _ w.heap.size) (fun c hc e => by omega)
  · have hcap2 : ¬ (cap : Int) = (k : Int) + 1 := by omega
    go_region_law
      (first
        | (refine step_append_at (by rfl) _ _ _ (by rfl) 0 68 i0 _ 3 24 Try.underlying47 hi0 hz0 hz1 hz2 rfl (by omega) (.slice (some ⟨W.heap.size, 0, none⟩) 0 0) 0 [] (by rfl) (World.ownsRow.drew (World.ownsRow_made W #[] 0 (Nat.zero_le _) (Nat.zero_le _) rfl)) ⟨g, 0, none⟩ k cap (flat encT (L.take k)) (by rfl) HL1.out HC1.out (encT_one _) (by unfold maxLen; omega) (by omega) (Nat.zero_le _) ?_; intro v1 w1 hown1 hgrow1 hat1; have hown1 : w1.ownsRow 0 68 3 v1 k (flat encT (L.take k)) := (by simpa using hown1); have hcz1 : w1.cell? ⟨b, 0, none⟩ = some (.slice (some ⟨g, 0, none⟩) L.length cap) := (hgrow1.cell_far ⟨b, 0, none⟩ (by simp; omega) (by simp [Value.ownBlock]; omega)).trans ((HR2.out.blk.alloc _).cell 0); have hgz1 : w1.heap[g]? = W.heap[g]? := (hgrow1.block g (by simp; omega) (by simp [Value.ownBlock]; omega)).trans (Below.heap_alloc W _ g hgW); have hsz1 : W.heap.size + 1 ≤ w1.heap.size := (by have := hgrow1.size; simpa using this); have hat1' : v1.ownBlock = some W.heap.size ∨ v1.ownBlock = some (W.heap.size + 1) := (by simpa [Value.ownBlock] using hat1); have hbv : some b ≠ v1.ownBlock := (fun e => by rcases hat1' with h | h <;> rw [h] at e <;> simp only [Option.some.injEq] at e <;> omega); have hfz1 : w1.frozen? ⟨b, 0, none⟩ = false := (hgrow1.frozen_far ⟨b, 0, none⟩ (by simp; omega) (by simp [Value.ownBlock]; omega)).trans ((HR2.out.blk.alloc _).free 0))
        | (refine step_append_at (by rfl) _ _ _ (by rfl) 0 68 i0 _ 3 24 Try.underlying47 hi0 hz0 hz1 hz2 rfl (by omega) v1 k (flat encT (L.take k)) (by rfl) hown1 ⟨g, (k + 1) * 3, none⟩ (L.length - (k + 1)) (cap - (k + 1)) (flat encT (L.drop (k + 1))) (by rfl) HL2.out (HC2.out w1 hgz1) (encT_one _) (by unfold maxLen; omega) (by omega) (Nat.zero_le _) ?_; intro v2 w2 hown2 hgrow2 hat2; have hfz2 : w2.frozen? ⟨b, 0, none⟩ = false := (hgrow2.frozen_far ⟨b, 0, none⟩ (by simp; omega) hbv).trans hfz1; have hcz2 : w2.cell? ⟨b, 0, none⟩ = some (.slice (some ⟨g, 0, none⟩) L.length cap) := (hgrow2.cell_far ⟨b, 0, none⟩ (by simp; omega) hbv).trans hcz1; obtain ⟨a2, c2, rfl⟩ := owns_shape hown2))
    all_goals
      have hfin := ref_cut (M := L.eraseIdx k) HR2.out hgrow1 hat1' hgrow2 hat2 (by rw [List.length_eraseIdx, if_pos hkl]; omega) (by rw [List.eraseIdx_eq_take_drop_succ, flat_append]; exact hown2)
      clear hown1 hgrow1 hat1 hcz1 hgz1 hsz1 hat1' hbv hfz1 hown2 hgrow2 hat2 hfz2 hcz2
      generalize (w2.setCell _ _) = W4 at *
      obtain ⟨hf1, hf2, hf3⟩ := hfin
      have HF1 := Lib.hid hf1
      have HF2 := Lib.hid hf2
      have HF3 := Lib.hid hf3
      have HB5 := Lib.hid (HB4.out.turns hf2 (show ¬ w.heap.size = b by omega))
      have HX5 := Lib.hid (HX.out.turns hf2 (show ¬ w.heap.size + 1 = b by omega))
      have b0 := HB5.out.cell 0
      have b1 := HB5.out.cell 1
      have b2 := HB5.out.cell 2
      have g0 := HB5.out.free 0
      have g1 := HB5.out.free 1
      have g2 := HB5.out.free 2
      have k0 := HX5.out.cell 0
      have k1 := HX5.out.cell 1
      have k2 := HX5.out.cell 2
      simp only [List.getElem?_toArray, List.getElem?_cons_zero, List.getElem?_cons_succ] at b0 b1 b2 k0 k1 k2
      clear hf1 hf2 hf3 c0 f0
      go_wp2_with fail
      refine bodyPost_ret (res_boxR rfl (HB5.out.put3 _ _ _) rfl rfl) rfl ?_
      refine ⟨rfl, _, HF1.out.turns (set3 _ w.heap.size) (by omega) (fun c hc e => by have := HF3.out c hc; have := HM2.out.size; have := HX.out.lt; omega), ?_, fun c hc => by have := HF3.out c hc; have := HM2.out.size; omega⟩
      exact ((HM2.out.mono (fun _ _ h => h.elim)).then HF2.out (fun _ _ h => h)).then (set3 _ w.heap.size) (fun c hc e => by omega)
end Go.Proofs.Ytgjgopcomgclkaa
