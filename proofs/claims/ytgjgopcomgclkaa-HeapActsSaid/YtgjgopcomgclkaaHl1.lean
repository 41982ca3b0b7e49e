/-
  tarpaulinlaw11.HeapSorts: its walk.
-/
import Derived.Test.YtgjgopcomgclkaaHpZ
namespace Go.Proofs.Ytgjgopcomgclkaa
open Go.RowKit
set_option linter.unusedVariables false
set_option linter.unusedSimpArgs false

theorem Lies.one' {w : World} {b off : Nat} {ws : List Int} (h : Lies (fun z => [Value.int .i64 z]) 1 w b off ws) {k : Nat} {z : Int} (hz : ws[k]? = some z) : w.cell? ⟨b, off + k, none⟩ = some (.int .i64 z) := by
  have := h k z hz 0 (.int .i64 z) rfl
  simpa using this

/-- What a round of the pops leaves. -/
theorem sorts_next {ws : List Int} {w W W' : World} {p k j i bs : Nat} {z : Int} {y : It} {F : Nat → Prop} {l : List It} {sn : Nat → Bool} (hi : i < k) (hjl : j + ((⟨i, z, (i : Int) + 1⟩ : It) :: l).length = k) (hh : HeapAt W p F l k) (hs : Since w W F)
    (hit : ∀ x ∈ l, itemOf ws k x) (hd : Side W F bs 4 (boolsA k sn)) (hsn : ∀ x ∈ l, sn x.id.toNat = false) (he : Side W F (bs + 1) 30 #[.int .i64 y.id, .int .i64 y.when, .int .i64 y.seq]) (hr : ((⟨i, z, (i : Int) + 1⟩ : It) :: l).Pairwise lt)
    (hu : Uniq ((⟨i, z, (i : Int) + 1⟩ : It) :: l)) (hb : w.heap.size ≤ bs)
    (hW : W' = (((W.setCell ⟨bs, i, none⟩ (.bool true)).setCell ⟨bs + 1, 0, none⟩ (.int .i64 i)).setCell ⟨bs + 1, 1, none⟩ (.int .i64 z)).setCell ⟨bs + 1, 2, none⟩ (.int .i64 ((i : Int) + 1))) :
    ∃ (j' : Nat) (F : Nat → Prop) (L : List It) (sn : Nat → Bool) (y : It), Value.int .i64 ((j : Int) + 1) = .int .i64 j' ∧ HeapAt W' p F L k ∧ Since w W' F ∧ j' + L.length = k ∧ (∀ x ∈ L, itemOf ws k x) ∧ Side W' F bs 4 (boolsA k sn) ∧ (∀ x ∈ L, sn x.id.toNat = false) ∧ Side W' F (bs + 1) 30 #[.int .i64 y.id, .int .i64 y.when, .int .i64 y.seq] ∧ (0 < j' → ∀ x ∈ L, lt y x) := by
  subst hW
  have ht : Turns (fun b => b = bs ∨ b = bs + 1) W ((((W.setCell ⟨bs, i, none⟩ (.bool true)).setCell ⟨bs + 1, 0, none⟩ (.int .i64 i)).setCell ⟨bs + 1, 1, none⟩ (.int .i64 z)).setCell ⟨bs + 1, 2, none⟩ (.int .i64 ((i : Int) + 1))) :=
    ((((Turns.refl _ W).setCell (p := ⟨bs, i, none⟩) (fun _ => .inl rfl) _).setCell (p := ⟨bs + 1, 0, none⟩) (fun _ => .inr rfl) _).setCell (p := ⟨bs + 1, 1, none⟩) (fun _ => .inr rfl) _).setCell (p := ⟨bs + 1, 2, none⟩) (fun _ => .inr rfl) _
  have hF : ∀ b, F b → ¬ (b = bs ∨ b = bs + 1) := fun b hf e => by
    rcases e with rfl | rfl
    · exact hd.n hf
    · exact he.n hf
  have hn := (Uniq.iff _).1 hu
  rw [List.map_cons, List.nodup_cons] at hn
  refine ⟨j + 1, F, l, fun m => if m = i then true else sn m, ⟨i, z, (i : Int) + 1⟩, by simp, hh.turns ht hF, ⟨hs.m.then ht (fun b hb2 e => by omega), hs.f⟩, by rw [List.length_cons] at hjl; omega, hit, ⟨?_, hd.n⟩, ?_, ⟨?_, he.n⟩, fun _ x hx => (List.pairwise_cons.1 hr).1 x hx⟩
  · rw [← boolsA_set]
    exact (((hd.blk.put i _).far (p := ⟨bs + 1, 0, none⟩) (by simp) _).far (p := ⟨bs + 1, 1, none⟩) (by simp) _).far (p := ⟨bs + 1, 2, none⟩) (by simp) _
  · intro x hx
    obtain ⟨i2, z2, h2, _, rfl⟩ := hit x hx
    simp only [Int.toNat_natCast]
    rw [if_neg]
    · have := hsn _ hx; simpa using this
    · intro e
      subst e
      exact hn.1 (List.mem_map.2 ⟨_, hx, rfl⟩)
  · exact (he.blk.far (p := ⟨bs, i, none⟩) (by simp) _).put3 _ _ _

set_option maxHeartbeats 4000000 in
set_option maxRecDepth 100000 in
theorem sorts_w (a : Option Addr) (len cap : Nat) (ws : List Int) (w : World) (hw : RowIn (fun z => [Value.int .i64 z]) 1 w a len ws) (hc : len ≤ cap) :
    Calls Try.prog 3 #[.slice a len cap] w fun e w' => e = .returned (.bool true) ∧ Made w w' := by
  have HW := Lib.hid hw
  clear hw
  by_cases hbig : 200 < len
  · have hb2 : (200 : Int) < (len : Int) := by omega
    go_enter Try.func3, Try.ntmps3
    go_wp2_with fail
    refine (awake_c w).mono ?_
    rintro e w' ⟨rfl, hm⟩
    have HM := Lib.hid hm
    clear hm
    go_wp2_with fail
    go_ret
    exact ⟨rfl, HM.out⟩
  have hb2 : ¬ (200 : Int) < (len : Int) := by omega
  go_enter Try.func3, Try.ntmps3
  go_wp2_with fail
  refine (hnew_c w).mono ?_
  rintro e w1 ⟨p, F, rfl, hh, hm, hf⟩
  have HH := Lib.hid hh
  have HS := Lib.hid (Since.mk hm hf)
  clear hh hm hf
  go_wp2_with fail
  go_loopw [4] (fun v4 wr => ∃ (k : Nat) (F : Nat → Prop) (L : List It), k ≤ len ∧ v4 = .int .i64 k ∧ HeapAt wr p F L k ∧ Since w wr F ∧ Adds ws k L ∧ L.length = k) (fun v4 _ => len - (intOf v4).toNat)
  case atStart => exact ⟨0, F, [], Nat.zero_le _, rfl, HH.out, HS.out, Adds.zero ws, rfl⟩
  case round =>
    obtain ⟨k, F, L, hk, rfl, hh, hs, had, hll⟩ := hrel
    by_cases hkl : k < len
    · obtain ⟨hlen, h0 | ⟨b, off, rfl, hb, hlies⟩⟩ := HW.out.made hs.m
      · omega
      obtain ⟨z, hz⟩ := get_of_lt (xs := ws) (k := k) (by omega)
      have e0 := hlies.one' hz
      have i1 : (0 : Int) ≤ (k : Int) := Int.natCast_nonneg _
      have i2 : (k : Int) < (len : Int) := by omega
      have HA := Lib.hid (hadd_c k z wr hh had.free (by omega))
      have HN := Lib.hid (had.next hz)
      have HI := Lib.hid (insL_count ⟨k, z, k + 1⟩ L)
      have HLL := Lib.hid hll
      have HS := Lib.hid hs
      clear hh hs had hlies hb hz hll
      go_wp2_with fail
      refine HA.out.mono ?_
      rintro e w2 ⟨rfl, F2, hh2, hs2⟩
      have HH2 := Lib.hid hh2
      have HS2 := Lib.hid (HS.out.step hs2)
      clear hh2 hs2
      go_wp2_with fail
      go_roundw
      case rel => exact ⟨k + 1, F2, _, by omega, by go_num, HH2.out, HS2.out, HN.out, by rw [HI.out, HLL.out]⟩
      case measure => simp [intOf]; omega
    · obtain rfl : k = len := by omega
      have i2 : ¬ (k : Int) < (k : Int) := by omega
      have hmk := make_bools k (by omega)
      have HH := Lib.hid (hh.made (alloc_made _ (.cells (boolsA k (fun _ => false)) 4)))
      have HS := Lib.hid (hs.made (alloc_made _ (.cells (boolsA k (fun _ => false)) 4)))
      have HB := Lib.hid (Side.new hh 4 (boolsA k (fun _ => false)))
      have HBS := Lib.hid (show w.heap.size ≤ wr.heap.size from hs.m.size)
      have HAD := Lib.hid had
      have HLL := Lib.hid hll
      clear hh hs had hll
      go_wp2_with fail
      have HH2 := Lib.hid (HH.out.made (alloc_made _ (.cells #[.int .i64 0, .int .i64 0, .int .i64 0] 30)))
      have HS2 := Lib.hid (HS.out.made (alloc_made _ (.cells #[.int .i64 0, .int .i64 0, .int .i64 0] 30)))
      have HB2 := Lib.hid (HB.out.made (alloc_made _ (.cells #[.int .i64 0, .int .i64 0, .int .i64 0] 30)))
      have HL2 := Lib.hid (Side.new HH.out 30 #[.int .i64 0, .int .i64 0, .int .i64 0])
      have HLS := Lib.hid (show w.heap.size ≤ (wr.alloc (.cells (boolsA k (fun _ => false)) 4)).heap.size from HS.out.m.size)
      have hne : wr.heap.size ≠ (wr.alloc (.cells (boolsA k (fun _ => false)) 4)).heap.size := by simp
      simp only [World.size_alloc] at HL2 HLS hne
      generalize hw9 : (wr.alloc (.cells (boolsA k (fun _ => false)) 4)).alloc (.cells #[.int .i64 0, .int .i64 0, .int .i64 0] 30) = w9 at *
      generalize hbq : wr.heap.size = bs at *
      clear hw9 hmk
      go_loopw [7] (fun v7 wx => ∃ (j : Nat) (F : Nat → Prop) (L : List It) (sn : Nat → Bool) (y : It), v7 = .int .i64 j ∧ HeapAt wx p F L k ∧ Since w wx F ∧ j + L.length = k ∧ (∀ x ∈ L, itemOf ws k x) ∧ Side wx F bs 4 (boolsA k sn) ∧ (∀ x ∈ L, sn x.id.toNat = false) ∧ Side wx F (bs + 1) 30 #[.int .i64 y.id, .int .i64 y.when, .int .i64 y.seq] ∧ (0 < j → ∀ x ∈ L, lt y x)) (fun v7 _ => k - (intOf v7).toNat)
      case atStart => exact ⟨0, F, L, _, zeroT, rfl, HH2.out, HS2.out, by rw [HLL.out]; omega, fun x hx => (HAD.out x).1 hx, HB2.out, fun _ _ => rfl, HL2.out, fun h => absurd h (Nat.lt_irrefl _)⟩
      case round =>
        clear HH2 HS2 HB2 HL2 HAD HLL HH HS HB
        obtain ⟨j, F', L', sn, y, rfl, hh, hs, hjl, hit, hsd, hsn, hla, hlt⟩ := hrel
        by_cases hjk : j < k
        · obtain ⟨x, l, rfl⟩ : ∃ x l, L' = x :: l := by
            cases L' with
            | nil => simp at hjl; omega
            | cons x l => exact ⟨x, l, rfl⟩
          obtain ⟨i, z, hi, hz, hx⟩ := hit x (List.mem_cons_self ..)
          have hsx := hsn x (List.mem_cons_self ..)
          have hltx := fun h => hlt h x (List.mem_cons_self ..)
          have hrise := hh.rise
          have huniq := hh.uniq
          subst hx
          obtain ⟨hlen, h0 | ⟨b, off, rfl, hb, hlies⟩⟩ := HW.out
          · omega
          simp only [Int.toNat_natCast] at hsx
          have j1 : (0 : Int) ≤ (j : Int) := Int.natCast_nonneg _
          have j2 : (j : Int) < (k : Int) := by omega
          have HPO := Lib.hid (hpop_c wr hh (by omega))
          have HIT := Lib.hid (fun x hx => hit x (List.mem_cons_of_mem _ hx))
          have HSN := Lib.hid (fun x hx => hsn x (List.mem_cons_of_mem _ hx))
          have HSD := Lib.hid hsd
          have HLA := Lib.hid hla
          have HLT := Lib.hid hltx
          have HSS := Lib.hid hs
          have HRI := Lib.hid hrise
          have HUN := Lib.hid huniq
          have HLI := Lib.hid hlies
          have HZ := Lib.hid hz
          have HSX := Lib.hid hsx
          have hbl := hb
          have hsz := hs.m.size
          clear hh hs hit hsn hsd hla hlt hltx hrise huniq hlies hz hsx hb
          unfold aggT at HPO
          simp only at HPO
          go_wp2_with fail
          refine HPO.out.mono ?_
          rintro e w2 ⟨rfl, hh2, hs2⟩
          have HD2 := Lib.hid ((HSD.out.step hs2).made (alloc_made _ (.cells #[.int .i64 (i : Int), .int .i64 z, .int .i64 ((i : Int) + 1)] 30)))
          have HE2 := Lib.hid ((HLA.out.step hs2).made (alloc_made _ (.cells #[.int .i64 (i : Int), .int .i64 z, .int .i64 ((i : Int) + 1)] 30)))
          have HX2 := Lib.hid (Side.new hh2 30 #[.int .i64 (i : Int), .int .i64 z, .int .i64 ((i : Int) + 1)])
          have HH3 := Lib.hid (hh2.made (alloc_made _ (.cells #[.int .i64 (i : Int), .int .i64 z, .int .i64 ((i : Int) + 1)] 30)))
          have HS3 := Lib.hid ((HSS.out.step hs2).made (alloc_made _ (.cells #[.int .i64 (i : Int), .int .i64 z, .int .i64 ((i : Int) + 1)] 30)))
          have hbx := (HSD.out.step hs2).blk.lt
          have hby := (HLA.out.step hs2).blk.lt
          clear hh2 hs2 HPO HSD HLA HSS
          go_wp2_with fail
          generalize hbx9 : w2.heap.size = bx at *
          generalize w2.alloc (.cells #[.int .i64 (i : Int), .int .i64 z, .int .i64 ((i : Int) + 1)] 30) = W at *
          have n1 : ¬ (i : Int) < 0 := by omega
          have n2 : ¬ (k : Int) ≤ (i : Int) := by omega
          have n3 : (i : Int) < (k : Int) := by omega
          have n4 : (0 : Int) ≤ (i : Int) := by omega
          have n5 : IntKind.i64.wrap ((i : Int) + 1) = (i : Int) + 1 := wrap_in _ (by omega)
          have HI3 := Lib.hid hi
          by_cases hj0 : j = 0
          · subst hj0
            clear HLT
            refine wp_region_held_drew (S := (fun w' => Made W w')) (by kernel_rfl) ?_ (fun hHeld => ?_)
            · exact (Turns.refl _ _).drew
            refine takeH (i := 0) (d := some 46) (v := ?_) rfl rfl (by kernel_rfl) (by kernel_rfl) (by kernel_rfl) (fun _ _ _ h => h) (Or.inl ⟨by rfl, ?_⟩) (by assumption) ?_
            rotate_left
            · intro w hSw
              try dsimp only at hSw
              go_simp
              try with_reducible rfl
            try simp only [Act.put, List.setIfInBounds_toArray, List.set_cons_zero, List.set_cons_succ]
            refine takeH (i := 1) (d := some 47) (v := ?_) rfl rfl (by kernel_rfl) (by kernel_rfl) (by kernel_rfl) (fun _ _ _ h => h) (Or.inl ⟨by rfl, ?_⟩) (by assumption) ?_
            rotate_left
            · intro w hSw
              try dsimp only at hSw
              go_simp
              try with_reducible rfl
            try simp only [Act.put, List.setIfInBounds_toArray, List.set_cons_zero, List.set_cons_succ]
            refine takeH (i := 2) (d := some 48) (v := ?_) rfl rfl (by kernel_rfl) (by kernel_rfl) (by kernel_rfl) (fun _ _ _ h => h) (Or.inl ⟨by rfl, ?_⟩) (by assumption) ?_
            rotate_left
            · intro w hSw
              try dsimp only at hSw
              go_simp
              try with_reducible rfl
            try simp only [Act.put, List.setIfInBounds_toArray, List.set_cons_zero, List.set_cons_succ]
            refine takeH (i := 3) (d := some 49) (v := ?_) rfl rfl (by kernel_rfl) (by kernel_rfl) (by kernel_rfl) (fun _ _ _ h => h) (Or.inl ⟨by rfl, ?_⟩) (by assumption) ?_
            rotate_left
            · intro w hSw
              try dsimp only at hSw
              go_simp
              try with_reducible rfl
            try simp only [Act.put, List.setIfInBounds_toArray, List.set_cons_zero, List.set_cons_succ]
            refine takeH (i := 4) (d := some 50) (v := ?_) rfl rfl (by kernel_rfl) (by kernel_rfl) (by kernel_rfl) (fun _ _ _ h => h) (Or.inl ⟨by rfl, ?_⟩) (by assumption) ?_
            rotate_left
            · intro w hSw
              try dsimp only at hSw
              have hb2 := HX2.out.blk.turns hSw (fun h => h)
              have d0 := hb2.cell 0
              have d1 := hb2.cell 1
              have d2 := hb2.cell 2
              simp only [List.getElem?_toArray, List.getElem?_cons_zero, List.getElem?_cons_succ] at d0 d1 d2
              clear hb2
              go_simp
              try with_reducible rfl
            try simp only [Act.put, List.setIfInBounds_toArray, List.set_cons_zero, List.set_cons_succ]
            refine takeH (i := 5) (d := some 51) (v := ?_) rfl rfl (by kernel_rfl) (by kernel_rfl) (by kernel_rfl) (fun _ _ _ h => h) (Or.inl ⟨by rfl, ?_⟩) (by assumption) ?_
            rotate_left
            · intro w hSw
              try dsimp only at hSw
              go_simp
              try with_reducible rfl
            try simp only [Act.put, List.setIfInBounds_toArray, List.set_cons_zero, List.set_cons_succ]
            refine takeH (i := 6) (d := some 52) (v := ?_) rfl rfl (by kernel_rfl) (by kernel_rfl) (by kernel_rfl) (fun _ _ _ h => h) (Or.inl ⟨by rfl, ?_⟩) (by assumption) ?_
            rotate_left
            · intro w hSw
              try dsimp only at hSw
              go_simp
              try with_reducible rfl
            try simp only [Act.put, List.setIfInBounds_toArray, List.set_cons_zero, List.set_cons_succ]
            refine takeH (i := 7) (d := some 53) (v := ?_) rfl rfl (by kernel_rfl) (by kernel_rfl) (by kernel_rfl) (fun _ _ _ h => h) (Or.inl ⟨by rfl, ?_⟩) (by assumption) ?_
            rotate_left
            · intro w hSw
              try dsimp only at hSw
              go_simp
              try with_reducible rfl
            try simp only [Act.put, List.setIfInBounds_toArray, List.set_cons_zero, List.set_cons_succ]
            refine takeH (i := 8) (d := some 54) (v := ?_) rfl rfl (by kernel_rfl) (by kernel_rfl) (by kernel_rfl) (fun _ _ _ h => h) (Or.inl ⟨by rfl, ?_⟩) (by assumption) ?_
            rotate_left
            · intro w hSw
              try dsimp only at hSw
              go_simp
              try with_reducible rfl
            try simp only [Act.put, List.setIfInBounds_toArray, List.set_cons_zero, List.set_cons_succ]
            refine takeH (i := 9) (d := some 55) (v := ?_) rfl rfl (by kernel_rfl) (by kernel_rfl) (by kernel_rfl) (fun _ _ _ h => h) (Or.inl ⟨by rfl, ?_⟩) (by assumption) ?_
            rotate_left
            · intro w hSw
              try dsimp only at hSw
              have hb2 := HX2.out.blk.turns hSw (fun h => h)
              have d0 := hb2.cell 0
              have d1 := hb2.cell 1
              have d2 := hb2.cell 2
              simp only [List.getElem?_toArray, List.getElem?_cons_zero, List.getElem?_cons_succ] at d0 d1 d2
              clear hb2
              go_simp
              try with_reducible rfl
            try simp only [Act.put, List.setIfInBounds_toArray, List.set_cons_zero, List.set_cons_succ]
            refine takeH (i := 10) (d := some 56) (v := ?_) rfl rfl (by kernel_rfl) (by kernel_rfl) (by kernel_rfl) (fun _ _ _ h => h) (Or.inl ⟨by rfl, ?_⟩) (by assumption) ?_
            rotate_left
            · intro w hSw
              try dsimp only at hSw
              go_simp
              try with_reducible rfl
            try simp only [Act.put, List.setIfInBounds_toArray, List.set_cons_zero, List.set_cons_succ]
            refine takeH (i := 11) (d := some 57) (v := ?_) rfl rfl (by kernel_rfl) (by kernel_rfl) (by kernel_rfl) (fun _ _ _ h => h) (Or.inl ⟨by rfl, ?_⟩) (by assumption) ?_
            rotate_left
            · intro w hSw
              try dsimp only at hSw
              go_simp
              try with_reducible rfl
            try simp only [Act.put, List.setIfInBounds_toArray, List.set_cons_zero, List.set_cons_succ]
            refine takeH (i := 12) (d := some 58) (v := ?_) rfl rfl (by kernel_rfl) (by kernel_rfl) (by kernel_rfl) (fun _ _ _ h => h) (Or.inl ⟨by rfl, ?_⟩) (by assumption) ?_
            rotate_left
            · intro w hSw
              try dsimp only at hSw
              go_simp
              try with_reducible rfl
            try simp only [Act.put, List.setIfInBounds_toArray, List.set_cons_zero, List.set_cons_succ]
            refine takeH (i := 13) (d := some 59) (v := ?_) rfl rfl (by kernel_rfl) (by kernel_rfl) (by kernel_rfl) (fun _ _ _ h => h) (Or.inl ⟨by rfl, ?_⟩) (by assumption) ?_
            rotate_left
            · intro w hSw
              try dsimp only at hSw
              go_simp
              try with_reducible rfl
            try simp only [Act.put, List.setIfInBounds_toArray, List.set_cons_zero, List.set_cons_succ]
            refine takeH (i := 14) (d := some 60) (v := ?_) rfl rfl (by kernel_rfl) (by kernel_rfl) (by kernel_rfl) (fun _ _ _ h => h) (Or.inl ⟨by rfl, ?_⟩) (by assumption) ?_
            rotate_left
            · intro w hSw
              try dsimp only at hSw
              go_simp
              try with_reducible rfl
            try simp only [Act.put, List.setIfInBounds_toArray, List.set_cons_zero, List.set_cons_succ]
            refine takeH (i := 15) (d := some 61) (v := ?_) rfl rfl (by kernel_rfl) (by kernel_rfl) (by kernel_rfl) (fun _ _ _ h => h) (Or.inl ⟨by rfl, ?_⟩) (by assumption) ?_
            rotate_left
            · intro w hSw
              try dsimp only at hSw
              go_simp
              try with_reducible rfl
            try simp only [Act.put, List.setIfInBounds_toArray, List.set_cons_zero, List.set_cons_succ]
            refine takeH (i := 16) (d := some 62) (v := ?_) rfl rfl (by kernel_rfl) (by kernel_rfl) (by kernel_rfl) (fun _ _ _ h => h) (Or.inl ⟨by rfl, ?_⟩) (by assumption) ?_
            rotate_left
            · intro w hSw
              try dsimp only at hSw
              go_simp
              try with_reducible rfl
            try simp only [Act.put, List.setIfInBounds_toArray, List.set_cons_zero, List.set_cons_succ]
            refine takeH (i := 17) (d := some 63) (v := ?_) rfl rfl (by kernel_rfl) (by kernel_rfl) (by kernel_rfl) (fun _ _ _ h => h) (Or.inl ⟨by rfl, ?_⟩) (by assumption) ?_
            rotate_left
            · intro w hSw
              try dsimp only at hSw
              have hb2 := HX2.out.blk.turns hSw (fun h => h)
              have d0 := hb2.cell 0
              have d1 := hb2.cell 1
              have d2 := hb2.cell 2
              simp only [List.getElem?_toArray, List.getElem?_cons_zero, List.getElem?_cons_succ] at d0 d1 d2
              clear hb2
              go_simp
              try with_reducible rfl
            try simp only [Act.put, List.setIfInBounds_toArray, List.set_cons_zero, List.set_cons_succ]
            refine takeH (i := 18) (d := some 64) (v := ?_) rfl rfl (by kernel_rfl) (by kernel_rfl) (by kernel_rfl) (fun _ _ _ h => h) (Or.inl ⟨by rfl, ?_⟩) (by assumption) ?_
            rotate_left
            · intro w hSw
              try dsimp only at hSw
              go_simp
              try with_reducible rfl
            try simp only [Act.put, List.setIfInBounds_toArray, List.set_cons_zero, List.set_cons_succ]
            refine takeH (i := 19) (d := some 65) (v := ?_) rfl rfl (by kernel_rfl) (by kernel_rfl) (by kernel_rfl) (fun _ _ _ h => h) (Or.inl ⟨by rfl, ?_⟩) (by assumption) ?_
            rotate_left
            · intro w hSw
              try dsimp only at hSw
              have d0 := (HD2.out.blk.turns hSw (fun h => h)).cell i
              rw [boolsA_get (by omega), HSX.out] at d0
              go_simp
              try with_reducible rfl
            try simp only [Act.put, List.setIfInBounds_toArray, List.set_cons_zero, List.set_cons_succ]
            refine takeH (i := 20) (d := some 66) (v := ?_) rfl rfl (by kernel_rfl) (by kernel_rfl) (by kernel_rfl) (fun _ _ _ h => h) (Or.inl ⟨by rfl, ?_⟩) (by assumption) ?_
            rotate_left
            · intro w hSw
              try dsimp only at hSw
              go_simp
              try with_reducible rfl
            try simp only [Act.put, List.setIfInBounds_toArray, List.set_cons_zero, List.set_cons_succ]
            refine takeH (i := 21) (d := some 67) (v := ?_) rfl rfl (by kernel_rfl) (by kernel_rfl) (by kernel_rfl) (fun _ _ _ h => h) (Or.inl ⟨by rfl, ?_⟩) (by assumption) ?_
            rotate_left
            · intro w hSw
              try dsimp only at hSw
              go_simp
              try with_reducible rfl
            try simp only [Act.put, List.setIfInBounds_toArray, List.set_cons_zero, List.set_cons_succ]
            refine takeH (i := 22) (d := some 68) (v := ?_) rfl rfl (by kernel_rfl) (by kernel_rfl) (by kernel_rfl) (fun _ _ _ h => h) (Or.inl ⟨by rfl, ?_⟩) (by assumption) ?_
            rotate_left
            · intro w hSw
              try dsimp only at hSw
              go_simp
              try with_reducible rfl
            try simp only [Act.put, List.setIfInBounds_toArray, List.set_cons_zero, List.set_cons_succ]
            refine takeH (i := 23) (d := some 69) (v := ?_) rfl rfl (by kernel_rfl) (by kernel_rfl) (by kernel_rfl) (fun _ _ _ h => h) (Or.inl ⟨by rfl, ?_⟩) (by assumption) ?_
            rotate_left
            · intro w hSw
              try dsimp only at hSw
              have hb2 := HX2.out.blk.turns hSw (fun h => h)
              have d0 := hb2.cell 0
              have d1 := hb2.cell 1
              have d2 := hb2.cell 2
              simp only [List.getElem?_toArray, List.getElem?_cons_zero, List.getElem?_cons_succ] at d0 d1 d2
              clear hb2
              go_simp
              try with_reducible rfl
            try simp only [Act.put, List.setIfInBounds_toArray, List.set_cons_zero, List.set_cons_succ]
            refine takeH (i := 24) (d := some 70) (v := ?_) rfl rfl (by kernel_rfl) (by kernel_rfl) (by kernel_rfl) (fun _ _ _ h => h) (Or.inl ⟨by rfl, ?_⟩) (by assumption) ?_
            rotate_left
            · intro w hSw
              try dsimp only at hSw
              go_simp
              try with_reducible rfl
            try simp only [Act.put, List.setIfInBounds_toArray, List.set_cons_zero, List.set_cons_succ]
            refine takeH (i := 25) (d := some 71) (v := ?_) rfl rfl (by kernel_rfl) (by kernel_rfl) (by kernel_rfl) (fun _ _ _ h => h) (Or.inl ⟨by rfl, ?_⟩) (by assumption) ?_
            rotate_left
            · intro w hSw
              try dsimp only at hSw
              go_simp
              try with_reducible rfl
            try simp only [Act.put, List.setIfInBounds_toArray, List.set_cons_zero, List.set_cons_succ]
            refine takeH (i := 26) (d := some 72) (v := ?_) rfl rfl (by kernel_rfl) (by kernel_rfl) (by kernel_rfl) (fun _ _ _ h => h) (Or.inl ⟨by rfl, ?_⟩) (by assumption) ?_
            rotate_left
            · intro w hSw
              try dsimp only at hSw
              have hb2 := HX2.out.blk.turns hSw (fun h => h)
              have d0 := hb2.cell 0
              have d1 := hb2.cell 1
              have d2 := hb2.cell 2
              simp only [List.getElem?_toArray, List.getElem?_cons_zero, List.getElem?_cons_succ] at d0 d1 d2
              clear hb2
              go_simp
              try with_reducible rfl
            try simp only [Act.put, List.setIfInBounds_toArray, List.set_cons_zero, List.set_cons_succ]
            refine takeH (i := 27) (d := some 73) (v := ?_) rfl rfl (by kernel_rfl) (by kernel_rfl) (by kernel_rfl) (fun _ _ _ h => h) (Or.inl ⟨by rfl, ?_⟩) (by assumption) ?_
            rotate_left
            · intro w hSw
              try dsimp only at hSw
              go_simp
              try with_reducible rfl
            try simp only [Act.put, List.setIfInBounds_toArray, List.set_cons_zero, List.set_cons_succ]
            refine takeH (i := 28) (d := some 74) (v := ?_) rfl rfl (by kernel_rfl) (by kernel_rfl) (by kernel_rfl) (fun _ _ _ h => h) (Or.inl ⟨by rfl, ?_⟩) (by assumption) ?_
            rotate_left
            · intro w hSw
              try dsimp only at hSw
              have d0 := (HLI.out.keep (fun o => (HS3.out.m.trans hSw).cell (p := ⟨b, o, none⟩) hbl (fun h => h))).one' HZ.out
              go_simp
              try with_reducible rfl
            try simp only [Act.put, List.setIfInBounds_toArray, List.set_cons_zero, List.set_cons_succ]
            refine takeH (i := 29) (d := some 75) (v := ?_) rfl rfl (by kernel_rfl) (by kernel_rfl) (by kernel_rfl) (fun _ _ _ h => h) (Or.inl ⟨by rfl, ?_⟩) (by assumption) ?_
            rotate_left
            · intro w hSw
              try dsimp only at hSw
              go_simp
              try with_reducible rfl
            try simp only [Act.put, List.setIfInBounds_toArray, List.set_cons_zero, List.set_cons_succ]
            refine takeH (i := 30) (d := some 76) (v := ?_) rfl rfl (by kernel_rfl) (by kernel_rfl) (by kernel_rfl) (fun _ _ _ h => h) (Or.inl ⟨by rfl, ?_⟩) (by assumption) ?_
            rotate_left
            · intro w hSw
              try dsimp only at hSw
              go_simp
              try with_reducible rfl
            try simp only [Act.put, List.setIfInBounds_toArray, List.set_cons_zero, List.set_cons_succ]
            refine takeH (i := 31) (d := some 77) (v := ?_) rfl rfl (by kernel_rfl) (by kernel_rfl) (by kernel_rfl) (fun _ _ _ h => h) (Or.inl ⟨by rfl, ?_⟩) (by assumption) ?_
            rotate_left
            · intro w hSw
              try dsimp only at hSw
              go_simp
              try with_reducible rfl
            try simp only [Act.put, List.setIfInBounds_toArray, List.set_cons_zero, List.set_cons_succ]
            refine takeH (i := 32) (d := some 78) (v := ?_) rfl rfl (by kernel_rfl) (by kernel_rfl) (by kernel_rfl) (fun _ _ _ h => h) (Or.inl ⟨by rfl, ?_⟩) (by assumption) ?_
            rotate_left
            · intro w hSw
              try dsimp only at hSw
              go_simp
              try with_reducible rfl
            try simp only [Act.put, List.setIfInBounds_toArray, List.set_cons_zero, List.set_cons_succ]
            refine takeH (i := 33) (d := some 79) (v := ?_) rfl rfl (by kernel_rfl) (by kernel_rfl) (by kernel_rfl) (fun _ _ _ h => h) (Or.inl ⟨by rfl, ?_⟩) (by assumption) ?_
            rotate_left
            · intro w hSw
              try dsimp only at hSw
              have hb2 := HX2.out.blk.turns hSw (fun h => h)
              have d0 := hb2.cell 0
              have d1 := hb2.cell 1
              have d2 := hb2.cell 2
              simp only [List.getElem?_toArray, List.getElem?_cons_zero, List.getElem?_cons_succ] at d0 d1 d2
              clear hb2
              go_simp
              try with_reducible rfl
            try simp only [Act.put, List.setIfInBounds_toArray, List.set_cons_zero, List.set_cons_succ]
            refine takeH (i := 34) (d := some 80) (v := ?_) rfl rfl (by kernel_rfl) (by kernel_rfl) (by kernel_rfl) (fun _ _ _ h => h) (Or.inl ⟨by rfl, ?_⟩) (by assumption) ?_
            rotate_left
            · intro w hSw
              try dsimp only at hSw
              go_simp
              try with_reducible rfl
            try simp only [Act.put, List.setIfInBounds_toArray, List.set_cons_zero, List.set_cons_succ]
            refine takeH (i := 35) (d := some 81) (v := ?_) rfl rfl (by kernel_rfl) (by kernel_rfl) (by kernel_rfl) (fun _ _ _ h => h) (Or.inl ⟨by rfl, ?_⟩) (by assumption) ?_
            rotate_left
            · intro w hSw
              try dsimp only at hSw
              have hb2 := HX2.out.blk.turns hSw (fun h => h)
              have d0 := hb2.cell 0
              have d1 := hb2.cell 1
              have d2 := hb2.cell 2
              simp only [List.getElem?_toArray, List.getElem?_cons_zero, List.getElem?_cons_succ] at d0 d1 d2
              clear hb2
              go_simp
              try with_reducible rfl
            try simp only [Act.put, List.setIfInBounds_toArray, List.set_cons_zero, List.set_cons_succ]
            refine takeH (i := 36) (d := some 82) (v := ?_) rfl rfl (by kernel_rfl) (by kernel_rfl) (by kernel_rfl) (fun _ _ _ h => h) (Or.inl ⟨by rfl, ?_⟩) (by assumption) ?_
            rotate_left
            · intro w hSw
              try dsimp only at hSw
              go_simp
              try with_reducible rfl
            try simp only [Act.put, List.setIfInBounds_toArray, List.set_cons_zero, List.set_cons_succ]
            refine takeH (i := 37) (d := some 83) (v := ?_) rfl rfl (by kernel_rfl) (by kernel_rfl) (by kernel_rfl) (fun _ _ _ h => h) (Or.inl ⟨by rfl, ?_⟩) (by assumption) ?_
            rotate_left
            · intro w hSw
              try dsimp only at hSw
              go_simp
              try with_reducible rfl
            try simp only [Act.put, List.setIfInBounds_toArray, List.set_cons_zero, List.set_cons_succ]
            refine takeH (i := 38) (d := some 84) (v := ?_) rfl rfl (by kernel_rfl) (by kernel_rfl) (by kernel_rfl) (fun _ _ _ h => h) (Or.inl ⟨by rfl, ?_⟩) (by assumption) ?_
            rotate_left
            · intro w hSw
              try dsimp only at hSw
              go_simp
              try with_reducible rfl
            try simp only [Act.put, List.setIfInBounds_toArray, List.set_cons_zero, List.set_cons_succ]
            refine takeH (i := 39) (d := some 85) (v := ?_) rfl rfl (by kernel_rfl) (by kernel_rfl) (by kernel_rfl) (fun _ _ _ h => h) (Or.inl ⟨by rfl, ?_⟩) (by assumption) ?_
            rotate_left
            · intro w hSw
              try dsimp only at hSw
              go_simp
              try with_reducible rfl
            try simp only [Act.put, List.setIfInBounds_toArray, List.set_cons_zero, List.set_cons_succ]
            refine takeH (i := 40) (d := some 86) (v := ?_) rfl rfl (by kernel_rfl) (by kernel_rfl) (by kernel_rfl) (fun _ _ _ h => h) (Or.inl ⟨by rfl, ?_⟩) (by assumption) ?_
            rotate_left
            · intro w hSw
              try dsimp only at hSw
              go_simp
              try with_reducible rfl
            try simp only [Act.put, List.setIfInBounds_toArray, List.set_cons_zero, List.set_cons_succ]
            refine takeH (i := 41) (d := some 87) (v := ?_) rfl rfl (by kernel_rfl) (by kernel_rfl) (by kernel_rfl) (fun _ _ _ h => h) (Or.inl ⟨by rfl, ?_⟩) (by assumption) ?_
            rotate_left
            · intro w hSw
              try dsimp only at hSw
              go_simp
              try with_reducible rfl
            try simp only [Act.put, List.setIfInBounds_toArray, List.set_cons_zero, List.set_cons_succ]
            refine takeH (i := 42) (d := some 88) (v := ?_) rfl rfl (by kernel_rfl) (by kernel_rfl) (by kernel_rfl) (fun _ _ _ h => h) (Or.inl ⟨by rfl, ?_⟩) (by assumption) ?_
            rotate_left
            · intro w hSw
              try dsimp only at hSw
              go_simp
              try with_reducible rfl
            try simp only [Act.put, List.setIfInBounds_toArray, List.set_cons_zero, List.set_cons_succ]
            refine takeH (i := 43) (d := some 89) (v := undef) rfl rfl (by kernel_rfl) (by kernel_rfl) (by kernel_rfl) (fun _ _ _ h => h) (Or.inr ⟨by rfl, rfl⟩) (by assumption) ?_
            try simp only [Act.put, List.setIfInBounds_toArray, List.set_cons_zero, List.set_cons_succ]
            refine takeH (i := 44) (d := some 90) (v := undef) rfl rfl (by kernel_rfl) (by kernel_rfl) (by kernel_rfl) (fun _ _ _ h => h) (Or.inr ⟨by rfl, rfl⟩) (by assumption) ?_
            try simp only [Act.put, List.setIfInBounds_toArray, List.set_cons_zero, List.set_cons_succ]
            refine takeH (i := 45) (d := some 91) (v := undef) rfl rfl (by kernel_rfl) (by kernel_rfl) (by kernel_rfl) (fun _ _ _ h => h) (Or.inr ⟨by rfl, rfl⟩) (by assumption) ?_
            try simp only [Act.put, List.setIfInBounds_toArray, List.set_cons_zero, List.set_cons_succ]
            refine takeH (i := 46) (d := some 92) (v := undef) rfl rfl (by kernel_rfl) (by kernel_rfl) (by kernel_rfl) (fun _ _ _ h => h) (Or.inr ⟨by rfl, rfl⟩) (by assumption) ?_
            try simp only [Act.put, List.setIfInBounds_toArray, List.set_cons_zero, List.set_cons_succ]
            refine takeH (i := 47) (d := some 93) (v := ?_) rfl rfl (by kernel_rfl) (by kernel_rfl) (by kernel_rfl) (fun _ _ _ h => h) (Or.inl ⟨by rfl, ?_⟩) (by assumption) ?_
            rotate_left
            · intro w hSw
              try dsimp only at hSw
              go_simp
              try with_reducible rfl
            try simp only [Act.put, List.setIfInBounds_toArray, List.set_cons_zero, List.set_cons_succ]
            refine takeH (i := 48) (d := some 94) (v := ?_) rfl rfl (by kernel_rfl) (by kernel_rfl) (by kernel_rfl) (fun _ _ _ h => h) (Or.inl ⟨by rfl, ?_⟩) (by assumption) ?_
            rotate_left
            · intro w hSw
              try dsimp only at hSw
              go_simp
              try with_reducible rfl
            try simp only [Act.put, List.setIfInBounds_toArray, List.set_cons_zero, List.set_cons_succ]
            refine wpAnyH_done (by kernel_rfl) ?_ _
            have HMX := Lib.hid hHeld
            clear hHeld
            try clear hHeld
            generalize W.drew = W3 at *
            have HX3 := Lib.hid (HX2.out.made HMX.out)
            have HE3 := Lib.hid (HE2.out.made HMX.out)
            have HD3 := Lib.hid (HD2.out.made HMX.out)
            have HH4 := Lib.hid (HH3.out.made HMX.out)
            have HS4 := Lib.hid (HS3.out.made HMX.out)
            have hq := HD3.out.blk.free i
            have hqc := HD3.out.blk.cell i
            rw [boolsA_get (by omega), HSX.out] at hqc
            have b0 := HX3.out.blk.cell 0
            have b1 := HX3.out.blk.cell 1
            have b2 := HX3.out.blk.cell 2
            have c0 := HE3.out.blk.cell 0
            have c1 := HE3.out.blk.cell 1
            have c2 := HE3.out.blk.cell 2
            have g0 := HE3.out.blk.free 0
            have g1 := HE3.out.blk.free 1
            have g2 := HE3.out.blk.free 2
            simp only [List.getElem?_toArray, List.getElem?_cons_zero, List.getElem?_cons_succ] at b0 b1 b2 c0 c1 c2
            have hbx3 := HX3.out.blk.lt
            have hby3 := HE3.out.blk.lt
            have hbs3 := HD3.out.blk.lt
            have nb1 : ¬ bx = bs := by omega
            have nb2 : ¬ bs + 1 = bs := by omega
            have nb3 : ¬ bx = bs + 1 := by omega
            have nb4 : ¬ bs = bs + 1 := by omega
            go_wp2_with fail
            go_roundw
            case rel => exact sorts_next HI3.out hjl HH4.out HS4.out HIT.out HD3.out HSN.out HE3.out HRI.out HUN.out HBS.out rfl
            case measure => simp [intOf]; omega
          · have hj1 : (0 : Int) < (j : Int) := by omega
            have hj2 : 0 < j := by omega
            have hj3 : decide (0 < j) = true := decide_eq_true hj2
            have hbe := behind_c ⟨i, z, i + 1⟩ y
            rw [decide_eq_true (HLT.out (by omega))] at hbe
            have HBE := Lib.hid hbe
            clear HLT hbe
            refine wp_region_held_drew (S := (fun w' => Made W w')) (by kernel_rfl) ?_ (fun hHeld => ?_)
            · exact (Turns.refl _ _).drew
            refine takeH (i := 0) (d := some 46) (v := ?_) rfl rfl (by kernel_rfl) (by kernel_rfl) (by kernel_rfl) (fun _ _ _ h => h) (Or.inl ⟨by rfl, ?_⟩) (by assumption) ?_
            rotate_left
            · intro w hSw
              try dsimp only at hSw
              go_simp
              try with_reducible rfl
            try simp only [Act.put, List.setIfInBounds_toArray, List.set_cons_zero, List.set_cons_succ]
            refine takeH (i := 1) (d := some 47) (v := ?_) rfl rfl (by kernel_rfl) (by kernel_rfl) (by kernel_rfl) (fun _ _ _ h => h) (Or.inl ⟨by rfl, ?_⟩) (by assumption) ?_
            rotate_left
            · intro w hSw
              try dsimp only at hSw
              go_simp
              try with_reducible rfl
            try simp only [Act.put, List.setIfInBounds_toArray, List.set_cons_zero, List.set_cons_succ]
            refine takeH (i := 2) (d := some 48) (v := ?_) rfl rfl (by kernel_rfl) (by kernel_rfl) (by kernel_rfl) (fun _ _ _ h => h) (Or.inl ⟨by rfl, ?_⟩) (by assumption) ?_
            rotate_left
            · intro w hSw
              try dsimp only at hSw
              go_simp
              try with_reducible rfl
            try simp only [Act.put, List.setIfInBounds_toArray, List.set_cons_zero, List.set_cons_succ]
            refine takeH (i := 3) (d := some 49) (v := ?_) rfl rfl (by kernel_rfl) (by kernel_rfl) (by kernel_rfl) (fun _ _ _ h => h) (Or.inl ⟨by rfl, ?_⟩) (by assumption) ?_
            rotate_left
            · intro w hSw
              try dsimp only at hSw
              go_simp
              try with_reducible rfl
            try simp only [Act.put, List.setIfInBounds_toArray, List.set_cons_zero, List.set_cons_succ]
            refine takeH (i := 4) (d := some 50) (v := ?_) rfl rfl (by kernel_rfl) (by kernel_rfl) (by kernel_rfl) (fun _ _ _ h => h) (Or.inl ⟨by rfl, ?_⟩) (by assumption) ?_
            rotate_left
            · intro w hSw
              try dsimp only at hSw
              have hb2 := HX2.out.blk.turns hSw (fun h => h)
              have d0 := hb2.cell 0
              have d1 := hb2.cell 1
              have d2 := hb2.cell 2
              simp only [List.getElem?_toArray, List.getElem?_cons_zero, List.getElem?_cons_succ] at d0 d1 d2
              clear hb2
              go_simp
              try with_reducible rfl
            try simp only [Act.put, List.setIfInBounds_toArray, List.set_cons_zero, List.set_cons_succ]
            refine takeH (i := 5) (d := some 51) (v := ?_) rfl rfl (by kernel_rfl) (by kernel_rfl) (by kernel_rfl) (fun _ _ _ h => h) (Or.inl ⟨by rfl, ?_⟩) (by assumption) ?_
            rotate_left
            · intro w hSw
              try dsimp only at hSw
              go_simp
              try with_reducible rfl
            try simp only [Act.put, List.setIfInBounds_toArray, List.set_cons_zero, List.set_cons_succ]
            refine takeH (i := 6) (d := some 52) (v := ?_) rfl rfl (by kernel_rfl) (by kernel_rfl) (by kernel_rfl) (fun _ _ _ h => h) (Or.inl ⟨by rfl, ?_⟩) (by assumption) ?_
            rotate_left
            · intro w hSw
              try dsimp only at hSw
              go_simp
              try with_reducible rfl
            try simp only [Act.put, List.setIfInBounds_toArray, List.set_cons_zero, List.set_cons_succ]
            refine takeH (i := 7) (d := some 53) (v := ?_) rfl rfl (by kernel_rfl) (by kernel_rfl) (by kernel_rfl) (fun _ _ _ h => h) (Or.inl ⟨by rfl, ?_⟩) (by assumption) ?_
            rotate_left
            · intro w hSw
              try dsimp only at hSw
              go_simp
              try with_reducible rfl
            try simp only [Act.put, List.setIfInBounds_toArray, List.set_cons_zero, List.set_cons_succ]
            refine takeH (i := 8) (d := some 54) (v := ?_) rfl rfl (by kernel_rfl) (by kernel_rfl) (by kernel_rfl) (fun _ _ _ h => h) (Or.inl ⟨by rfl, ?_⟩) (by assumption) ?_
            rotate_left
            · intro w hSw
              try dsimp only at hSw
              go_simp
              try with_reducible rfl
            try simp only [Act.put, List.setIfInBounds_toArray, List.set_cons_zero, List.set_cons_succ]
            refine takeH (i := 9) (d := some 55) (v := ?_) rfl rfl (by kernel_rfl) (by kernel_rfl) (by kernel_rfl) (fun _ _ _ h => h) (Or.inl ⟨by rfl, ?_⟩) (by assumption) ?_
            rotate_left
            · intro w hSw
              try dsimp only at hSw
              have hb2 := HX2.out.blk.turns hSw (fun h => h)
              have d0 := hb2.cell 0
              have d1 := hb2.cell 1
              have d2 := hb2.cell 2
              simp only [List.getElem?_toArray, List.getElem?_cons_zero, List.getElem?_cons_succ] at d0 d1 d2
              clear hb2
              go_simp
              try with_reducible rfl
            try simp only [Act.put, List.setIfInBounds_toArray, List.set_cons_zero, List.set_cons_succ]
            refine takeH (i := 10) (d := some 56) (v := ?_) rfl rfl (by kernel_rfl) (by kernel_rfl) (by kernel_rfl) (fun _ _ _ h => h) (Or.inl ⟨by rfl, ?_⟩) (by assumption) ?_
            rotate_left
            · intro w hSw
              try dsimp only at hSw
              go_simp
              try with_reducible rfl
            try simp only [Act.put, List.setIfInBounds_toArray, List.set_cons_zero, List.set_cons_succ]
            refine takeH (i := 11) (d := some 57) (v := ?_) rfl rfl (by kernel_rfl) (by kernel_rfl) (by kernel_rfl) (fun _ _ _ h => h) (Or.inl ⟨by rfl, ?_⟩) (by assumption) ?_
            rotate_left
            · intro w hSw
              try dsimp only at hSw
              go_simp
              try with_reducible rfl
            try simp only [Act.put, List.setIfInBounds_toArray, List.set_cons_zero, List.set_cons_succ]
            refine takeH (i := 12) (d := some 58) (v := ?_) rfl rfl (by kernel_rfl) (by kernel_rfl) (by kernel_rfl) (fun _ _ _ h => h) (Or.inl ⟨by rfl, ?_⟩) (by assumption) ?_
            rotate_left
            · intro w hSw
              try dsimp only at hSw
              go_simp
              try with_reducible rfl
            try simp only [Act.put, List.setIfInBounds_toArray, List.set_cons_zero, List.set_cons_succ]
            refine takeH (i := 13) (d := some 59) (v := ?_) rfl rfl (by kernel_rfl) (by kernel_rfl) (by kernel_rfl) (fun _ _ _ h => h) (Or.inl ⟨by rfl, ?_⟩) (by assumption) ?_
            rotate_left
            · intro w hSw
              try dsimp only at hSw
              go_simp
              try with_reducible rfl
            try simp only [Act.put, List.setIfInBounds_toArray, List.set_cons_zero, List.set_cons_succ]
            refine takeH (i := 14) (d := some 60) (v := ?_) rfl rfl (by kernel_rfl) (by kernel_rfl) (by kernel_rfl) (fun _ _ _ h => h) (Or.inl ⟨by rfl, ?_⟩) (by assumption) ?_
            rotate_left
            · intro w hSw
              try dsimp only at hSw
              go_simp
              try with_reducible rfl
            try simp only [Act.put, List.setIfInBounds_toArray, List.set_cons_zero, List.set_cons_succ]
            refine takeH (i := 15) (d := some 61) (v := ?_) rfl rfl (by kernel_rfl) (by kernel_rfl) (by kernel_rfl) (fun _ _ _ h => h) (Or.inl ⟨by rfl, ?_⟩) (by assumption) ?_
            rotate_left
            · intro w hSw
              try dsimp only at hSw
              go_simp
              try with_reducible rfl
            try simp only [Act.put, List.setIfInBounds_toArray, List.set_cons_zero, List.set_cons_succ]
            refine takeH (i := 16) (d := some 62) (v := ?_) rfl rfl (by kernel_rfl) (by kernel_rfl) (by kernel_rfl) (fun _ _ _ h => h) (Or.inl ⟨by rfl, ?_⟩) (by assumption) ?_
            rotate_left
            · intro w hSw
              try dsimp only at hSw
              go_simp
              try with_reducible rfl
            try simp only [Act.put, List.setIfInBounds_toArray, List.set_cons_zero, List.set_cons_succ]
            refine takeH (i := 17) (d := some 63) (v := ?_) rfl rfl (by kernel_rfl) (by kernel_rfl) (by kernel_rfl) (fun _ _ _ h => h) (Or.inl ⟨by rfl, ?_⟩) (by assumption) ?_
            rotate_left
            · intro w hSw
              try dsimp only at hSw
              have hb2 := HX2.out.blk.turns hSw (fun h => h)
              have d0 := hb2.cell 0
              have d1 := hb2.cell 1
              have d2 := hb2.cell 2
              simp only [List.getElem?_toArray, List.getElem?_cons_zero, List.getElem?_cons_succ] at d0 d1 d2
              clear hb2
              go_simp
              try with_reducible rfl
            try simp only [Act.put, List.setIfInBounds_toArray, List.set_cons_zero, List.set_cons_succ]
            refine takeH (i := 18) (d := some 64) (v := ?_) rfl rfl (by kernel_rfl) (by kernel_rfl) (by kernel_rfl) (fun _ _ _ h => h) (Or.inl ⟨by rfl, ?_⟩) (by assumption) ?_
            rotate_left
            · intro w hSw
              try dsimp only at hSw
              go_simp
              try with_reducible rfl
            try simp only [Act.put, List.setIfInBounds_toArray, List.set_cons_zero, List.set_cons_succ]
            refine takeH (i := 19) (d := some 65) (v := ?_) rfl rfl (by kernel_rfl) (by kernel_rfl) (by kernel_rfl) (fun _ _ _ h => h) (Or.inl ⟨by rfl, ?_⟩) (by assumption) ?_
            rotate_left
            · intro w hSw
              try dsimp only at hSw
              have d0 := (HD2.out.blk.turns hSw (fun h => h)).cell i
              rw [boolsA_get (by omega), HSX.out] at d0
              go_simp
              try with_reducible rfl
            try simp only [Act.put, List.setIfInBounds_toArray, List.set_cons_zero, List.set_cons_succ]
            refine takeH (i := 20) (d := some 66) (v := ?_) rfl rfl (by kernel_rfl) (by kernel_rfl) (by kernel_rfl) (fun _ _ _ h => h) (Or.inl ⟨by rfl, ?_⟩) (by assumption) ?_
            rotate_left
            · intro w hSw
              try dsimp only at hSw
              go_simp
              try with_reducible rfl
            try simp only [Act.put, List.setIfInBounds_toArray, List.set_cons_zero, List.set_cons_succ]
            refine takeH (i := 21) (d := some 67) (v := ?_) rfl rfl (by kernel_rfl) (by kernel_rfl) (by kernel_rfl) (fun _ _ _ h => h) (Or.inl ⟨by rfl, ?_⟩) (by assumption) ?_
            rotate_left
            · intro w hSw
              try dsimp only at hSw
              go_simp
              try with_reducible rfl
            try simp only [Act.put, List.setIfInBounds_toArray, List.set_cons_zero, List.set_cons_succ]
            refine takeH (i := 22) (d := some 68) (v := ?_) rfl rfl (by kernel_rfl) (by kernel_rfl) (by kernel_rfl) (fun _ _ _ h => h) (Or.inl ⟨by rfl, ?_⟩) (by assumption) ?_
            rotate_left
            · intro w hSw
              try dsimp only at hSw
              go_simp
              try with_reducible rfl
            try simp only [Act.put, List.setIfInBounds_toArray, List.set_cons_zero, List.set_cons_succ]
            refine takeH (i := 23) (d := some 69) (v := ?_) rfl rfl (by kernel_rfl) (by kernel_rfl) (by kernel_rfl) (fun _ _ _ h => h) (Or.inl ⟨by rfl, ?_⟩) (by assumption) ?_
            rotate_left
            · intro w hSw
              try dsimp only at hSw
              have hb2 := HX2.out.blk.turns hSw (fun h => h)
              have d0 := hb2.cell 0
              have d1 := hb2.cell 1
              have d2 := hb2.cell 2
              simp only [List.getElem?_toArray, List.getElem?_cons_zero, List.getElem?_cons_succ] at d0 d1 d2
              clear hb2
              go_simp
              try with_reducible rfl
            try simp only [Act.put, List.setIfInBounds_toArray, List.set_cons_zero, List.set_cons_succ]
            refine takeH (i := 24) (d := some 70) (v := ?_) rfl rfl (by kernel_rfl) (by kernel_rfl) (by kernel_rfl) (fun _ _ _ h => h) (Or.inl ⟨by rfl, ?_⟩) (by assumption) ?_
            rotate_left
            · intro w hSw
              try dsimp only at hSw
              go_simp
              try with_reducible rfl
            try simp only [Act.put, List.setIfInBounds_toArray, List.set_cons_zero, List.set_cons_succ]
            refine takeH (i := 25) (d := some 71) (v := ?_) rfl rfl (by kernel_rfl) (by kernel_rfl) (by kernel_rfl) (fun _ _ _ h => h) (Or.inl ⟨by rfl, ?_⟩) (by assumption) ?_
            rotate_left
            · intro w hSw
              try dsimp only at hSw
              go_simp
              try with_reducible rfl
            try simp only [Act.put, List.setIfInBounds_toArray, List.set_cons_zero, List.set_cons_succ]
            refine takeH (i := 26) (d := some 72) (v := ?_) rfl rfl (by kernel_rfl) (by kernel_rfl) (by kernel_rfl) (fun _ _ _ h => h) (Or.inl ⟨by rfl, ?_⟩) (by assumption) ?_
            rotate_left
            · intro w hSw
              try dsimp only at hSw
              have hb2 := HX2.out.blk.turns hSw (fun h => h)
              have d0 := hb2.cell 0
              have d1 := hb2.cell 1
              have d2 := hb2.cell 2
              simp only [List.getElem?_toArray, List.getElem?_cons_zero, List.getElem?_cons_succ] at d0 d1 d2
              clear hb2
              go_simp
              try with_reducible rfl
            try simp only [Act.put, List.setIfInBounds_toArray, List.set_cons_zero, List.set_cons_succ]
            refine takeH (i := 27) (d := some 73) (v := ?_) rfl rfl (by kernel_rfl) (by kernel_rfl) (by kernel_rfl) (fun _ _ _ h => h) (Or.inl ⟨by rfl, ?_⟩) (by assumption) ?_
            rotate_left
            · intro w hSw
              try dsimp only at hSw
              go_simp
              try with_reducible rfl
            try simp only [Act.put, List.setIfInBounds_toArray, List.set_cons_zero, List.set_cons_succ]
            refine takeH (i := 28) (d := some 74) (v := ?_) rfl rfl (by kernel_rfl) (by kernel_rfl) (by kernel_rfl) (fun _ _ _ h => h) (Or.inl ⟨by rfl, ?_⟩) (by assumption) ?_
            rotate_left
            · intro w hSw
              try dsimp only at hSw
              have d0 := (HLI.out.keep (fun o => (HS3.out.m.trans hSw).cell (p := ⟨b, o, none⟩) hbl (fun h => h))).one' HZ.out
              go_simp
              try with_reducible rfl
            try simp only [Act.put, List.setIfInBounds_toArray, List.set_cons_zero, List.set_cons_succ]
            refine takeH (i := 29) (d := some 75) (v := ?_) rfl rfl (by kernel_rfl) (by kernel_rfl) (by kernel_rfl) (fun _ _ _ h => h) (Or.inl ⟨by rfl, ?_⟩) (by assumption) ?_
            rotate_left
            · intro w hSw
              try dsimp only at hSw
              go_simp
              try with_reducible rfl
            try simp only [Act.put, List.setIfInBounds_toArray, List.set_cons_zero, List.set_cons_succ]
            refine takeH (i := 30) (d := some 76) (v := ?_) rfl rfl (by kernel_rfl) (by kernel_rfl) (by kernel_rfl) (fun _ _ _ h => h) (Or.inl ⟨by rfl, ?_⟩) (by assumption) ?_
            rotate_left
            · intro w hSw
              try dsimp only at hSw
              go_simp
              try with_reducible rfl
            try simp only [Act.put, List.setIfInBounds_toArray, List.set_cons_zero, List.set_cons_succ]
            refine takeH (i := 31) (d := some 77) (v := ?_) rfl rfl (by kernel_rfl) (by kernel_rfl) (by kernel_rfl) (fun _ _ _ h => h) (Or.inl ⟨by rfl, ?_⟩) (by assumption) ?_
            rotate_left
            · intro w hSw
              try dsimp only at hSw
              go_simp
              try with_reducible rfl
            try simp only [Act.put, List.setIfInBounds_toArray, List.set_cons_zero, List.set_cons_succ]
            refine takeH (i := 32) (d := some 78) (v := ?_) rfl rfl (by kernel_rfl) (by kernel_rfl) (by kernel_rfl) (fun _ _ _ h => h) (Or.inl ⟨by rfl, ?_⟩) (by assumption) ?_
            rotate_left
            · intro w hSw
              try dsimp only at hSw
              go_simp
              try with_reducible rfl
            try simp only [Act.put, List.setIfInBounds_toArray, List.set_cons_zero, List.set_cons_succ]
            refine takeH (i := 33) (d := some 79) (v := ?_) rfl rfl (by kernel_rfl) (by kernel_rfl) (by kernel_rfl) (fun _ _ _ h => h) (Or.inl ⟨by rfl, ?_⟩) (by assumption) ?_
            rotate_left
            · intro w hSw
              try dsimp only at hSw
              have hb2 := HX2.out.blk.turns hSw (fun h => h)
              have d0 := hb2.cell 0
              have d1 := hb2.cell 1
              have d2 := hb2.cell 2
              simp only [List.getElem?_toArray, List.getElem?_cons_zero, List.getElem?_cons_succ] at d0 d1 d2
              clear hb2
              go_simp
              try with_reducible rfl
            try simp only [Act.put, List.setIfInBounds_toArray, List.set_cons_zero, List.set_cons_succ]
            refine takeH (i := 34) (d := some 80) (v := ?_) rfl rfl (by kernel_rfl) (by kernel_rfl) (by kernel_rfl) (fun _ _ _ h => h) (Or.inl ⟨by rfl, ?_⟩) (by assumption) ?_
            rotate_left
            · intro w hSw
              try dsimp only at hSw
              go_simp
              try with_reducible rfl
            try simp only [Act.put, List.setIfInBounds_toArray, List.set_cons_zero, List.set_cons_succ]
            refine takeH (i := 35) (d := some 81) (v := ?_) rfl rfl (by kernel_rfl) (by kernel_rfl) (by kernel_rfl) (fun _ _ _ h => h) (Or.inl ⟨by rfl, ?_⟩) (by assumption) ?_
            rotate_left
            · intro w hSw
              try dsimp only at hSw
              have hb2 := HX2.out.blk.turns hSw (fun h => h)
              have d0 := hb2.cell 0
              have d1 := hb2.cell 1
              have d2 := hb2.cell 2
              simp only [List.getElem?_toArray, List.getElem?_cons_zero, List.getElem?_cons_succ] at d0 d1 d2
              clear hb2
              go_simp
              try with_reducible rfl
            try simp only [Act.put, List.setIfInBounds_toArray, List.set_cons_zero, List.set_cons_succ]
            refine takeH (i := 36) (d := some 82) (v := ?_) rfl rfl (by kernel_rfl) (by kernel_rfl) (by kernel_rfl) (fun _ _ _ h => h) (Or.inl ⟨by rfl, ?_⟩) (by assumption) ?_
            rotate_left
            · intro w hSw
              try dsimp only at hSw
              go_simp
              try with_reducible rfl
            try simp only [Act.put, List.setIfInBounds_toArray, List.set_cons_zero, List.set_cons_succ]
            refine takeH (i := 37) (d := some 83) (v := ?_) rfl rfl (by kernel_rfl) (by kernel_rfl) (by kernel_rfl) (fun _ _ _ h => h) (Or.inl ⟨by rfl, ?_⟩) (by assumption) ?_
            rotate_left
            · intro w hSw
              try dsimp only at hSw
              go_simp
              try with_reducible rfl
            try simp only [Act.put, List.setIfInBounds_toArray, List.set_cons_zero, List.set_cons_succ]
            refine takeH (i := 38) (d := some 84) (v := ?_) rfl rfl (by kernel_rfl) (by kernel_rfl) (by kernel_rfl) (fun _ _ _ h => h) (Or.inl ⟨by rfl, ?_⟩) (by assumption) ?_
            rotate_left
            · intro w hSw
              try dsimp only at hSw
              go_simp
              try with_reducible rfl
            try simp only [Act.put, List.setIfInBounds_toArray, List.set_cons_zero, List.set_cons_succ]
            refine takeH (i := 39) (d := some 85) (v := ?_) rfl rfl (by kernel_rfl) (by kernel_rfl) (by kernel_rfl) (fun _ _ _ h => h) (Or.inl ⟨by rfl, ?_⟩) (by assumption) ?_
            rotate_left
            · intro w hSw
              try dsimp only at hSw
              go_simp
              try with_reducible rfl
            try simp only [Act.put, List.setIfInBounds_toArray, List.set_cons_zero, List.set_cons_succ]
            refine takeH (i := 40) (d := some 86) (v := ?_) rfl rfl (by kernel_rfl) (by kernel_rfl) (by kernel_rfl) (fun _ _ _ h => h) (Or.inl ⟨by rfl, ?_⟩) (by assumption) ?_
            rotate_left
            · intro w hSw
              try dsimp only at hSw
              go_simp
              try with_reducible rfl
            try simp only [Act.put, List.setIfInBounds_toArray, List.set_cons_zero, List.set_cons_succ]
            refine takeH (i := 41) (d := some 87) (v := ?_) rfl rfl (by kernel_rfl) (by kernel_rfl) (by kernel_rfl) (fun _ _ _ h => h) (Or.inl ⟨by rfl, ?_⟩) (by assumption) ?_
            rotate_left
            · intro w hSw
              try dsimp only at hSw
              go_simp
              try with_reducible rfl
            try simp only [Act.put, List.setIfInBounds_toArray, List.set_cons_zero, List.set_cons_succ]
            refine takeH (i := 42) (d := some 88) (v := ?_) rfl rfl (by kernel_rfl) (by kernel_rfl) (by kernel_rfl) (fun _ _ _ h => h) (Or.inl ⟨by rfl, ?_⟩) (by assumption) ?_
            rotate_left
            · intro w hSw
              try dsimp only at hSw
              go_simp
              try with_reducible rfl
            try simp only [Act.put, List.setIfInBounds_toArray, List.set_cons_zero, List.set_cons_succ]
            refine takeH (i := 43) (d := some 89) (v := ?_) rfl rfl (by kernel_rfl) (by kernel_rfl) (by kernel_rfl) (fun _ _ _ h => h) (Or.inl ⟨by rfl, ?_⟩) (by assumption) ?_
            rotate_left
            · intro w hSw
              try dsimp only at hSw
              have hb2 := HX2.out.blk.turns hSw (fun h => h)
              have d0 := hb2.cell 0
              have d1 := hb2.cell 1
              have d2 := hb2.cell 2
              simp only [List.getElem?_toArray, List.getElem?_cons_zero, List.getElem?_cons_succ] at d0 d1 d2
              clear hb2
              go_simp
              try with_reducible rfl
            try simp only [Act.put, List.setIfInBounds_toArray, List.set_cons_zero, List.set_cons_succ]
            refine takeH (i := 44) (d := some 90) (v := ?_) rfl rfl (by kernel_rfl) (by kernel_rfl) (by kernel_rfl) (fun _ _ _ h => h) (Or.inl ⟨by rfl, ?_⟩) (by assumption) ?_
            rotate_left
            · intro w hSw
              try dsimp only at hSw
              have hb2 := HE2.out.blk.turns hSw (fun h => h)
              have d0 := hb2.cell 0
              have d1 := hb2.cell 1
              have d2 := hb2.cell 2
              simp only [List.getElem?_toArray, List.getElem?_cons_zero, List.getElem?_cons_succ] at d0 d1 d2
              clear hb2
              go_simp
              try with_reducible rfl
            try simp only [Act.put, List.setIfInBounds_toArray, List.set_cons_zero, List.set_cons_succ]
            refine wpAnyH_ready (rs := [45]) (by kernel_rfl) (by simp) ?_
            refine AllReadyH.cons rfl (fun K hK => ?_) AllReadyH.nil
            go_simp
            refine (HBE.out _).mono ?_
            rintro e w' ⟨rfl, hm'⟩
            go_wp2_with fail
            refine hK.out _ _ ?_ (fun hHeld => ?_)
            · exact Turns.trans hHeld hm'
            clear hK K
            try simp only [Act.put, List.setIfInBounds_toArray, List.set_cons_zero, List.set_cons_succ]
            refine takeH (i := 46) (d := some 92) (v := ?_) rfl rfl (by kernel_rfl) (by kernel_rfl) (by kernel_rfl) (fun _ _ _ h => h) (Or.inl ⟨by rfl, ?_⟩) (by assumption) ?_
            rotate_left
            · intro w hSw
              try dsimp only at hSw
              go_simp
              try with_reducible rfl
            try simp only [Act.put, List.setIfInBounds_toArray, List.set_cons_zero, List.set_cons_succ]
            refine takeH (i := 47) (d := some 93) (v := ?_) rfl rfl (by kernel_rfl) (by kernel_rfl) (by kernel_rfl) (fun _ _ _ h => h) (Or.inl ⟨by rfl, ?_⟩) (by assumption) ?_
            rotate_left
            · intro w hSw
              try dsimp only at hSw
              go_simp
              try with_reducible rfl
            try simp only [Act.put, List.setIfInBounds_toArray, List.set_cons_zero, List.set_cons_succ]
            refine takeH (i := 48) (d := some 94) (v := ?_) rfl rfl (by kernel_rfl) (by kernel_rfl) (by kernel_rfl) (fun _ _ _ h => h) (Or.inl ⟨by rfl, ?_⟩) (by assumption) ?_
            rotate_left
            · intro w hSw
              try dsimp only at hSw
              go_simp
              try with_reducible rfl
            try simp only [Act.put, List.setIfInBounds_toArray, List.set_cons_zero, List.set_cons_succ]
            refine wpAnyH_done (by kernel_rfl) ?_ _
            have HMX := Lib.hid hHeld
            clear hHeld
            try clear hHeld
            generalize w' = W3 at *
            have HX3 := Lib.hid (HX2.out.made HMX.out)
            have HE3 := Lib.hid (HE2.out.made HMX.out)
            have HD3 := Lib.hid (HD2.out.made HMX.out)
            have HH4 := Lib.hid (HH3.out.made HMX.out)
            have HS4 := Lib.hid (HS3.out.made HMX.out)
            have hq := HD3.out.blk.free i
            have hqc := HD3.out.blk.cell i
            rw [boolsA_get (by omega), HSX.out] at hqc
            have b0 := HX3.out.blk.cell 0
            have b1 := HX3.out.blk.cell 1
            have b2 := HX3.out.blk.cell 2
            have c0 := HE3.out.blk.cell 0
            have c1 := HE3.out.blk.cell 1
            have c2 := HE3.out.blk.cell 2
            have g0 := HE3.out.blk.free 0
            have g1 := HE3.out.blk.free 1
            have g2 := HE3.out.blk.free 2
            simp only [List.getElem?_toArray, List.getElem?_cons_zero, List.getElem?_cons_succ] at b0 b1 b2 c0 c1 c2
            have hbx3 := HX3.out.blk.lt
            have hby3 := HE3.out.blk.lt
            have hbs3 := HD3.out.blk.lt
            have nb1 : ¬ bx = bs := by omega
            have nb2 : ¬ bs + 1 = bs := by omega
            have nb3 : ¬ bx = bs + 1 := by omega
            have nb4 : ¬ bs = bs + 1 := by omega
            go_wp2_with fail
            go_roundw
            case rel => exact sorts_next HI3.out hjl HH4.out HS4.out HIT.out HD3.out HSN.out HE3.out HRI.out HUN.out HBS.out rfl
            case measure => simp [intOf]; omega
        · have j2 : ¬ (j : Int) < (k : Int) := by omega
          obtain rfl : L' = [] := List.eq_nil_of_length_eq_zero (by omega)
          have HLEN := Lib.hid (hlen_c wr hh)
          simp only [List.length_nil] at HLEN
          have HSS := Lib.hid hs
          clear hh hs hit hsn hsd hla hlt
          go_wp2_with fail
          refine HLEN.out.mono ?_
          rintro e w2 ⟨rfl, rfl⟩
          go_wp2_with fail
          refine (awake_c _).mono ?_
          rintro e w2 ⟨rfl, hm⟩
          have HM := Lib.hid (HSS.out.m.trans hm)
          clear hm
          go_wp2_with fail
          go_ret
          exact ⟨rfl, HM.out⟩
end Go.Proofs.Ytgjgopcomgclkaa
