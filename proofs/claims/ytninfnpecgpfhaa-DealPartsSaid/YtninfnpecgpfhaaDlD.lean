/-
  Contract of deal.Left.
-/
import Derived.Test.YtninfnpecgpfhaaDlC
namespace Go.Proofs.Ytninfnpecgpfhaa
open Go.RowKit
set_option linter.unusedVariables false
set_option linter.unusedSimpArgs false

set_option maxHeartbeats 1000000 in
theorem left_c (p : Nat) (lv : Value) (ds : List DealT) (ch : Int) (w : World) (hl : LogAt w p lv ds) (hn : ds.length ≤ 1000000) :
    Calls Try.prog 14 #[.pointer (some ⟨p, 0, none⟩), .int .i64 ch] w fun e w' => ∃ a l c, e = .returned (.slice a l c) ∧ RowIn encI 1 w' a l (leftF ds ch) ∧ l ≤ 1000000 ∧ Made w w' := by
  have h1 := sent_c p lv ds ch w hl hn
  have hle1 := valsF_le ds ch false
  have hle2 := valsF_le ds ch true
  obtain ⟨out, ho⟩ : ∃ o, leftF ds ch = o := ⟨_, rfl⟩
  rw [ho]
  have hg := fun w' (hm : Made w w') => got_c p lv ds ch w' ⟨hl.blk.turns hm (fun h => h), hl.own.turns hm (fun _ _ h => h), hl.ne⟩ hn
  unfold leftF at ho
  generalize hS : valsF ds ch false = S at *
  generalize hG : valsF ds ch true = G at *
  have H1 := Lib.hid h1
  have HG := Lib.hid hg
  have HO := Lib.hid ho
  clear h1 hg hS hG hl ho
  have hS : S.length ≤ 1000000 := by omega
  have hG : G.length ≤ 1000000 := by omega
  clear hle1 hle2
  go_enter Try.func14, Try.ntmps14
  go_wp2_with fail
  refine H1.out.mono ?_
  rintro e w1 ⟨v1, rfl, o1, m1, b1⟩
  have r1 := o1.rowIn encI_len
  have hv1 := Lib.hid b1
  have HM1 := Lib.hid m1
  clear b1 o1
  obtain ⟨a1, c1, rfl, r1, lc1, lm1, -, -⟩ := r1
  have HR1 := Lib.hid r1
  clear r1 m1
  go_wp2_with fail
  refine (HG.out w1 HM1.out).mono ?_
  rintro e w2 ⟨v2, rfl, o2, m2, b2⟩
  have r2 := o2.rowIn encI_len
  obtain ⟨a2, c2, rfl, r2, lc2, lm2, -, -⟩ := r2
  have HR2 := Lib.hid r2
  have HR1' := Lib.hid (HR1.out.made m2)
  have HM2 := Lib.hid (Turns.trans HM1.out m2)
  clear r2 m2 b2 o2
  have hp := prefix_c a2 a1 G.length c2 S.length c1 G S w2 HR2.out HR1'.out hG hS lc1 lm1
  cases hpf : prefF G S with
  | false =>
    rw [hpf] at hp HO
    have HP := Lib.hid hp
    have hO : [] = out := by have := HO.out; simpa using this
    clear hp hpf
    subst hO
    go_wp2_with fail
    refine HP.out.mono ?_
    rintro e w3 ⟨rfl, m3⟩
    go_wp2_with fail
    go_ret
    exact ⟨none, 0, 0, rfl, ⟨rfl, .inl (Nat.le_refl _)⟩, Nat.zero_le _, Turns.trans HM2.out m3⟩
  | true =>
    rw [hpf] at hp HO
    have HP := Lib.hid hp
    have hle : G.length ≤ S.length := by
      unfold prefF at hpf
      simp only [decide_eq_true_eq] at hpf
      exact hpf.1
    clear hp hpf
    unfold maxLen at lm1
    have q1 : G.length ≤ c1 := by omega
    go_wp2_with fail
    refine HP.out.mono ?_
    rintro e w3 ⟨rfl, m3⟩
    have hO : S.drop G.length = out := by have := HO.out; simpa using this
    clear HO
    have HO := Lib.hid hO
    clear hO
    go_wp2_with fail
    · go_ret
      exact ⟨_, _, ⟨_, rfl⟩, by rw [← HO.out]; exact (HR1'.out.made m3).drop_end (by omega), by omega, Turns.trans HM2.out m3⟩
    · go_ret
      exact ⟨_, _, ⟨_, rfl⟩, by rw [← HO.out]; exact (HR1'.out.made m3).drop hle, by omega, Turns.trans HM2.out m3⟩
end Go.Proofs.Ytninfnpecgpfhaa
