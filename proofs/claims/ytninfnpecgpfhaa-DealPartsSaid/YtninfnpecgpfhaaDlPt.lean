/-
  The plain law of DealParts: what the rows of deals read as, channel by channel.
-/
import Derived.Test.YtninfnpecgpfhaaDlC
namespace Go.Proofs.Ytninfnpecgpfhaa
open Go.RowKit
set_option linter.unusedVariables false
set_option linter.unusedSimpArgs false

def putD (c i : Nat) (g : Bool) : DealT := ⟨c, i, 100 * (c : Int) + i, g, 0⟩
def rowL (g : Bool) (c k : Nat) : List DealT := (List.range k).map fun i => putD c i g
def valL (c k : Nat) : List Int := (List.range k).map fun i : Nat => 100 * (c : Int) + i
def P1 (kf : Nat → Nat) (c : Nat) : List DealT := (List.range c).flatMap fun c => rowL false c (kf c)
def P2 (mf : Nat → Nat) (n d : Nat) : List DealT := (List.range d).flatMap fun j => rowL true (n - 1 - j) (mf (n - 1 - j))

theorem rowL_zero (g : Bool) (c : Nat) : rowL g c 0 = [] := rfl
theorem rowL_succ (g : Bool) (c k : Nat) : rowL g c (k + 1) = rowL g c k ++ [putD c k g] := by unfold rowL; rw [List.range_succ, List.map_append]; rfl
theorem valL_succ (c k : Nat) : valL c (k + 1) = valL c k ++ [100 * (c : Int) + k] := by unfold valL; rw [List.range_succ, List.map_append]; rfl
theorem P1_succ (kf : Nat → Nat) (c : Nat) : P1 kf (c + 1) = P1 kf c ++ rowL false c (kf c) := by unfold P1; rw [List.range_succ, List.flatMap_append]; simp
theorem P2_succ (mf : Nat → Nat) (n d : Nat) : P2 mf n (d + 1) = P2 mf n d ++ rowL true (n - 1 - d) (mf (n - 1 - d)) := by unfold P2; rw [List.range_succ, List.flatMap_append]; simp
theorem rowL_len (g : Bool) (c k : Nat) : (rowL g c k).length = k := by unfold rowL; simp
theorem valL_len (c k : Nat) : (valL c k).length = k := by unfold valL; simp
theorem P1_len (kf : Nat → Nat) (hk : ∀ c, kf c ≤ 11) (c : Nat) : (P1 kf c).length ≤ 11 * c := by
  induction c with
  | zero => simp [P1]
  | succ c ih =>
    rw [P1_succ, List.length_append, rowL_len]
    have := hk c
    omega
theorem P2_len (mf : Nat → Nat) (hm : ∀ c, mf c ≤ 11) (n d : Nat) : (P2 mf n d).length ≤ 11 * d := by
  induction d with
  | zero => simp [P2]
  | succ d ih =>
    rw [P2_succ, List.length_append, rowL_len]
    have := hm (n - 1 - d)
    omega

theorem valsF_append (xs ys : List DealT) (ch : Int) (g : Bool) : valsF (xs ++ ys) ch g = valsF xs ch g ++ valsF ys ch g := by unfold valsF; rw [List.filter_append, List.map_append]
theorem valsF_row (g g' : Bool) (c k : Nat) (ch : Int) : valsF (rowL g c k) ch g' = if (c : Int) = ch ∧ g = g' then valL c k else [] := by
  induction k with
  | zero => unfold valL; simp [rowL_zero, valsF]
  | succ k ih =>
    rw [rowL_succ, valsF_snoc, ih]
    by_cases h : (c : Int) = ch ∧ g = g'
    · rw [if_pos h, if_pos h, valL_succ]
      simp [putD, h.1, h.2]
    · rw [if_neg h, if_neg h]
      have : ((putD c k g).ch == ch && (putD c k g).got == g') = false := by
        simp only [putD]
        rw [Bool.and_eq_false_iff]
        by_cases h1 : (c : Int) = ch
        · exact .inr (beq_eq_false_iff_ne.mpr (fun h2 => h ⟨h1, h2⟩))
        · exact .inl (beq_eq_false_iff_ne.mpr h1)
      rw [this]
      rfl
theorem valsF_P1 (kf : Nat → Nat) (n c : Nat) : valsF (P1 kf n) (c : Int) false = if c < n then valL c (kf c) else [] := by
  induction n with
  | zero => simp [P1, valsF]
  | succ n ih =>
    rw [P1_succ, valsF_append, ih, valsF_row]
    by_cases h1 : c < n
    · rw [if_pos h1, if_neg (by omega), if_pos (by omega), List.append_nil]
    · rw [if_neg h1]
      by_cases h2 : n = c
      · subst h2
        rw [if_pos ⟨rfl, rfl⟩, if_pos (by omega), List.nil_append]
      · rw [if_neg (by omega), if_neg (by omega)]
        rfl
theorem valsF_P1_got (kf : Nat → Nat) (n : Nat) (ch : Int) : valsF (P1 kf n) ch true = [] := by
  induction n with
  | zero => simp [P1, valsF]
  | succ n ih => rw [P1_succ, valsF_append, ih, valsF_row, if_neg (by simp)]; rfl
theorem valsF_P2_sent (mf : Nat → Nat) (n d : Nat) (ch : Int) : valsF (P2 mf n d) ch false = [] := by
  induction d with
  | zero => simp [P2, valsF]
  | succ d ih => rw [P2_succ, valsF_append, ih, valsF_row, if_neg (by simp)]; rfl
theorem valsF_P2 (mf : Nat → Nat) (n d c : Nat) (hd : d ≤ n) : valsF (P2 mf n d) (c : Int) true = if n - d ≤ c ∧ c < n then valL c (mf c) else [] := by
  induction d with
  | zero =>
    have : ¬ (n - 0 ≤ c ∧ c < n) := by omega
    rw [if_neg this]
    rfl
  | succ d ih =>
    rw [P2_succ, valsF_append, ih (by omega), valsF_row]
    by_cases h1 : n - d ≤ c ∧ c < n
    · rw [if_pos h1, if_neg (by omega), if_pos (by omega), List.append_nil]
    · rw [if_neg h1]
      by_cases h2 : n - 1 - d = c
      · subst h2
        rw [if_pos ⟨rfl, rfl⟩, if_pos (by omega), List.nil_append]
      · rw [if_neg (by omega), if_neg (by omega)]
        rfl
def allL (kf mf : Nat → Nat) (n : Nat) : List DealT := P1 kf n ++ P2 mf n n
theorem sent_all (kf mf : Nat → Nat) (n c : Nat) (hc : c < n) : valsF (allL kf mf n) (c : Int) false = valL c (kf c) := by
  unfold allL
  rw [valsF_append, valsF_P1, valsF_P2_sent, if_pos hc, List.append_nil]
theorem got_all (kf mf : Nat → Nat) (n c : Nat) (hc : c < n) : valsF (allL kf mf n) (c : Int) true = valL c (mf c) := by
  unfold allL
  rw [valsF_append, valsF_P1_got, valsF_P2 _ _ _ _ (Nat.le_refl _), if_pos ⟨by omega, hc⟩, List.nil_append]
theorem sent_none (kf mf : Nat → Nat) (n : Nat) (hn : n ≤ 5) : valsF (allL kf mf n) 9 false = [] := by
  unfold allL
  have := valsF_P1 kf n 9
  rw [if_neg (by omega)] at this
  rw [valsF_append, valsF_P2_sent, List.append_nil]
  exact this
theorem valL_take (c k m : Nat) (h : m ≤ k) : valL c m = (valL c k).take m := by
  unfold valL
  rw [← List.map_take, List.take_range, Nat.min_eq_left h]
theorem pref_take (zs : List Int) (k : Nat) : prefF (zs.take k) zs = true := by
  unfold prefF
  simp only [decide_eq_true_eq, List.length_take]
  refine ⟨Nat.min_le_right _ _, ?_⟩
  rcases Nat.le_total k zs.length with h | h
  · rw [Nat.min_eq_left h]
  · rw [Nat.min_eq_right h, List.take_of_length_le h, List.take_length]
theorem left_all (kf mf : Nat → Nat) (n c : Nat) (hc : c < n) (h : mf c ≤ kf c) : leftF (allL kf mf n) (c : Int) = (valL c (kf c)).drop (mf c) := by
  unfold leftF
  rw [sent_all _ _ _ _ hc, got_all _ _ _ _ hc, valL_len, valL_take c (kf c) (mf c) h, pref_take, if_pos rfl]
end Go.Proofs.Ytninfnpecgpfhaa
