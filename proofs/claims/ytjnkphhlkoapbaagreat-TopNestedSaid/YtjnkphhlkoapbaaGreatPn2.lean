/-
  Walks and laws under LawTopNested, part 2.
-/
import Derived.Deep.Upon
import Derived.Great.BuildSlice
import Derived.Deep.DeepCutAuto
import Derived.Deep.CutBlock
import Derived.IntWalk
import Derived.Laws.IdiomCopy
import Derived.Lib.SliceRun
import Derived.Test.YtjnkphhlkoapbaaGreatPn1
set_option linter.unusedVariables false
set_option linter.unusedSimpArgs false
set_option maxRecDepth 100000
set_option maxHeartbeats 16000000
namespace Go.Proofs.YtjnkphhlkoapbaaGreat
open Go.RowKit
def waitsFor (md : Region.Mode) (ops : Array Oper) (j i : Nat) : Bool := match ops[j]? with
 | some o => o.after.toList.any fun e => Region.binds md e && e.on == i
 | none => false
section
variable {P : Program} {ops : Array Oper} {Q : Exit → Act → World → Prop} {md : Region.Mode} {S : World → Prop} {z : Nat}
def wpAnyZ (P : Program) (md : Region.Mode) (ops : Array Oper) (Q : Exit → Act → World → Prop) (S : World → Prop) (z : Nat) : Nat → Array Bool → Act → World → Prop
 | 0, listed, a, w => Region.ready md ops listed = [] ∧ Q .normal a w
 | fuel + 1, listed, a, w =>
  (Region.ready md ops listed = [] → Q .normal a w) ∧
  ∀ i ∈ Region.ready md ops listed, wpOp P ops Q i (fun a' w' => (i ≠ z → S w') ∧ wpAnyZ P md ops Q S z fuel (listed.setIfInBounds i true) a' w') a w
theorem wpAny_of_z : ∀ (fuel : Nat) (listed : Array Bool) (a : Act) (w : World), wpAnyZ P md ops Q S z fuel listed a w → wpAny P md ops Q fuel listed a w
 | 0, _, _, _, h => h
 | fuel + 1, _, _, _, h => ⟨h.1, fun i hi => wpOp_mono (fun a' w' h' => wpAny_of_z fuel _ a' w' h'.2) (h.2 i hi)⟩
theorem wpAnyZ_first {i : Nat} {oi : Oper} {v : Value} (hi : ops[i]? = some oi) (hsel : ∀ (j : Nat) (o : Oper) cs b, ops[j]? = some o → o.op ≠ .select cs b)
  (hz : waitsFor md ops z i = true) (hQ : ∀ c a w, Q (.panic c) (a.put oi.dst v) w → Q (.panic c) a w) :
  ∀ (fuel : Nat) (listed : Array Bool) (a : Act) (w : World),
   (∀ j oj, ops[j]? = some oj → j ≠ i → listed.getD j true = false → (∀ e ∈ oj.after, Region.binds md e = true → e.on ≠ i) → oi.apart ops oj = true) →
   i ∈ Region.ready md ops listed → YieldsIf P ops S oi v a → S w →
   wpAnyZ P md ops Q S z fuel (listed.setIfInBounds i true) (a.put oi.dst v) w → wpAnyZ P md ops Q S z (fuel + 1) listed a w := by
 intro fuel
 induction fuel with
 | zero =>
  intro listed a w _ hr hy hS H
  refine ⟨fun h => (by rw [h] at hr; cases hr), fun j hj => ?_⟩
  by_cases hji : j = i
  ·subst hji; exact hy.wpOp hi hS ⟨fun _ => hS, H⟩
  ·have := ready_mono hj hji
   rw [H.1] at this
   cases this
 | succ fuel ih =>
  intro listed a w hfree hr hy hS H
  refine ⟨fun h => (by rw [h] at hr; cases hr), fun j hj => ?_⟩
  by_cases hji : j = i
  ·subst hji; exact hy.wpOp hi hS ⟨fun _ => hS, H⟩
  ·have h1 := H.2 j (ready_mono hj hji)
   obtain ⟨hjun, oj, hoj, hall⟩ := mem_ready.1 hj
   have hnot : ∀ e ∈ oj.after, Region.binds md e = true → e.on ≠ i := fun e he hb heq => by
    have h1 := hall e he hb
    have h0 := (mem_ready.1 hr).1
    rw [heq] at h1
    rcases Nat.lt_or_ge i listed.size with h' | h'
    ·simp [h'] at h0 h1; rw [h0] at h1; cases h1
    ·simp [Array.getElem?_eq_none h'] at h1
   have hjz : j ≠ z := fun e => by
    subst e
    unfold waitsFor at hz
    rw [hoj] at hz
    simp only at hz
    obtain ⟨k, hk, hb⟩ := List.any_eq_true.1 hz
    rw [Bool.and_eq_true, beq_iff_eq] at hb
    exact hnot _ (by simpa using hk) hb.1 hb.2
   have h2 := wpOp_putIf hoj (hfree j oj hoj hji hjun hnot) (fun cs b => hsel i oi cs b hi) (fun cs b => hsel j oj cs b hoj) hQ hy h1
   have hfree' : ∀ k ok, ops[k]? = some ok → k ≠ i → (listed.setIfInBounds j true).getD k true = false →
     (∀ e ∈ ok.after, Region.binds md e = true → e.on ≠ i) → oi.apart ops ok = true := fun k ok hk hki hun hno => by
    refine hfree k ok hk hki ?_ hno
    by_cases hjk : j = k
    ·subst hjk; exact hjun
    ·rw [getD_set_ne true hjk] at hun; exact hun
   refine wpOp_mono (fun a' w' h3 => ⟨h3.2.1, ih (listed.setIfInBounds j true) a' w' hfree' (ready_mono hr (Ne.symm hji)) h3.1 (h3.2.1 hjz) ?_⟩) h2
   rw [Array.setIfInBounds_comm _ _ hji]
   exact h3.2.2
theorem takeZ {i : Nat} {d : Option Tmp} {oi : Oper} {v : Value} {fuel : Nat} {listed : Array Bool} {a : Act} {w : World} (hi : ops[i]? = some oi) (hd : oi.dst = d)
  (hs : Region.noSelect ops = true) (hf : Region.free md ops listed i = true) (hr : (Region.ready md ops listed).contains i = true) (hz : waitsFor md ops z i = true)
  (hQ : ∀ c a w, Q (.panic c) (a.put d v) w → Q (.panic c) a w) (hy : YieldsIf P ops S oi v a) (hS : S w)
  (h : wpAnyZ P md ops Q S z fuel (listed.setIfInBounds i true) (a.put d v) w) : wpAnyZ P md ops Q S z (fuel + 1) listed a w := by
 subst hd
 exact wpAnyZ_first hi (Region.noSelect_spec hs) hz hQ fuel listed a w (Region.free_spec hi hf) (by simpa using hr) hy hS h
theorem tZ {z : Nat} (i d : Nat) {oi : Oper} (v : Value) {fuel : Nat} {listed : Array Bool} {a : Act} {w : World} (hy : ∀ w, S w → (execOp a.eval oi).run P w = .ok (.value v) w)
(h : wpAnyZ P md ops Q S z fuel (listed.setIfInBounds i true) (a.put (some d) v) w) (hi : ops[i]? = some oi := by rfl) (hd : oi.dst = some d := by rfl)
(hs : Region.noSelect ops = true := by kernel_rfl) (hf : Region.free md ops listed i = true := by kernel_rfl) (hr : (Region.ready md ops listed).contains i = true := by kernel_rfl) (hz : waitsFor md ops z i = true := by kernel_rfl)
(hQ : ∀ c a w, Q (.panic c) (a.put (some d) v) w → Q (.panic c) a w := by exact fun _ _ _ h => h) (hw : Region.wanted oi (yielded ops a.tmps) = true := by rfl) (hS : S w := by assumption) : wpAnyZ P md ops Q S z (fuel + 1) listed a w :=
takeZ hi hd hs hf hr hz hQ (Or.inl ⟨hw, hy⟩) hS h
def AllReadyZ (P : Program) (md : Region.Mode) (ops : Array Oper) (Q : Exit → Act → World → Prop) (S : World → Prop) (z : Nat) (fuel : Nat) (listed : Array Bool) (a : Act) (w : World) (rs : List Nat) : Prop :=
 ∀ i ∈ rs, wpOp P ops Q i (fun a' w' => (i ≠ z → S w') ∧ wpAnyZ P md ops Q S z fuel (listed.setIfInBounds i true) a' w') a w
theorem AllReadyZ.nil {fuel : Nat} {listed : Array Bool} {a : Act} {w : World} : AllReadyZ P md ops Q S z fuel listed a w [] := fun _ h => by cases h
theorem AllReadyZ.cons {fuel : Nat} {listed : Array Bool} {a : Act} {w : World} {i : Nat} {o : Oper} {rs : List Nat} (ho : ops[i]? = some o)
  (h : ∀ K' : Act → World → Prop, Shut (∀ a w, S w → (S w → wpAnyZ P md ops Q S z fuel (listed.setIfInBounds i true) a w) → K' a w) → if Region.wanted o (yielded ops a.tmps) = true then Oper.wp P o a w K' Q else K' (a.put o.dst undef) w)
  (hs : AllReadyZ P md ops Q S z fuel listed a w rs) : AllReadyZ P md ops Q S z fuel listed a w (i :: rs) := fun j hj => by
 rcases List.mem_cons.1 hj with rfl | hj
 ·exact wpOp_step ho (fun K' hK => h K' (fun a w hS hW => hK a w ⟨fun _ => hS, hW hS⟩))
 ·exact hs j hj
theorem AllReadyZ.last {fuel : Nat} {listed : Array Bool} {a : Act} {w : World} {o : Oper} {rs : List Nat} (ho : ops[z]? = some o)
  (h : ∀ K' : Act → World → Prop, Shut (∀ a w, wpAnyZ P md ops Q S z fuel (listed.setIfInBounds z true) a w → K' a w) → if Region.wanted o (yielded ops a.tmps) = true then Oper.wp P o a w K' Q else K' (a.put o.dst undef) w)
  (hs : AllReadyZ P md ops Q S z fuel listed a w rs) : AllReadyZ P md ops Q S z fuel listed a w (z :: rs) := fun j hj => by
 rcases List.mem_cons.1 hj with rfl | hj
 ·exact wpOp_step ho (fun K' hK => h K' (fun a w hW => hK a w ⟨fun h => absurd rfl h, hW⟩))
 ·exact hs j hj
theorem wpAnyZ_ready {rs : List Nat} {fuel : Nat} {listed : Array Bool} {a : Act} {w : World} (hr : Region.ready md ops listed = rs) (hne : rs ≠ [])
  (h : AllReadyZ P md ops Q S z fuel listed a w rs) : wpAnyZ P md ops Q S z (fuel + 1) listed a w := ⟨fun h0 => absurd (hr ▸ h0) hne, hr ▸ h⟩
theorem wpAnyZ_done {listed : Array Bool} {a : Act} {w : World} (hr : Region.ready md ops listed = []) (h : Q .normal a w) :
  ∀ fuel, wpAnyZ P md ops Q S z fuel listed a w
 | 0 => ⟨hr, h⟩
 | _ + 1 => ⟨fun _ => h, by rw [hr]; simp⟩
theorem wp_region_z (z : Nat) {id : Nat} {a : Act} {w : World} (hm : P.follows .mixedOrders = true) (hS : S w.drew)
  (h : S w.drew → wpAnyZ P .any ops Q S z ops.size (Array.replicate ops.size false) a w.drew) : (Code.region id ops true).wp P Q a w :=
 wp_region_any hm (wpAny_of_z _ _ _ _ (h hS))
end
structure Grow {α : Type} (enc : α → List Value) (T : TypeId) (size : Nat) (W w : World) (v : Value) (M : List α) : Prop where
 made : Made W w
 own : Owns enc T size w v M
 far : ∀ c, v.ownBlock = some c → W.heap.size ≤ c
def SrcAt {α : Type} (enc : α → List Value) (w : World) (xv : Value) (N : List α) : Prop :=
 (xv = .slice none 0 0 ∧ N = []) ∨ ∃ ad c, xv = .slice (some ad) N.length c ∧ ∀ j u, (flat enc N)[j]? = some u → w.cell? (ad.add j) = some u
section
variable {α : Type} {enc : α → List Value} {T : TypeId} {size : Nat} {W w : World} {v : Value} {M : List α}
theorem Grow.alloc (h : Grow enc T size W w v M) (o : Obj) : Grow enc T size W (w.alloc o) v M := ⟨Turns.alloc h.made o, World.ownsRow.alloc h.own o, h.far⟩
theorem Grow.put (he : ∀ x, (enc x).length = size) {g cap i j : Nat} {x x' : α} {u : Value} (h : Grow enc T size W w (.slice (some ⟨g, 0, none⟩) M.length cap) M) (hx : M[i]? = some x) (hu : enc x' = (enc x).set j u) (hj : j < size) :
  Grow enc T size W (w.setCell ⟨g, i * size + j, none⟩ u) (.slice (some ⟨g, 0, none⟩) M.length cap) (M.set i x') :=
 ⟨h.made.setCell (p := ⟨g, i * size + j, none⟩) (fun hlt => by have := h.far g rfl; simp only at hlt; omega) u, Owns.put he h.own hx hu hj, h.far⟩
theorem SrcAt.nothing : SrcAt enc w (.slice none 0 0) ([] : List α) := .inl ⟨rfl, rfl⟩
theorem SrcAt.block {b n c : Nat} {N : List α} {cs : Array Value} (h : Blk w b T cs) (hn : N.length = n) (hc : cs = (flat enc N).toArray) : SrcAt enc w (.slice (some ⟨b, 0, none⟩) n c) N := by
 subst hn
 refine .inr ⟨_, _, rfl, fun j u hu => ?_⟩
 have h1 := h.cell (0 + j)
 rw [Addr.add_lit]
 simp only [Nat.zero_add] at h1 ⊢
 rw [h1, hc]
 simpa using hu
theorem SrcAt.pre (he : ∀ x, (enc x).length = size) {g cap c k : Nat} {L : List α} (h : Owns enc T size w (.slice (some ⟨g, 0, none⟩) L.length cap) L) (hk : k ≤ L.length) : SrcAt enc w (.slice (some ⟨g, 0, none⟩) k c) (L.take k) := by
 refine .inr ⟨⟨g, 0, none⟩, c, by rw [List.length_take, Nat.min_eq_left hk], fun j u hu => ?_⟩
 refine World.ownsRow.cells (g := g) h rfl j u ?_
 have e : flat enc L = flat enc (L.take k) ++ flat enc (L.drop k) := by rw [← flat_append, List.take_append_drop]
 rw [e, List.getElem?_append_left (List.getElem?_eq_some_iff.1 hu).1]
 exact hu
theorem owns_slice (h : Owns enc T size w v M) : ∃ a c, v = .slice a M.length c := by
 rcases h.form with ⟨rfl, rfl⟩ | ⟨g, cap, rfl, _⟩
 ·exact ⟨none, 0, rfl⟩
 ·exact ⟨_, _, rfl⟩
end
section
variable {P : Program} {ops : Array Oper} {o : Oper} {a : Act} {K : Act → World → Prop} {Q : Exit → Act → World → Prop} {E : Prop} {α : Type} {enc : α → List Value} {T : TypeId} {size : Nat} {W w : World} {v : Value} {M N : List α}
theorem step_grow (hgd : o.guard = none) (s x : Operand) (t : TypeId) (ho : o.op = .call { callee := .builtin .append, args := #[s, x], argTypes := #[t, t] })
  (i : TypeInfo) (z : Value) (bytes : Nat) (ht : P.underlying t = some (.slice T)) (hi : P.info? T = some i) (hz : i.zero = some z) (hsize : i.size = size) (hby : i.bytes = bytes) (hzs : z.cells.size = size) (hsz : 0 < size)
  (he : ∀ x, (enc x).length = size) (h1 : ∀ x, ∀ u ∈ enc x, u.oneCell' = true)
  (hs : a.eval s = v) (hg : Grow enc T size W w v M) {xv : Value} (hx : a.eval x = xv) (hsrc : SrcAt enc w xv N) (h63 : M.length + N.length ≤ maxLen) (hbytes : (M.length + N.length) * bytes ≤ 140737488355328)
  (h : ∀ v' w', Grow enc T size W w' v' (M ++ N) → (∀ c, c < w.heap.size → v.ownBlock ≠ some c → w'.heap[c]? = w.heap[c]?) → w.heap.size ≤ w'.heap.size → (v'.ownBlock = v.ownBlock ∨ v'.ownBlock = some w.heap.size) → K (a.put o.dst v') w') :
  if Region.wanted o (yielded ops a.tmps) = true then Oper.wp P o a w K Q else E := by
 have hw : Region.wanted o (yielded ops a.tmps) = true := by simp [Region.wanted, hgd]
 rw [if_pos hw]
 obtain ⟨a', c', hv⟩ := owns_slice hg.own
 have hcap : M.length ≤ c' := by
  rcases hg.own.form with ⟨hv2, h0⟩ | ⟨g, cap, hv2, _, h3, _⟩
  ·rw [h0]; simp
  ·rw [hv] at hv2
   simp only [Value.slice.injEq] at hv2
   omega
 rcases hsrc with ⟨rfl, rfl⟩ | ⟨ad, c, rfl, hnews⟩
 ·have hr := run_append_nothing (P := P) w t t o.type T i ht hi a' M.length c' hcap (.slice none 0 0) (by
   refine ⟨.inl ⟨_, ht⟩, fun w' => ?_, ?_, ?_, by simp, by simp⟩
   ·rfl
   ·cases hss : i.size <;> rfl
   ·cases hss : i.size <;> rfl)
  unfold Oper.wp execOp
  simp only [ho, resolve, invoke, builtin, Sem.run_bind, Sem.run_pure, Result.andThen_ok, List.map_toArray, List.map_cons, List.map_nil, hs, hx, hv, hr]
  exact h (.slice a' M.length c') w (by rw [List.append_nil, ← hv]; exact hg) (fun _ _ _ => rfl) (Nat.le_refl _) (.inl (by rw [hv]))
 ·have hol := hg.own
  unfold Owns at hol
  obtain ⟨v', w', hr, h2, h3, _, h5⟩ := run_append_own_at (P := P) w 0 t o.type T i z size bytes ht hi hz hsize hby hzs hsz v M.length (flat enc M) hol ad N.length c (flat enc N) (flat_length he N) hnews (fun u hu => by
   unfold flat at hu
   obtain ⟨y, _, hy⟩ := List.mem_flatMap.1 hu
   exact h1 y u hy) h63 hbytes (Nat.zero_le _)
  have hmw := hg.made.size
  have hmd : Made W w' := hg.made.grown h3 (fun k hk hlt => by have := hg.far k hk; omega)
  unfold Oper.wp execOp
  simp only [ho, resolve, invoke, builtin, Sem.run_bind, Sem.run_pure, Result.andThen_ok, List.map_toArray, List.map_cons, List.map_nil, hs, hx, hr]
  refine h v' w' ⟨hmd, ?_, fun c hc => ?_⟩ (fun c hc hn => h3.block c hc (fun e => hn e.symm)) h3.size h5
  ·unfold Owns
   rw [flat_append, List.length_append]
   exact h2
  ·rcases h5 with e | e
   ·exact hg.far c (by rw [← e]; exact hc)
   ·rw [e, Option.some.injEq] at hc
    omega
theorem wpList_grow {rest : List Oper} (hgd : o.guard = none) (s x : Operand) (t : TypeId) (ho : o.op = .call { callee := .builtin .append, args := #[s, x], argTypes := #[t, t] })
  (i : TypeInfo) (z : Value) (bytes : Nat) (ht : P.underlying t = some (.slice T)) (hi : P.info? T = some i) (hz : i.zero = some z) (hsize : i.size = size) (hby : i.bytes = bytes) (hzs : z.cells.size = size) (hsz : 0 < size)
  (he : ∀ x, (enc x).length = size) (h1 : ∀ x, ∀ u ∈ enc x, u.oneCell' = true)
  (hs : a.eval s = v) (hg : Grow enc T size W w v M) {xv : Value} (hx : a.eval x = xv) (hsrc : SrcAt enc w xv N) (h63 : M.length + N.length ≤ maxLen) (hbytes : (M.length + N.length) * bytes ≤ 140737488355328)
  (h : ∀ v' w', Grow enc T size W w' v' (M ++ N) → (∀ c, c < w.heap.size → v.ownBlock ≠ some c → w'.heap[c]? = w.heap[c]?) → w.heap.size ≤ w'.heap.size → (v'.ownBlock = v.ownBlock ∨ v'.ownBlock = some w.heap.size) → wpList P ops Q rest (a.put o.dst v') w') :
  wpList P ops Q (o :: rest) a w := by
 refine wpList_plain hgd fun K hK => ?_
 have h0 := step_grow (K := K) (Q := Q) (E := True) (ops := ops) hgd s x t ho i z bytes ht hi hz hsize hby hzs hsz he h1 hs hg hx hsrc h63 hbytes (fun v' w' h1 h2 h3 h4 => hK _ _ (h v' w' h1 h2 h3 h4))
 rwa [if_pos (by simp [Region.wanted, hgd])] at h0
theorem step_lit (hgd : o.guard = none) (t : TypeId) (n : Nat) (parts : Array (Nat × Operand)) (ho : o.op = .buildSlice t n parts) (i : TypeInfo) (z : Value) (ht : P.underlying t = some (.slice T)) (hi : P.info? T = some i) (hz : i.zero = some z)
  (hsmall : ¬ n * i.size > 2 ^ 24) (hpos : ¬ n * i.size = 0) (cells : Array Value)
  (hf : Instr.fill (fun k => some (k * i.size, i.size)) ((Array.range (n * i.size)).map (z.cells[· % z.cells.size]!)) (parts.map fun (k, x) => (k, a.eval x)).toList = some cells)
  (h : ∀ b w', Made w w' → Blk w' b T cells → w.heap.size ≤ b → K (a.put o.dst (.slice (some ⟨b, 0, none⟩) n n)) w') :
  if Region.wanted o (yielded ops a.tmps) = true then Oper.wp P o a w K Q else E := by
 have hw : Region.wanted o (yielded ops a.tmps) = true := by simp [Region.wanted, hgd]
 rw [if_pos hw]
 exact wp_buildSlice t T n parts ho cells i z ht hi hz hsmall hpos hf (h _ _ (Turns.alloc (Turns.refl _ w) (.cells cells T)) (Blk.new w T cells) (Nat.le_refl _))
theorem step_single (hgd : o.guard = none) (t : TypeId) (s : Operand) (ho : o.op = .buildSlice t 1 #[(0, s)]) (i : TypeInfo) (z : Value) (ht : P.underlying t = some (.slice T)) (hi : P.info? T = some i) (hz : i.zero = some z)
  (hsmall : ¬ 1 * i.size > 2 ^ 24) (hpos : ¬ 1 * i.size = 0) (cells : Array Value) (hs : a.eval s = .agg cells)
  (hf : Instr.fill (fun k => some (k * i.size, i.size)) ((Array.range (1 * i.size)).map (z.cells[· % z.cells.size]!)) [(0, .agg cells)] = some cells)
  (h : ∀ b w', Made w w' → Blk w' b T cells → w.heap.size ≤ b → K (a.put o.dst (.slice (some ⟨b, 0, none⟩) 1 1)) w') :
  if Region.wanted o (yielded ops a.tmps) = true then Oper.wp P o a w K Q else E :=
 step_lit hgd t 1 _ ho i z ht hi hz hsmall hpos cells (by simp only [List.map_toArray, List.map_cons, List.map_nil, hs]; exact hf) h
end
section
variable {P : Program} {ops : Array Oper} {o : Oper} {a : Act} {K : Act → World → Prop} {Q : Exit → Act → World → Prop} {E : Prop} {α : Type} {enc : α → List Value} {T : TypeId} {size : Nat} {w : World} {v : Value} {M : List α}
theorem step_push (hgd : o.guard = none) (s x : Operand) (t : TypeId) (ho : o.op = .call { callee := .builtin .append, args := #[s, x], argTypes := #[t, t] })
  (i : TypeInfo) (z : Value) (bytes : Nat) (ht : P.underlying t = some (.slice T)) (hi : P.info? T = some i) (hz : i.zero = some z) (hsize : i.size = size) (hby : i.bytes = bytes) (hzs : z.cells.size = size) (hsz : 0 < size)
  (he : ∀ x, (enc x).length = size) (h1 : ∀ x, ∀ u ∈ enc x, u.oneCell' = true)
  (hs : a.eval s = v) (hg : Owns enc T size w v M) (y : α) {b c : Nat} (hx : a.eval x = .slice (some ⟨b, 0, none⟩) 1 c) (hb : Blk w b T (enc y).toArray) (h63 : M.length + 1 ≤ 1000000) (hbytes : bytes ≤ 1000)
  (h : ∀ v' w', Owns enc T size w' v' (M ++ [y]) → Turns (fun k => v.ownBlock = some k) w w' → (∀ k, v'.ownBlock = some k → v.ownBlock = some k ∨ w.heap.size ≤ k) → K (a.put o.dst v') w') :
  if Region.wanted o (yielded ops a.tmps) = true then Oper.wp P o a w K Q else E := by
 have hw : Region.wanted o (yielded ops a.tmps) = true := by simp [Region.wanted, hgd]
 rw [if_pos hw]
 have hol := hg
 unfold Owns at hol
 have hb2 : (M.length + 1) * bytes ≤ 140737488355328 := by
  have := Nat.mul_le_mul h63 hbytes
  omega
 have hsrc : ∀ j u, (enc y)[j]? = some u → w.cell? ((⟨b, 0, none⟩ : Addr).add j) = some u := fun j u hu => by
  have h1 := hb.cell (0 + j)
  rw [Addr.add_lit]
  simp only [Nat.zero_add] at h1 ⊢
  rw [h1]
  simpa using hu
 obtain ⟨v', w', hr, h2, h3, _, h5⟩ := run_append_own_at (P := P) w 0 t o.type T i z size bytes ht hi hz hsize hby hzs hsz v M.length (flat enc M) hol ⟨b, 0, none⟩ 1 c (enc y) (by rw [he, Nat.one_mul]) hsrc (fun u hu => h1 y u hu) (by unfold maxLen; omega) hb2 (Nat.zero_le _)
 unfold Oper.wp execOp
 simp only [ho, resolve, invoke, builtin, Sem.run_bind, Sem.run_pure, Result.andThen_ok, List.map_toArray, List.map_cons, List.map_nil, hs, hx, hr]
 refine h v' w' ?_ ((Turns.refl _ _).grown h3 (fun k hk _ => hk)) (fun k hk => ?_)
 ·unfold Owns
  rw [flat_append, List.length_append]
  simpa [flat] using h2
 ·rcases h5 with e | e
  ·exact .inl (by rw [← e]; exact hk)
  ·rw [e, Option.some.injEq] at hk
   exact .inr (by omega)
end
theorem exec_load_row {P : Program} {o : Oper} {ev : Operand → Value} {w : World} {ty : TypeId} {x : Operand} (ho : o.op = .load ty x) {g : Nat} (hx : ev x = .pointer (some ⟨g, 0, none⟩)) {t : TypeId} {cs : Array Value} {d : TypeDesc} (hg : Blk w g t cs)
  (hu : P.underlying ty = some d) (hd : (match d with | .struct _ | .array _ _ => true | _ => false) = true) (hi : (P.info? ty).map (·.size) = some cs.size) : (execOp ev o).run P w = .ok (.value (.agg cs)) w := by
 unfold execOp
 simp only [ho, hx, Instr.loadAt, Instr.sureAddr, Sem.run_bind, Sem.run_pure, Result.andThen_ok, run_loadVar_row w g t ty cs (0, 0) d hg hu hd hi]
theorem Blk.drew {w : World} {g : Nat} {t : TypeId} {cs : Array Value} (h : Blk w g t cs) : Blk w.drew g t cs := h
theorem Owns.drew {α : Type} {enc : α → List Value} {e : TypeId} {size : Nat} {w : World} {v : Value} {xs : List α} (h : Owns enc e size w v xs) : Owns enc e size w.drew v xs := World.ownsRow.drew h
theorem Owns.made {α : Type} {enc : α → List Value} {e : TypeId} {size : Nat} {w w' : World} {v : Value} {xs : List α} (h : Owns enc e size w v xs) (ht : Made w w') : Owns enc e size w' v xs := h.turns ht (fun _ _ h => h)
theorem Owns.nil {α : Type} {enc : α → List Value} {e : TypeId} {size : Nat} {w : World} : Owns enc e size w (.slice none 0 0) ([] : List α) := World.ownsRow_nil _ _ _ _
structure Lab (w : World) (lb : Nat → Nat) (F : Nat → Prop) : Prop where
 on : ∀ k, F k ↔ lb k ≠ 0
 lt : ∀ k, lb k ≠ 0 → k < w.heap.size
theorem Lab.nil (w : World) : Lab w (fun _ => 0) (fun _ => False) := ⟨fun k => by simp, fun k h => absurd rfl h⟩
theorem Lab.add {w w' : World} {lb : Nat → Nat} {F G : Nat → Prop} (h : Lab w lb F) (i : Nat) (hi : i ≠ 0) (hle : w.heap.size ≤ w'.heap.size) (hb : ∀ k, G k → k < w'.heap.size) (hd : ∀ k, G k → ¬ F k) (hn : ∀ k, lb k ≠ i) :
  ∃ lb', Lab w' lb' (fun k => F k ∨ G k) ∧ (fun k => lb' k = i) = G ∧ ∀ j, j ≠ 0 → j ≠ i → (fun k => lb' k = j) = fun k => lb k = j := by
 classical
 refine ⟨fun k => if G k then i else lb k, ⟨fun k => ?_, fun k hk => ?_⟩, ?_, fun j h0 hj => ?_⟩
 ·by_cases hg : G k
  ·simp [hg, hi]
  ·simp [hg, h.on k]
 ·by_cases hg : G k
  ·exact hb k hg
  ·simp only [if_neg hg] at hk
   exact Nat.lt_of_lt_of_le (h.lt k hk) hle
 ·funext k
  by_cases hg : G k
  ·simp [hg]
  ·simp [hg, hn k]
 ·funext k
  by_cases hg : G k
  ·have : lb k = 0 := by
    rcases Nat.eq_zero_or_pos (lb k) with h1 | h1
    ·exact h1
    ·exact absurd ((h.on k).2 (by omega)) (hd k hg)
   simp only [if_pos hg, this]
   exact propext ⟨fun e => absurd e.symm hj, fun e => absurd e.symm h0⟩
  ·simp [hg]
theorem Lab.step {w w' : World} {lb : Nat → Nat} {F F' : Nat → Prop} (h : Lab w lb F) (i : Nat) (hi : i ≠ 0) (hs : Stp w w' (fun k => lb k = i) F') (hb : ∀ k, F' k → k < w'.heap.size) :
  ∃ lb' FF, Lab w' lb' FF ∧ (fun k => lb' k = i) = F' ∧ (∀ j, j ≠ 0 → j ≠ i → (fun k => lb' k = j) = fun k => lb k = j) ∧ Stp w w' F FF := by
 classical
 refine ⟨fun k => if F' k then i else if lb k = i then 0 else lb k, _, ⟨fun k => Iff.rfl, fun k hk => ?_⟩, ?_, fun j h0 hj => ?_, ⟨hs.t.mono fun k _ hk => (h.on k).2 (by rw [hk]; exact hi), fun k hk => ?_⟩⟩
 ·by_cases hg : F' k
  ·exact hb k hg
  ·simp only [if_neg hg] at hk
   by_cases hl : lb k = i
   ·simp [hl] at hk
   ·simp only [if_neg hl] at hk
    exact Nat.lt_of_lt_of_le (h.lt k hk) hs.t.size
 ·funext k
  by_cases hg : F' k
  ·simp [hg]
  ·by_cases hl : lb k = i
   ·simp only [if_neg hg, if_pos hl]
    exact propext ⟨fun e => absurd e.symm hi, fun e => absurd e hg⟩
   ·simp only [if_neg hg, if_neg hl]
    exact propext ⟨fun e => absurd e hl, fun e => absurd e hg⟩
 ·funext k
  by_cases hg : F' k
  ·simp only [if_pos hg]
   refine propext ⟨fun e => absurd e.symm hj, fun e => ?_⟩
   rcases hs.f k hg with h1 | h1
   ·exact absurd (h1.symm.trans e).symm hj
   ·have := h.lt k (by rw [e]; exact h0)
    omega
  ·by_cases hl : lb k = i
   ·simp only [if_neg hg, if_pos hl]
    exact propext ⟨fun e => absurd e.symm h0, fun e => absurd (hl.symm.trans e).symm hj⟩
   ·simp only [if_neg hg, if_neg hl]
 ·simp only [ne_eq] at hk
  by_cases hg : F' k
  ·rcases hs.f k hg with h1 | h1
   ·exact .inl ((h.on k).2 (by rw [h1]; exact hi))
   ·exact .inr h1
  ·simp only [if_neg hg] at hk
   by_cases hl : lb k = i
   ·simp [hl] at hk
   ·simp only [if_neg hl] at hk
    exact .inl ((h.on k).2 hk)
structure Tsk where
 prog : Int
 pc : Int
 st : Int
 how : Int
 regs : Reg
 ins : Ins
def tskC (x : Tsk) : List Value := [.int .i64 x.prog, .int .i64 x.pc, .int .i64 x.st, .int .i64 x.how, .int .i64 x.regs.r0, .int .i64 x.regs.r1, .int .i64 x.regs.r2, .int .i64 x.regs.r3, .int .i64 x.regs.r4, .int .i64 x.regs.r5, .int .i64 x.regs.r6, .int .i64 x.regs.r7, .int .i64 x.ins.op, .int .i64 x.ins.a, .int .i64 x.ins.b, .int .i64 x.ins.c, .slice none 0 0, .bool false]
abbrev tskA (x : Tsk) : Array Value := #[.int .i64 x.prog, .int .i64 x.pc, .int .i64 x.st, .int .i64 x.how, .int .i64 x.regs.r0, .int .i64 x.regs.r1, .int .i64 x.regs.r2, .int .i64 x.regs.r3, .int .i64 x.regs.r4, .int .i64 x.regs.r5, .int .i64 x.regs.r6, .int .i64 x.regs.r7, .int .i64 x.ins.op, .int .i64 x.ins.a, .int .i64 x.ins.b, .int .i64 x.ins.c, .slice none 0 0, .bool false]
abbrev tskZ : Array Value := #[.int .i64 0, .int .i64 0, .int .i64 0, .int .i64 0, .int .i64 0, .int .i64 0, .int .i64 0, .int .i64 0, .int .i64 0, .int .i64 0, .int .i64 0, .int .i64 0, .int .i64 0, .int .i64 0, .int .i64 0, .int .i64 0, .slice none 0 0, .bool false]
theorem tskC_len (x : Tsk) : (tskC x).length = 18 := rfl
theorem tskC_one (x : Tsk) : ∀ u ∈ tskC x, u.oneCell' = true := by
 intro u hu
 simp only [tskC, List.mem_cons, List.not_mem_nil, or_false] at hu
 rcases hu with rfl | rfl | rfl | rfl | rfl | rfl | rfl | rfl | rfl | rfl | rfl | rfl | rfl | rfl | rfl | rfl | rfl | rfl <;> rfl
theorem Tryz.infoTsk : (Tryz.prog.info? 38).map (fun i => (i.zero, i.size, i.bytes)) = some (some (.agg #[.int .i64 0, .int .i64 0, .int .i64 0, .int .i64 0, .int .i64 0, .int .i64 0, .int .i64 0, .int .i64 0, .int .i64 0, .int .i64 0, .int .i64 0, .int .i64 0, .int .i64 0, .int .i64 0, .int .i64 0, .int .i64 0, .slice none 0 0, .bool false]), 18, 160) := by kernel_rfl
theorem Tryz.sizeTsk : (Tryz.prog.info? 38).map (·.size) = some 18 := by kernel_rfl
theorem fillT {i : TypeInfo} (h : i.size = 18) (x : Tsk) : Instr.fill (fun k => some (k * i.size, i.size)) ((Array.range (1 * i.size)).map ((Value.agg #[.int .i64 0, .int .i64 0, .int .i64 0, .int .i64 0, .int .i64 0, .int .i64 0, .int .i64 0, .int .i64 0, .int .i64 0, .int .i64 0, .int .i64 0, .int .i64 0, .int .i64 0, .int .i64 0, .int .i64 0, .int .i64 0, .slice none 0 0, .bool false]).cells[· % (Value.agg #[.int .i64 0, .int .i64 0, .int .i64 0, .int .i64 0, .int .i64 0, .int .i64 0, .int .i64 0, .int .i64 0, .int .i64 0, .int .i64 0, .int .i64 0, .int .i64 0, .int .i64 0, .int .i64 0, .int .i64 0, .int .i64 0, .slice none 0 0, .bool false]).cells.size]!)) [(0, .agg (tskA x))] = some (tskA x) := by
 rw [h]
 first | kernel_rfl | simp [Instr.fill]
structure ArIn (w : World) (p : Nat) (v : Value) (ts : List Tsk) : Prop where
 blk : Blk w p 139 #[v, .int .i64 64]
 own : Owns tskC 38 18 w v ts
 np : ∀ k, v.ownBlock = some k → k ≠ p
def ArAt (w : World) (p : Nat) (F : Nat → Prop) (ts : List Tsk) : Prop := ∃ v, ArIn w p v ts ∧ ∀ k, F k ↔ k = p ∨ v.ownBlock = some k
theorem ArAt.turns {S F : Nat → Prop} {w w' : World} {p : Nat} {ts : List Tsk} (h : ArAt w p F ts) (ht : Turns S w w') (hn : ∀ k, F k → ¬ S k) : ArAt w' p F ts := by
 obtain ⟨v, h, hf⟩ := h
 exact ⟨v, ⟨h.blk.turns ht (hn _ ((hf _).2 (.inl rfl))), h.own.turns ht (fun k hk => hn _ ((hf _).2 (.inr hk))), h.np⟩, hf⟩
theorem ArAt.made {F : Nat → Prop} {w w' : World} {p : Nat} {ts : List Tsk} (h : ArAt w p F ts) (ht : Made w w') : ArAt w' p F ts := h.turns ht (fun _ _ h => h)
theorem ArAt.fb {F : Nat → Prop} {w : World} {p : Nat} {ts : List Tsk} (h : ArAt w p F ts) : ∀ k, F k → k < w.heap.size := by
 obtain ⟨v, h, hf⟩ := h
 intro k hk
 rcases (hf k).1 hk with rfl | h1
 ·exact h.blk.lt
 ·exact h.own.lt h1
theorem set1 (w : World) (p o : Nat) (v : Value) : Turns (fun k => k = p) w (w.setCell ⟨p, o, none⟩ v) := (Turns.refl (fun k => k = p) w).setCell (p := ⟨p, o, none⟩) (fun _ => rfl) v
theorem arnew_c (w : World) : Calls Tryz.prog 33 #[.int .i64 64] w fun e w' => ∃ p F, e = .returned (.tuple #[.pointer (some ⟨p, 0, none⟩), .int .i64 0]) ∧ ArAt w' p F [] ∧ Made w w' ∧ ∀ k, F k → w.heap.size ≤ k := by
 go_enter Tryz.func33, Tryz.ntmps33
 go_wp2_with fail
 go_ret2
 exact ⟨_, fun k => k = w.heap.size, rfl, ⟨.slice none 0 0, ⟨Blk.new w _ _, Owns.nil, fun k hk => by simp [Value.ownBlock] at hk⟩, fun k => by simp [Value.ownBlock]⟩, (Turns.refl _ _).alloc _, fun k hk => by omega⟩
theorem arlen_c {w : World} {p : Nat} {F : Nat → Prop} {ts : List Tsk} (h : ArAt w p F ts) :
  Calls Tryz.prog 94 #[.pointer (some ⟨p, 0, none⟩)] w fun e w' => e = .returned (.int .i64 ts.length) ∧ w = w' := by
 obtain ⟨v, h, hf⟩ := h
 obtain ⟨a, c, rfl⟩ := owns_slice h.own
 have q0 := h.blk.cell 0
 simp only [zG] at q0
 clear h hf
 go_enter Tryz.func94, Tryz.ntmps94
 go_wp2_with fail
 go_ret
 exact ⟨rfl, rfl⟩
theorem arleft_c {w : World} {p : Nat} {F : Nat → Prop} {ts : List Tsk} (h : ArAt w p F ts) (hl : ts.length ≤ 64) :
  Calls Tryz.prog 60 #[.pointer (some ⟨p, 0, none⟩)] w fun e w' => e = .returned (.int .i64 (64 - (ts.length : Int))) ∧ Made w w' := by
 obtain ⟨v, h, hf⟩ := h
 obtain ⟨a, c, rfl⟩ := owns_slice h.own
 have q0 := h.blk.cell 0
 have q1 := h.blk.cell 1
 simp only [zG] at q0 q1
 clear h hf
 go_enter Tryz.func60, Tryz.ntmps60
 go_wp2_with fail
 have hw := IntWalk.i64_in (64 - (ts.length : Int)) (by omega)
 go_quiet (fail)
 go_wp2_with fail
 go_ret
 first
 | exact ⟨rfl, Turns.refl _ _⟩
 | exact ⟨rfl, Turns.drew (Turns.refl _ _)⟩
 | exact ⟨rfl, Turns.drewN (Turns.refl _ _) _⟩
theorem aradd_c (x : Tsk) {w : World} {p : Nat} {F : Nat → Prop} {ts : List Tsk} (h : ArAt w p F ts) (hl : ts.length < 64) :
  Calls Tryz.prog 40 #[.pointer (some ⟨p, 0, none⟩), .agg (tskA x)] w fun e w' => e = .returned (.tuple #[.int .i64 ts.length, .int .i64 0]) ∧ ∃ F', ArAt w' p F' (ts ++ [x]) ∧ Stp w w' F F' := by
 have HX := zh (Blk.new w 38 (tskA x))
 have HM := zh ((zT w).alloc (.cells (tskA x) 38))
 have HA := zh (h.made HM.out)
 have HFB := zh h.fb
 have hne : ¬ (64 - (ts.length : Int)) = 0 := by omega
 have hne2 : ((64 - (ts.length : Int)) == 0) = false := by simp; omega
 clear h
 go_enter Tryz.func40, Tryz.ntmps40
 go_wp2_with fail
 generalize w.alloc (.cells (tskA x) 38) = W0 at *
 refine (arleft_c HA.out (by omega)).mono ?_
 rintro e W ⟨rfl, hm⟩
 have HX1 := zh (HX.out.turns hm (fun h => h))
 have HM1 := zh (HM.out.trans hm)
 have HA1 := zh (HA.out.made hm)
 clear HX HM HA hm
 go_upto_region 3 with fail
 obtain ⟨v, hin, hf⟩ := HA1.out
 have HP := zh hin.blk
 have HO := zh hin.own
 have HNP := zh hin.np
 have HNX := zh (show ∀ k, v.ownBlock = some k → k ≠ w.heap.size from fun k hk e => by have := HFB.out k ((hf k).2 (.inr hk)); omega)
 have HF := zh hf
 clear hin hf HA1
 obtain ⟨i0, hi0, hz0, hz1, hz2⟩ := info_parts Tryz.infoTsk
 refine wp_region_z (S := fun w' => Blk w' (p) 139 #[v, .int .i64 64] ∧ Blk w' (w.heap.size) 38 #[.int .i64 x.prog, .int .i64 x.pc, .int .i64 x.st, .int .i64 x.how, .int .i64 x.regs.r0, .int .i64 x.regs.r1, .int .i64 x.regs.r2, .int .i64 x.regs.r3, .int .i64 x.regs.r4, .int .i64 x.regs.r5, .int .i64 x.regs.r6, .int .i64 x.regs.r7, .int .i64 x.ins.op, .int .i64 x.ins.a, .int .i64 x.ins.b, .int .i64 x.ins.c, .slice none 0 0, .bool false] ∧ Turns (fun k => (v).ownBlock = some k) W w') 10 (by kernel_rfl) ?_ (fun hHeld => ?_)
 ·exact ⟨HP.out, HX1.out, (Turns.refl _ W).drew⟩
 refine tZ 0 9 ?_ ?_ ?_;rotate_left
 ·intro w hSw
  go_simp
  try with_reducible rfl
 try simp only [zP]
 refine tZ 1 10 ?_ ?_ ?_;rotate_left
 ·intro w hSw
  go_simp
  try with_reducible rfl
 try simp only [zP]
 refine tZ 2 11 ?_ ?_ ?_;rotate_left
 ·intro w hSw
  go_simp
  try with_reducible rfl
 try simp only [zP]
 refine tZ 3 12 ?_ ?_ ?_;rotate_left
 ·intro w hSw
  go_simp
  try with_reducible rfl
 try simp only [zP]
 refine tZ 4 13 ?_ ?_ ?_;rotate_left
 ·intro w hSw
  have q0_0 := hSw.1.cell 0
  have q0_1 := hSw.1.cell 1
  have q1_0 := hSw.2.1.cell 0
  have q1_1 := hSw.2.1.cell 1
  have q1_2 := hSw.2.1.cell 2
  have q1_3 := hSw.2.1.cell 3
  have q1_4 := hSw.2.1.cell 4
  have q1_5 := hSw.2.1.cell 5
  have q1_6 := hSw.2.1.cell 6
  have q1_7 := hSw.2.1.cell 7
  have q1_8 := hSw.2.1.cell 8
  have q1_9 := hSw.2.1.cell 9
  have q1_10 := hSw.2.1.cell 10
  have q1_11 := hSw.2.1.cell 11
  have q1_12 := hSw.2.1.cell 12
  have q1_13 := hSw.2.1.cell 13
  have q1_14 := hSw.2.1.cell 14
  have q1_15 := hSw.2.1.cell 15
  have q1_16 := hSw.2.1.cell 16
  have q1_17 := hSw.2.1.cell 17
  simp only [zG] at q0_0 q0_1 q1_0 q1_1 q1_2 q1_3 q1_4 q1_5 q1_6 q1_7 q1_8 q1_9 q1_10 q1_11 q1_12 q1_13 q1_14 q1_15 q1_16 q1_17
  go_simp
  try with_reducible rfl
 try simp only [zP]
 refine tZ 5 14 ?_ ?_ ?_;rotate_left
 ·intro w hSw
  refine exec_load_row (P := Tryz.prog) (x := .tmp 3) ?_ ?_ hSw.2.1 Tryz.underlying38 ?_ Tryz.sizeTsk <;> rfl
 try simp only [zP]
 refine wpAnyZ_ready (rs := [6]) (by kernel_rfl) (by simp) ?_
 refine AllReadyZ.cons rfl (fun K hK => ?_) AllReadyZ.nil
 refine step_single rfl _ (.tmp 14) (by rfl) i0 _ Tryz.underlying137 hi0 hz0 (by rw [hz1]; decide) (by rw [hz1]; decide) (tskA x) (by rfl) (fillT hz1 x) ?_
 intro bX wX hTX hBX hLX
 refine hK.out _ _ ?_ (fun hHeld => ?_)
 ·exact ⟨hHeld.1.turns hTX (fun h => h), hHeld.2.1.turns hTX (fun h => h), (hHeld.2.2).trans (hTX.mono (fun _ _ h => h.elim))⟩
 clear hK K
 try simp only [zP]
 refine wpAnyZ_ready (rs := [7]) (by kernel_rfl) (by simp) ?_
 refine AllReadyZ.cons rfl (fun K hK => ?_) AllReadyZ.nil
 refine step_push rfl _ _ _ (by rfl) i0 _ 160 Tryz.underlying137 hi0 hz0 hz1 hz2 rfl (by omega) tskC_len tskC_one (by rfl) ((HO.out.drew).turns hTX (fun _ _ h => h)) (x) (by rfl) hBX (by omega) (by omega) ?_
 intro v2 w2 hO2 hT2 hV2
 obtain ⟨a3, c3, rfl⟩ := owns_slice hO2
 refine hK.out _ _ ?_ (fun hHeld => ?_)
 ·exact ⟨hHeld.1.turns hT2 (fun e => HNP.out _ e rfl), hHeld.2.1.turns hT2 (fun e => HNX.out _ e rfl), (hHeld.2.2).trans hT2⟩
 clear hK K
 try simp only [zP]
 refine wpAnyZ_ready (rs := [8]) (by kernel_rfl) (by simp) ?_
 refine AllReadyZ.cons rfl (fun K hK => ?_) AllReadyZ.nil
 go_simp
 refine hK.out _ _ hHeld (fun hHeld => ?_)
 clear hK K
 try simp only [zP]
 refine tZ 9 18 ?_ ?_ ?_;rotate_left
 ·intro w hSw
  go_simp
  try with_reducible rfl
 try simp only [zP]
 refine wpAnyZ_ready (rs := [10]) (by kernel_rfl) (by simp) ?_
 refine AllReadyZ.last rfl (fun K hK => ?_) AllReadyZ.nil
 have q := hHeld.1.cell 0
 have qf := hHeld.1.free 0
 simp only [zG] at q
 go_simp
 refine hK.out _ _ ?_
 clear hK K
 try simp only [zP]
 refine wpAnyZ_done (by kernel_rfl) ?_ _
 have HT2 := zh hHeld.2.2
 have HP2 := zh (hHeld.1.put 0 (.slice a3 (ts.length + 1) c3))
 have HO2 := zh (hO2.turns (set1 w2 p 0 (.slice a3 (ts.length + 1) c3)) (fun k hk e => by
  subst e
  rcases hV2 _ hk with h1 | h1
  ·exact HNP.out _ h1 rfl
  ·have := HP.out.lt; have := hTX.size; have h2 : W.drew.heap.size = W.heap.size := rfl; omega))
 have HTS := zh ((HM1.out.mono (S' := F) (fun _ _ h => h.elim)).then ((hHeld.2.2.mono (S' := fun k => k = p ∨ v.ownBlock = some k) (fun _ _ h => .inr h)).setCell (p := ⟨p, 0, none⟩) (fun _ => .inl rfl) (.slice a3 (ts.length + 1) c3)) (fun k hk h => (HF.out k).2 h))
 have HV2 := zh hV2
 have hsz : w.heap.size ≤ wX.heap.size := Nat.le_trans HM1.out.size hTX.size
 have hp2 := HP2.out
 simp only [List.setIfInBounds_toArray, List.set_cons_zero] at hp2
 have q0 := hp2.cell 0
 simp only [List.getElem?_toArray, List.getElem?_cons_zero] at q0
 have HP2 := zh hp2
 clear hHeld hO2 hT2 hV2 hTX hBX hLX hp2
 generalize w2.setCell ⟨p, 0, none⟩ (.slice a3 (ts.length + 1) c3) = V at *
 go_wp2_with fail
 go_ret2
 refine ⟨by simp, fun k => k = p ∨ (Value.slice a3 (ts.length + 1) c3).ownBlock = some k, ⟨_, ⟨HP2.out, by simpa using HO2.out, fun k hk e => ?_⟩, fun k => Iff.rfl⟩, ⟨HTS.out, fun k hk => ?_⟩⟩
 ·subst e
  rcases HV2.out k (by simpa using hk) with h1 | h1
  ·exact HNP.out _ h1 rfl
  ·have := HFB.out k ((HF.out k).2 (.inl rfl)); omega
 ·rcases hk with rfl | hk
  ·exact .inl ((HF.out _).2 (.inl rfl))
  ·rcases HV2.out k (by simpa using hk) with h1 | h1
   ·exact .inl ((HF.out _).2 (.inr h1))
   ·exact .inr (by omega)
section
variable {P : Program} {ops : Array Oper} {o : Oper} {a : Act} {K : Act → World → Prop} {Q : Exit → Act → World → Prop} {E : Prop} {w : World}
theorem run_loadVar_at (w : World) (g n : Nat) (ty : TypeId) (cs : List Value) (d : TypeDesc) (hc : ∀ j v, cs[j]? = some v → w.cell? ⟨g, n + j, none⟩ = some v)
  (hu : P.underlying ty = some d) (hd : (match d with | .struct _ | .array _ _ => true | _ => false) = true) (hi : (P.info? ty).map (·.size) = some cs.length) :
  (loadVar ty ⟨g, n, none⟩).run P w = .ok (.agg cs.toArray) w := by
 have hl : (loadCells ⟨g, n, none⟩ cs.length).run P w = .ok cs.toArray w :=
  run_loadCells_list (P := P) w ⟨g, n, none⟩ cs (fun j v hv => by
   have hadd : (⟨g, n, none⟩ : Addr).add j = ⟨g, n + j, none⟩ := by unfold Addr.add; split <;> simp_all
   rw [hadd]
   exact hc j v hv)
 cases hq : P.info? ty with
 | none => simp [hq] at hi
 | some i =>
  have hs : i.size = cs.length := by simpa [hq] using hi
  have hagg : (isAgg ty).run P w = .ok true w := by
   unfold isAgg
   rw [Sem.run_bind, run_underlying hu w]
   cases d <;> simp_all
  simp [loadVar, Sem.run_bind, hagg, sizeOf, typeInfo, hq, hs, hl]
theorem run_storeVar_at (w : World) (g n : Nat) (ty : TypeId) (cs : List Value) (hc : ∀ j, j < cs.length → (w.cell? ⟨g, n + j, none⟩).isSome = true) (hf : ∀ j, j < cs.length → w.frozen? ⟨g, n + j, none⟩ = false)
  (h1 : ∀ u ∈ cs, u.oneCell' = true) (hi : (P.info? ty).map (·.size) = some cs.length) :
  (storeVar ty ⟨g, n, none⟩ (.agg cs.toArray)).run P w = .ok () (w.setCells g n cs) := by
 cases hq : P.info? ty with
 | none => simp [hq] at hi
 | some i =>
  have hs : i.size = cs.length := by simpa [hq] using hi
  have hst := run_storeCells_cells (P := P) g n cs 0 w (by simpa using hc) (by simpa using hf) h1
  simp only [Nat.add_zero] at hst
  simp [storeVar, Value.cells, Sem.run_bind, sizeOf, typeInfo, hq, hs, hst]
theorem exec_load_at {ev : Operand → Value} {ty : TypeId} {x : Operand} (ho : o.op = .load ty x) {g n : Nat} (hx : ev x = .pointer (some ⟨g, n, none⟩)) {cs : List Value} {d : TypeDesc} (hc : ∀ j v, cs[j]? = some v → w.cell? ⟨g, n + j, none⟩ = some v)
  (hu : P.underlying ty = some d) (hd : (match d with | .struct _ | .array _ _ => true | _ => false) = true) (hi : (P.info? ty).map (·.size) = some cs.length) : (execOp ev o).run P w = .ok (.value (.agg cs.toArray)) w := by
 unfold execOp
 simp only [ho, hx, Instr.loadAt, Instr.sureAddr, Sem.run_bind, Sem.run_pure, Result.andThen_ok, run_loadVar_at w g n ty cs d hc hu hd hi]
theorem wpList_load_at {rest : List Oper} (hgd : o.guard = none) (ty : TypeId) (x : Operand) (ho : o.op = .load ty x)
  (g n : Nat) (hx : a.eval x = .pointer (some ⟨g, n, none⟩)) (cs : List Value) (d : TypeDesc) (hc : ∀ j v, cs[j]? = some v → w.cell? ⟨g, n + j, none⟩ = some v)
  (hu : P.underlying ty = some d) (hd : (match d with | .struct _ | .array _ _ => true | _ => false) = true) (hi : (P.info? ty).map (·.size) = some cs.length)
  (h : wpList P ops Q rest (a.put o.dst (.agg cs.toArray)) w) : wpList P ops Q (o :: rest) a w := by
 refine wpList_plain hgd fun K hK => ?_
 unfold Oper.wp
 rw [exec_load_at ho hx hc hu hd hi]
 exact hK _ _ h
theorem setCells_blk : ∀ (vs : List Value) (o : Nat) {w : World} {g : Nat} {t : TypeId} {pre : List Value} {old : List Value}, pre.length = o → old.length = vs.length → Blk w g t (pre ++ old).toArray → Blk (w.setCells g o vs) g t (pre ++ vs).toArray
 | [], o, w, g, t, pre, old, h1, h2, hb => by
  have h0 : old = [] := List.length_eq_zero_iff.1 h2
  subst h0
  exact hb
 | v :: vs, o, w, g, t, pre, old, h1, h2, hb => by
  cases old with
  | nil => simp at h2
  | cons u old =>
   have hb2 : Blk (w.setCell ⟨g, o, none⟩ v) g t ((pre ++ [v]) ++ old).toArray := by
    have := hb.put o v
    subst h1
    simpa using this
   have := setCells_blk vs (o + 1) (pre := pre ++ [v]) (old := old) (by simp [h1]) (by simpa using h2) hb2
   simpa [World.setCells] using this
theorem setCells_turns {S : Nat → Prop} (g : Nat) (hg : S g) : ∀ (vs : List Value) (o : Nat) (w : World), Turns S w (w.setCells g o vs)
 | [], _, w => Turns.refl S w
 | v :: vs, o, w => ((Turns.refl S w).setCell (p := ⟨g, o, none⟩) (fun _ => hg) v).trans (setCells_turns g hg vs (o + 1) _)
theorem exec_store_blk {ev : Operand → Value} {ty : TypeId} {x y : Operand} (ho : o.op = .store ty x y) {g : Nat} (hx : ev x = .pointer (some ⟨g, 0, none⟩)) {cs old : List Value} {t : TypeId} (hy : ev y = .agg cs.toArray) (hb : Blk w g t old.toArray) (hl : old.length = cs.length)
  (h1 : ∀ u ∈ cs, u.oneCell' = true) (hi : (P.info? ty).map (·.size) = some cs.length) : (execOp ev o).run P w = .ok .skip (w.setCells g 0 cs) := by
 unfold execOp
 have hst := run_storeVar_at (P := P) w g 0 ty cs (fun j hj => by rw [Nat.zero_add, hb.cell j]; simp; omega) (fun j hj => hb.free _) h1 hi
 simp only [ho, hx, hy, Instr.storeAt, Instr.sureAddr, Sem.run_bind, Sem.run_pure, Result.andThen_ok, hst]
theorem wpList_store_blk {rest : List Oper} (hgd : o.guard = none) (ty : TypeId) (x y : Operand) (ho : o.op = .store ty x y) (hdst : o.dst = none)
  (g : Nat) (hx : a.eval x = .pointer (some ⟨g, 0, none⟩)) (cs old : List Value) (t : TypeId) (hy : a.eval y = .agg cs.toArray) (hb : Blk w g t old.toArray) (hl : old.length = cs.length)
  (h1 : ∀ u ∈ cs, u.oneCell' = true) (hi : (P.info? ty).map (·.size) = some cs.length)
  (h : ∀ w', Blk w' g t cs.toArray → Turns (fun k => k = g) w w' → wpList P ops Q rest a w') : wpList P ops Q (o :: rest) a w := by
 refine wpList_plain hgd fun K hK => ?_
 unfold Oper.wp
 rw [exec_store_blk ho hx hy hb hl h1 hi]
 have := h _ (setCells_blk cs 0 (pre := []) rfl hl hb) (setCells_turns (S := fun k => k = g) g rfl cs 0 w)
 exact hK (a.put o.dst undef) _ (by rw [hdst]; exact this)
theorem setCells_own {base n cap size : Nat} {e : TypeId} {g : Nat} : ∀ (vs : List Value) (o : Nat) {w : World} {xs : List Value}, o + vs.length ≤ n * size → xs.length = n * size → w.ownsRow base e size (.slice (some ⟨g, 0, none⟩) n cap) n xs → (w.setCells g o vs).ownsRow base e size (.slice (some ⟨g, 0, none⟩) n cap) n (xs.take o ++ vs ++ xs.drop (o + vs.length))
 | [], o, w, xs, h1, h2, h => by simpa [World.setCells] using h
 | v :: vs, o, w, xs, h1, h2, h => by
  have h3 := setCells_own vs (o + 1) (w := w.setCell ⟨g, o, none⟩ v) (xs := xs.set o v) (by simp at h1; omega) (by simpa using h2) (h.stored o v).1
  have e1 : (xs.set o v).take (o + 1) = xs.take o ++ [v] := by
   have ho : o < xs.length := by simp at h1; omega
   rw [List.take_succ_eq_append_getElem (by simpa using ho), List.take_set_of_le (Nat.le_refl _)]
   simp
  have e2 : (xs.set o v).drop (o + 1 + vs.length) = xs.drop (o + (v :: vs).length) := by
   rw [List.drop_set_of_lt (by omega)]
   simp
   congr 1
   omega
  rw [e1, e2] at h3
  simpa [World.setCells] using h3
theorem flat_set_whole {α : Type} {enc : α → List Value} {size : Nat} (he : ∀ x, (enc x).length = size) {xs : List α} {i : Nat} (hi : i < xs.length) (x : α) :
  flat enc (xs.set i x) = (flat enc xs).take (i * size) ++ enc x ++ (flat enc xs).drop (i * size + (enc x).length) := by
 have e0 : xs = xs.take i ++ xs[i] :: xs.drop (i + 1) := by rw [← List.drop_eq_getElem_cons hi, List.take_append_drop]
 have e1 : xs.set i x = xs.take i ++ x :: xs.drop (i + 1) := by rw [List.set_eq_take_append_cons_drop, if_pos hi]
 have hl : (flat enc (xs.take i)).length = i * size := by rw [flat_length he, List.length_take, Nat.min_eq_left (by omega)]
 have ec : ∀ (y : α) (l : List α), flat enc (y :: l) = enc y ++ flat enc l := fun y l => by simp [flat]
 have e2 : flat enc xs = flat enc (xs.take i) ++ (enc xs[i] ++ flat enc (xs.drop (i + 1))) := by
  rw [← ec, ← flat_append, ← e0]
 have e3 : flat enc (xs.set i x) = flat enc (xs.take i) ++ (enc x ++ flat enc (xs.drop (i + 1))) := by
  rw [e1, flat_append, ec]
 have hx : (enc x).length = (enc xs[i]).length := by rw [he, he]
 rw [e3, e2, ← hl, List.take_left' rfl, List.append_assoc, hx, List.drop_length_add_append, List.drop_left' rfl]
theorem step_store_own {α : Type} {enc : α → List Value} {T : TypeId} {size : Nat} (hgd : o.guard = none) (hdst : o.dst = none) (x y : Operand) (ho : o.op = .store T x y) (he : ∀ x, (enc x).length = size) (h1 : ∀ x, ∀ u ∈ enc x, u.oneCell' = true)
  {g cap i n : Nat} {M : List α} (hg : Owns enc T size w (.slice (some ⟨g, 0, none⟩) M.length cap) M) (hi : i < M.length) (hn : n = i * size) (hx : a.eval x = .pointer (some ⟨g, n, none⟩)) (z : α) (hy : a.eval y = .agg (enc z).toArray)
  (hs : (P.info? T).map (·.size) = some size)
  (h : ∀ w', Owns enc T size w' (.slice (some ⟨g, 0, none⟩) M.length cap) (M.set i z) → Turns (fun k => k = g) w w' → K a w') :
  if Region.wanted o (yielded ops a.tmps) = true then Oper.wp P o a w K Q else E := by
 have hw : Region.wanted o (yielded ops a.tmps) = true := by simp [Region.wanted, hgd]
 rw [if_pos hw]
 subst hn
 have hlt : i * size + (enc z).length ≤ M.length * size := by
  have := Nat.mul_le_mul_right size (show i + 1 ≤ M.length from hi)
  rw [Nat.add_mul] at this
  rw [he]
  omega
 have hol := hg
 unfold Owns at hol
 have hfl := flat_length he M
 have hst := run_storeVar_at (P := P) w g (i * size) T (enc z) (fun j hj => by
   have := hol.cellAt (i * size + j) (by omega)
   rw [this]
   simp
   omega) (fun j hj => hol.frozenAt _) (h1 z) (by rw [hs, he])
 have ho2 := setCells_own (enc z) (i * size) hlt hfl hol
 rw [← flat_set_whole he hi z] at ho2
 have hend := h (w.setCells g (i * size) (enc z)) (by unfold Owns; rw [List.length_set]; exact ho2) (setCells_turns (S := fun k => k = g) g rfl _ _ _)
 unfold Oper.wp execOp
 simp only [ho, hx, hy, Instr.storeAt, Instr.sureAddr, Sem.run_bind, Sem.run_pure, Result.andThen_ok, hst]
 show K (a.put o.dst undef) _
 rw [hdst]
 exact hend
end
theorem lab_no {lb lb' : Nat → Nat} {m : Nat} (h : (fun k => lb' k = m) = fun k => lb k = m) (h0 : ∀ k, lb k ≠ m) : ∀ k, lb' k ≠ m := fun k e => h0 k ((congrFun h k).mp e)
theorem lab_is {lb lb' : Nat → Nat} {m q : Nat} (h : (fun k => lb' k = m) = fun k => lb k = m) (h0 : lb q = m) : lb' q = m := (congrFun h q).mpr h0
theorem blk_cells {w : World} {g : Nat} {t : TypeId} {cs : List Value} (h : Blk w g t cs.toArray) : ∀ j v, cs[j]? = some v → w.cell? ⟨g, 0 + j, none⟩ = some v := fun j v hv => by
 have := h.cell (0 + j)
 rw [this]
 simpa using hv
theorem res_row {P : Program} {fn : Func} {p u : Tmp} {ty : TypeId} (hr : fn.results = #[.cell p ty, .tmp u]) {tmps : Array Value} {w : World} {g : Nat} {t : TypeId} {cs : Array Value} {d : TypeDesc} {v : Value} (hb : Blk w g t cs) (hp : tmps.getD p undef = .pointer (some ⟨g, 0, none⟩)) (hv : tmps.getD u undef = v)
  (hu : P.underlying ty = some d) (hd : (match d with | .struct _ | .array _ _ => true | _ => false) = true) (hi : (P.info? ty).map (·.size) = some cs.size) :
  (results fn tmps).run P w = .ok (.tuple #[.agg cs, v]) w := by
 rw [results_cell_tmp hr, hp, hv]
 have ha : (asAddr (.pointer (some ⟨g, 0, none⟩))).run P w = .ok ⟨g, 0, none⟩ w := rfl
 rw [ha, Result.andThen_ok, run_loadVar_row w g t ty cs (0, 0) d hb hu hd hi, Result.andThen_ok]
section
open Go.RowKit Go.Lib
def encI (z : Int) : List Value := [.int .i64 z]
theorem encI_len (z : Int) : (encI z).length = 1 := rfl
theorem encI_one (z : Int) : ∀ u ∈ encI z, u.oneCell' = true := by
 intro u hu
 simp only [encI, List.mem_cons, List.not_mem_nil, or_false] at hu
 subst hu
 rfl
theorem owns_in {α : Type} {enc : α → List Value} {e : TypeId} {size : Nat} {w : World} {a : Option Addr} {n cap : Nat} {xs : List α} (he : ∀ x, (enc x).length = size) (h : Owns enc e size w (.slice a n cap) xs) : n = xs.length ∧ RowIn enc size w a xs.length xs ∧ (a = none → cap = 0) := by
 obtain ⟨a', c', e1, h1, _, _, h2, _⟩ := h.rowIn he
 simp only [Value.slice.injEq] at e1
 obtain ⟨rfl, rfl, rfl⟩ := e1
 exact ⟨rfl, h1, h2⟩
theorem clone_i {a : Option Addr} {cap : Nat} {xs : List Int} (w : World) (h : RowIn encI 1 w a xs.length xs) (hn : xs.length ≤ 1000000) (hcap : a = none → cap = 0) :
  Calls Tryz.prog 118 #[.slice a xs.length cap] w fun e w' => ∃ v', e = .returned v' ∧ Owns encI 3 1 w' v' xs ∧ Made w w' ∧ (∀ k, v'.ownBlock = some k → w.heap.size ≤ k) := by
 cases a with
 | none =>
  obtain rfl : cap = 0 := hcap rfl
  have h0 : xs = [] := by
   rcases h.2 with h1 | ⟨b, off, e, _⟩
   ·exact List.length_eq_zero_iff.1 (by omega)
   ·cases e
  subst h0
  have hnil := Lib.run_eql_slice_nil (P := Tryz.prog)
  go_enter Tryz.func118, Tryz.ntmps118
  go_wp2
  go_ret
  exact ⟨_, rfl, Owns.nil, Turns.refl _ _, fun k hk => by simp [Value.ownBlock] at hk⟩
 | some ad =>
  have HR := zh (show ∀ j u, (flat encI xs)[j]? = some u → (w.alloc (.cells #[] 3)).cell? (ad.add j) = some u from fun j u hu => by
   rcases h.2 with h1 | ⟨b, off, e, hb, hl⟩
   ·have h0 : xs = [] := List.length_eq_zero_iff.1 (by omega)
    subst h0
    simp [flat] at hu
   ·cases e
    have hj : j < xs.length * 1 := by
     have := (List.getElem?_eq_some_iff.1 hu).1
     rwa [flat_length encI_len] at this
    have hd := Nat.div_add_mod j 1
    have hq : j / 1 < xs.length := Nat.div_lt_of_lt_mul (by omega)
    have hx : xs[j / 1]? = some (xs[j / 1]) := List.getElem?_eq_getElem hq
    have hm : j % 1 < (encI xs[j / 1]).length := by rw [encI_len]; exact Nat.mod_lt _ (by omega)
    have hv := List.getElem?_eq_getElem hm
    have e1 := hl _ _ hx _ _ hv
    have e2 := flat_get encI_len hx hv
    have e3 : j / 1 * 1 + j % 1 = j := by omega
    rw [e3, hu] at e2
    cases e2
    rw [Nat.add_assoc, e3] at e1
    have e4 := ((Below.refl w.heap.size w).alloc (Nat.le_refl _) (.cells #[] 3)).cell (p := ⟨b, off + j, none⟩) hb
    rw [Addr.add_lit]
    exact e4.trans e1)
  obtain ⟨i0, hi0, hz0, hz1, hz2⟩ := info_parts Tryz.infoI1
  have hnil := Lib.run_eql_slice_nil (P := Tryz.prog)
  clear h
  go_enter Tryz.func118, Tryz.ntmps118
  go_wp2_with (at_builtin; refine wpList_append_own _ rfl (.tmp 5) (.tmp 6) 42 rfl w.heap.size 3 i0 _ 1 8 Tryz.underlying42 hi0 hz0 hz1 hz2 rfl (by omega) _ 0 [] rfl ?own ad xs.length cap (flat encI xs) rfl ?len ?cells ?one ?b1 ?b2 ?b3 ?_)
  case own => exact World.ownsRow_made w #[] 0 (Nat.le_refl _) (Nat.zero_le _) rfl
  case len => exact flat_length encI_len xs
  case cells => exact HR.out
  case one =>
   intro u hu
   unfold flat at hu
   obtain ⟨y, _, hy⟩ := List.mem_flatMap.1 hu
   exact encI_one y u hy
  case b1 => unfold maxLen; omega
  case b2 => omega
  case b3 => simp
  intro v' w1 hown hgrow _
  have HOW := zh hown
  have HGR := zh hgrow
  clear hown hgrow
  go_wp2
  go_ret
  refine ⟨v', rfl, ?_, ?_, ?_⟩
  ·unfold Owns; simpa using owns_zero HOW.out
  ·exact ((Turns.refl _ _).alloc _).grown HGR.out (fun k hk hlt => by simp [Value.ownBlock] at hk; omega)
  ·exact fun k hk => (World.ownsRow.lt HOW.out k hk).1
theorem own_take {α : Type} {enc : α → List Value} {e : TypeId} {size : Nat} {w : World} {g cap k : Nat} {xs : List α} (he : ∀ x, (enc x).length = size) (h : Owns enc e size w (.slice (some ⟨g, 0, none⟩) xs.length cap) xs) (hk : k ≤ xs.length) : Owns enc e size w (.slice (some ⟨g, 0, none⟩) k cap) (xs.take k) := by
 have hl : (xs.take k).length = k := by rw [List.length_take, Nat.min_eq_left hk]
 unfold Owns at h ⊢
 rw [hl]
 refine ⟨by rw [flat_length he, hl], ?_⟩
 rcases h.2 with ⟨h0, _⟩ | ⟨g', cap', cur, hv, hb, hg, h1, h2, h3, h4⟩
 ·cases h0
 ·simp only [Value.slice.injEq, Option.some.injEq, Addr.mk.injEq, and_true, true_and] at hv
  obtain ⟨rfl, rfl⟩ := hv
  refine .inr ⟨g, cap, cur, rfl, hb, hg, by omega, h2, h3, ?_⟩
  have e1 : (flat enc xs).take (k * size) = flat enc (xs.take k) := by
   have e0 : flat enc xs = flat enc (xs.take k) ++ flat enc (xs.drop k) := by rw [← flat_append, List.take_append_drop]
   rw [e0, List.take_left' (by rw [flat_length he, hl])]
  rw [← e1, ← h4, List.take_take, Nat.min_eq_left (Nat.mul_le_mul_right _ hk)]
theorem own_spare {α : Type} {enc : α → List Value} {e : TypeId} {size : Nat} {w : World} {g n cap : Nat} {xs : List α} (h : Owns enc e size w (.slice (some ⟨g, 0, none⟩) n cap) xs) {j : Nat} (hj : j < cap * size) : (w.cell? ⟨g, j, none⟩).isSome = true ∧ w.frozen? ⟨g, j, none⟩ = false := by
 rcases h.2 with ⟨h0, _⟩ | ⟨g', cap', cur, hv, hb, hg, h1, h2, h3, h4⟩
 ·cases h0
 ·simp only [Value.slice.injEq, Option.some.injEq, Addr.mk.injEq, and_true, true_and] at hv
  obtain ⟨rfl, rfl, rfl⟩ := hv
  refine ⟨?_, by simp [World.frozen?, hg]⟩
  rw [cell_of_row w g j cur e (0, 0) hg]
  simp
  omega
theorem own_spare_set {α : Type} {enc : α → List Value} {e : TypeId} {size : Nat} {w : World} {g cap : Nat} {xs : List α} (he : ∀ x, (enc x).length = size) (h : Owns enc e size w (.slice (some ⟨g, 0, none⟩) xs.length cap) xs) {j : Nat} (hj : xs.length * size ≤ j) (u : Value) : Owns enc e size (w.setCell ⟨g, j, none⟩ u) (.slice (some ⟨g, 0, none⟩) xs.length cap) xs := by
 unfold Owns at h ⊢
 have h2 := (h.stored j u).1
 rwa [List.set_eq_of_length_le (by rw [flat_length he]; exact hj)] at h2
section
variable {P : Program} {ops : Array Oper} {o : Oper} {a : Act} {K : Act → World → Prop} {Q : Exit → Act → World → Prop} {E : Prop} {α : Type} {enc : α → List Value} {T : TypeId} {size : Nat} {w : World}
theorem step_fits (hgd : o.guard = none) (s x : Operand) (t : TypeId) (ho : o.op = .call { callee := .builtin .append, args := #[s, x], argTypes := #[t, t] })
  (i : TypeInfo) (ht : P.underlying t = some (.slice T)) (hi : P.info? T = some i) (hsize : i.size = size) (he : ∀ x, (enc x).length = size) (h1 : ∀ x, ∀ u ∈ enc x, u.oneCell' = true)
  {g n cap : Nat} {M N : List α} (hs : a.eval s = .slice (some ⟨g, 0, none⟩) n cap) (hg : Owns enc T size w (.slice (some ⟨g, 0, none⟩) n cap) M) (hM : M.length = n) {ad : Addr} {m c : Nat} (hx : a.eval x = .slice (some ad) m c) (hm : N.length = m)
  (hsrc : ∀ j u, (flat enc N)[j]? = some u → w.cell? (ad.add j) = some u) (hroom : n + m ≤ cap) {L : Nat} (hL : n + m = L)
  (h : ∀ w', Owns enc T size w' (.slice (some ⟨g, 0, none⟩) L cap) (M ++ N) → Turns (fun k => k = g) w w' → K (a.put o.dst (.slice (some ⟨g, 0, none⟩) L cap)) w') :
  if Region.wanted o (yielded ops a.tmps) = true then Oper.wp P o a w K Q else E := by
 have hw : Region.wanted o (yielded ops a.tmps) = true := by simp [Region.wanted, hgd]
 rw [if_pos hw]
 subst hM hm hL
 have hol := hg
 unfold Owns at hol
 obtain ⟨w', hr, h2, h3⟩ := run_append_fits (P := P) w 0 t o.type T i size ht hi hsize g M.length cap (flat enc M) hol ad N.length c (flat enc N) (flat_length he N) hsrc (fun u hu => by
  unfold flat at hu
  obtain ⟨y, _, hy⟩ := List.mem_flatMap.1 hu
  exact h1 y u hy) hroom
 unfold Oper.wp execOp
 simp only [ho, resolve, invoke, builtin, Sem.run_bind, Sem.run_pure, Result.andThen_ok, List.map_toArray, List.map_cons, List.map_nil, hs, hx, hr]
 refine h w' ?_ ((Turns.refl _ _).grown h3 (fun k hk _ => by simpa using hk.symm))
 unfold Owns
 rw [flat_append, List.length_append]
 exact h2
end
theorem idx_loop_none {a : Option Addr} {cap : Nat} {xs : List Int} (x : Int) (w : World) (h : RowIn encI 1 w a xs.length xs) (hn : xs.length ≤ 1000000) (hx : x ∉ xs) :
  Calls Tryz.prog 100 #[.slice a xs.length cap, .int .i64 x] w fun e w' => e = .returned (.int .i64 (-1)) ∧ w = w' := by
 have HR := zh h
 have HX := zh hx
 clear h hx
 go_enter Tryz.func100, Tryz.ntmps100
 go_wp2_with fail
 go_loop [8] (fun v8 => ∃ k : Nat, k ≤ xs.length ∧ v8 = .int .i64 k) (fun v8 => xs.length - (intOf v8).toNat)
 case atStart => exact ⟨0, Nat.zero_le _, rfl⟩
 case round =>
  obtain ⟨k, hk, rfl⟩ := hrel
  by_cases hlt : k < xs.length
  ·rcases HR.out.2 with h0 | ⟨b, off, rfl, hb, hl⟩
   ·omega
   obtain ⟨y, hy⟩ := get_of_lt (xs := xs) (k := k) hlt
   have c0 : w.cell? ⟨b, off + k, none⟩ = some (.int .i64 y) := by simpa using hl k y hy 0 _ rfl
   have hne : (x == y) = false := by
    simp only [beq_eq_false_iff_ne, ne_eq]
    rintro rfl
    exact HX.out (List.mem_of_getElem? hy)
   clear hl hy
   go_wp2_with fail
   go_round
   case rel => exact ⟨k + 1, by omega, by go_num⟩
   case measure => simp [intOf]; omega
  ·go_wp2_with fail
   go_ret
   exact ⟨rfl, rfl⟩
theorem idx_loop_some {a : Option Addr} {cap i : Nat} {xs : List Int} (x : Int) (w : World) (h : RowIn encI 1 w a xs.length xs) (hn : xs.length ≤ 1000000) (hx : xs[i]? = some x) (hf : ∀ j, j < i → xs[j]? ≠ some x) :
  Calls Tryz.prog 100 #[.slice a xs.length cap, .int .i64 x] w fun e w' => e = .returned (.int .i64 i) ∧ w = w' := by
 have hi := (List.getElem?_eq_some_iff.1 hx).1
 have HR := zh h
 have HX := zh hx
 have HF := zh hf
 clear h hx hf
 go_enter Tryz.func100, Tryz.ntmps100
 go_wp2_with fail
 go_loop [8] (fun v8 => ∃ k : Nat, k ≤ i ∧ v8 = .int .i64 k) (fun v8 => xs.length - (intOf v8).toNat)
 case atStart => exact ⟨0, Nat.zero_le _, rfl⟩
 case round =>
  obtain ⟨k, hk, rfl⟩ := hrel
  rcases HR.out.2 with h0 | ⟨b, off, rfl, hb, hl⟩
  ·omega
  obtain ⟨y, hy⟩ := get_of_lt (xs := xs) (k := k) (by omega)
  have c0 : w.cell? ⟨b, off + k, none⟩ = some (.int .i64 y) := by simpa using hl k y hy 0 _ rfl
  by_cases hlt : k < i
  ·have hne : (x == y) = false := by
    simp only [beq_eq_false_iff_ne, ne_eq]
    rintro rfl
    exact HF.out k hlt hy
   clear hl hy
   go_wp2_with fail
   go_round
   case rel => exact ⟨k + 1, by omega, by go_num⟩
   case measure => simp [intOf]; omega
  ·obtain rfl : i = k := by omega
   have hxy : y = x := by
    have := HX.out
    rw [hy] at this
    simpa using this
   subst hxy
   clear hl hy
   go_wp2_with fail
   go_ret
   exact ⟨rfl, rfl⟩
theorem contains_no {a : Option Addr} {cap : Nat} {xs : List Int} (x : Int) (w : World) (h : RowIn encI 1 w a xs.length xs) (hn : xs.length ≤ 1000000) (hx : x ∉ xs) :
  Calls Tryz.prog 61 #[.slice a xs.length cap, .int .i64 x] w fun e w' => e = .returned (.bool false) ∧ w = w' := by
 have H := zh (idx_loop_none (cap := cap) x w h hn hx)
 clear h hx
 go_enter Tryz.func61, Tryz.ntmps61
 go_wp2_with fail
 refine H.out.mono ?_
 rintro e w' ⟨rfl, rfl⟩
 go_wp2_with fail
 go_ret
 exact ⟨rfl, rfl⟩
theorem delete_c {g cap i L : Nat} {xs : List Int} (w : World) (h : Owns encI 3 1 w (.slice (some ⟨g, 0, none⟩) (L + 1) cap) xs) (hlen : xs.length = L + 1) (hn : L ≤ 1000000) (hi : i ≤ L) :
  Calls Tryz.prog 147 #[.slice (some ⟨g, 0, none⟩) (L + 1 : Nat) cap, .int .i64 i, .int .i64 (i + 1)] w fun e w' => e = .returned (.slice (some ⟨g, 0, none⟩) L cap) ∧ Owns encI 3 1 w' (.slice (some ⟨g, 0, none⟩) L cap) (xs.eraseIdx i) ∧ Turns (fun k => k = g) w w' := by
 have hcap : L + 1 ≤ cap := by
  rcases h.form with ⟨h0, _⟩ | ⟨g', c', e, _, h1, _⟩
  ·cases h0
  ·simp only [Value.slice.injEq] at e
   omega
 have HO := zh h
 have HL := zh hlen
 clear h hlen
 have hd1 : (((i : Int) + 1) == (i : Int)) = false := by
  rw [beq_eq_false_iff_ne]
  omega
 have hd2 : ((i : Int) == ((i : Int) + 1)) = false := by
  rw [beq_eq_false_iff_ne]
  omega
 go_enter Tryz.func147, Tryz.ntmps147
 go_wp2_with fail
 obtain ⟨i0, hi0, hz0, hz1, hz2⟩ := info_parts Tryz.infoI1
 have hw1 : IntKind.i64.wrap ((i : Int) + 1) = (i : Int) + 1 := IntWalk.i64_in _ (by omega)
 by_cases hc : i + 1 = cap
 ·obtain rfl : cap = i + 1 := hc.symm
  have hdr : xs.drop (i + 1) = [] := List.drop_of_length_le (by rw [HL.out]; omega)
  have ib1 : (0 : Int) ≤ (i : Int) := by omega
  have ib2 : (i : Int) ≤ ((L + 1 : Nat) : Int) := by omega
  have ib3 : (i : Int) ≤ (((i + 1 : Nat) : Int) : Int) := by omega
  have ib4 : (i : Int) + 1 ≤ ((L + 1 : Nat) : Int) := by omega
  have ib5 : (i : Int) + 1 ≤ (((i + 1 : Nat) : Int) : Int) := by omega
  have ib6 : (0 : Int) ≤ (i : Int) + 1 := by omega
  have ib7 : ((i : Int) + 1).toNat = i + 1 := by omega
  have ib8 : i + 1 ≤ L + 1 := by omega
  have ib12 : i ≤ L := by omega
  have ib9 : i + 1 ≤ i + 1 := by omega
  have ib10 : i ≤ i + 1 := by omega
  have ib11 : (i : Int) ≤ (i : Int) + 1 := by omega
  refine wp_region_held_drew (S := fun w' => Turns (fun k => k = g) w w') (by kernel_rfl) ?_ (fun hHeld => ?_)
  ·exact (Turns.refl _ w).drew
  refine tH 0 20 ?_ ?_ ?_;rotate_left
  ·intro w hSw
   go_simp
   try with_reducible rfl
  try simp only [zP]
  refine tH 1 21 ?_ ?_ ?_;rotate_left
  ·intro w hSw
   go_simp
   try with_reducible rfl
  try simp only [zP]
  refine tH 2 22 ?_ ?_ ?_;rotate_left
  ·intro w hSw
   go_simp
   try with_reducible rfl
  try simp only [zP]
  refine tH 3 23 ?_ ?_ ?_;rotate_left
  ·intro w hSw
   go_simp
   try with_reducible rfl
  try simp only [zP]
  refine tH 4 24 ?_ ?_ ?_;rotate_left
  ·intro w hSw
   go_simp
   try with_reducible rfl
  try simp only [zP]
  refine tH 5 25 ?_ ?_ ?_;rotate_left
  ·intro w hSw
   go_simp
   try with_reducible rfl
  try simp only [zP]
  refine zR 6 fun K hK => ?_
  refine step_fits rfl _ _ _ (by rfl) i0 Tryz.underlying42 hi0 hz1 encI_len encI_one (by rfl) (own_take encI_len (by rw [HL.out]; exact HO.out.drew) (by rw [HL.out]; omega)) (by rw [List.length_take, HL.out]; omega) (by rfl) (N := xs.drop (i + 1)) (by rw [List.length_drop, HL.out]; omega) ?_ (by omega) (L := L) (by omega) ?_
  ·intro j u hu; rw [hdr] at hu; simp [flat] at hu
  intro w2 hO2 hT2
  refine hK.out _ _ ?_ (fun hHeld => ?_)
  ·exact hHeld.trans hT2
  clear hK K
  try simp only [zP]
  simp only [List.getElem_toArray, List.getElem_cons_succ, List.getElem_cons_zero, List.setIfInBounds_toArray, List.set_cons_zero, List.set_cons_succ]
  refine tH 7 0 ?_ ?_ ?_;rotate_left
  ·intro w hSw
   go_simp
   try with_reducible rfl
  try simp only [zP]
  refine wpAnyH_done (by kernel_rfl) ?_ _
  have HO2 := zh hO2
  have HT2 := zh hHeld
  clear hO2 hHeld hT2 hw1 ib1 ib2 ib3 ib4 ib5 ib6 ib7 ib8 ib9 ib10 ib11 ib12
  have hlx : (xs.eraseIdx i).length = L := by rw [List.length_eraseIdx_of_lt (by rw [HL.out]; omega), HL.out]; rfl
  have hea : xs.take i ++ xs.drop (i + 1) = xs.eraseIdx i := (List.eraseIdx_eq_take_drop_succ ..).symm
  have HO3 : Hid (Owns encI 3 1 w2 (.slice (some ⟨g, 0, none⟩) (xs.eraseIdx i).length (i + 1)) (xs.eraseIdx i)) := zh (by rw [hlx, ← hea]; exact HO2.out)
  have hsp := own_spare HO2.out (j := L) (by omega)
  have hclr := fun c => run_clear_slice (P := Tryz.prog) w2 42 3 0 (.int .i64 0) Tryz.underlying42 (fun _ => by kernel_rfl) rfl rfl g L 1 c (by omega) (fun j hj => (Nat.lt_one_iff.1 hj) ▸ hsp.1) (fun j hj => (Nat.lt_one_iff.1 hj) ▸ hsp.2)
  simp only [List.replicate_one, World.setCells] at hclr
  clear hlx hea hsp
  go_wp2_with fail
  go_ret
  refine ⟨rfl, ?_, HT2.out.trans (set1 w2 g L (.int .i64 0))⟩
  have h9 := own_spare_set encI_len HO3.out (j := L) (by rw [List.length_eraseIdx_of_lt (by rw [HL.out]; omega), HL.out]; omega) (.int .i64 0)
  rwa [List.length_eraseIdx_of_lt (by rw [HL.out]; omega), HL.out] at h9
 ·have hc2 : ¬ cap = i + 1 := fun e => hc e.symm
  have ib1 : (0 : Int) ≤ (i : Int) := by omega
  have ib2 : (i : Int) ≤ ((L + 1 : Nat) : Int) := by omega
  have ib3 : (i : Int) ≤ (cap : Int) := by omega
  have ib4 : (i : Int) + 1 ≤ ((L + 1 : Nat) : Int) := by omega
  have ib5 : (i : Int) + 1 ≤ (cap : Int) := by omega
  have ib6 : (0 : Int) ≤ (i : Int) + 1 := by omega
  have ib7 : ((i : Int) + 1).toNat = i + 1 := by omega
  have ib8 : i + 1 ≤ L + 1 := by omega
  have ib12 : i ≤ L := by omega
  have ib9 : i + 1 ≤ cap := by omega
  have ib10 : i ≤ cap := by omega
  have ib11 : (i : Int) ≤ (i : Int) + 1 := by omega
  refine wp_region_held_drew (S := fun w' => Turns (fun k => k = g) w w') (by kernel_rfl) ?_ (fun hHeld => ?_)
  ·exact (Turns.refl _ w).drew
  refine tH 0 20 ?_ ?_ ?_;rotate_left
  ·intro w hSw
   go_simp
   try with_reducible rfl
  try simp only [zP]
  refine tH 1 21 ?_ ?_ ?_;rotate_left
  ·intro w hSw
   go_simp
   try with_reducible rfl
  try simp only [zP]
  refine tH 2 22 ?_ ?_ ?_;rotate_left
  ·intro w hSw
   go_simp
   try with_reducible rfl
  try simp only [zP]
  refine tH 3 23 ?_ ?_ ?_;rotate_left
  ·intro w hSw
   go_simp
   try with_reducible rfl
  try simp only [zP]
  refine tH 4 24 ?_ ?_ ?_;rotate_left
  ·intro w hSw
   go_simp
   try with_reducible rfl
  try simp only [zP]
  refine tH 5 25 ?_ ?_ ?_;rotate_left
  ·intro w hSw
   go_simp
   try with_reducible rfl
  try simp only [zP]
  refine zR 6 fun K hK => ?_
  refine step_fits rfl _ _ _ (by rfl) i0 Tryz.underlying42 hi0 hz1 encI_len encI_one (by rfl) (own_take encI_len (by rw [HL.out]; exact HO.out.drew) (by rw [HL.out]; omega)) (by rw [List.length_take, HL.out]; omega) (by rfl) (N := xs.drop (i + 1)) (by rw [List.length_drop, HL.out]; omega) ?_ (by omega) (L := L) (by omega) ?_
  ·intro j u hu
   have e : flat encI xs = flat encI (xs.take (i + 1)) ++ flat encI (xs.drop (i + 1)) := by rw [← flat_append, List.take_append_drop]
   have e2 : (flat encI (xs.take (i + 1))).length = i + 1 := by rw [flat_length encI_len, List.length_take, HL.out]; omega
   have h1 := World.ownsRow.cells (g := g) HO.out.drew rfl (i + 1 + j) u (by rw [e, List.getElem?_append_right (by omega), e2]; simpa using hu)
   rw [Addr.add_lit] at h1 ⊢
   simpa using h1
  intro w2 hO2 hT2
  refine hK.out _ _ ?_ (fun hHeld => ?_)
  ·exact hHeld.trans hT2
  clear hK K
  try simp only [zP]
  simp only [List.getElem_toArray, List.getElem_cons_succ, List.getElem_cons_zero, List.setIfInBounds_toArray, List.set_cons_zero, List.set_cons_succ]
  refine tH 7 0 ?_ ?_ ?_;rotate_left
  ·intro w hSw
   go_simp
   try with_reducible rfl
  try simp only [zP]
  refine wpAnyH_done (by kernel_rfl) ?_ _
  have HO2 := zh hO2
  have HT2 := zh hHeld
  clear hO2 hHeld hT2 hw1 ib1 ib2 ib3 ib4 ib5 ib6 ib7 ib8 ib9 ib10 ib11 ib12
  have hlx : (xs.eraseIdx i).length = L := by rw [List.length_eraseIdx_of_lt (by rw [HL.out]; omega), HL.out]; rfl
  have hea : xs.take i ++ xs.drop (i + 1) = xs.eraseIdx i := (List.eraseIdx_eq_take_drop_succ ..).symm
  have HO3 : Hid (Owns encI 3 1 w2 (.slice (some ⟨g, 0, none⟩) (xs.eraseIdx i).length cap) (xs.eraseIdx i)) := zh (by rw [hlx, ← hea]; exact HO2.out)
  have hsp := own_spare HO2.out (j := L) (by omega)
  have hclr := fun c => run_clear_slice (P := Tryz.prog) w2 42 3 0 (.int .i64 0) Tryz.underlying42 (fun _ => by kernel_rfl) rfl rfl g L 1 c (by omega) (fun j hj => (Nat.lt_one_iff.1 hj) ▸ hsp.1) (fun j hj => (Nat.lt_one_iff.1 hj) ▸ hsp.2)
  simp only [List.replicate_one, World.setCells] at hclr
  clear hlx hea hsp
  go_wp2_with fail
  go_ret
  refine ⟨rfl, ?_, HT2.out.trans (set1 w2 g L (.int .i64 0))⟩
  have h9 := own_spare_set encI_len HO3.out (j := L) (by rw [List.length_eraseIdx_of_lt (by rw [HL.out]; omega), HL.out]; omega) (.int .i64 0)
  rwa [List.length_eraseIdx_of_lt (by rw [HL.out]; omega), HL.out] at h9
end
section
variable {P : Program} {ops : Array Oper} {o : Oper} {a : Act} {Q : Exit → Act → World → Prop} {α : Type} {enc : α → List Value} {T : TypeId} {size : Nat} {w : World} {v : Value} {M : List α}
theorem wpList_push {rest : List Oper} (hgd : o.guard = none) (s x : Operand) (t : TypeId) (ho : o.op = .call { callee := .builtin .append, args := #[s, x], argTypes := #[t, t] })
  (i : TypeInfo) (z : Value) (bytes : Nat) (ht : P.underlying t = some (.slice T)) (hi : P.info? T = some i) (hz : i.zero = some z) (hsize : i.size = size) (hby : i.bytes = bytes) (hzs : z.cells.size = size) (hsz : 0 < size)
  (he : ∀ x, (enc x).length = size) (h1 : ∀ x, ∀ u ∈ enc x, u.oneCell' = true)
  (hs : a.eval s = v) (hg : Owns enc T size w v M) (y : α) {b c : Nat} (hx : a.eval x = .slice (some ⟨b, 0, none⟩) 1 c) (hb : Blk w b T (enc y).toArray) (h63 : M.length + 1 ≤ 1000000) (hbytes : bytes ≤ 1000)
  (h : ∀ v' w', Owns enc T size w' v' (M ++ [y]) → Turns (fun k => v.ownBlock = some k) w w' → (∀ k, v'.ownBlock = some k → v.ownBlock = some k ∨ w.heap.size ≤ k) → wpList P ops Q rest (a.put o.dst v') w') :
  wpList P ops Q (o :: rest) a w := by
 refine wpList_plain hgd fun K hK => ?_
 have h0 := step_push (K := K) (Q := Q) (E := True) (ops := ops) hgd s x t ho i z bytes ht hi hz hsize hby hzs hsz he h1 hs hg y hx hb h63 hbytes (fun v' w' h1 h2 h3 => hK _ _ (h v' w' h1 h2 h3))
 rwa [if_pos (by simp [Region.wanted, hgd])] at h0
end
structure BoxIn {α : Type} (enc : α → List Value) (T S : TypeId) (size : Nat) (w : World) (p : Nat) (v : Value) (l : List α) : Prop where
 blk : Blk w p S #[v]
 own : Owns enc T size w v l
 np : ∀ k, v.ownBlock = some k → k ≠ p
def BoxAt {α : Type} (enc : α → List Value) (T S : TypeId) (size : Nat) (w : World) (p : Nat) (F : Nat → Prop) (l : List α) : Prop := ∃ v, BoxIn enc T S size w p v l ∧ ∀ k, F k ↔ k = p ∨ v.ownBlock = some k
section
variable {α : Type} {enc : α → List Value} {T S0 : TypeId} {size : Nat} {w w' : World} {p : Nat} {F : Nat → Prop} {l : List α}
theorem BoxAt.turns {S : Nat → Prop} (h : BoxAt enc T S0 size w p F l) (ht : Turns S w w') (hn : ∀ k, F k → ¬ S k) : BoxAt enc T S0 size w' p F l := by
 obtain ⟨v, h, hf⟩ := h
 exact ⟨v, ⟨h.blk.turns ht (hn _ ((hf _).2 (.inl rfl))), h.own.turns ht (fun k hk => hn _ ((hf _).2 (.inr hk))), h.np⟩, hf⟩
theorem BoxAt.made (h : BoxAt enc T S0 size w p F l) (ht : Made w w') : BoxAt enc T S0 size w' p F l := h.turns ht (fun _ _ h => h)
theorem BoxAt.fb (h : BoxAt enc T S0 size w p F l) : ∀ k, F k → k < w.heap.size := by
 obtain ⟨v, h, hf⟩ := h
 intro k hk
 rcases (hf k).1 hk with rfl | h1
 ·exact h.blk.lt
 ·exact h.own.lt h1
theorem BoxIn.push {v v2 : Value} {y : α} {wX w2 : World} (h : BoxIn enc T S0 size w p v l) (hf : ∀ k, F k ↔ k = p ∨ v.ownBlock = some k) (hm : Made w wX) (h1 : Owns enc T size w2 v2 (l ++ [y])) (h2 : Turns (fun k => v.ownBlock = some k) wX w2) (h3 : ∀ k, v2.ownBlock = some k → v.ownBlock = some k ∨ wX.heap.size ≤ k) :
  Blk w2 p S0 #[v] ∧ ∃ F', BoxAt enc T S0 size (w2.setCell ⟨p, 0, none⟩ v2) p F' (l ++ [y]) ∧ Stp w (w2.setCell ⟨p, 0, none⟩ v2) F F' := by
 have hb : Blk w2 p S0 #[v] := (h.blk.turns hm (fun h => h)).turns h2 (fun e => h.np _ e rfl)
 have hsz := hm.size
 have hpl := h.blk.lt
 have hne : ∀ k, v2.ownBlock = some k → k ≠ p := fun k hk e => by
  subst e
  rcases h3 k hk with h4 | h4
  ·exact h.np _ h4 rfl
  ·omega
 refine ⟨hb, fun k => k = p ∨ v2.ownBlock = some k, ⟨v2, ⟨by simpa using hb.put 0 v2, h1.turns (set1 w2 p 0 v2) hne, hne⟩, fun k => Iff.rfl⟩, ⟨?_, fun k hk => ?_⟩⟩
 ·refine ((hm.mono (S' := F) (fun _ _ h => h.elim)).then (h2.mono (S' := F) (fun k _ hk => (hf k).2 (.inr hk))) (fun _ _ h => h)).then (set1 w2 p 0 v2) (fun k _ e => (hf k).2 (.inl e))
 ·rcases hk with rfl | hk
  ·exact .inl ((hf _).2 (.inl rfl))
  ·rcases h3 k hk with h4 | h4
   ·exact .inl ((hf _).2 (.inr h4))
   ·exact .inr (by omega)
end
abbrev RdAt (w : World) (p : Nat) (F : Nat → Prop) (l : List Int) : Prop := BoxAt encI 3 141 1 w p F l
theorem rdnew_c (w : World) : Calls Tryz.prog 34 #[] w fun e w' => ∃ p F, e = .returned (.pointer (some ⟨p, 0, none⟩)) ∧ RdAt w' p F [] ∧ Made w w' ∧ ∀ k, F k → w.heap.size ≤ k := by
 go_enter Tryz.func34, Tryz.ntmps34
 go_wp2_with fail
 go_ret
 exact ⟨_, fun k => k = w.heap.size, rfl, ⟨.slice none 0 0, ⟨Blk.new w _ _, Owns.nil, fun k hk => by simp [Value.ownBlock] at hk⟩, fun k => by simp [Value.ownBlock]⟩, (Turns.refl _ _).alloc _, fun k hk => by omega⟩
theorem rdlen_c {w : World} {p : Nat} {F : Nat → Prop} {l : List Int} (h : RdAt w p F l) :
  Calls Tryz.prog 119 #[.pointer (some ⟨p, 0, none⟩)] w fun e w' => e = .returned (.int .i64 l.length) ∧ w = w' := by
 obtain ⟨v, h, hf⟩ := h
 obtain ⟨a, c, rfl⟩ := owns_slice h.own
 have q0 := h.blk.cell 0
 simp only [zG] at q0
 clear h hf
 go_enter Tryz.func119, Tryz.ntmps119
 go_wp2_with fail
 go_ret
 exact ⟨rfl, rfl⟩
theorem rdall_c {w : World} {p : Nat} {F : Nat → Prop} {l : List Int} (h : RdAt w p F l) (hn : l.length ≤ 1000000) :
  Calls Tryz.prog 73 #[.pointer (some ⟨p, 0, none⟩)] w fun e w' => ∃ v', e = .returned v' ∧ Owns encI 3 1 w' v' l ∧ Made w w' ∧ (∀ k, v'.ownBlock = some k → w.heap.size ≤ k) := by
 obtain ⟨v, h, hf⟩ := h
 obtain ⟨a, c, rfl⟩ := owns_slice h.own
 have q0 := h.blk.cell 0
 simp only [zG] at q0
 obtain ⟨_, h1, h2⟩ := owns_in encI_len h.own
 have H := zh (clone_i (cap := c) w h1 hn h2)
 clear h hf h1 h2
 go_enter Tryz.func73, Tryz.ntmps73
 go_wp2_with fail
 refine H.out.mono ?_
 rintro e w1 ⟨v', rfl, h1, h2, h3⟩
 have HH := zh (And.intro h1 (And.intro h2 h3))
 clear h1 h2 h3
 go_wp2_with fail
 go_ret
 exact ⟨v', rfl, HH.out⟩
theorem rdpick_none {w : World} {p : Nat} {F : Nat → Prop} (n : Int) (h : RdAt w p F []) :
  Calls Tryz.prog 74 #[.pointer (some ⟨p, 0, none⟩), .int .i64 n] w fun e w' => e = .returned (.tuple #[.int .i64 0, .bool false]) ∧ w = w' := by
 have H := zh (rdlen_c h)
 clear h
 go_enter Tryz.func74, Tryz.ntmps74
 go_wp2_with fail
 refine H.out.mono ?_
 rintro e w1 ⟨rfl, rfl⟩
 go_wp2_with fail
 go_ret2
 exact ⟨rfl, rfl⟩
theorem rdpick_c {w : World} {p i : Nat} {F : Nat → Prop} {l : List Int} {x : Int} (n : Int) (h : RdAt w p F l) (hi : pickZ n l.length = i) (hx : l[i]? = some x) (hn : l.length ≤ 1000) :
  Calls Tryz.prog 74 #[.pointer (some ⟨p, 0, none⟩), .int .i64 n] w fun e w' => e = .returned (.tuple #[.int .i64 x, .bool true]) ∧ Made w w' := by
 have hlt := (List.getElem?_eq_some_iff.1 hx).1
 have H := zh (rdlen_c h)
 obtain ⟨v, h, hf⟩ := h
 rcases h.own.form with ⟨_, h0⟩ | ⟨g, c, rfl, hg, hlc, hcm⟩
 ·subst h0
  simp at hlt
 have HP := zh (spick_c n l.length)
 have HB := zh h.blk
 have hc0 := Owns.cell encI_len h.own hx (j := 0) rfl
 simp only [Nat.mul_one, Nat.add_zero] at hc0
 have HC := zh hc0
 have HI := zh hi
 have hne : ((l.length : Int) == 0) = false := by
  rw [beq_eq_false_iff_ne]
  omega
 clear h hf hi hx hc0
 go_enter Tryz.func74, Tryz.ntmps74
 go_wp2_with fail
 refine H.out.mono ?_
 rintro e w1 ⟨rfl, rfl⟩
 go_wp2_with fail
 have jb1 : (0 : Int) ≤ (i : Int) := by omega
 have jb2 : (i : Int) < (l.length : Int) := by omega
 refine wp_region_held_drew (S := fun w' => Blk w' (p) 141 #[.slice (some ⟨g, 0, none⟩) l.length c] ∧ w'.cell? ⟨g, i, none⟩ = some (.int .i64 x) ∧ Made w w') (by kernel_rfl) ?_ (fun hHeld => ?_)
 ·exact ⟨HB.out, HC.out, (zT w).drew⟩
 refine tH 0 9 ?_ ?_ ?_;rotate_left
 ·intro w hSw
  go_simp
  try with_reducible rfl
 try simp only [zP]
 refine tH 1 10 ?_ ?_ ?_;rotate_left
 ·intro w hSw
  go_simp
  try with_reducible rfl
 try simp only [zP]
 refine tH 2 11 ?_ ?_ ?_;rotate_left
 ·intro w hSw
  go_simp
  try with_reducible rfl
 try simp only [zP]
 refine tH 3 12 ?_ ?_ ?_;rotate_left
 ·intro w hSw
  have q0_0 := hSw.1.cell 0
  simp only [zG] at q0_0
  have qc := hSw.2.1
  go_simp
  try with_reducible rfl
 try simp only [zP]
 refine tH 4 13 ?_ ?_ ?_;rotate_left
 ·intro w hSw
  go_simp
  try with_reducible rfl
 try simp only [zP]
 refine tH 5 14 ?_ ?_ ?_;rotate_left
 ·intro w hSw
  go_simp
  try with_reducible rfl
 try simp only [zP]
 refine tH 6 15 ?_ ?_ ?_;rotate_left
 ·intro w hSw
  go_simp
  try with_reducible rfl
 try simp only [zP]
 refine tH 7 16 ?_ ?_ ?_;rotate_left
 ·intro w hSw
  go_simp
  try with_reducible rfl
 try simp only [zP]
 refine tH 8 17 ?_ ?_ ?_;rotate_left
 ·intro w hSw
  have q0_0 := hSw.1.cell 0
  simp only [zG] at q0_0
  have qc := hSw.2.1
  go_simp
  try with_reducible rfl
 try simp only [zP]
 refine tH 9 18 ?_ ?_ ?_;rotate_left
 ·intro w hSw
  go_simp
  try with_reducible rfl
 try simp only [zP]
 refine zR 10 fun K hK => ?_
 go_simp
 refine (HP.out _ (by omega) (by omega)).mono ?_
 rintro e w2 ⟨rfl, rfl⟩
 rw [HI.out]
 refine hK.out _ _ ?_ (fun hHeld => ?_)
 ·exact hHeld
 clear hK K
 try simp only [zP]
 refine tH 11 20 ?_ ?_ ?_;rotate_left
 ·intro w hSw
  go_simp
  try with_reducible rfl
 try simp only [zP]
 refine tH 12 21 ?_ ?_ ?_;rotate_left
 ·intro w hSw
  have q0_0 := hSw.1.cell 0
  simp only [zG] at q0_0
  have qc := hSw.2.1
  go_simp
  try with_reducible rfl
 try simp only [zP]
 refine tH 13 4 ?_ ?_ ?_;rotate_left
 ·intro w hSw
  go_simp
  try with_reducible rfl
 try simp only [zP]
 refine tH 14 5 ?_ ?_ ?_;rotate_left
 ·intro w hSw
  go_simp
  try with_reducible rfl
 try simp only [zP]
 refine wpAnyH_done (by kernel_rfl) ?_ _
 have HM := zh hHeld.2.2
 clear hHeld
 go_wp2_with fail
 go_ret2
 exact ⟨rfl, HM.out⟩
theorem rdadd_c {w : World} {p : Nat} {F : Nat → Prop} {l : List Int} (x : Int) (h : RdAt w p F l) (hx : x ∉ l) (h0 : 0 ≤ x) (hn : l.length ≤ 1000) :
  Calls Tryz.prog 41 #[.pointer (some ⟨p, 0, none⟩), .int .i64 x] w fun e w' => e = .returned (.int .i64 0) ∧ ∃ F', RdAt w' p F' (l ++ [x]) ∧ Stp w w' F F' := by
 obtain ⟨v, h, hf⟩ := h
 obtain ⟨a, c, rfl⟩ := owns_slice h.own
 have q0 := h.blk.cell 0
 simp only [zG] at q0
 obtain ⟨_, h1, h2⟩ := owns_in encI_len h.own
 have H := zh (contains_no (cap := c) x w h1 (by omega) hx)
 have HB := zh h
 have HF := zh hf
 clear h hf h1 h2 hx
 obtain ⟨i0, hi0, hz0, hz1, hz2⟩ := info_parts Tryz.infoI1
 go_enter Tryz.func41, Tryz.ntmps41
 go_wp2_with fail
 refine H.out.mono ?_
 rintro e w1 ⟨rfl, rfl⟩
 have HX := zh (Blk.new w 3 (encI x).toArray)
 have HM := zh ((zT w).alloc (.cells (encI x).toArray 3))
 have HO := zh (HB.out.own.made HM.out)
 go_wp2_with (at_builtin; refine wpList_push rfl (.tmp 23) (.tmp 25) _ rfl i0 _ 8 Tryz.underlying42 hi0 hz0 hz1 hz2 rfl (by omega) encI_len encI_one rfl HO.out x rfl HX.out (by omega) (by omega) ?_; intro v2 w2 hO2 hT2 hV2; obtain ⟨hb2, HR⟩ := HB.out.push HF.out HM.out hO2 hT2 hV2; obtain ⟨a3, c3, rfl⟩ := owns_slice hO2; have HR := zh HR; have r0 := hb2.cell 0; have f0 := hb2.free 0; simp only [List.getElem?_toArray, List.getElem?_cons_zero] at r0; clear hO2 hT2 hV2 hb2)
 go_ret
 exact ⟨rfl, by simpa using HR.out⟩
theorem res_boxT {fn : Func} {p u : Tmp} (hr : fn.results = #[.cell p 38, .tmp u]) {tmps : Array Value} {w : World} {g : Nat} {x : Tsk} {v : Value} (hb : Blk w g 38 (tskA x)) (hp : tmps.getD p undef = .pointer (some ⟨g, 0, none⟩)) (hv : tmps.getD u undef = v) :
  (results fn tmps).run Tryz.prog w = .ok (.tuple #[.agg (tskA x), v]) w := by
 exact res_row hr hb hp hv Tryz.underlying38 rfl Tryz.sizeTsk
theorem arget_c {w : World} {p i : Nat} {F : Nat → Prop} {ts : List Tsk} {x : Tsk} (h : ArAt w p F ts) (hx : ts[i]? = some x) (hl : ts.length ≤ 64) :
  Calls Tryz.prog 54 #[.pointer (some ⟨p, 0, none⟩), .int .i64 i] w fun e w' => e = .returned (.tuple #[.agg (tskA x), .bool true]) ∧ Made w w' := by
 have hlt := (List.getElem?_eq_some_iff.1 hx).1
 have HM := zh ((zT w).alloc (.cells tskZ 38))
 have HA := zh (h.made HM.out)
 have HB := zh (Blk.new w 38 tskZ)
 have HX := zh hx
 clear hx h
 go_enter Tryz.func54, Tryz.ntmps54
 go_wp2_with fail
 refine (arlen_c (HA.out)).mono ?_
 rintro e w' ⟨rfl, rfl⟩
 obtain ⟨v, hin, hf⟩ := HA.out
 rcases hin.own.form with ⟨_, h0⟩ | ⟨g, c, rfl, hg, hlc, hcm⟩
 ·subst h0
  simp at hlt
 have q0 := hin.blk.cell 0
 simp only [zG] at q0
 have HC := zh (fun j u hu => Owns.cell tskC_len hin.own HX.out (j := j) (u := u) hu)
 clear hin hf HA
 go_wp2_with (first
  | (refine wpList_load_at (o := ⟨some 22, _, _, _, _, _⟩) rfl _ _ rfl g (i * 18) rfl (tskC x) _ HC.out Tryz.underlying38 rfl Tryz.sizeTsk ?_)
  | (refine wpList_store_blk (o := ⟨none, .store 38 (.tmp 4) (.tmp 22), _, _, _, _⟩) rfl _ _ _ rfl rfl w.heap.size rfl (tskC x) [.int .i64 0, .int .i64 0, .int .i64 0, .int .i64 0, .int .i64 0, .int .i64 0, .int .i64 0, .int .i64 0, .int .i64 0, .int .i64 0, .int .i64 0, .int .i64 0, .int .i64 0, .int .i64 0, .int .i64 0, .int .i64 0, .slice none 0 0, .bool false] 38 rfl HB.out rfl (tskC_one x) Tryz.sizeTsk ?_; intro w2 hb2 ht2; have HB2 := zh hb2; have HT2 := zh ht2; clear hb2 ht2)
  | fail)
 refine bodyPost_ret (res_boxT rfl HB2.out rfl rfl) rfl ?_
 exact ⟨rfl, HM.out.then HT2.out (fun k hk (e : k = w.heap.size) => by omega)⟩
theorem arset_c {w : World} {p i : Nat} {F : Nat → Prop} {ts : List Tsk} (x : Tsk) (h : ArAt w p F ts) (hi : i < ts.length) (hl : ts.length ≤ 64) :
  Calls Tryz.prog 91 #[.pointer (some ⟨p, 0, none⟩), .int .i64 i, .agg (tskA x)] w fun e w' => e = .returned (.bool true) ∧ ArAt w' p F (ts.set i x) ∧ Turns F w w' := by
 have HM := zh ((zT w).alloc (.cells (tskA x) 38))
 have HA := zh (h.made HM.out)
 have HX := zh (Blk.new w 38 (tskA x))
 have HFB := zh h.fb
 clear h
 go_enter Tryz.func91, Tryz.ntmps91
 go_wp2_with fail
 refine (arlen_c (HA.out)).mono ?_
 rintro e w' ⟨rfl, rfl⟩
 go_upto_region 3 with fail
 obtain ⟨v, hin, hf⟩ := HA.out
 rcases hin.own.form with ⟨_, h0⟩ | ⟨g, c, rfl, hg, hlc, hcm⟩
 ·subst h0
  simp at hi
 have HP := zh hin.blk
 have HO := zh hin.own
 have HNP := zh hin.np
 have HF := zh hf
 clear hin hf HA
 generalize w.alloc (.cells (tskA x) 38) = W at *
 have ib1 : (0 : Int) ≤ (i : Int) := by omega
 have ib2 : (i : Int) < (ts.length : Int) := by omega
 refine wp_region_held_drew (S := fun w' => Blk w' (p) 139 #[.slice (some ⟨g, 0, none⟩) ts.length c, .int .i64 64] ∧ Blk w' (w.heap.size) 38 #[.int .i64 x.prog, .int .i64 x.pc, .int .i64 x.st, .int .i64 x.how, .int .i64 x.regs.r0, .int .i64 x.regs.r1, .int .i64 x.regs.r2, .int .i64 x.regs.r3, .int .i64 x.regs.r4, .int .i64 x.regs.r5, .int .i64 x.regs.r6, .int .i64 x.regs.r7, .int .i64 x.ins.op, .int .i64 x.ins.a, .int .i64 x.ins.b, .int .i64 x.ins.c, .slice none 0 0, .bool false] ∧ Turns (fun k => k = g) W w') (by kernel_rfl) ?_ (fun hHeld => ?_)
 ·exact ⟨HP.out, HX.out, (Turns.refl _ W).drew⟩
 refine tH 0 15 ?_ ?_ ?_;rotate_left
 ·intro w hSw
  go_simp
  try with_reducible rfl
 try simp only [zP]
 refine tH 1 16 ?_ ?_ ?_;rotate_left
 ·intro w hSw
  go_simp
  try with_reducible rfl
 try simp only [zP]
 refine tH 2 17 ?_ ?_ ?_;rotate_left
 ·intro w hSw
  go_simp
  try with_reducible rfl
 try simp only [zP]
 refine tH 3 18 ?_ ?_ ?_;rotate_left
 ·intro w hSw
  have q0_0 := hSw.1.cell 0
  have q0_1 := hSw.1.cell 1
  have q1_0 := hSw.2.1.cell 0
  have q1_1 := hSw.2.1.cell 1
  have q1_2 := hSw.2.1.cell 2
  have q1_3 := hSw.2.1.cell 3
  have q1_4 := hSw.2.1.cell 4
  have q1_5 := hSw.2.1.cell 5
  have q1_6 := hSw.2.1.cell 6
  have q1_7 := hSw.2.1.cell 7
  have q1_8 := hSw.2.1.cell 8
  have q1_9 := hSw.2.1.cell 9
  have q1_10 := hSw.2.1.cell 10
  have q1_11 := hSw.2.1.cell 11
  have q1_12 := hSw.2.1.cell 12
  have q1_13 := hSw.2.1.cell 13
  have q1_14 := hSw.2.1.cell 14
  have q1_15 := hSw.2.1.cell 15
  have q1_16 := hSw.2.1.cell 16
  have q1_17 := hSw.2.1.cell 17
  simp only [zG] at q0_0 q0_1 q1_0 q1_1 q1_2 q1_3 q1_4 q1_5 q1_6 q1_7 q1_8 q1_9 q1_10 q1_11 q1_12 q1_13 q1_14 q1_15 q1_16 q1_17
  go_simp
  try with_reducible rfl
 try simp only [zP]
 refine tH 4 19 ?_ ?_ ?_;rotate_left
 ·intro w hSw
  go_simp
  try with_reducible rfl
 try simp only [zP]
 refine tH 5 20 ?_ ?_ ?_;rotate_left
 ·intro w hSw
  refine exec_load_row (P := Tryz.prog) (x := .tmp 5) ?_ ?_ hSw.2.1 Tryz.underlying38 ?_ Tryz.sizeTsk <;> rfl
 try simp only [zP]
 refine tH 6 21 ?_ ?_ ?_;rotate_left
 ·intro w hSw
  go_simp
  try with_reducible rfl
 try simp only [zP]
 refine zR 7 fun K hK => ?_
 refine step_store_own rfl rfl (.tmp 21) (.tmp 20) (by rfl) tskC_len tskC_one HO.out.drew (by omega) rfl (by rfl) x (by rfl) Tryz.sizeTsk ?_
 intro w2 hO2 hT2
 refine hK.out _ _ ?_ (fun hHeld => ?_)
 ·exact ⟨hHeld.1.turns hT2 (fun e => HNP.out g rfl e.symm), hHeld.2.1.turns hT2 (fun e => by have := HFB.out g ((HF.out g).2 (.inr rfl)); omega), hHeld.2.2.trans hT2⟩
 clear hK K
 try simp only [zP]
 refine wpAnyH_done (by kernel_rfl) ?_ _
 have HT := zh ((HM.out.mono (S' := F) (fun _ _ h => h.elim)).then hHeld.2.2 (fun k hk e => by rw [e]; exact (HF.out g).2 (.inr rfl)))
 have HP2 := zh hHeld.1
 have HO2 := zh hO2
 clear hHeld hO2 hT2
 go_wp2_with fail
 go_ret
 exact ⟨rfl, ⟨_, ⟨HP2.out, HO2.out, HNP.out⟩, HF.out⟩, HT.out⟩
theorem rdrem_c {w : World} {p i : Nat} {F : Nat → Prop} {l : List Int} (x : Int) (h : RdAt w p F l) (hx : l[i]? = some x) (hf : ∀ j, j < i → l[j]? ≠ some x) (hn : l.length ≤ 1000) :
  Calls Tryz.prog 92 #[.pointer (some ⟨p, 0, none⟩), .int .i64 x] w fun e w' => e = .returned (.bool true) ∧ RdAt w' p F (l.eraseIdx i) ∧ Turns F w w' := by
 have hlt := (List.getElem?_eq_some_iff.1 hx).1
 have H := zh (rdall_c h (by omega))
 have HA := zh h
 have HX := zh hx
 have HF := zh hf
 clear h hx hf
 obtain ⟨L, hL⟩ : ∃ L, l.length = L + 1 := ⟨l.length - 1, by omega⟩
 have HL := zh hL
 have hiL : i ≤ L := by omega
 have hLn : L ≤ 1000 := by omega
 clear hL
 go_enter Tryz.func92, Tryz.ntmps92
 go_wp2_with fail
 refine H.out.mono ?_
 rintro e w1 ⟨v', rfl, h1, h2, h3⟩
 obtain ⟨a, c, rfl⟩ := owns_slice h1
 have HI := zh (idx_loop_some (cap := c) x w1 (owns_in encI_len h1).2.1 (by omega) HX.out HF.out)
 have HM := zh h2
 clear h1 h2 h3
 go_wp2_with fail
 refine HI.out.mono ?_
 rintro e w2 ⟨rfl, rfl⟩
 obtain ⟨v, hin, hff⟩ := HA.out.made HM.out
 rcases hin.own.form with ⟨_, h0⟩ | ⟨g, cp, rfl, hg, hlc, hcm⟩
 ·subst h0
  simp at hlt
 have ho := hin.own
 have hb := hin.blk
 rw [HL.out] at ho hb
 have q0 := hb.cell 0
 simp only [zG] at q0
 have HB := zh hb
 have HO := zh ho
 have HNP := zh hin.np
 have HFF := zh hff
 clear hin hff HA ho hb hg hlc hcm
 go_wp2_with fail
 refine (delete_c (i := i) w1 HO.out HL.out (by omega) hiL).mono ?_
 rintro e w3 ⟨rfl, ho3, ht3⟩
 have HO3 := zh ho3
 have HT3 := zh ht3
 have hb3 := HB.out.turns ht3 (fun e => HNP.out g rfl e.symm)
 have r0 := hb3.cell 0
 have f0 := hb3.free 0
 simp only [zG] at r0
 have HB3 := zh hb3
 clear ho3 ht3 hb3 q0
 go_wp2_with fail
 go_ret
 refine ⟨rfl, ⟨.slice (some ⟨g, 0, none⟩) L cp, ⟨by simpa using HB3.out.put 0 (.slice (some ⟨g, 0, none⟩) L cp), HO3.out.turns (set1 w3 p 0 _) (fun k hk => HNP.out k (by simpa [Value.ownBlock] using hk)), fun k hk => HNP.out k (by simpa [Value.ownBlock] using hk)⟩, fun k => (HFF.out k).trans (by simp [Value.ownBlock])⟩, ?_⟩
 refine ((HM.out.mono (S' := F) (fun _ _ h => h.elim)).then HT3.out (fun k _ e => (HFF.out k).2 (.inr (by simp [Value.ownBlock, e])))).then (set1 w3 p 0 _) (fun k _ e => (HFF.out k).2 (.inl e))
structure TabIn (w : World) (q pa pl : Nat) (lb : Nat → Nat) (ts : List Tsk) (rd : List Int) : Prop where
 blk : Blk w q 87 #[.pointer (some ⟨pa, 0, none⟩), .pointer (some ⟨pl, 0, none⟩)]
 lq : lb q = 1
 ar : ArAt w pa (fun k => lb k = 2) ts
 rl : RdAt w pl (fun k => lb k = 3) rd
def TabAt (w : World) (q : Nat) (F : Nat → Prop) (ts : List Tsk) (rd : List Int) : Prop := ∃ pa pl lb, TabIn w q pa pl lb ts rd ∧ Lab w lb F
theorem TabIn.turns {S : Nat → Prop} {w w' : World} {q pa pl : Nat} {lb : Nat → Nat} {ts : List Tsk} {rd : List Int} (h : TabIn w q pa pl lb ts rd) (ht : Turns S w w') (hn : ∀ k, lb k ≠ 0 → ¬ S k) : TabIn w' q pa pl lb ts rd :=
 ⟨h.blk.turns ht (hn q (by rw [h.lq]; omega)), h.lq, h.ar.turns ht (fun k hk => hn k (by rw [hk]; omega)), h.rl.turns ht (fun k hk => hn k (by rw [hk]; omega))⟩
theorem Lab.turns {S : Nat → Prop} {w w' : World} {lb : Nat → Nat} {F : Nat → Prop} (h : Lab w lb F) (ht : Turns S w w') : Lab w' lb F := ⟨h.on, fun k hk => Nat.lt_of_lt_of_le (h.lt k hk) ht.size⟩
theorem TabAt.turns {S : Nat → Prop} {w w' : World} {q : Nat} {F : Nat → Prop} {ts : List Tsk} {rd : List Int} (h : TabAt w q F ts rd) (ht : Turns S w w') (hn : ∀ k, F k → ¬ S k) : TabAt w' q F ts rd := by
 obtain ⟨pa, pl, lb, h, hl⟩ := h
 exact ⟨pa, pl, lb, h.turns ht (fun k hk => hn k ((hl.on k).2 hk)), hl.turns ht⟩
theorem TabAt.made {w w' : World} {q : Nat} {F : Nat → Prop} {ts : List Tsk} {rd : List Int} (h : TabAt w q F ts rd) (ht : Made w w') : TabAt w' q F ts rd := h.turns ht (fun _ _ h => h)
theorem TabAt.fb {w : World} {q : Nat} {F : Nat → Prop} {ts : List Tsk} {rd : List Int} (h : TabAt w q F ts rd) : ∀ k, F k → k < w.heap.size := by
 obtain ⟨pa, pl, lb, h, hl⟩ := h
 exact fun k hk => hl.lt k ((hl.on k).1 hk)
theorem TabIn.setAr {w w' : World} {q pa pl : Nat} {lb : Nat → Nat} {F F' : Nat → Prop} {ts ts' : List Tsk} {rd : List Int} (h : TabIn w q pa pl lb ts rd) (hl : Lab w lb F) (ha : ArAt w' pa F' ts') (hs : Stp w w' (fun k => lb k = 2) F') : ∃ lb' FF, TabIn w' q pa pl lb' ts' rd ∧ Lab w' lb' FF ∧ Stp w w' F FF := by
 obtain ⟨lb', FF, hl', h2, hne, hst⟩ := hl.step 2 (by omega) hs ha.fb
 refine ⟨lb', FF, ⟨h.blk.turns hs.t (by rw [h.lq]; omega), ?_, by rw [h2]; exact ha, ?_⟩, hl', hst⟩
 ·have := congrFun (hne 1 (by omega) (by omega)) q
  simp only [h.lq, eq_self, eq_iff_iff, iff_true] at this
  exact this
 ·rw [hne 3 (by omega) (by omega)]
  exact h.rl.turns hs.t (fun k hk => by rw [hk]; omega)
theorem TabIn.setRd {w w' : World} {q pa pl : Nat} {lb : Nat → Nat} {F F' : Nat → Prop} {ts : List Tsk} {rd rd' : List Int} (h : TabIn w q pa pl lb ts rd) (hl : Lab w lb F) (ha : RdAt w' pl F' rd') (hs : Stp w w' (fun k => lb k = 3) F') : ∃ lb' FF, TabIn w' q pa pl lb' ts rd' ∧ Lab w' lb' FF ∧ Stp w w' F FF := by
 obtain ⟨lb', FF, hl', h2, hne, hst⟩ := hl.step 3 (by omega) hs ha.fb
 refine ⟨lb', FF, ⟨h.blk.turns hs.t (by rw [h.lq]; omega), ?_, ?_, by rw [h2]; exact ha⟩, hl', hst⟩
 ·have := congrFun (hne 1 (by omega) (by omega)) q
  simp only [h.lq, eq_self, eq_iff_iff, iff_true] at this
  exact this
 ·rw [hne 2 (by omega) (by omega)]
  exact h.ar.turns hs.t (fun k hk => by rw [hk]; omega)
theorem Stp.same {w w' : World} {F : Nat → Prop} (h : Turns F w w') : Stp w w' F F := ⟨h, fun _ h => .inl h⟩
theorem Stp.then_made {w w' w'' : World} {F F' : Nat → Prop} (h : Stp w w' F F') (k : Made w' w'') : Stp w w'' F F' := h.trans (Stp.made k)
theorem tabnew_c (w : World) : Calls Tryz.prog 17 #[] w fun e w' => ∃ q F, e = .returned (.pointer (some ⟨q, 0, none⟩)) ∧ TabAt w' q F [] [] ∧ Made w w' ∧ ∀ k, F k → w.heap.size ≤ k := by
 go_enter Tryz.func17, Tryz.ntmps17
 go_wp2_with fail
 refine (arnew_c w).mono ?_
 rintro e w1 ⟨pa, Fa, rfl, ha, hm1, hfa⟩
 have HA := zh (And.intro ha (And.intro hm1 hfa))
 clear ha hm1 hfa
 go_wp2_with fail
 refine (rdnew_c w1).mono ?_
 rintro e w2 ⟨pl, Fl, rfl, hr, hm2, hfl⟩
 have HR := zh (And.intro hr (And.intro hm2 hfl))
 clear hr hm2 hfl
 go_wp2_with fail
 go_ret
 obtain ⟨ha, hm1, hfa⟩ := HA.out
 obtain ⟨hr, hm2, hfl⟩ := HR.out
 have hm3 := (zT w2).alloc (.cells #[.pointer (some ⟨pa, 0, none⟩), .pointer (some ⟨pl, 0, none⟩)] 87)
 obtain ⟨l1, hl1, e1, n1⟩ := (Lab.nil w).add (w' := w1) 2 (by omega) hm1.size ha.fb (fun _ _ h => h) (fun _ => by omega)
 obtain ⟨l2, hl2, e2, n2⟩ := hl1.add (w' := w2) 3 (by omega) hm2.size hr.fb (fun k hk h => by
  rcases h with h | h
  ·exact h
  ·have := hfl k hk
   have := ha.fb k h
   omega) (fun k hk => by
  have := congrFun (n1 3 (by omega) (by omega)) k
  simp [hk] at this)
 obtain ⟨l3, hl3, e3, n3⟩ := hl2.add (w' := w2.alloc (.cells #[.pointer (some ⟨pa, 0, none⟩), .pointer (some ⟨pl, 0, none⟩)] 87)) 1 (by omega) hm3.size (G := fun k => k = w2.heap.size) (fun k hk => by simp; omega) (fun k hk h => by
  have := hl2.lt k ((hl2.on k).1 h)
  omega) (lab_no (n2 1 (by omega) (by omega)) (lab_no (n1 1 (by omega) (by omega)) (fun _ => by omega)))
 refine ⟨w2.heap.size, _, rfl, ⟨pa, pl, l3, ⟨Blk.new w2 _ _, ?_, ?_, ?_⟩, hl3⟩, (hm1.trans hm2).trans hm3, fun k hk => ?_⟩
 ·have := congrFun e3 w2.heap.size
  simpa using this
 ·rw [n3 2 (by omega) (by omega), n2 2 (by omega) (by omega), e1]
  exact (ha.made hm2).made hm3
 ·rw [n3 3 (by omega) (by omega), e2]
  exact hr.made hm3
 ·have s1 := hm1.size
  have s2 := hm2.size
  rcases hk with (hk | hk) | hk
  ·rcases hk with hk | hk
   ·exact hk.elim
   ·exact hfa k hk
  ·have := hfl k hk
   omega
  ·omega
theorem noCases_c (w : World) : Calls Tryz.prog 39 #[.slice none 0 0] w fun e w' => e = .returned (.slice none 0 0) ∧ w = w' := by
 have hnil := Lib.run_eql_slice_nil (P := Tryz.prog)
 go_enter Tryz.func39, Tryz.ntmps39
 go_wp2
 go_ret
 exact ⟨rfl, rfl⟩
theorem tabget_c {w : World} {q i : Nat} {F : Nat → Prop} {ts : List Tsk} {rd : List Int} {x : Tsk} (h : TabAt w q F ts rd) (hx : ts[i]? = some x) (hl : ts.length ≤ 64) :
  Calls Tryz.prog 28 #[.pointer (some ⟨q, 0, none⟩), .int .i64 i] w fun e w' => e = .returned (.tuple #[.agg (tskA x), .bool true]) ∧ Made w w' := by
 have HM := zh ((zT w).alloc (.cells tskZ 38))
 obtain ⟨pa, pl, lb, hin, hlab⟩ := h.made HM.out
 have HA := zh (arget_c hin.ar hx hl)
 have HB := zh (Blk.new w 38 tskZ)
 have q0 := hin.blk.cell 0
 simp only [zG] at q0
 clear hin hlab h hx
 go_enter Tryz.func28, Tryz.ntmps28
 go_wp2_with fail
 refine HA.out.mono ?_
 rintro e w1 ⟨rfl, hm1⟩
 have HM1 := zh hm1
 clear hm1 q0
 go_wp2_with (first
  | (refine wpList_store_blk (o := ⟨none, .store 38 (.tmp 6) (.tmp 18), _, _, _, _⟩) rfl _ _ _ rfl rfl _ rfl (tskC x) ([.int .i64 0, .int .i64 0, .int .i64 0, .int .i64 0, .int .i64 0, .int .i64 0, .int .i64 0, .int .i64 0, .int .i64 0, .int .i64 0, .int .i64 0, .int .i64 0, .int .i64 0, .int .i64 0, .int .i64 0, .int .i64 0, .slice none 0 0, .bool false]) 38 rfl (Blk.new _ _ _) rfl (tskC_one x) Tryz.sizeTsk ?_; intro w2 hb2 ht2; have HB2 := zh hb2; have HT2 := zh ht2; have c16 := hb2.cell 16; have f16 := hb2.free 16; simp only [tskC, zG] at c16; clear hb2 ht2)
  | fail)
 refine (noCases_c _).mono ?_
 rintro e w3 ⟨rfl, rfl⟩
 have HB3 : Hid (Blk (w2.setCell ⟨w1.heap.size, 16, none⟩ (.slice none 0 0)) w1.heap.size 38 (tskC x).toArray) := zh (by simpa [tskC] using HB2.out.put 16 (.slice none 0 0))
 have HC3 := zh (blk_cells HB3.out)
 have hlt : w.heap.size < w1.heap.size := (HB.out.turns HM1.out (fun h => h)).lt
 have HT3 := zh (show Made (w.alloc (.cells tskZ 38)) (w2.setCell ⟨w1.heap.size, 16, none⟩ (.slice none 0 0)) from ((HM1.out.alloc _).then HT2.out (fun k hk e => by have := HM1.out.size; omega)).then (set1 w2 w1.heap.size 16 _) (fun k hk e => by have := HM1.out.size; omega))
 have HB4 := zh (HB.out.turns HT3.out (fun h => h))
 go_wp2_with (first
  | (refine wpList_load_at (o := ⟨some 26, .load 38 (.tmp 6), _, _, _, _⟩) rfl _ _ rfl _ 0 rfl (tskC x) _ HC3.out Tryz.underlying38 rfl Tryz.sizeTsk ?_)
  | (refine wpList_store_blk (o := ⟨none, .store 38 (.tmp 4) (.tmp 26), _, _, _, _⟩) rfl _ _ _ rfl rfl _ rfl (tskC x) ([.int .i64 0, .int .i64 0, .int .i64 0, .int .i64 0, .int .i64 0, .int .i64 0, .int .i64 0, .int .i64 0, .int .i64 0, .int .i64 0, .int .i64 0, .int .i64 0, .int .i64 0, .int .i64 0, .int .i64 0, .int .i64 0, .slice none 0 0, .bool false]) 38 rfl HB4.out rfl (tskC_one x) Tryz.sizeTsk ?_; intro w5 hb5 ht5; have HB5 := zh hb5; have HT5 := zh ht5; clear hb5 ht5)
  | fail)
 refine bodyPost_ret (res_boxT rfl HB5.out rfl rfl) rfl ?_
 exact ⟨rfl, (HM.out.trans HT3.out).then HT5.out (fun k hk (e : k = w.heap.size) => by omega)⟩
theorem tabis_run {w : World} {q i : Nat} {F : Nat → Prop} {ts : List Tsk} {rd : List Int} {x : Tsk} (h : TabAt w q F ts rd) (hx : ts[i]? = some x) (hl : ts.length ≤ 64) (hst : x.st = 0) :
  Calls Tryz.prog 89 #[.pointer (some ⟨q, 0, none⟩), .int .i64 i, .func (.func 93) #[] #[]] w fun e w' => e = .returned (.tuple #[.agg (tskA x), .int .i64 0]) ∧ Made w w' := by
 have HM := zh ((zT w).alloc (.cells tskZ 38))
 have HA := zh (tabget_c (h.made HM.out) hx hl)
 have HB := zh (Blk.new w 38 tskZ)
 have HS : Hid ((x.st == 0) = true) := zh (by simpa using hst)
 clear h hx hst
 go_enter Tryz.func89, Tryz.ntmps89
 go_wp2_with fail
 refine HA.out.mono ?_
 rintro e w1 ⟨rfl, hm1⟩
 have HM1 := zh hm1
 clear hm1
 go_wp2_with (first
  | (refine wpList_store_blk (o := ⟨none, .store 38 (.tmp 8) (.tmp 14), _, _, _, _⟩) rfl _ _ _ rfl rfl _ rfl (tskC x) ([.int .i64 0, .int .i64 0, .int .i64 0, .int .i64 0, .int .i64 0, .int .i64 0, .int .i64 0, .int .i64 0, .int .i64 0, .int .i64 0, .int .i64 0, .int .i64 0, .int .i64 0, .int .i64 0, .int .i64 0, .int .i64 0, .slice none 0 0, .bool false]) 38 rfl (Blk.new _ _ _) rfl (tskC_one x) Tryz.sizeTsk ?_; intro w2 hb2 ht2; have HB2 := zh hb2; have HT2 := zh ht2; have c2 := hb2.cell 2; simp only [tskC, zG] at c2; clear hb2 ht2)
  | fail)
 refine (runs_c x.st _).mono ?_
 rintro e w3 ⟨rfl, rfl⟩
 rw [HS.out]
 have HC3 := zh (blk_cells HB2.out)
 have hlt : w.heap.size < w1.heap.size := (HB.out.turns HM1.out (fun h => h)).lt
 have HT3 := zh (show Made (w.alloc (.cells tskZ 38)) w2 from (HM1.out.alloc _).then HT2.out (fun k hk e => by have := HM1.out.size; omega))
 have HB4 := zh (HB.out.turns HT3.out (fun h => h))
 go_wp2_with (first
  | (refine wpList_load_at (o := ⟨some 27, .load 38 (.tmp 8), _, _, _, _⟩) rfl _ _ rfl _ 0 rfl (tskC x) _ HC3.out Tryz.underlying38 rfl Tryz.sizeTsk ?_)
  | (refine wpList_store_blk (o := ⟨none, .store 38 (.tmp 6) (.tmp 27), _, _, _, _⟩) rfl _ _ _ rfl rfl _ rfl (tskC x) ([.int .i64 0, .int .i64 0, .int .i64 0, .int .i64 0, .int .i64 0, .int .i64 0, .int .i64 0, .int .i64 0, .int .i64 0, .int .i64 0, .int .i64 0, .int .i64 0, .int .i64 0, .int .i64 0, .int .i64 0, .int .i64 0, .slice none 0 0, .bool false]) 38 rfl HB4.out rfl (tskC_one x) Tryz.sizeTsk ?_; intro w5 hb5 ht5; have HB5 := zh hb5; have HT5 := zh ht5; clear hb5 ht5)
  | fail)
 refine bodyPost_ret (res_boxT rfl HB5.out rfl rfl) rfl ?_
 exact ⟨rfl, (HM.out.trans HT3.out).then HT5.out (fun k hk (e : k = w.heap.size) => by omega)⟩
theorem tabis_live {w : World} {q i : Nat} {F : Nat → Prop} {ts : List Tsk} {rd : List Int} {x : Tsk} (h : TabAt w q F ts rd) (hx : ts[i]? = some x) (hl : ts.length ≤ 64) (hst : x.st ≠ 2) :
  Calls Tryz.prog 89 #[.pointer (some ⟨q, 0, none⟩), .int .i64 i, .func (.func 90) #[] #[]] w fun e w' => e = .returned (.tuple #[.agg (tskA x), .int .i64 0]) ∧ Made w w' := by
 have HM := zh ((zT w).alloc (.cells tskZ 38))
 have HA := zh (tabget_c (h.made HM.out) hx hl)
 have HB := zh (Blk.new w 38 tskZ)
 have HS : Hid ((x.st != 2) = true) := zh (by simpa using hst)
 clear h hx hst
 go_enter Tryz.func89, Tryz.ntmps89
 go_wp2_with fail
 refine HA.out.mono ?_
 rintro e w1 ⟨rfl, hm1⟩
 have HM1 := zh hm1
 clear hm1
 go_wp2_with (first
  | (refine wpList_store_blk (o := ⟨none, .store 38 (.tmp 8) (.tmp 14), _, _, _, _⟩) rfl _ _ _ rfl rfl _ rfl (tskC x) ([.int .i64 0, .int .i64 0, .int .i64 0, .int .i64 0, .int .i64 0, .int .i64 0, .int .i64 0, .int .i64 0, .int .i64 0, .int .i64 0, .int .i64 0, .int .i64 0, .int .i64 0, .int .i64 0, .int .i64 0, .int .i64 0, .slice none 0 0, .bool false]) 38 rfl (Blk.new _ _ _) rfl (tskC_one x) Tryz.sizeTsk ?_; intro w2 hb2 ht2; have HB2 := zh hb2; have HT2 := zh ht2; have c2 := hb2.cell 2; simp only [tskC, zG] at c2; clear hb2 ht2)
  | fail)
 refine (live_c x.st _).mono ?_
 rintro e w3 ⟨rfl, rfl⟩
 rw [HS.out]
 have HC3 := zh (blk_cells HB2.out)
 have hlt : w.heap.size < w1.heap.size := (HB.out.turns HM1.out (fun h => h)).lt
 have HT3 := zh (show Made (w.alloc (.cells tskZ 38)) w2 from (HM1.out.alloc _).then HT2.out (fun k hk e => by have := HM1.out.size; omega))
 have HB4 := zh (HB.out.turns HT3.out (fun h => h))
 go_wp2_with (first
  | (refine wpList_load_at (o := ⟨some 27, .load 38 (.tmp 8), _, _, _, _⟩) rfl _ _ rfl _ 0 rfl (tskC x) _ HC3.out Tryz.underlying38 rfl Tryz.sizeTsk ?_)
  | (refine wpList_store_blk (o := ⟨none, .store 38 (.tmp 6) (.tmp 27), _, _, _, _⟩) rfl _ _ _ rfl rfl _ rfl (tskC x) ([.int .i64 0, .int .i64 0, .int .i64 0, .int .i64 0, .int .i64 0, .int .i64 0, .int .i64 0, .int .i64 0, .int .i64 0, .int .i64 0, .int .i64 0, .int .i64 0, .int .i64 0, .int .i64 0, .int .i64 0, .int .i64 0, .slice none 0 0, .bool false]) 38 rfl HB4.out rfl (tskC_one x) Tryz.sizeTsk ?_; intro w5 hb5 ht5; have HB5 := zh hb5; have HT5 := zh ht5; clear hb5 ht5)
  | fail)
 refine bodyPost_ret (res_boxT rfl HB5.out rfl rfl) rfl ?_
 exact ⟨rfl, (HM.out.trans HT3.out).then HT5.out (fun k hk (e : k = w.heap.size) => by omega)⟩
theorem tabis_parked {w : World} {q i : Nat} {F : Nat → Prop} {ts : List Tsk} {rd : List Int} {x : Tsk} (h : TabAt w q F ts rd) (hx : ts[i]? = some x) (hl : ts.length ≤ 64) (hst : x.st = 1) :
  Calls Tryz.prog 89 #[.pointer (some ⟨q, 0, none⟩), .int .i64 i, .func (.func 160) #[] #[]] w fun e w' => e = .returned (.tuple #[.agg (tskA x), .int .i64 0]) ∧ Made w w' := by
 have HM := zh ((zT w).alloc (.cells tskZ 38))
 have HA := zh (tabget_c (h.made HM.out) hx hl)
 have HB := zh (Blk.new w 38 tskZ)
 have HS : Hid ((x.st == 1) = true) := zh (by simpa using hst)
 clear h hx hst
 go_enter Tryz.func89, Tryz.ntmps89
 go_wp2_with fail
 refine HA.out.mono ?_
 rintro e w1 ⟨rfl, hm1⟩
 have HM1 := zh hm1
 clear hm1
 go_wp2_with (first
  | (refine wpList_store_blk (o := ⟨none, .store 38 (.tmp 8) (.tmp 14), _, _, _, _⟩) rfl _ _ _ rfl rfl _ rfl (tskC x) ([.int .i64 0, .int .i64 0, .int .i64 0, .int .i64 0, .int .i64 0, .int .i64 0, .int .i64 0, .int .i64 0, .int .i64 0, .int .i64 0, .int .i64 0, .int .i64 0, .int .i64 0, .int .i64 0, .int .i64 0, .int .i64 0, .slice none 0 0, .bool false]) 38 rfl (Blk.new _ _ _) rfl (tskC_one x) Tryz.sizeTsk ?_; intro w2 hb2 ht2; have HB2 := zh hb2; have HT2 := zh ht2; have c2 := hb2.cell 2; simp only [tskC, zG] at c2; clear hb2 ht2)
  | fail)
 refine (parked_c x.st _).mono ?_
 rintro e w3 ⟨rfl, rfl⟩
 rw [HS.out]
 have HC3 := zh (blk_cells HB2.out)
 have hlt : w.heap.size < w1.heap.size := (HB.out.turns HM1.out (fun h => h)).lt
 have HT3 := zh (show Made (w.alloc (.cells tskZ 38)) w2 from (HM1.out.alloc _).then HT2.out (fun k hk e => by have := HM1.out.size; omega))
 have HB4 := zh (HB.out.turns HT3.out (fun h => h))
 go_wp2_with (first
  | (refine wpList_load_at (o := ⟨some 27, .load 38 (.tmp 8), _, _, _, _⟩) rfl _ _ rfl _ 0 rfl (tskC x) _ HC3.out Tryz.underlying38 rfl Tryz.sizeTsk ?_)
  | (refine wpList_store_blk (o := ⟨none, .store 38 (.tmp 6) (.tmp 27), _, _, _, _⟩) rfl _ _ _ rfl rfl _ rfl (tskC x) ([.int .i64 0, .int .i64 0, .int .i64 0, .int .i64 0, .int .i64 0, .int .i64 0, .int .i64 0, .int .i64 0, .int .i64 0, .int .i64 0, .int .i64 0, .int .i64 0, .int .i64 0, .int .i64 0, .int .i64 0, .int .i64 0, .slice none 0 0, .bool false]) 38 rfl HB4.out rfl (tskC_one x) Tryz.sizeTsk ?_; intro w5 hb5 ht5; have HB5 := zh hb5; have HT5 := zh ht5; clear hb5 ht5)
  | fail)
 refine bodyPost_ret (res_boxT rfl HB5.out rfl rfl) rfl ?_
 exact ⟨rfl, (HM.out.trans HT3.out).then HT5.out (fun k hk (e : k = w.heap.size) => by omega)⟩
theorem setCells_mid : ∀ (vs : List Value) (o : Nat) {w : World} {g : Nat} {t : TypeId} {pre old post : List Value}, pre.length = o → old.length = vs.length → Blk w g t (pre ++ old ++ post).toArray → Blk (w.setCells g o vs) g t (pre ++ vs ++ post).toArray
 | [], o, w, g, t, pre, old, post, h1, h2, hb => by
  have h0 : old = [] := List.length_eq_zero_iff.1 h2
  subst h0
  exact hb
 | v :: vs, o, w, g, t, pre, old, post, h1, h2, hb => by
  cases old with
  | nil => simp at h2
  | cons u old =>
   have hb2 : Blk (w.setCell ⟨g, o, none⟩ v) g t ((pre ++ [v]) ++ old ++ post).toArray := by
    have := hb.put o v
    subst h1
    simpa using this
   have := setCells_mid vs (o + 1) (pre := pre ++ [v]) (old := old) (post := post) (by simp [h1]) (by simpa using h2) hb2
   simpa [World.setCells] using this
section
variable {P : Program} {ops : Array Oper} {o : Oper} {a : Act} {K : Act → World → Prop} {Q : Exit → Act → World → Prop} {E : Prop} {w : World}
theorem exec_store_mid {ev : Operand → Value} {ty : TypeId} {x y : Operand} (ho : o.op = .store ty x y) {g n : Nat} (hx : ev x = .pointer (some ⟨g, n, none⟩)) {cs pre old post : List Value} {t : TypeId} (hy : ev y = .agg cs.toArray) (hb : Blk w g t (pre ++ old ++ post).toArray) (hn : pre.length = n) (hl : old.length = cs.length)
  (h1 : ∀ u ∈ cs, u.oneCell' = true) (hi : (P.info? ty).map (·.size) = some cs.length) : (execOp ev o).run P w = .ok .skip (w.setCells g n cs) := by
 unfold execOp
 have hst := run_storeVar_at (P := P) w g n ty cs (fun j hj => by rw [hb.cell (n + j)]; simp; omega) (fun j hj => hb.free _) h1 hi
 simp only [ho, hx, hy, Instr.storeAt, Instr.sureAddr, Sem.run_bind, Sem.run_pure, Result.andThen_ok, hst]
theorem step_store_mid (hgd : o.guard = none) (hdst : o.dst = none) (ty : TypeId) (x y : Operand) (ho : o.op = .store ty x y) {g n : Nat} (hx : a.eval x = .pointer (some ⟨g, n, none⟩)) (cs pre old post : List Value) {t : TypeId} (hy : a.eval y = .agg cs.toArray) (hb : Blk w g t (pre ++ old ++ post).toArray) (hn : pre.length = n) (hl : old.length = cs.length)
  (h1 : ∀ u ∈ cs, u.oneCell' = true) (hi : (P.info? ty).map (·.size) = some cs.length)
  (h : ∀ w', Blk w' g t (pre ++ cs ++ post).toArray → Turns (fun k => k = g) w w' → K a w') :
  if Region.wanted o (yielded ops a.tmps) = true then Oper.wp P o a w K Q else E := by
 have hw : Region.wanted o (yielded ops a.tmps) = true := by simp [Region.wanted, hgd]
 rw [if_pos hw]
 unfold Oper.wp
 rw [exec_store_mid ho hx hy hb hn hl h1 hi]
 show K (a.put o.dst undef) _
 rw [hdst]
 exact h _ (setCells_mid cs n hn hl hb) (setCells_turns (S := fun k => k = g) g rfl cs n w)
theorem wpList_store_mid {rest : List Oper} (hgd : o.guard = none) (hdst : o.dst = none) (ty : TypeId) (x y : Operand) (ho : o.op = .store ty x y) {g n : Nat} (hx : a.eval x = .pointer (some ⟨g, n, none⟩)) (cs pre old post : List Value) {t : TypeId} (hy : a.eval y = .agg cs.toArray) (hb : Blk w g t (pre ++ old ++ post).toArray) (hn : pre.length = n) (hl : old.length = cs.length)
  (h1 : ∀ u ∈ cs, u.oneCell' = true) (hi : (P.info? ty).map (·.size) = some cs.length)
  (h : ∀ w', Blk w' g t (pre ++ cs ++ post).toArray → Turns (fun k => k = g) w w' → wpList P ops Q rest a w') : wpList P ops Q (o :: rest) a w := by
 refine wpList_plain hgd fun K hK => ?_
 unfold Oper.wp
 rw [exec_store_mid ho hx hy hb hn hl h1 hi]
 have := h _ (setCells_mid cs n hn hl hb) (setCells_turns (S := fun k => k = g) g rfl cs n w)
 exact hK (a.put o.dst undef) _ (by rw [hdst]; exact this)
end
def regC (r : Reg) : List Value := [.int .i64 r.r0, .int .i64 r.r1, .int .i64 r.r2, .int .i64 r.r3, .int .i64 r.r4, .int .i64 r.r5, .int .i64 r.r6, .int .i64 r.r7]
theorem regC_one (r : Reg) : ∀ u ∈ regC r, u.oneCell' = true := by
 intro u hu
 simp only [regC, List.mem_cons, List.not_mem_nil, or_false] at hu
 rcases hu with rfl | rfl | rfl | rfl | rfl | rfl | rfl | rfl <;> rfl
theorem insC_one (x : Ins) : ∀ u ∈ insC x, u.oneCell' = true := by
 intro u hu
 simp only [insC, List.mem_cons, List.not_mem_nil, or_false] at hu
 rcases hu with rfl | rfl | rfl | rfl | rfl | rfl <;> rfl
theorem Tryz.sizeReg : (Tryz.prog.info? 36).map (·.size) = some 8 := by kernel_rfl
theorem Tryz.sizeIns : (Tryz.prog.info? 25).map (·.size) = some 6 := by kernel_rfl
theorem rowIn_one {w : World} {b : Nat} {t : TypeId} {x : Ins} (h : Blk w b t (insC x).toArray) : RowIn insC 6 w (some ⟨b, 0, none⟩) 1 [x] := by
 refine ⟨rfl, .inr ⟨b, 0, rfl, h.lt, fun k z hz j v hv => ?_⟩⟩
 have hk : k = 0 := by
  have := (List.getElem?_eq_some_iff.1 hz).1
  simp at this
  omega
 subst hk
 simp only [List.getElem?_cons_zero, Option.some.injEq] at hz
 subst hz
 have := h.cell (0 + 0 * 6 + j)
 rw [this]
 simpa using hv
theorem tabput_c {w : World} {q i : Nat} {F : Nat → Prop} {ts : List Tsk} {rd : List Int} {x : Tsk} {pc : Int} {r : Reg} (h : TabAt w q F ts rd) (hx : ts[i]? = some x) (hl : ts.length ≤ 64) (hst : x.st = 0) :
  Calls Tryz.prog 53 #[.pointer (some ⟨q, 0, none⟩), .int .i64 i, .int .i64 pc, regV r] w fun e w' => e = .returned (.int .i64 0) ∧ ∃ F', TabAt w' q F' (ts.set i ⟨x.prog, pc, x.st, x.how, r, x.ins⟩) rd ∧ Stp w w' F F' := by
 have hilt := (List.getElem?_eq_some_iff.1 hx).1
 have HM := zh ((zT w).alloc (.cells (regC r).toArray 36))
 have HR := zh (Blk.new w 36 (regC r).toArray)
 have HA := zh (tabis_run (h.made HM.out) hx hl hst)
 have HT := zh h
 clear h hx hst
 go_enter Tryz.func53, Tryz.ntmps53
 go_wp2_with fail
 refine HA.out.mono ?_
 rintro e w1 ⟨rfl, hm1⟩
 have HM1 := zh hm1
 clear hm1
 go_wp2_with (first
  | (refine wpList_store_blk (o := ⟨none, .store 38 (.tmp 9) (.tmp 15), _, _, _, _⟩) rfl _ _ _ rfl rfl _ rfl (tskC x) ([.int .i64 0, .int .i64 0, .int .i64 0, .int .i64 0, .int .i64 0, .int .i64 0, .int .i64 0, .int .i64 0, .int .i64 0, .int .i64 0, .int .i64 0, .int .i64 0, .int .i64 0, .int .i64 0, .int .i64 0, .int .i64 0, .slice none 0 0, .bool false]) 38 rfl (Blk.new _ _ _) rfl (tskC_one x) Tryz.sizeTsk ?_; intro w2 hb2 ht2; have HB2 := zh hb2; have HT2 := zh ht2; clear hb2 ht2)
  | fail)
 have HM2 := zh (show Made w w2 from HM.out.trans ((HM1.out.alloc _).then HT2.out (fun k hk e => by have := HM1.out.size; omega)))
 obtain ⟨pa, pl, lb, hin, hlab⟩ := HT.out
 have HIN0 := zh hin
 have HLB0 := zh hlab
 clear hin hlab HT
 have hlt : w.heap.size < w1.heap.size := (HR.out.turns HM1.out (fun h => h)).lt
 have HR2 := zh (HR.out.turns ((HM1.out.alloc (.cells tskZ 38)).then HT2.out (S := fun _ => False) (fun k hk e => by have := HM1.out.size; omega)) (fun h => h))
 refine wp_region_z (S := fun w' => Blk w' (w.heap.size) 36 (regC r).toArray ∧ Turns (fun k => k = w1.heap.size) w2 w') 5 (by kernel_rfl) ?_ (fun hHeld => ?_)
 ·exact ⟨HR2.out, (Turns.refl _ w2).drew⟩
 refine tZ 0 19 ?_ ?_ ?_;rotate_left
 ·intro w hSw
  go_simp
  try with_reducible rfl
 try simp only [zP]
 refine tZ 1 20 ?_ ?_ ?_;rotate_left
 ·intro w hSw
  refine exec_load_row (P := Tryz.prog) (x := .tmp 7) ?_ ?_ hSw.1 Tryz.underlying36 ?_ Tryz.sizeReg <;> rfl
 try simp only [zP]
 refine tZ 2 21 ?_ ?_ ?_;rotate_left
 ·intro w hSw
  go_simp
  try with_reducible rfl
 try simp only [zP]
 refine wpAnyZ_ready (rs := [3]) (by kernel_rfl) (by simp) ?_
 refine AllReadyZ.cons rfl (fun K hK => ?_) AllReadyZ.nil
 have qz := HB2.out.cell 1
 have qf := HB2.out.free 1
 simp only [tskC, zG] at qz
 have q2 : w2.drew.cell? ⟨w1.heap.size, 1, none⟩ = _ := qz
 have q3 : w2.drew.frozen? ⟨w1.heap.size, 1, none⟩ = _ := qf
 simp only [World.cell?_drew, World.frozen?_drew] at q2 q3
 go_simp
 refine hK.out _ _ ?_ (fun hHeld => ?_)
 ·exact ⟨hHeld.1.far (p := ⟨w1.heap.size, 1, none⟩) (fun e => by simp only at e; omega) _, hHeld.2.setCell (p := ⟨w1.heap.size, 1, none⟩) (fun _ => rfl) _⟩
 clear hK K
 try simp only [zP]
 refine tZ 4 22 ?_ ?_ ?_;rotate_left
 ·intro w hSw
  go_simp
  try with_reducible rfl
 try simp only [zP]
 refine wpAnyZ_ready (rs := [5]) (by kernel_rfl) (by simp) ?_
 refine AllReadyZ.last rfl (fun K hK => ?_) AllReadyZ.nil
 refine step_store_mid rfl rfl _ _ _ (by rfl) (by rfl) (regC r) [.int .i64 x.prog, .int .i64 pc, .int .i64 x.st, .int .i64 x.how] (regC x.regs) (insC x.ins) (by rfl) (t := 38) (show Blk (w2.setCell ⟨w1.heap.size, 1, none⟩ (.int .i64 pc)) w1.heap.size _ _ from by simpa [tskC, regC, insC] using HB2.out.put 1 (.int .i64 pc)) (by rfl) (by rfl) (regC_one r) Tryz.sizeReg ?_
 intro w3 hb3 ht3
 refine hK.out _ _ ?_
 clear hK K
 try simp only [zP]
 refine wpAnyZ_done (by kernel_rfl) ?_ _
 have HB3 : Hid (Blk w3 w1.heap.size 38 (tskA ⟨x.prog, pc, x.st, x.how, r, x.ins⟩)) := zh (by simpa [regC, insC] using hb3)
 have HM3 := zh (show Made w w3 from HM2.out.then ((((Turns.refl (fun k => k = w1.heap.size) w2).drew).setCell (p := ⟨w1.heap.size, 1, none⟩) (fun _ => rfl) (.int .i64 pc)).trans ht3) (fun k hk e => by omega))
 have HIN := zh (HIN0.out.turns HM3.out (fun _ _ h => h))
 have HLB := zh (HLB0.out.turns HM3.out)
 clear hHeld hb3 ht3
 go_wp2_with fail
 have HAR := zh (arset_c (w := w3.drew) ⟨x.prog, pc, x.st, x.how, r, x.ins⟩ (HIN.out.ar.made (zT w3).drew) hilt hl)
 have HQ := zh HIN.out.blk
 have HNQ := zh (show ¬ lb q = 2 from by rw [HIN.out.lq]; omega)
 have HNB := zh (show ¬ lb (w1.heap.size) = 2 from fun e => by have := HLB0.out.lt (w1.heap.size) (by omega); have := HM2.out.size; have := HM1.out.size; have := HM.out.size; omega)
 refine wp_region_held_drew (S := fun w' => Blk w' (q) 87 #[.pointer (some ⟨pa, 0, none⟩), .pointer (some ⟨pl, 0, none⟩)] ∧ Blk w' (w1.heap.size) 38 (tskA ⟨x.prog, pc, x.st, x.how, r, x.ins⟩) ∧ Turns (fun k => lb k = 2) w3 w') (by kernel_rfl) ?_ (fun hHeld => ?_)
 ·exact ⟨HQ.out, HB3.out, (Turns.refl _ w3).drew⟩
 refine tH 0 23 ?_ ?_ ?_;rotate_left
 ·intro w hSw
  go_simp
  try with_reducible rfl
 try simp only [zP]
 refine tH 1 24 ?_ ?_ ?_;rotate_left
 ·intro w hSw
  go_simp
  try with_reducible rfl
 try simp only [zP]
 refine tH 2 25 ?_ ?_ ?_;rotate_left
 ·intro w hSw
  go_simp
  try with_reducible rfl
 try simp only [zP]
 refine tH 3 26 ?_ ?_ ?_;rotate_left
 ·intro w hSw
  have q0_0 := hSw.1.cell 0
  have q0_1 := hSw.1.cell 1
  simp only [zG] at q0_0 q0_1
  go_simp
  try with_reducible rfl
 try simp only [zP]
 refine tH 4 27 ?_ ?_ ?_;rotate_left
 ·intro w hSw
  go_simp
  try with_reducible rfl
 try simp only [zP]
 refine tH 5 28 ?_ ?_ ?_;rotate_left
 ·intro w hSw
  refine exec_load_row (P := Tryz.prog) (x := .tmp 9) ?_ ?_ hSw.2.1 Tryz.underlying38 ?_ Tryz.sizeTsk <;> rfl
 try simp only [zP]
 refine zR 6 fun K hK => ?_
 go_simp
 refine HAR.out.mono ?_
 rintro e w4 ⟨rfl, ha4, ht4⟩
 refine hK.out _ _ ?_ (fun hHeld => ?_)
 ·exact ⟨hHeld.1.turns ht4 HNQ.out, hHeld.2.1.turns ht4 HNB.out, hHeld.2.2.trans ht4⟩
 clear hK K
 try simp only [zP]
 refine wpAnyH_done (by kernel_rfl) ?_ _
 obtain ⟨lb4, F4, hin4, hlb4, hst4⟩ := (HIN.out.turns (zT w3).drew (fun _ _ h => h)).setAr (HLB.out.turns (zT w3).drew) ha4 (Stp.same ht4)
 have HIN4 := zh hin4
 have HLB4 := zh hlb4
 have HST4 := zh ((Stp.made (F := F) ((zT w3).drew)).trans hst4)
 clear hHeld ha4 ht4 hin4 hlb4 hst4
 go_wp2_with fail
 go_ret
 exact ⟨rfl, F4, ⟨pa, pl, lb4, HIN4.out, HLB4.out⟩, (Stp.made HM3.out).trans HST4.out⟩
theorem tabend_c {w : World} {q i : Nat} {F : Nat → Prop} {ts : List Tsk} {rd : List Int} {x : Tsk} {how : Int} {j : Nat} (h : TabAt w q F ts rd) (hx : ts[i]? = some x) (hl : ts.length ≤ 64) (hst : x.st = 0) (hj : rd[j]? = some (i : Int)) (hfj : ∀ k, k < j → rd[k]? ≠ some (i : Int)) (hrl : rd.length ≤ 1000) :
  Calls Tryz.prog 51 #[.pointer (some ⟨q, 0, none⟩), .int .i64 i, .int .i64 how] w fun e w' => e = .returned (.int .i64 0) ∧ ∃ F', TabAt w' q F' (ts.set i ⟨x.prog, x.pc, 2, how, x.regs, ⟨0, 0, 0, 0⟩⟩) (rd.eraseIdx j) ∧ Stp w w' F F' := by
 have hilt := (List.getElem?_eq_some_iff.1 hx).1
 have HM := zh (zT w)
 have hst : x.st ≠ 2 := by omega
 have HJ := zh (And.intro hj hfj)
 clear hj hfj
 have HA := zh (tabis_live (h.made HM.out) hx hl hst)
 have HT := zh h
 clear h hx hst
 go_enter Tryz.func51, Tryz.ntmps51
 go_wp2_with fail
 refine HA.out.mono ?_
 rintro e w1 ⟨rfl, hm1⟩
 have HM1 := zh hm1
 clear hm1
 go_wp2_with (first
  | (refine wpList_store_blk (o := ⟨none, .store 38 (.tmp 7) (.tmp 13), _, _, _, _⟩) rfl _ _ _ rfl rfl _ rfl (tskC x) ([.int .i64 0, .int .i64 0, .int .i64 0, .int .i64 0, .int .i64 0, .int .i64 0, .int .i64 0, .int .i64 0, .int .i64 0, .int .i64 0, .int .i64 0, .int .i64 0, .int .i64 0, .int .i64 0, .int .i64 0, .int .i64 0, .slice none 0 0, .bool false]) 38 rfl (Blk.new _ _ _) rfl (tskC_one x) Tryz.sizeTsk ?_; intro w2 hb2 ht2; have HB2 := zh hb2; have HT2 := zh ht2; have c2 := hb2.cell 2; have c3 := hb2.cell 3; have f2 := hb2.free 2; have f3 := hb2.free 3; simp only [tskC, zG] at c2 c3; clear hb2 ht2)
  | (refine wpList_store_mid (o := ⟨none, .store 25 (.tmp 22) (.tmp 19), _, _, _, _⟩) rfl rfl _ _ _ rfl rfl (insC ⟨0, 0, 0, 0⟩) [.int .i64 x.prog, .int .i64 x.pc, .int .i64 2, .int .i64 how, .int .i64 x.regs.r0, .int .i64 x.regs.r1, .int .i64 x.regs.r2, .int .i64 x.regs.r3, .int .i64 x.regs.r4, .int .i64 x.regs.r5, .int .i64 x.regs.r6, .int .i64 x.regs.r7] (insC x.ins) [] (t := 38) rfl (show Blk ((w2.setCell ⟨w1.heap.size, 2, none⟩ (.int .i64 2)).setCell ⟨w1.heap.size, 3, none⟩ (.int .i64 how)) w1.heap.size _ _ from by simpa [tskC, insC] using (HB2.out.put 2 (.int .i64 2)).put 3 (.int .i64 how)) rfl rfl (insC_one _) Tryz.sizeIns ?_; intro w3 hb3 ht3; have HB30 := zh hb3; have HT30 := zh ht3; clear hb3 ht3)
  | fail)
 have HM2 := zh (show Made w w2 from HM.out.trans ((HM1.out.alloc _).then HT2.out (fun k hk e => by have := HM1.out.size; omega)))
 obtain ⟨pa, pl, lb, hin, hlab⟩ := HT.out
 have HIN0 := zh hin
 have HLB0 := zh hlab
 clear hin hlab HT
 have HB3 : Hid (Blk w3 w1.heap.size 38 (tskA ⟨x.prog, x.pc, 2, how, x.regs, ⟨0, 0, 0, 0⟩⟩)) := zh (by simpa [insC] using HB30.out)
 have HM3 := zh (show Made w w3 from HM2.out.then ((((Turns.refl (fun k => k = w1.heap.size) w2).setCell (p := ⟨w1.heap.size, 2, none⟩) (fun _ => rfl) (.int .i64 2)).setCell (p := ⟨w1.heap.size, 3, none⟩) (fun _ => rfl) (.int .i64 how)).trans HT30.out) (fun k hk e => by have := HM1.out.size; omega))
 have HIN := zh (HIN0.out.turns HM3.out (fun _ _ h => h))
 have HLB := zh (HLB0.out.turns HM3.out)
 have HAR := zh (arset_c (w := w3.drew) ⟨x.prog, x.pc, 2, how, x.regs, ⟨0, 0, 0, 0⟩⟩ (HIN.out.ar.made (zT w3).drew) hilt hl)
 have HQ := zh HIN.out.blk
 have HNQ := zh (show ¬ lb q = 2 from by rw [HIN.out.lq]; omega)
 have HNB := zh (show ¬ lb (w1.heap.size) = 2 from fun e => by have := HLB0.out.lt (w1.heap.size) (by omega); have := HM2.out.size; have := HM1.out.size; have := HM.out.size; omega)
 refine wp_region_held_drew (S := fun w' => Blk w' (q) 87 #[.pointer (some ⟨pa, 0, none⟩), .pointer (some ⟨pl, 0, none⟩)] ∧ Blk w' (w1.heap.size) 38 (tskA ⟨x.prog, x.pc, 2, how, x.regs, ⟨0, 0, 0, 0⟩⟩) ∧ Turns (fun k => lb k = 2) w3 w') (by kernel_rfl) ?_ (fun hHeld => ?_)
 ·exact ⟨HQ.out, HB3.out, (Turns.refl _ w3).drew⟩
 refine tH 0 23 ?_ ?_ ?_;rotate_left
 ·intro w hSw
  go_simp
  try with_reducible rfl
 try simp only [zP]
 refine tH 1 24 ?_ ?_ ?_;rotate_left
 ·intro w hSw
  go_simp
  try with_reducible rfl
 try simp only [zP]
 refine tH 2 25 ?_ ?_ ?_;rotate_left
 ·intro w hSw
  go_simp
  try with_reducible rfl
 try simp only [zP]
 refine tH 3 26 ?_ ?_ ?_;rotate_left
 ·intro w hSw
  have q0_0 := hSw.1.cell 0
  have q0_1 := hSw.1.cell 1
  simp only [zG] at q0_0 q0_1
  go_simp
  try with_reducible rfl
 try simp only [zP]
 refine tH 4 27 ?_ ?_ ?_;rotate_left
 ·intro w hSw
  go_simp
  try with_reducible rfl
 try simp only [zP]
 refine tH 5 28 ?_ ?_ ?_;rotate_left
 ·intro w hSw
  refine exec_load_row (P := Tryz.prog) (x := .tmp 7) ?_ ?_ hSw.2.1 Tryz.underlying38 ?_ Tryz.sizeTsk <;> rfl
 try simp only [zP]
 refine zR 6 fun K hK => ?_
 go_simp
 refine HAR.out.mono ?_
 rintro e w4 ⟨rfl, ha4, ht4⟩
 refine hK.out _ _ ?_ (fun hHeld => ?_)
 ·exact ⟨hHeld.1.turns ht4 HNQ.out, hHeld.2.1.turns ht4 HNB.out, hHeld.2.2.trans ht4⟩
 clear hK K
 try simp only [zP]
 refine wpAnyH_done (by kernel_rfl) ?_ _
 obtain ⟨lb4, F4, hin4, hlb4, hst4⟩ := (HIN.out.turns (zT w3).drew (fun _ _ h => h)).setAr (HLB.out.turns (zT w3).drew) ha4 (Stp.same ht4)
 have HIN4 := zh hin4
 have HLB4 := zh hlb4
 have HST4 := zh ((Stp.made (F := F) ((zT w3).drew)).trans hst4)
 clear hHeld ha4 ht4 hin4 hlb4 hst4
 have q1 := HIN4.out.blk.cell 1
 simp only [zG] at q1
 go_wp2_with fail
 refine (rdrem_c (i := j) (i : Int) HIN4.out.rl HJ.out.1 HJ.out.2 hrl).mono ?_
 rintro e w5 ⟨rfl, hr5, ht5⟩
 obtain ⟨lb5, F5, hin5, hlb5, hst5⟩ := HIN4.out.setRd HLB4.out hr5 (Stp.same ht5)
 have HE := zh (And.intro hin5 (And.intro hlb5 hst5))
 clear hr5 ht5 hin5 hlb5 hst5 q1
 go_wp2_with fail
 go_ret
 exact ⟨rfl, F5, ⟨pa, pl, lb5, HE.out.1, HE.out.2.1⟩, ((Stp.made HM3.out).trans HST4.out).trans HE.out.2.2⟩
theorem tabpark_c {w : World} {q i : Nat} {F : Nat → Prop} {ts : List Tsk} {rd : List Int} {x : Tsk} {ia ib ic : Int} {j : Nat} (h : TabAt w q F ts rd) (hx : ts[i]? = some x) (hl : ts.length ≤ 64) (hst : x.st = 0) (hgd : GoodC ⟨11, ia, ib, ic⟩ 1) (hj : rd[j]? = some (i : Int)) (hfj : ∀ k, k < j → rd[k]? ≠ some (i : Int)) (hrl : rd.length ≤ 1000) :
  Calls Tryz.prog 52 #[.pointer (some ⟨q, 0, none⟩), .int .i64 i, insV ⟨11, ia, ib, ic⟩] w fun e w' => e = .returned (.int .i64 0) ∧ ∃ F', TabAt w' q F' (ts.set i ⟨x.prog, x.pc, 1, x.how, x.regs, ⟨11, ia, ib, ic⟩⟩) (rd.eraseIdx j) ∧ Stp w w' F F' := by
 have hilt := (List.getElem?_eq_some_iff.1 hx).1
 have HM := zh ((zT w).alloc (.cells #[.int .i64 11, .int .i64 ia, .int .i64 ib, .int .i64 ic, .slice none 0 0, .bool false] 25))
 have HI := zh (Blk.new w 25 #[.int .i64 11, .int .i64 ia, .int .i64 ib, .int .i64 ic, .slice none 0 0, .bool false])
 have HJ := zh (And.intro hj hfj)
 have HGD := zh hgd
 clear hj hfj hgd
 have HA := zh (tabis_run (h.made HM.out) hx hl hst)
 have HT := zh h
 clear h hx hst
 go_enter Tryz.func52, Tryz.ntmps52
 go_wp2_with fail
 refine HA.out.mono ?_
 rintro e w1 ⟨rfl, hm1⟩
 have HM1 := zh hm1
 clear hm1
 go_wp2_with (first
  | (refine wpList_store_blk (o := ⟨none, .store 38 (.tmp 7) (.tmp 13), _, _, _, _⟩) rfl _ _ _ rfl rfl _ rfl (tskC x) ([.int .i64 0, .int .i64 0, .int .i64 0, .int .i64 0, .int .i64 0, .int .i64 0, .int .i64 0, .int .i64 0, .int .i64 0, .int .i64 0, .int .i64 0, .int .i64 0, .int .i64 0, .int .i64 0, .int .i64 0, .int .i64 0, .slice none 0 0, .bool false]) 38 rfl (Blk.new _ _ _) rfl (tskC_one x) Tryz.sizeTsk ?_; intro w2 hb2 ht2; have HB2 := zh hb2; have HT2 := zh ht2; have HI2 := HI.out.turns ((HM1.out.alloc (.cells tskZ 38)).then HT2.out (S := fun _ => False) (fun k hk e => by have := HM1.out.size; omega)) (fun h => h); have i0 := HI2.cell 0; have i1 := HI2.cell 1; have i2 := HI2.cell 2; have i3 := HI2.cell 3; have i4 := HI2.cell 4; have i5 := HI2.cell 5; simp only [zG] at i0 i1 i2 i3 i4 i5; have HI2 := zh HI2; clear hb2 ht2)
  | fail)
 have HM2 := zh (show Made w w2 from HM.out.trans ((HM1.out.alloc _).then HT2.out (fun k hk e => by have := HM1.out.size; omega)))
 obtain ⟨pa, pl, lb, hin, hlab⟩ := HT.out
 have HIN0 := zh hin
 have HLB0 := zh hlab
 clear hin hlab HT
 have HBN := Blk.new w2 25 (insC ⟨11, ia, ib, ic⟩).toArray
 refine (check_c (xs := [⟨11, ia, ib, ic⟩]) (len := 1) (cap := 1) (w2.alloc (.cells (insC ⟨11, ia, ib, ic⟩).toArray 25)) (fun z hz => by simp only [List.mem_cons, List.not_mem_nil, or_false] at hz; subst hz; exact HGD.out) (rowIn_one HBN) (by omega)).mono ?_
 rintro e w3 ⟨rfl, hm3⟩
 have HM23 := zh (show Made w2 w3 from ((zT w2).alloc _).trans hm3)
 have HM3 := zh (HM2.out.trans HM23.out)
 have hi3 := HI2.out.turns HM23.out (fun h => h)
 have z4 := hi3.cell 4
 have fz4 := hi3.free 4
 simp only [zG] at z4
 have HI3 := zh hi3
 have HB3 := zh (HB2.out.turns HM23.out (fun h => h))
 clear HBN hm3 hi3
 go_wp2_with fail
 refine (noCases_c _).mono ?_
 rintro e w4 ⟨rfl, rfl⟩
 go_upto_region 7 with fail
 have hlt : w.heap.size < w1.heap.size := by
  have h1 := (HM1.out).size
  simp only [World.size_alloc] at h1
  omega
 have HI4 := HI3.out.put 4 (.slice none 0 0)
 simp only [List.setIfInBounds_toArray, List.set_cons_zero, List.set_cons_succ] at HI4
 have HI4 := zh HI4
 have HB4 := zh (HB3.out.far (p := ⟨w.heap.size, 4, none⟩) (fun e => by simp only at e; omega) (.slice none 0 0))
 have HM4 := zh (HM3.out.then (set1 w3 w.heap.size 4 (.slice none 0 0)) (fun k hk e => by omega))
 clear z4 fz4
 generalize w3.setCell ⟨w.heap.size, 4, none⟩ (.slice none 0 0) = V at *
 refine wp_region_held_drew (S := fun w' => Blk w' (w.heap.size) 25 #[.int .i64 11, .int .i64 ia, .int .i64 ib, .int .i64 ic, .slice none 0 0, .bool false] ∧ Turns (fun k => k = w1.heap.size) V w') (by kernel_rfl) ?_ (fun hHeld => ?_)
 ·exact ⟨HI4.out, (Turns.refl _ V).drew⟩
 refine tH 0 41 ?_ ?_ ?_;rotate_left
 ·intro w hSw
  refine exec_load_row (P := Tryz.prog) (x := .tmp 5) ?_ ?_ hSw.1 Tryz.underlying25 ?_ Tryz.sizeIns <;> rfl
 try simp only [zP]
 refine tH 1 42 ?_ ?_ ?_;rotate_left
 ·intro w hSw
  go_simp
  try with_reducible rfl
 try simp only [zP]
 refine zR 2 fun K hK => ?_
 have qz := HB4.out.cell 2
 have qf := HB4.out.free 2
 simp only [tskC, zG] at qz
 have q2 : V.drew.cell? ⟨w1.heap.size, 2, none⟩ = _ := qz
 have q3 : V.drew.frozen? ⟨w1.heap.size, 2, none⟩ = _ := qf
 simp only [World.cell?_drew, World.frozen?_drew] at q2 q3
 go_simp
 refine hK.out _ _ ?_ (fun hHeld => ?_)
 ·exact ⟨hHeld.1.far (p := ⟨w1.heap.size, 2, none⟩) (fun e => by simp only at e; omega) _, hHeld.2.setCell (p := ⟨w1.heap.size, 2, none⟩) (fun _ => rfl) _⟩
 clear hK K
 try simp only [zP]
 refine tH 3 43 ?_ ?_ ?_;rotate_left
 ·intro w hSw
  go_simp
  try with_reducible rfl
 try simp only [zP]
 refine zR 4 fun K hK => ?_
 refine step_store_mid rfl rfl _ _ _ (by rfl) (by rfl) (insC ⟨11, ia, ib, ic⟩) [.int .i64 x.prog, .int .i64 x.pc, .int .i64 1, .int .i64 x.how, .int .i64 x.regs.r0, .int .i64 x.regs.r1, .int .i64 x.regs.r2, .int .i64 x.regs.r3, .int .i64 x.regs.r4, .int .i64 x.regs.r5, .int .i64 x.regs.r6, .int .i64 x.regs.r7] (insC x.ins) [] (by rfl) (t := 38) (show Blk (V.setCell ⟨w1.heap.size, 2, none⟩ (.int .i64 1)) w1.heap.size _ _ from by simpa [tskC, insC] using HB4.out.put 2 (.int .i64 1)) (by rfl) (by rfl) (insC_one _) Tryz.sizeIns ?_
 intro w5 hb5 ht5
 refine hK.out _ _ ?_ (fun hHeld => ?_)
 ·exact ⟨hHeld.1.turns ht5 (fun e => by omega), hHeld.2.trans ht5⟩
 clear hK K
 try simp only [zP]
 refine wpAnyH_done (by kernel_rfl) ?_ _
 have HB3 : Hid (Blk w5 w1.heap.size 38 (tskA ⟨x.prog, x.pc, 1, x.how, x.regs, ⟨11, ia, ib, ic⟩⟩)) := zh (by simpa [insC] using hb5)
 have HM3 := zh (show Made w w5 from HM4.out.then hHeld.2 (fun k hk e => by omega))
 have HIN := zh (HIN0.out.turns HM3.out (fun _ _ h => h))
 have HLB := zh (HLB0.out.turns HM3.out)
 clear hHeld hb5 ht5
 go_wp2_with fail
 have HAR := zh (arset_c (w := w5.drew) ⟨x.prog, x.pc, 1, x.how, x.regs, ⟨11, ia, ib, ic⟩⟩ (HIN.out.ar.made (zT w5).drew) hilt hl)
 have HQ := zh HIN.out.blk
 have HNQ := zh (show ¬ lb q = 2 from by rw [HIN.out.lq]; omega)
 have HNB := zh (show ¬ lb (w1.heap.size) = 2 from fun e => by have := HLB0.out.lt (w1.heap.size) (by omega); have := HM2.out.size; have := HM1.out.size; have := HM.out.size; omega)
 refine wp_region_held_drew (S := fun w' => Blk w' (q) 87 #[.pointer (some ⟨pa, 0, none⟩), .pointer (some ⟨pl, 0, none⟩)] ∧ Blk w' (w1.heap.size) 38 (tskA ⟨x.prog, x.pc, 1, x.how, x.regs, ⟨11, ia, ib, ic⟩⟩) ∧ Turns (fun k => lb k = 2) w5 w') (by kernel_rfl) ?_ (fun hHeld => ?_)
 ·exact ⟨HQ.out, HB3.out, (Turns.refl _ w5).drew⟩
 refine tH 0 44 ?_ ?_ ?_;rotate_left
 ·intro w hSw
  go_simp
  try with_reducible rfl
 try simp only [zP]
 refine tH 1 45 ?_ ?_ ?_;rotate_left
 ·intro w hSw
  go_simp
  try with_reducible rfl
 try simp only [zP]
 refine tH 2 46 ?_ ?_ ?_;rotate_left
 ·intro w hSw
  go_simp
  try with_reducible rfl
 try simp only [zP]
 refine tH 3 47 ?_ ?_ ?_;rotate_left
 ·intro w hSw
  have q0_0 := hSw.1.cell 0
  have q0_1 := hSw.1.cell 1
  simp only [zG] at q0_0 q0_1
  go_simp
  try with_reducible rfl
 try simp only [zP]
 refine tH 4 48 ?_ ?_ ?_;rotate_left
 ·intro w hSw
  go_simp
  try with_reducible rfl
 try simp only [zP]
 refine tH 5 49 ?_ ?_ ?_;rotate_left
 ·intro w hSw
  refine exec_load_row (P := Tryz.prog) (x := .tmp 7) ?_ ?_ hSw.2.1 Tryz.underlying38 ?_ Tryz.sizeTsk <;> rfl
 try simp only [zP]
 refine zR 6 fun K hK => ?_
 go_simp
 refine HAR.out.mono ?_
 rintro e w6 ⟨rfl, ha4, ht4⟩
 refine hK.out _ _ ?_ (fun hHeld => ?_)
 ·exact ⟨hHeld.1.turns ht4 HNQ.out, hHeld.2.1.turns ht4 HNB.out, hHeld.2.2.trans ht4⟩
 clear hK K
 try simp only [zP]
 refine wpAnyH_done (by kernel_rfl) ?_ _
 obtain ⟨lb4, F4, hin6, hlb4, hst4⟩ := (HIN.out.turns (zT w5).drew (fun _ _ h => h)).setAr (HLB.out.turns (zT w5).drew) ha4 (Stp.same ht4)
 have HIN4 := zh hin6
 have HLB4 := zh hlb4
 have HST4 := zh ((Stp.made (F := F) ((zT w5).drew)).trans hst4)
 clear hHeld ha4 ht4 hin6 hlb4 hst4
 have q1 := HIN4.out.blk.cell 1
 simp only [zG] at q1
 go_wp2_with fail
 refine (rdrem_c (i := j) (i : Int) HIN4.out.rl HJ.out.1 HJ.out.2 hrl).mono ?_
 rintro e w7 ⟨rfl, hr5, ht5⟩
 obtain ⟨lb5, F5, hin5, hlb5, hst5⟩ := HIN4.out.setRd HLB4.out hr5 (Stp.same ht5)
 have HE := zh (And.intro hin5 (And.intro hlb5 hst5))
 clear hr5 ht5 hin5 hlb5 hst5 q1
 go_wp2_with fail
 go_ret
 exact ⟨rfl, F5, ⟨pa, pl, lb5, HE.out.1, HE.out.2.1⟩, ((Stp.made HM3.out).trans HST4.out).trans HE.out.2.2⟩
theorem tsk_get (x : Tsk) {j : Nat} (hj : j < 8) : (tskA x)[4 + j]? = some (.int .i64 (x.regs.get j)) := by
 rcases lt8 hj with rfl | rfl | rfl | rfl | rfl | rfl | rfl | rfl <;> rfl
theorem tsk_set (pg pc st how : Int) (r : Reg) (ins : Ins) {j : Nat} (v : Int) (hj : j < 8) : (tskA ⟨pg, pc, st, how, r, ins⟩).setIfInBounds (4 + j) (.int .i64 v) = tskA ⟨pg, pc, st, how, r.set j v, ins⟩ := by
 rcases lt8 hj with rfl | rfl | rfl | rfl | rfl | rfl | rfl | rfl <;> rfl
def bitZ (b : Bool) : Int := if b then 1 else 0
theorem told_no {w : World} {b j k : Nat} {pg pc st how ia tk ks v : Int} {r : Reg} (hb : Blk w b 38 (tskA ⟨pg, pc, st, how, r, ⟨11, ia, j, k⟩⟩)) (hj : j < 8) (hk : k < 8) :
  Calls Tryz.prog 161 #[.pointer (some ⟨b, 0, none⟩), .agg #[.int .i64 tk, .int .i64 ks, .int .i64 v, .bool false, .bool false]] w fun e w' => e = .returned (.tuple #[]) ∧ Blk w' b 38 (tskA ⟨pg, pc, st, how, ((r.set j v).set k 0), ⟨11, ia, j, k⟩⟩) ∧ Turns (fun q => q = b) w w' := by
 have HM := zh (((zT w).alloc (.cells #[.int .i64 tk, .int .i64 ks, .int .i64 v, .bool false, .bool false] 207)).alloc (.cells #[.int .i64 11, .int .i64 ia, .int .i64 j, .int .i64 k, .slice none 0 0, .bool false] 25))
 have HB := zh (hb.turns HM.out (fun h => h))
 have HK := zh ((Blk.new w 207 #[.int .i64 tk, .int .i64 ks, .int .i64 v, .bool false, .bool false]).alloc (.cells #[.int .i64 11, .int .i64 ia, .int .i64 j, .int .i64 k, .slice none 0 0, .bool false] 25))
 have HI := Blk.new (w.alloc (.cells #[.int .i64 tk, .int .i64 ks, .int .i64 v, .bool false, .bool false] 207)) 25 #[.int .i64 11, .int .i64 ia, .int .i64 j, .int .i64 k, .slice none 0 0, .bool false]
 rw [World.size_alloc] at HI
 have HI := zh HI
 have hbl := hb.lt
 have z12 := (hb.alloc (.cells #[.int .i64 tk, .int .i64 ks, .int .i64 v, .bool false, .bool false] 207)).cell 12
 have z13 := (hb.alloc (.cells #[.int .i64 tk, .int .i64 ks, .int .i64 v, .bool false, .bool false] 207)).cell 13
 have z14 := (hb.alloc (.cells #[.int .i64 tk, .int .i64 ks, .int .i64 v, .bool false, .bool false] 207)).cell 14
 have z15 := (hb.alloc (.cells #[.int .i64 tk, .int .i64 ks, .int .i64 v, .bool false, .bool false] 207)).cell 15
 have z16 := (hb.alloc (.cells #[.int .i64 tk, .int .i64 ks, .int .i64 v, .bool false, .bool false] 207)).cell 16
 have z17 := (hb.alloc (.cells #[.int .i64 tk, .int .i64 ks, .int .i64 v, .bool false, .bool false] 207)).cell 17
 simp only [zG] at z12 z13 z14 z15 z16 z17
 clear hb
 go_enter Tryz.func161, Tryz.ntmps161
 go_upto_region 7 with fail
 clear z12 z13 z14 z15 z16 z17
 generalize (w.alloc (.cells #[.int .i64 tk, .int .i64 ks, .int .i64 v, .bool false, .bool false] 207)).alloc (.cells #[.int .i64 11, .int .i64 ia, .int .i64 j, .int .i64 k, .slice none 0 0, .bool false] 25) = V at *
 have jb1 : (0 : Int) ≤ (j : Int) := by omega
 have jb2 : (j : Int) < 8 := by omega
 have kb1 : (0 : Int) ≤ (k : Int) := by omega
 have kb2 : (k : Int) < 8 := by omega
 have HP := HB.out.put (4 + j) (.int .i64 v)
 rw [tsk_set _ _ _ _ _ _ _ hj] at HP
 have HP := zh HP
 have HG1 := zh ((HB.out.cell (4 + j)).trans (tsk_get _ hj))
 have HG2 := zh ((HP.out.cell (4 + k)).trans (tsk_get _ hk))
 refine wp_region_held_drew (S := fun w' => Blk w' (w.heap.size) 207 #[.int .i64 tk, .int .i64 ks, .int .i64 v, .bool false, .bool false] ∧ Blk w' (w.heap.size + 1) 25 #[.int .i64 11, .int .i64 ia, .int .i64 j, .int .i64 k, .slice none 0 0, .bool false] ∧ Turns (fun q => q = b) V w') (by kernel_rfl) ?_ (fun hHeld => ?_)
 ·exact ⟨HK.out, HI.out, (Turns.refl _ V).drew⟩
 refine tH 0 28 ?_ ?_ ?_;rotate_left
 ·intro w hSw
  go_simp
  try with_reducible rfl
 try simp only [zP]
 refine tH 1 29 ?_ ?_ ?_;rotate_left
 ·intro w hSw
  go_simp
  try with_reducible rfl
 try simp only [zP]
 refine tH 2 30 ?_ ?_ ?_;rotate_left
 ·intro w hSw
  have q0_0 := hSw.1.cell 0
  have q0_1 := hSw.1.cell 1
  have q0_2 := hSw.1.cell 2
  have q0_3 := hSw.1.cell 3
  have q0_4 := hSw.1.cell 4
  have q1_0 := hSw.2.1.cell 0
  have q1_1 := hSw.2.1.cell 1
  have q1_2 := hSw.2.1.cell 2
  have q1_3 := hSw.2.1.cell 3
  have q1_4 := hSw.2.1.cell 4
  have q1_5 := hSw.2.1.cell 5
  simp only [zG] at q0_0 q0_1 q0_2 q0_3 q0_4 q1_0 q1_1 q1_2 q1_3 q1_4 q1_5
  go_simp
  try with_reducible rfl
 try simp only [zP]
 refine tH 3 31 ?_ ?_ ?_;rotate_left
 ·intro w hSw
  go_simp
  try with_reducible rfl
 try simp only [zP]
 refine tH 4 32 ?_ ?_ ?_;rotate_left
 ·intro w hSw
  go_simp
  try with_reducible rfl
 try simp only [zP]
 refine tH 5 33 ?_ ?_ ?_;rotate_left
 ·intro w hSw
  have q0_0 := hSw.1.cell 0
  have q0_1 := hSw.1.cell 1
  have q0_2 := hSw.1.cell 2
  have q0_3 := hSw.1.cell 3
  have q0_4 := hSw.1.cell 4
  have q1_0 := hSw.2.1.cell 0
  have q1_1 := hSw.2.1.cell 1
  have q1_2 := hSw.2.1.cell 2
  have q1_3 := hSw.2.1.cell 3
  have q1_4 := hSw.2.1.cell 4
  have q1_5 := hSw.2.1.cell 5
  simp only [zG] at q0_0 q0_1 q0_2 q0_3 q0_4 q1_0 q1_1 q1_2 q1_3 q1_4 q1_5
  go_simp
  try with_reducible rfl
 try simp only [zP]
 refine tH 6 34 ?_ ?_ ?_;rotate_left
 ·intro w hSw
  go_simp
  try with_reducible rfl
 try simp only [zP]
 refine tH 7 35 ?_ ?_ ?_;rotate_left
 ·intro w hSw
  have q0_0 := hSw.1.cell 0
  have q0_1 := hSw.1.cell 1
  have q0_2 := hSw.1.cell 2
  have q0_3 := hSw.1.cell 3
  have q0_4 := hSw.1.cell 4
  have q1_0 := hSw.2.1.cell 0
  have q1_1 := hSw.2.1.cell 1
  have q1_2 := hSw.2.1.cell 2
  have q1_3 := hSw.2.1.cell 3
  have q1_4 := hSw.2.1.cell 4
  have q1_5 := hSw.2.1.cell 5
  simp only [zG] at q0_0 q0_1 q0_2 q0_3 q0_4 q1_0 q1_1 q1_2 q1_3 q1_4 q1_5
  go_simp
  try with_reducible rfl
 try simp only [zP]
 refine tH 8 36 ?_ ?_ ?_;rotate_left
 ·intro w hSw
  go_simp
  try with_reducible rfl
 try simp only [zP]
 refine tH 9 37 ?_ ?_ ?_;rotate_left
 ·intro w hSw
  go_simp
  try with_reducible rfl
 try simp only [zP]
 refine tH 10 38 ?_ ?_ ?_;rotate_left
 ·intro w hSw
  go_simp
  try with_reducible rfl
 try simp only [zP]
 refine tH 12 39 ?_ ?_ ?_;rotate_left
 ·intro w hSw
  go_simp
  try with_reducible rfl
 try simp only [zP]
 refine tH 13 40 ?_ ?_ ?_;rotate_left
 ·intro w hSw
  go_simp
  try with_reducible rfl
 try simp only [zP]
 refine zR 11 fun K hK => ?_
 have qz : V.drew.cell? ⟨b, 4 + j, none⟩ = _ := HG1.out
 have qf : V.drew.frozen? ⟨b, 4 + j, none⟩ = _ := HB.out.free (4 + j)
 simp only [World.cell?_drew, World.frozen?_drew] at qz qf
 go_simp
 refine hK.out _ _ ?_ (fun hHeld => ?_)
 ·exact ⟨hHeld.1.far (p := ⟨b, 4 + j, none⟩) (fun e => by simp only at e; omega) _, hHeld.2.1.far (p := ⟨b, 4 + j, none⟩) (fun e => by simp only at e; omega) _, hHeld.2.2.setCell (p := ⟨b, 4 + j, none⟩) (fun _ => rfl) _⟩
 clear hK K
 try simp only [zP]
 refine tH 14 41 ?_ ?_ ?_;rotate_left
 ·intro w hSw
  go_simp
  try with_reducible rfl
 try simp only [zP]
 refine zR 15 fun K hK => ?_
 have qz := HG2.out
 have qf := HP.out.free (4 + k)
 go_simp
 refine hK.out _ _ ?_ (fun hHeld => ?_)
 ·exact ⟨hHeld.1.far (p := ⟨b, 4 + k, none⟩) (fun e => by simp only at e; omega) _, hHeld.2.1.far (p := ⟨b, 4 + k, none⟩) (fun e => by simp only at e; omega) _, hHeld.2.2.setCell (p := ⟨b, 4 + k, none⟩) (fun _ => rfl) _⟩
 clear hK K
 try simp only [zP]
 refine wpAnyH_done (by kernel_rfl) ?_ _
 have HP2 := HP.out.put (4 + k) (.int .i64 0)
 rw [tsk_set _ _ _ _ _ _ _ hk] at HP2
 have HP2 : Hid (Blk ((V.setCell ⟨b, 4 + j, none⟩ (.int .i64 v)).setCell ⟨b, 4 + k, none⟩ (.int .i64 0)).drew b 38 _) := zh HP2
 have HK2 : Hid (Blk ((V.setCell ⟨b, 4 + j, none⟩ (.int .i64 v)).setCell ⟨b, 4 + k, none⟩ (.int .i64 0)).drew w.heap.size 207 #[.int .i64 tk, .int .i64 ks, .int .i64 v, .bool false, .bool false]) := zh hHeld.1
 have HI2 : Hid (Blk ((V.setCell ⟨b, 4 + j, none⟩ (.int .i64 v)).setCell ⟨b, 4 + k, none⟩ (.int .i64 0)).drew (w.heap.size + 1) 25 #[.int .i64 11, .int .i64 ia, .int .i64 j, .int .i64 k, .slice none 0 0, .bool false]) := zh hHeld.2.1
 have HT2 : Hid (Turns (fun q => q = b) w ((V.setCell ⟨b, 4 + j, none⟩ (.int .i64 v)).setCell ⟨b, 4 + k, none⟩ (.int .i64 0)).drew) := zh ((HM.out.mono (S' := fun q => q = b) (fun _ _ h => h.elim)).trans hHeld.2.2)
 clear hHeld
 generalize ((V.setCell ⟨b, 4 + j, none⟩ (.int .i64 v)).setCell ⟨b, 4 + k, none⟩ (.int .i64 0)).drew = V2 at *
 have y3 := HK2.out.cell 3
 simp only [zG] at y3
 go_wp2_with fail
 go_end0
 exact ⟨rfl, HP2.out, HT2.out⟩
theorem told_yes {w : World} {b j k : Nat} {pg pc st how ia tk ks v : Int} {r : Reg} (hb : Blk w b 38 (tskA ⟨pg, pc, st, how, r, ⟨11, ia, j, k⟩⟩)) (hj : j < 8) (hk : k < 8) :
  Calls Tryz.prog 161 #[.pointer (some ⟨b, 0, none⟩), .agg #[.int .i64 tk, .int .i64 ks, .int .i64 v, .bool true, .bool false]] w fun e w' => e = .returned (.tuple #[]) ∧ Blk w' b 38 (tskA ⟨pg, pc, st, how, (((r.set j v).set k 1)), ⟨11, ia, j, k⟩⟩) ∧ Turns (fun q => q = b) w w' := by
 have HM := zh (((zT w).alloc (.cells #[.int .i64 tk, .int .i64 ks, .int .i64 v, .bool true, .bool false] 207)).alloc (.cells #[.int .i64 11, .int .i64 ia, .int .i64 j, .int .i64 k, .slice none 0 0, .bool false] 25))
 have HB := zh (hb.turns HM.out (fun h => h))
 have HK := zh ((Blk.new w 207 #[.int .i64 tk, .int .i64 ks, .int .i64 v, .bool true, .bool false]).alloc (.cells #[.int .i64 11, .int .i64 ia, .int .i64 j, .int .i64 k, .slice none 0 0, .bool false] 25))
 have HI := Blk.new (w.alloc (.cells #[.int .i64 tk, .int .i64 ks, .int .i64 v, .bool true, .bool false] 207)) 25 #[.int .i64 11, .int .i64 ia, .int .i64 j, .int .i64 k, .slice none 0 0, .bool false]
 rw [World.size_alloc] at HI
 have HI := zh HI
 have hbl := hb.lt
 have z12 := (hb.alloc (.cells #[.int .i64 tk, .int .i64 ks, .int .i64 v, .bool true, .bool false] 207)).cell 12
 have z13 := (hb.alloc (.cells #[.int .i64 tk, .int .i64 ks, .int .i64 v, .bool true, .bool false] 207)).cell 13
 have z14 := (hb.alloc (.cells #[.int .i64 tk, .int .i64 ks, .int .i64 v, .bool true, .bool false] 207)).cell 14
 have z15 := (hb.alloc (.cells #[.int .i64 tk, .int .i64 ks, .int .i64 v, .bool true, .bool false] 207)).cell 15
 have z16 := (hb.alloc (.cells #[.int .i64 tk, .int .i64 ks, .int .i64 v, .bool true, .bool false] 207)).cell 16
 have z17 := (hb.alloc (.cells #[.int .i64 tk, .int .i64 ks, .int .i64 v, .bool true, .bool false] 207)).cell 17
 simp only [zG] at z12 z13 z14 z15 z16 z17
 clear hb
 go_enter Tryz.func161, Tryz.ntmps161
 go_upto_region 7 with fail
 clear z12 z13 z14 z15 z16 z17
 generalize (w.alloc (.cells #[.int .i64 tk, .int .i64 ks, .int .i64 v, .bool true, .bool false] 207)).alloc (.cells #[.int .i64 11, .int .i64 ia, .int .i64 j, .int .i64 k, .slice none 0 0, .bool false] 25) = V at *
 have jb1 : (0 : Int) ≤ (j : Int) := by omega
 have jb2 : (j : Int) < 8 := by omega
 have kb1 : (0 : Int) ≤ (k : Int) := by omega
 have kb2 : (k : Int) < 8 := by omega
 have HP := HB.out.put (4 + j) (.int .i64 v)
 rw [tsk_set _ _ _ _ _ _ _ hj] at HP
 have HP := zh HP
 have HG1 := zh ((HB.out.cell (4 + j)).trans (tsk_get _ hj))
 have HG2 := zh ((HP.out.cell (4 + k)).trans (tsk_get _ hk))
 refine wp_region_held_drew (S := fun w' => Blk w' (w.heap.size) 207 #[.int .i64 tk, .int .i64 ks, .int .i64 v, .bool true, .bool false] ∧ Blk w' (w.heap.size + 1) 25 #[.int .i64 11, .int .i64 ia, .int .i64 j, .int .i64 k, .slice none 0 0, .bool false] ∧ Turns (fun q => q = b) V w') (by kernel_rfl) ?_ (fun hHeld => ?_)
 ·exact ⟨HK.out, HI.out, (Turns.refl _ V).drew⟩
 refine tH 0 28 ?_ ?_ ?_;rotate_left
 ·intro w hSw
  go_simp
  try with_reducible rfl
 try simp only [zP]
 refine tH 1 29 ?_ ?_ ?_;rotate_left
 ·intro w hSw
  go_simp
  try with_reducible rfl
 try simp only [zP]
 refine tH 2 30 ?_ ?_ ?_;rotate_left
 ·intro w hSw
  have q0_0 := hSw.1.cell 0
  have q0_1 := hSw.1.cell 1
  have q0_2 := hSw.1.cell 2
  have q0_3 := hSw.1.cell 3
  have q0_4 := hSw.1.cell 4
  have q1_0 := hSw.2.1.cell 0
  have q1_1 := hSw.2.1.cell 1
  have q1_2 := hSw.2.1.cell 2
  have q1_3 := hSw.2.1.cell 3
  have q1_4 := hSw.2.1.cell 4
  have q1_5 := hSw.2.1.cell 5
  simp only [zG] at q0_0 q0_1 q0_2 q0_3 q0_4 q1_0 q1_1 q1_2 q1_3 q1_4 q1_5
  go_simp
  try with_reducible rfl
 try simp only [zP]
 refine tH 3 31 ?_ ?_ ?_;rotate_left
 ·intro w hSw
  go_simp
  try with_reducible rfl
 try simp only [zP]
 refine tH 4 32 ?_ ?_ ?_;rotate_left
 ·intro w hSw
  go_simp
  try with_reducible rfl
 try simp only [zP]
 refine tH 5 33 ?_ ?_ ?_;rotate_left
 ·intro w hSw
  have q0_0 := hSw.1.cell 0
  have q0_1 := hSw.1.cell 1
  have q0_2 := hSw.1.cell 2
  have q0_3 := hSw.1.cell 3
  have q0_4 := hSw.1.cell 4
  have q1_0 := hSw.2.1.cell 0
  have q1_1 := hSw.2.1.cell 1
  have q1_2 := hSw.2.1.cell 2
  have q1_3 := hSw.2.1.cell 3
  have q1_4 := hSw.2.1.cell 4
  have q1_5 := hSw.2.1.cell 5
  simp only [zG] at q0_0 q0_1 q0_2 q0_3 q0_4 q1_0 q1_1 q1_2 q1_3 q1_4 q1_5
  go_simp
  try with_reducible rfl
 try simp only [zP]
 refine tH 6 34 ?_ ?_ ?_;rotate_left
 ·intro w hSw
  go_simp
  try with_reducible rfl
 try simp only [zP]
 refine tH 7 35 ?_ ?_ ?_;rotate_left
 ·intro w hSw
  have q0_0 := hSw.1.cell 0
  have q0_1 := hSw.1.cell 1
  have q0_2 := hSw.1.cell 2
  have q0_3 := hSw.1.cell 3
  have q0_4 := hSw.1.cell 4
  have q1_0 := hSw.2.1.cell 0
  have q1_1 := hSw.2.1.cell 1
  have q1_2 := hSw.2.1.cell 2
  have q1_3 := hSw.2.1.cell 3
  have q1_4 := hSw.2.1.cell 4
  have q1_5 := hSw.2.1.cell 5
  simp only [zG] at q0_0 q0_1 q0_2 q0_3 q0_4 q1_0 q1_1 q1_2 q1_3 q1_4 q1_5
  go_simp
  try with_reducible rfl
 try simp only [zP]
 refine tH 8 36 ?_ ?_ ?_;rotate_left
 ·intro w hSw
  go_simp
  try with_reducible rfl
 try simp only [zP]
 refine tH 9 37 ?_ ?_ ?_;rotate_left
 ·intro w hSw
  go_simp
  try with_reducible rfl
 try simp only [zP]
 refine tH 10 38 ?_ ?_ ?_;rotate_left
 ·intro w hSw
  go_simp
  try with_reducible rfl
 try simp only [zP]
 refine tH 12 39 ?_ ?_ ?_;rotate_left
 ·intro w hSw
  go_simp
  try with_reducible rfl
 try simp only [zP]
 refine tH 13 40 ?_ ?_ ?_;rotate_left
 ·intro w hSw
  go_simp
  try with_reducible rfl
 try simp only [zP]
 refine zR 11 fun K hK => ?_
 have qz : V.drew.cell? ⟨b, 4 + j, none⟩ = _ := HG1.out
 have qf : V.drew.frozen? ⟨b, 4 + j, none⟩ = _ := HB.out.free (4 + j)
 simp only [World.cell?_drew, World.frozen?_drew] at qz qf
 go_simp
 refine hK.out _ _ ?_ (fun hHeld => ?_)
 ·exact ⟨hHeld.1.far (p := ⟨b, 4 + j, none⟩) (fun e => by simp only at e; omega) _, hHeld.2.1.far (p := ⟨b, 4 + j, none⟩) (fun e => by simp only at e; omega) _, hHeld.2.2.setCell (p := ⟨b, 4 + j, none⟩) (fun _ => rfl) _⟩
 clear hK K
 try simp only [zP]
 refine tH 14 41 ?_ ?_ ?_;rotate_left
 ·intro w hSw
  go_simp
  try with_reducible rfl
 try simp only [zP]
 refine zR 15 fun K hK => ?_
 have qz := HG2.out
 have qf := HP.out.free (4 + k)
 go_simp
 refine hK.out _ _ ?_ (fun hHeld => ?_)
 ·exact ⟨hHeld.1.far (p := ⟨b, 4 + k, none⟩) (fun e => by simp only at e; omega) _, hHeld.2.1.far (p := ⟨b, 4 + k, none⟩) (fun e => by simp only at e; omega) _, hHeld.2.2.setCell (p := ⟨b, 4 + k, none⟩) (fun _ => rfl) _⟩
 clear hK K
 try simp only [zP]
 refine wpAnyH_done (by kernel_rfl) ?_ _
 have HP2 := HP.out.put (4 + k) (.int .i64 0)
 rw [tsk_set _ _ _ _ _ _ _ hk] at HP2
 have HP2 : Hid (Blk ((V.setCell ⟨b, 4 + j, none⟩ (.int .i64 v)).setCell ⟨b, 4 + k, none⟩ (.int .i64 0)).drew b 38 _) := zh HP2
 have HK2 : Hid (Blk ((V.setCell ⟨b, 4 + j, none⟩ (.int .i64 v)).setCell ⟨b, 4 + k, none⟩ (.int .i64 0)).drew w.heap.size 207 #[.int .i64 tk, .int .i64 ks, .int .i64 v, .bool true, .bool false]) := zh hHeld.1
 have HI2 : Hid (Blk ((V.setCell ⟨b, 4 + j, none⟩ (.int .i64 v)).setCell ⟨b, 4 + k, none⟩ (.int .i64 0)).drew (w.heap.size + 1) 25 #[.int .i64 11, .int .i64 ia, .int .i64 j, .int .i64 k, .slice none 0 0, .bool false]) := zh hHeld.2.1
 have HT2 : Hid (Turns (fun q => q = b) w ((V.setCell ⟨b, 4 + j, none⟩ (.int .i64 v)).setCell ⟨b, 4 + k, none⟩ (.int .i64 0)).drew) := zh ((HM.out.mono (S' := fun q => q = b) (fun _ _ h => h.elim)).trans hHeld.2.2)
 clear hHeld
 generalize ((V.setCell ⟨b, 4 + j, none⟩ (.int .i64 v)).setCell ⟨b, 4 + k, none⟩ (.int .i64 0)).drew = V2 at *
 have y3 := HK2.out.cell 3
 simp only [zG] at y3
 go_upto_region 9 with fail
 clear y3
 have HG3 := zh ((HP2.out.cell (4 + k)).trans (tsk_get _ hk))
 refine wp_region_held_drew (S := fun w' => Blk w' (w.heap.size + 1) 25 #[.int .i64 11, .int .i64 ia, .int .i64 j, .int .i64 k, .slice none 0 0, .bool false] ∧ Turns (fun q => q = b) V2 w') (by kernel_rfl) ?_ (fun hHeld => ?_)
 ·exact ⟨HI2.out, (Turns.refl _ V2).drew⟩
 refine tH 0 44 ?_ ?_ ?_;rotate_left
 ·intro w hSw
  go_simp
  try with_reducible rfl
 try simp only [zP]
 refine tH 1 45 ?_ ?_ ?_;rotate_left
 ·intro w hSw
  go_simp
  try with_reducible rfl
 try simp only [zP]
 refine tH 2 46 ?_ ?_ ?_;rotate_left
 ·intro w hSw
  have q0_0 := hSw.1.cell 0
  have q0_1 := hSw.1.cell 1
  have q0_2 := hSw.1.cell 2
  have q0_3 := hSw.1.cell 3
  have q0_4 := hSw.1.cell 4
  have q0_5 := hSw.1.cell 5
  simp only [zG] at q0_0 q0_1 q0_2 q0_3 q0_4 q0_5
  go_simp
  try with_reducible rfl
 try simp only [zP]
 refine tH 3 47 ?_ ?_ ?_;rotate_left
 ·intro w hSw
  go_simp
  try with_reducible rfl
 try simp only [zP]
 refine tH 4 48 ?_ ?_ ?_;rotate_left
 ·intro w hSw
  go_simp
  try with_reducible rfl
 try simp only [zP]
 refine tH 5 49 ?_ ?_ ?_;rotate_left
 ·intro w hSw
  go_simp
  try with_reducible rfl
 try simp only [zP]
 refine zR 6 fun K hK => ?_
 have qz : V2.drew.cell? ⟨b, 4 + k, none⟩ = _ := HG3.out
 have qf : V2.drew.frozen? ⟨b, 4 + k, none⟩ = _ := HP2.out.free (4 + k)
 simp only [World.cell?_drew, World.frozen?_drew] at qz qf
 go_simp
 refine hK.out _ _ ?_ (fun hHeld => ?_)
 ·exact ⟨hHeld.1.far (p := ⟨b, 4 + k, none⟩) (fun e => by simp only at e; omega) _, hHeld.2.setCell (p := ⟨b, 4 + k, none⟩) (fun _ => rfl) _⟩
 clear hK K
 try simp only [zP]
 refine wpAnyH_done (by kernel_rfl) ?_ _
 have HP3 := HP2.out.put (4 + k) (.int .i64 1)
 rw [tsk_set _ _ _ _ _ _ _ hk] at HP3
 have e1 : ((r.set j v).set k 0).set k 1 = (r.set j v).set k 1 := by
  rcases lt8 hk with rfl | rfl | rfl | rfl | rfl | rfl | rfl | rfl <;> rfl
 rw [e1] at HP3
 have HP3 := zh HP3
 have HT3 := zh (HT2.out.trans hHeld.2)
 clear hHeld e1
 go_wp2_with fail
 go_end0
 exact ⟨rfl, HP3.out, HT3.out⟩
end Go.Proofs.YtjnkphhlkoapbaaGreat
