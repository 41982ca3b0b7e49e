/-
  Walks and laws under LawTopCancels, part 10.
-/
import Derived.Test.YtjnkphhlkoapbaaGreatPc9
set_option linter.unusedVariables false
set_option linter.unusedSimpArgs false
set_option maxRecDepth 100000
set_option maxHeartbeats 16000000
namespace Go.Proofs.YtjnkphhlkoapbaaGreat
open Go.RowKit
def sigS (s : Wst) : Wst := { s with chs := s.chs ++ [(s.chs.length, ⟨false, true, false, false, none, []⟩)] }
inductive ActX : Wst → Cs → Ins → Reg → Wst → Cs → Reg → Prop
 | cancels {s : Wst} {k : Cs} {a bb cc n0 : Nat} {r : Reg} {x : Cx} (ha : a < 8 ∧ bb < 8 ∧ cc < 8) (hi : r.get bb = n0) (hlen : k.cs.length = n0 + 1) (hcut : k.cut = n0 + 1) (hn : n0 ≤ 50) (hx : k.cs[n0]? = some x) (he : x.err = 0) : ActX s k ⟨22, a, bb, cc⟩ r (sigS s) (mkC k n0 x.when x.has false (-1) s.chs.length) (r.set a (n0 + 1 : Nat))
 | dlAs {s : Wst} {k : Cs} {a bb cc n0 : Nat} {r : Reg} {x : Cx} {op when_ : Int} (hop : op = 23 ∧ when_ = r.get cc ∨ op = 24 ∧ when_ = addZ s.now (r.get cc)) (ha : a < 8 ∧ bb < 8 ∧ cc < 8) (hi : r.get bb = n0) (hlen : k.cs.length = n0 + 1) (hcut : k.cut = n0 + 1) (hn : n0 ≤ 50) (hx : k.cs[n0]? = some x) (he : x.err = 0) (hw : 0 ≤ when_ ∧ when_ ≤ 4611686018427387904) (hh : x.has = true) (hle : x.when ≤ when_) : ActX s k ⟨op, a, bb, cc⟩ r (sigS s) (mkC k n0 x.when x.has false (-1) s.chs.length) (r.set a (n0 + 1 : Nat))
 | dlOwn {s : Wst} {k : Cs} {a bb cc n0 : Nat} {r : Reg} {x : Cx} {op when_ : Int} (hop : op = 23 ∧ when_ = r.get cc ∨ op = 24 ∧ when_ = addZ s.now (r.get cc)) (ha : a < 8 ∧ bb < 8 ∧ cc < 8) (hi : r.get bb = n0) (hlen : k.cs.length = n0 + 1) (hcut : k.cut = n0 + 1) (hn : n0 ≤ 50) (hx : k.cs[n0]? = some x) (he : x.err = 0) (hw : 0 ≤ when_ ∧ when_ ≤ 4611686018427387904) (hno : x.has = true → when_ < x.when) (hnow : s.now < when_) : ActX s k ⟨op, a, bb, cc⟩ r (sigS (dlS s n0 when_)) (mkC k n0 when_ true true s.tms.length s.chs.length) (r.set a (n0 + 1 : Nat))
 | err {s : Wst} {k : Cs} {a bb cc i : Nat} {r : Reg} {y : Cx} (ha : a < 8 ∧ bb < 8) (hi : r.get a = i) (hy : k.cs[i]? = some y) (hn : k.cs.length ≤ 60) : ActX s k ⟨27, a, bb, cc⟩ r s k (r.set bb y.err)
 | done {s : Wst} {k : Cs} {a bb cc i j : Nat} {r : Reg} {y : Cx} {q : Nat × Chn} (ha : a < 8 ∧ bb < 8) (hi : r.get a = i) (hy : k.cs[i]? = some y) (hn : k.cs.length ≤ 60) (hyc : y.c = some j) (hch : s.chs[j]? = some q) : ActX s k ⟨29, a, bb, cc⟩ r s k (r.set bb j)
 | untl {s : Wst} {k : Cs} {a bb cc i : Nat} {r : Reg} {y : Cx} (ha : a < 8 ∧ bb < 8 ∧ cc < 8) (hi : r.get a = i) (hy : k.cs[i]? = some y) (hn : k.cs.length ≤ 60) : ActX s k ⟨30, a, bb, cc⟩ r s k ((r.set bb y.when).set cc (bitZ y.has))
 | again {s : Wst} {k : Cs} {a bb cc i : Nat} {r : Reg} {y : Cx} {cause : Int} (ha : a < 8 ∧ bb < 8) (hi : r.get a = i) (hca : r.get bb = cause) (h1 : 1 ≤ cause) (hy : k.cs[i]? = some y) (hn : k.cs.length ≤ 60) (hf : y.free = false) (he : y.err ≠ 0) : ActX s k ⟨26, a, bb, cc⟩ r s k r
 | cancel {s : Wst} {k : Cs} {a bb cc i : Nat} {r : Reg} {y : Cx} {cause : Int} {D : List Cd} (ha : a < 8 ∧ bb < 8) (hi : r.get a = i) (hca : r.get bb = cause) (h1 : 1 ≤ cause) (hy : k.cs[i]? = some y) (hn : k.cs.length ≤ 60) (hf : y.free = false) (hD : CanI D i s k) (hok : LapI 1 cause (canO D i) (canS D s)) : ActX s k ⟨26, a, bb, cc⟩ r (lapS 1 cause (canO D i) (canS D s)) (canCs 1 cause D i k) r
section
variable {cps : List Nat} {s : Wst} {k : Cs}
theorem conc_sig {cp : Nat} (hi : AInv s) (hl : cps.length = s.chs.length) : conc (cps ++ [cp]) (sigS s) = { conc cps s with chs := (conc cps s).chs ++ [(cp, ⟨false, true, false, false, none, []⟩)] } := by
 have h3 : s.chs.map (fun q : Nat × Chn => ((cps ++ [cp]).getD q.1 0, q.2)) = s.chs.map (fun q => (cps.getD q.1 0, q.2)) := by
  refine List.map_congr_left fun q hq => ?_
  obtain ⟨i, hiq⟩ := List.getElem?_of_mem hq
  rw [hi.idx i q hiq, getD_snoc hl (List.getElem?_eq_some_iff.1 hiq).1]
 have h4 : s.tms.map (fun t : Tk => (⟨t.kind, t.data, t.c.map (fun i => (cps ++ [cp]).getD i 0)⟩ : Tk)) = s.tms.map (fun t => ⟨t.kind, t.data, t.c.map (fun i => cps.getD i 0)⟩) := by
  refine List.map_congr_left fun t ht => ?_
  cases hc : t.c with
  | none => rfl
  | some i => simp only [Option.map_some, getD_snoc hl (hi.tmc t ht i hc)]
 unfold sigS conc
 simp only [List.map_append, List.map_cons, List.map_nil, h3, h4, getD_last hl]
theorem concK_mk {cp n0 : Nat} {wh tm : Int} {hs ow : Bool} (hc : CInv s k) (hl : cps.length = s.chs.length) : concK (cps ++ [cp]) (mkC k n0 wh hs ow tm s.chs.length) = mkC (concK cps k) n0 wh hs ow tm cp := by
 have h1 := concK_pre hc hl (List.prefix_append cps [cp])
 unfold concK at h1
 simp only [Cs.mk.injEq, and_true] at h1
 unfold mkC concK
 simp only [List.map_append, List.map_cons, List.map_nil, h1, cxM, Option.map_some, getD_last hl]
theorem conc_dlS (n0 : Nat) (when_ : Int) : conc cps (dlS s n0 when_) = dlS (conc cps s) n0 when_ := by
 unfold conc dlS
 simp only [List.map_append, List.map_cons, List.map_nil, Option.map_none, List.length_map]
theorem dlS_inv {n0 : Nat} {when_ : Int} (hi : AInv s) : AInv (dlS s n0 when_) := by
 refine ⟨hi.idx, fun t ht i hc => ?_⟩
 have ht2 : t ∈ s.tms ++ [⟨4, (n0 : Int) + 1, none⟩] := ht
 rcases List.mem_append.1 ht2 with h1 | h1
 ·exact hi.tmc t h1 i hc
 ·simp only [List.mem_singleton] at h1
  subst h1
  cases hc
theorem CInv.mk' {n0 : Nat} {wh tm : Int} {hs ow : Bool} {s2 : Wst} (h : CInv s k) (hl : s2.chs.length = s.chs.length) : CInv (sigS s2) (mkC k n0 wh hs ow tm s2.chs.length) := by
 intro x hx i hi
 have hx2 : x ∈ k.cs ++ [⟨(n0 : Int) + 1, false, some s2.chs.length, 0, 0, wh, hs, ow, tm⟩] := hx
 show i < (s2.chs ++ [_]).length
 rw [List.length_append]
 rcases List.mem_append.1 hx2 with h1 | h1
 ·have := h x h1 i hi
  omega
 ·simp only [List.mem_singleton] at h1
  subst h1
  cases hi
  simp
def ActXP (b : Wp) (ps : List (List Ins)) (g : Nat) (w : World) (o : Nat → Nat) (s2 : Wst) (k2 : Cs) (r2 : Reg) (w' : World) : Prop :=
 ∃ o' x2, WX w' b o' ps s2 k2 ∧ AStp w w' o o' g ∧ Blk w' g 131 (acA b.pb x2) ∧ x2.how = 0 ∧ x2.parks = false ∧ x2.regs = r2
theorem act_X {w : World} {b : Wp} {o : Nat → Nat} {ps : List (List Ins)} {s2 : Wst} {k2 : Cs} {r2 : Reg} {g i : Nat} {ins : Ins} {r : Reg} {dd : Int} (hW : WX w b o ps s k) (hl : Lim s) (hb : Blk w g 131 (acA b.pb ⟨i, ins, r, r, dd, 0, false⟩)) (hg : ¬ Own o g) (hf : ActX s k ins r s2 k2 r2) :
  Calls Tryz.prog 50 #[.pointer (some ⟨g, 0, none⟩)] w fun e w' => e = .returned (.tuple #[]) ∧ ActXP b ps g w o s2 k2 r2 w' := by
 obtain ⟨hi, hc, cps, hcl, hw⟩ := hW
 obtain ⟨l1, l2, l3, l4, l5, l6, l7, l8, l9, l10, l11, l12, l13, l14, l15⟩ := hl
 have hcc : (conc cps s).chs.length = s.chs.length := by show (s.chs.map _).length = _; rw [List.length_map]
 have hct : (conc cps s).tms.length = s.tms.length := by show (s.tms.map _).length = _; rw [List.length_map]
 have hck : (concK cps k).cs.length = k.cs.length := by show (k.cs.map _).length = _; rw [List.length_map]
 have hget : ∀ (j : Nat) (x : Cx), k.cs[j]? = some x → (concK cps k).cs[j]? = some (cxM cps x) := fun j x h => by
  show (k.cs.map _)[j]? = _
  rw [List.getElem?_map, h]
  rfl
 cases hf with
 | @cancels a bb cc n0 _ x ha hri hlen hcut hn hx he =>
  refine acdo_22 hb rfl ((accontext_22 (a := a) (bb := bb) (cc := cc) (n0 := n0) (id := n0 + 1) (k' := mkC (concK cps k) n0 (cxM cps x).when (cxM cps x).has false (-1)) hw hb hg rfl rfl rfl rfl ha.1 ha.2.1 ha.2.2 hri (fun w1 h1 => mk22 h1 (by rw [hck]; exact hlen) hcut hn (hget _ _ hx) he) (fun cp => mkC_get cp (by rw [hck]; exact hlen)) (fun cp => by rw [mkC_len, hck]; omega) (by rw [hcc]; omega)).mono ?_)
  rintro e w2 ⟨rfl, o2, cp, h6, h7, h8⟩
  refine ⟨rfl, o2, _, ⟨hi.snoc (m := s.made), CInv.mk' hc rfl, cps ++ [cp], by simp [sigS, hcl], ?_⟩, h7, h8, rfl, rfl, rfl⟩
  rw [conc_sig hi hcl, concK_mk hc hcl]
  exact h6
 | @dlAs a bb cc n0 _ x op when_ hop ha hri hlen hcut hn hx he hwn hh hle =>
  rcases hop with ⟨rfl, hwe⟩ | ⟨rfl, hwe⟩
  ·refine acdo_23 hb rfl ((accontext_23 (a := a) (bb := bb) (cc := cc) (n0 := n0) (id := n0 + 1) (k' := mkC (concK cps k) n0 (cxM cps x).when (cxM cps x).has false (-1)) hw hb hg rfl rfl rfl rfl ha.1 ha.2.1 ha.2.2 hri (fun w1 h1 => by rw [← hwe]; exact mk23_0 h1 (by rw [hck]; exact hlen) hcut hn (hget _ _ hx) he hwn hh hle) (fun cp => mkC_get cp (by rw [hck]; exact hlen)) (fun cp => by rw [mkC_len, hck]; omega) (by rw [hcc]; omega)).mono ?_)
   rintro e w2 ⟨rfl, o2, cp, h6, h7, h8⟩
   refine ⟨rfl, o2, _, ⟨hi.snoc (m := s.made), CInv.mk' hc rfl, cps ++ [cp], by simp [sigS, hcl], ?_⟩, h7, h8, rfl, rfl, rfl⟩
   rw [conc_sig hi hcl, concK_mk hc hcl]
   exact h6
  ·refine acdo_24 hb rfl ((accontext_24 (a := a) (bb := bb) (cc := cc) (n0 := n0) (id := n0 + 1) (k' := mkC (concK cps k) n0 (cxM cps x).when (cxM cps x).has false (-1)) hw hb hg rfl rfl rfl rfl ha.1 ha.2.1 ha.2.2 hri (fun w1 h1 => by rw [show addZ (conc cps s).now _ = when_ from hwe.symm]; exact mk23_0 h1 (by rw [hck]; exact hlen) hcut hn (hget _ _ hx) he hwn hh hle) (fun cp => mkC_get cp (by rw [hck]; exact hlen)) (fun cp => by rw [mkC_len, hck]; omega) (by rw [hcc]; omega)).mono ?_)
   rintro e w2 ⟨rfl, o2, cp, h6, h7, h8⟩
   refine ⟨rfl, o2, _, ⟨hi.snoc (m := s.made), CInv.mk' hc rfl, cps ++ [cp], by simp [sigS, hcl], ?_⟩, h7, h8, rfl, rfl, rfl⟩
   rw [conc_sig hi hcl, concK_mk hc hcl]
   exact h6
 | @dlOwn a bb cc n0 _ x op when_ hop ha hri hlen hcut hn hx he hwn hno hnow =>
  have hmk : ∀ w1, WW (CXs b (concK cps k)) w1 b o ps (conc cps s) → Calls Tryz.prog 138 #[.pointer (some ⟨b.px, 0, none⟩), .int .i64 n0, .int .i64 when_, .int .i64 (conc cps s).now] w1 (MkP b ps (dlS (conc cps s) n0 when_) (mkC (concK cps k) n0 when_ true true (conc cps s).tms.length) (n0 + 1) w1 o) := fun w1 h1 => mk23_1 h1 (by rw [hck]; exact hlen) hcut hn (hget _ _ hx) he hwn hno hnow (by rw [hct]; omega) ⟨l14, by show s.named ≤ 64; omega⟩ (by show s.sq < 1000000; omega)
  have hfin : ∀ cp, AInv (sigS (dlS s n0 when_)) ∧ CInv (sigS (dlS s n0 when_)) (mkC k n0 when_ true true s.tms.length s.chs.length) ∧ (cps ++ [cp]).length = (sigS (dlS s n0 when_)).chs.length ∧ conc (cps ++ [cp]) (sigS (dlS s n0 when_)) = { dlS (conc cps s) n0 when_ with chs := (dlS (conc cps s) n0 when_).chs ++ [(cp, ⟨false, true, false, false, none, []⟩)] } ∧ concK (cps ++ [cp]) (mkC k n0 when_ true true s.tms.length s.chs.length) = mkC (concK cps k) n0 when_ true true (conc cps s).tms.length cp := fun cp => by
   have hdi := dlS_inv (n0 := n0) (when_ := when_) hi
   refine ⟨hdi.snoc (m := s.made), CInv.mk' (s2 := dlS s n0 when_) hc rfl, by simp [sigS, dlS, hcl], ?_, ?_⟩
   ·rw [conc_sig hdi hcl, conc_dlS]
   ·rw [hct]
    exact concK_mk hc hcl
  rcases hop with ⟨rfl, hwe⟩ | ⟨rfl, hwe⟩
  ·refine acdo_23 hb rfl ((accontext_23 (a := a) (bb := bb) (cc := cc) (n0 := n0) (id := n0 + 1) (k' := mkC (concK cps k) n0 when_ true true (conc cps s).tms.length) hw hb hg rfl rfl rfl rfl ha.1 ha.2.1 ha.2.2 hri (fun w1 h1 => by rw [← hwe]; exact hmk w1 h1) (fun cp => mkC_get cp (by rw [hck]; exact hlen)) (fun cp => by rw [mkC_len, hck]; omega) (by show (conc cps s).chs.length ≤ 1000; rw [hcc]; omega)).mono ?_)
   rintro e w2 ⟨rfl, o2, cp, h6, h7, h8⟩
   obtain ⟨f1, f2, f3, f4, f5⟩ := hfin cp
   refine ⟨rfl, o2, _, ⟨f1, f2, cps ++ [cp], f3, ?_⟩, h7, h8, rfl, rfl, rfl⟩
   rw [f4, f5]
   exact h6
  ·refine acdo_24 hb rfl ((accontext_24 (a := a) (bb := bb) (cc := cc) (n0 := n0) (id := n0 + 1) (k' := mkC (concK cps k) n0 when_ true true (conc cps s).tms.length) hw hb hg rfl rfl rfl rfl ha.1 ha.2.1 ha.2.2 hri (fun w1 h1 => by rw [show addZ (conc cps s).now _ = when_ from hwe.symm]; exact hmk w1 h1) (fun cp => mkC_get cp (by rw [hck]; exact hlen)) (fun cp => by rw [mkC_len, hck]; omega) (by show (conc cps s).chs.length ≤ 1000; rw [hcc]; omega)).mono ?_)
   rintro e w2 ⟨rfl, o2, cp, h6, h7, h8⟩
   obtain ⟨f1, f2, f3, f4, f5⟩ := hfin cp
   refine ⟨rfl, o2, _, ⟨f1, f2, cps ++ [cp], f3, ?_⟩, h7, h8, rfl, rfl, rfl⟩
   rw [f4, f5]
   exact h6
 | @err a bb cc i1 _ y ha hri hy hn =>
  refine acdo_27 hb rfl ((acask_27 (a := a) (bb := bb) (i := i1) hw hb hg rfl rfl rfl ha.1 ha.2 hri (hget _ _ hy) (by rw [hck]; exact hn)).mono ?_)
  rintro e w2 ⟨rfl, o2, h6, h7, h8⟩
  exact ⟨rfl, o2, _, ⟨hi, hc, cps, hcl, h6⟩, h7, h8, rfl, rfl, rfl⟩
 | @done a bb cc i1 j _ y q ha hri hy hn hyc hch =>
  refine acdo_29 hb rfl ((acask_29 (a := a) (bb := bb) (i := i1) (j := j) (p := cps.getD q.1 0) (c := q.2) hw hb hg rfl rfl rfl ha.1 ha.2 hri (hget _ _ hy) (by rw [hck]; exact hn) (by show y.c.map _ = _; rw [hyc, hi.idx j q hch]; rfl) (conc_chs hch) (by rw [hcc]; omega)).mono ?_)
  rintro e w2 ⟨rfl, o2, h6, h7, h8⟩
  exact ⟨rfl, o2, _, ⟨hi, hc, cps, hcl, h6⟩, h7, h8, rfl, rfl, rfl⟩
 | @untl a bb cc i1 _ y ha hri hy hn =>
  refine acdo_30 hb rfl ((acask_30 (a := a) (bb := bb) (cc := cc) (i := i1) hw hb hg rfl rfl rfl ha.1 ha.2.1 hri (hget _ _ hy) (by rw [hck]; exact hn) rfl ha.2.2).mono ?_)
  rintro e w2 ⟨rfl, o2, h6, h7, h8⟩
  exact ⟨rfl, o2, _, ⟨hi, hc, cps, hcl, h6⟩, h7, h8, rfl, rfl, rfl⟩
 | @again a bb cc i1 _ y cause ha hri hca h1 hy hn hf he =>
  refine (acdo_26 (a := a) (bb := bb) (i := i1) (cause := cause) (err := 1) (ys := []) (s2 := conc cps s) (k2 := concK cps k) hw hb hg rfl rfl rfl ha.1 ha.2 hri hca (fun w1 h2 => ?_) (by simp) trivial).mono ?_
  ·obtain ⟨vl, hcx⟩ := h2.ctx
   refine cxCancel_c hcx (hget _ _ hy) hf (by rw [hck]; exact hn) h1 ((cxcancel_done hcx (hget _ _ hy) hf he).mono ?_)
   rintro e w2 ⟨rfl, hm⟩
   exact ⟨_, rfl, o, h2.made (CXs.ext b _) hm, LpOut.nil _ _ _ _, Stp.made hm⟩
  ·rintro e w2 ⟨rfl, o2, h6, h7, h8⟩
   exact ⟨rfl, o2, _, ⟨hi, hc, cps, hcl, h6⟩, h7, h8, rfl, rfl, rfl⟩
 | @cancel a bb cc i1 _ y cause D ha hri hca h1 hy hn hf hD hok =>
  have hpre := hD.pre (err := 1) (cause := cause) (cps := cps) hi (by omega) (by omega)
  obtain ⟨f1, f2, f3⟩ := hD.inv (err := 1) (cause := cause) hi hc
  obtain ⟨g1, g2, g3⟩ := lapS_keep 1 cause (canO D i1) (canS D s)
  refine (acdo_26 (a := a) (bb := bb) (i := i1) (cause := cause) (err := 1) (ys := canO D i1) (s2 := conc cps (canS D s)) (k2 := concK cps (canCs 1 cause D i1 k)) hw hb hg rfl rfl rfl ha.1 ha.2 hri hca (fun w1 h2 => ?_) (by rw [canO_len]; have := hD.cut; have := hD.le; have := hD.few; omega) hok.ok).mono ?_
  ·obtain ⟨vl, hcx⟩ := h2.ctx
   refine cxCancel_c hcx (hget _ _ hy) hf (by rw [hck]; exact hn) h1 ((wwcancel_c h2 hpre).mono ?_)
   rintro e w2 ⟨v, rfl, o2, h3, h4, h5⟩
   rw [canCs_conc, ← conc_canS] at h3
   rw [canO_conc] at h4
   exact ⟨v, rfl, o2, h3, h4, h5⟩
  ·rintro e w2 ⟨rfl, o2, h6, h7, h8⟩
   rw [← conc_lapS] at h6
   refine ⟨rfl, o2, _, ⟨f1.same g1 g2, f2.grow (by rw [g1]; exact Nat.le_refl _), cps, by rw [g1, f3]; exact hcl, h6⟩, h7, h8, rfl, rfl, rfl⟩
end
section
variable {cps : List Nat} {s s1 : Wst} {k : Cs}
theorem fire_next {it : It} {ll0 : List It} (hi : AInv s) (hlim : Lim s) (hL : s.L = it :: ll0) (hdue : it.when ≤ s.now) (h1 : fireF s = some s1) : AInv s1 ∧ s1.chs.length = s.chs.length ∧ ∀ (n : Nat) (K K2 : Cs) (s2 : Wst), FiresX n (conc cps s1) K s2 K2 → FiresX (n + 1) (conc cps s) K s2 K2 := by
 obtain ⟨l1, l2, l3, l4, l5, l6, l7, l8, l9, l10, l11, l12, l13, l14, l15⟩ := hlim
 unfold fireF at h1
 rw [hL] at h1
 simp only at h1
 split at h1
 ·cases h1
 ·rename_i t ht
  split at h1
  ·cases h1
  ·rename_i ci hci
   split at h1
   ·cases h1
   ·rename_i q hq
    split at h1
    ·rename_i hc
     obtain ⟨c1, c2, c3, c4, c5⟩ := hc
     obtain ⟨iid, iwh, ise⟩ := it
     obtain ⟨i, hii⟩ := Int.eq_ofNat_of_zero_le c1
     simp only at hii hdue
     subst hii
     simp only [Int.toNat_natCast] at ht h1
     obtain ⟨tk, td, tc⟩ := t
     obtain ⟨q1, qt, qs, qc, qr, qv, ql⟩ := q
     simp only at c2 c3 c4 c5 hci h1
     subst c2 c3 c4 hci
     have hq1 : q1 = ci := hi.idx ci _ hq
     subst hq1
     cases ql with
     | nil =>
      simp only at h1
      split at h1
      ·rename_i hqv
       subst hqv
       cases h1
       refine ⟨(hi.set hq (c := ⟨true, qs, qc, true, some s.now, []⟩)).same (s' := fireB { s with L := ll0, chs := s.chs.set q1 (q1, ⟨true, qs, qc, true, some s.now, []⟩) } i iwh) rfl rfl, by show (s.chs.set q1 _).length = _; rw [List.length_set], fun n K K2 s2 hn => ?_⟩
       refine FiresX.next i iwh td q1 (cps.getD q1 0) ⟨true, qs, qc, true, none, []⟩ ⟨true, qs, qc, true, some s.now, []⟩ [] ll0 { due := ⟨ise, hL⟩, wh := hdue, now := l12, tm := conc_tms ht, ch := conc_chs hq, tl := (by show (s.tms.map _).length ≤ 1000; rw [List.length_map]; omega), sq := (by show s.sq < 1000000; omega), wq := .inl ⟨qs, qc, rfl, rfl, rfl⟩ } (by simp) (by show (s.chs.map _).length ≤ 1000; rw [List.length_map]; omega) (by show s.ev.length < 1000; omega) (by show s.nd < 1000000; omega) trivial ?_
       have e1 : conc cps (fireB { s with L := ll0, chs := s.chs.set q1 (q1, ⟨true, qs, qc, true, some s.now, []⟩) } i iwh) = fireB { conc cps s with L := ll0, chs := (conc cps s).chs.set q1 (cps.getD q1 0, ⟨true, qs, qc, true, some s.now, []⟩) } i iwh := by
        have e2 := conc_set (s := { s with L := ll0 }) cps q1 q1 ⟨true, qs, qc, true, some s.now, []⟩
        exact congrArg (fun z => fireB z i iwh) e2
       rw [e1] at hn
       exact hn
      ·cases h1
     | cons x lw =>
      simp only at h1
      split at h1
      ·rename_i hwb
       cases h1
       have hfi : AInv (fireB { s with L := ll0, chs := s.chs.set q1 (q1, ⟨true, qs, qc, true, qv, lw⟩) } i iwh) := (hi.set hq (c := ⟨true, qs, qc, true, qv, lw⟩)).same rfl rfl
       refine ⟨hfi.wake _, by rw [wake_chs]; show (s.chs.set q1 _).length = _; rw [List.length_set], fun n K K2 s2 hn => ?_⟩
       refine FiresX.next i iwh td q1 (cps.getD q1 0) ⟨true, qs, qc, true, qv, x :: lw⟩ ⟨true, qs, qc, true, qv, lw⟩ [⟨x.task, x.kase, s.now, true, false⟩] ll0 { due := ⟨ise, hL⟩, wh := hdue, now := l12, tm := conc_tms ht, ch := conc_chs hq, tl := (by show (s.tms.map _).length ≤ 1000; rw [List.length_map]; omega), sq := (by show s.sq < 1000000; omega), wq := .inr ⟨qs, qc, qv, x, lw, rfl, rfl, (by simp only [List.length_cons] at c5; omega), rfl⟩ } (by simp) (by show (s.chs.map _).length ≤ 1000; rw [List.length_map]; omega) (by show s.ev.length < 1000; omega) (by show s.nd < 1000000; omega) ⟨?_, trivial⟩ ?_
       ·exact wakeB_ok hwb rfl rfl (by omega) (by omega) (by show s.nd + 1 < 1000000; omega) (by show (s.ev ++ [_]).length < 1000; rw [List.length_append]; simp only [List.length_cons, List.length_nil]; omega)
       ·have e1 : conc cps (fireB { s with L := ll0, chs := s.chs.set q1 (q1, ⟨true, qs, qc, true, qv, lw⟩) } i iwh) = fireB { conc cps s with L := ll0, chs := (conc cps s).chs.set q1 (cps.getD q1 0, ⟨true, qs, qc, true, qv, lw⟩) } i iwh := by
         have e2 := conc_set (s := { s with L := ll0 }) cps q1 q1 ⟨true, qs, qc, true, qv, lw⟩
         exact congrArg (fun z => fireB z i iwh) e2
        rw [conc_wakeS, e1] at hn
        exact hn
      ·cases h1
    ·cases h1
end
inductive FiresI : Wst → Cs → Wst → Cs → Prop
 | done (s : Wst) (k : Cs) (h : ∀ it, s.L[0]? = some it → s.now < it.when) : FiresI s k s k
 | next {s s1 s2 : Wst} {k k2 : Cs} {it : It} {ll : List It} (hl : Lim s) (hL : s.L = it :: ll) (hd : it.when ≤ s.now) (h1 : fireF s = some s1) (hk : FiresI s1 k s2 k2) : FiresI s k s2 k2
 | lapse {s s2 : Wst} {k k2 : Cs} {i m : Nat} {wh se : Int} {D : List Cd} {x : Cx} {ll : List It} (hl : Lim s) (hL : s.L = ⟨i, wh, se⟩ :: ll) (hd : wh ≤ s.now) (ht : s.tms[i]? = some ⟨4, m, none⟩) (hD : CanI D m { s with L := ll } k) (hx : k.cs[m]? = some x) (ho : x.own = true) (hok : LapI 2 2 (canO D m) (canS D { s with L := ll })) (hk : FiresI (lapS 2 2 (canO D m) (canS D { s with L := ll })) (canCs 2 2 D m k) s2 k2) : FiresI s k s2 k2
theorem firesI_X {cps : List Nat} {s s2 : Wst} {k k2 : Cs} (h : FiresI s k s2 k2) : AInv s → CInv s k → ∃ n, FiresX n (conc cps s) (concK cps k) (conc cps s2) (concK cps k2) ∧ AInv s2 ∧ CInv s2 k2 ∧ s2.chs.length = s.chs.length := by
 induction h with
 | done s k h => exact fun hi hc => ⟨0, FiresX.done _ _ (fun x hx => .inr (h x hx)), hi, hc, rfl⟩
 | next hl hL hd h1 hk ih =>
  intro hi hc
  obtain ⟨f1, f2, f3⟩ := fire_next (cps := cps) hi hl hL hd h1
  obtain ⟨n, g1, g2, g3, g4⟩ := ih f1 (hc.grow (by omega))
  exact ⟨n + 1, f3 n _ _ _ g1, g2, g3, g4.trans f2⟩
 | @lapse s s2 k k2 i m wh se D x ll hl hL hd ht hD hx ho hok hk ih =>
  intro hi hc
  obtain ⟨l1, l2, l3, l4, l5, l6, l7, l8, l9, l10, l11, l12, l13, l14, l15⟩ := hl
  have hi2 : AInv { s with L := ll } := ⟨hi.idx, hi.tmc⟩
  obtain ⟨f1, f2, f3⟩ := hD.inv (err := 2) (cause := 2) hi2 hc
  obtain ⟨g1, g2, g3⟩ := lapS_keep 2 2 (canO D m) (canS D { s with L := ll })
  obtain ⟨n, h1, h2, h3, h4⟩ := ih (f1.same g1 g2) (f2.grow (by rw [g1]; exact Nat.le_refl _))
  refine ⟨n + 1, FiresX.lapse i m wh (D.map (concD cps)) (cxM cps x) ll { due := ⟨se, hL⟩, wh := hd, now := l12, tm := conc_tms ht, tl := (by show (s.tms.map _).length ≤ 1000; rw [List.length_map]; omega), sq := (by show s.sq < 1000000; omega), pre := ?_, hx := ?_, own := ho, ok := ?_ } ?_, h2, h3, by rw [h4, g1, f3]⟩
  ·exact hD.pre (cps := cps) hi2 (by show s.tms.length ≤ 1000; omega) (by show s.sq ≤ 1000000; omega)
  ·show (k.cs.map _)[m]? = _
   rw [List.getElem?_map, hx]
   rfl
  ·have h5 := hok.ok (cps := cps)
   rw [conc_canS] at h5
   rw [canO_conc]
   exact h5
  ·rw [conc_lapS, conc_canS, ← canO_conc (cps := cps) D m, ← canCs_conc] at h1
   exact h1
inductive SpX (ps : List (List Ins)) : Wst → Cs → Ent → Wst → Cs → Prop
 | old {s s' : Wst} {k : Cs} {e : Ent} (h : stepF ps s e = some s') : SpX ps s k e s' k
 | act {s s2 : Wst} {k k2 : Cs} {n : Int} {i : Nat} {x : Tsk} {p : List Ins} {ins : Ins} {r2 : Reg} (hl : Lim s) (hnl : s.nl < 99999) (h1 : s.rd[(pickZ n s.rd.length).toNat]? = some (i : Int)) (h2 : s.ts[i]? = some x) (h3 : ps[x.prog.toNat]? = some p) (h4 : x.st = 0 ∧ 0 ≤ x.prog ∧ 0 ≤ x.pc) (h5 : p[x.pc.toNat]? = some ins) (h6 : mineB ins.op = false) (h7 : ActX { s with ev := [], nl := s.nl + 1 } k ins x.regs s2 k2 r2) (h8 : s2.ts[i]? = some x) (h9 : s2.ts.length ≤ 64) (h10 : s2.ev.length < 900) (h11 : s2.rd.length ≤ 1000) (h12 : (i : Int) ∈ s2.rd) (h13 : 0 ≤ s2.steps ∧ s2.steps < 100000) : SpX ps s k (.run n) { putS s2 i x r2 with steps := s2.steps + 1 } k2
 | adv {s s2 : Wst} {k k2 : Cs} {d : Int} (hl : Lim s) (hd : 0 ≤ d ∧ s.now + d ≤ 1000000) (hf : FiresI { s with ev := [], now := s.now + d } k s2 k2) (h10 : s2.ev.length < 900) (h13 : 0 ≤ s2.steps ∧ s2.steps < 100000) : SpX ps s k (.adv d) { s2 with steps := s2.steps + 1 } k2
theorem step_X {w : World} {b : Wp} {o : Nat → Nat} {ps : List (List Ins)} {s s' : Wst} {k k' : Cs} {e : Ent} (hps : PsOK ps) (hW : WX w b o ps s k) (hf : SpX ps s k e s' k') :
  Calls Tryz.prog 9 #[.pointer (some ⟨b.pb, 0, none⟩), entV e] w fun e w' => ∃ v, e = .returned v ∧ ∃ o', WX w' b o' ps s' k' ∧ Owns evC 45 6 w' v s'.ev ∧ (∀ k, v.ownBlock = some k → ¬ Own o' k ∧ w.heap.size ≤ k) ∧ Stp w w' (Own o) (Own o') := by
 obtain ⟨hi, hc, cps, hcl, hw⟩ := hW
 cases hf with
 | old h =>
  refine (step_Fp (CXs.ext b _) hps hi hcl hw h).mono ?_
  rintro e w2 ⟨v, rfl, o2, ⟨hi2, cps2, hpf, hcl2, hw2⟩, h3, h4, h5⟩
  refine ⟨v, rfl, o2, ⟨hi2, hc.grow (by rw [← hcl, ← hcl2]; exact hpf.length_le), cps2, hcl2, ?_⟩, h3, h4, h5⟩
  rw [concK_pre hc hcl hpf]
  exact hw2
 | @act s2 _ _ n i x p ins r2 hl hnl h1 h2 h3 h4 h5 h6 h7 h8 h9 h10 h11 h12 h13 =>
  have hl0 := hl
  obtain ⟨l1, l2, l3, l4, l5, l6, l7, l8, l9, l10, l11, l12, l13, l14, l15⟩ := hl
  have hpm := List.mem_of_getElem? h3
  have hpl := hps.len p hpm
  have hne : (0 : Int) < s.rd.length := by
   cases hr : s.rd with
   | nil => rw [hr] at h1; simp at h1
   | cons a l => simp only [List.length_cons]; omega
  have hsel : Sel ps { conc cps s with ev := [] } n (pickZ n s.rd.length).toNat i x p x.prog.toNat x.pc.toNat :=
   { hj := (Int.toNat_of_nonneg (Int.emod_nonneg _ (by have := hne; show (s.rd.length : Int) ≠ 0; omega))).symm, hi := h1, hx := h2, hp := (Int.toNat_of_nonneg h4.2.1).symm, hps := h3, hpc := (Int.toNat_of_nonneg h4.2.2).symm, st := h4.1, tl := (by show s.ts.length ≤ 64; omega), pl := hps.le, il := hpl }
  refine (wstep_runx (CX := CXs b) (k0 := concK cps k) (n := n) (d := 0) (R := fun kk z => AInv s2 ∧ CInv s2 k' ∧ ∃ cps2 : List Nat, cps2.length = s2.chs.length ∧ z = putS (conc cps2 s2) i x r2 ∧ kk = concK cps2 k') (CXs.ext b) hw (fun w1 o1 hw1 => ?_) (fun kk z hz => ?_)).mono ?_
  ·refine (wrun_actx (CX := CXs b) (k0 := concK cps k) (ins := ins) (Q := fun kk s2c x2 => AInv s2 ∧ CInv s2 k' ∧ ∃ cps2 : List Nat, cps2.length = s2.chs.length ∧ s2c = conc cps2 s2 ∧ kk = concK cps2 k' ∧ x2.how = 0 ∧ x2.parks = false ∧ x2.regs = r2) (CXs.ext b) hw1 hsel h5 (by show s.rd.length ≤ 1000; omega) (by show s.nl < 900000; omega) (fun w1 a ci hr => ldo_none (i := 0) (j := 0) (u := 0) (v := ins.op) w1 (hps.good p hpm) hr hpl ⟨ins.a, ins.b, ins.c, h5⟩ h6) (fun w2 o2 g h20 hb hg => ?_) (fun kk s2c x2 hq => ?_)).mono ?_
   ·refine (act_X (s := { s with ev := [], nl := s.nl + 1 }) ⟨hi.same rfl rfl, hc, cps, hcl, h20⟩ ⟨by simp, l2, l3, l4, l5, l6, l7, l8, by show s.nl + 1 < 100000; omega, l10, l11, l12, l13, l14, l15⟩ hb hg h7).mono ?_
    rintro e w3 ⟨rfl, o3, x2, ⟨hi2, hc2, cps2, hcl2, hw2⟩, hst, hb2, h21, h22, h23⟩
    exact ⟨rfl, o3, concK cps2 k', conc cps2 s2, x2, ⟨hi2, hc2, cps2, hcl2, rfl, rfl, h21, h22, h23⟩, hw2, hst, hb2⟩
   ·obtain ⟨hi2, hc2, cps2, hcl2, rfl, rfl, h21, h22, h23⟩ := hq
    exact { how := h21, ts := h8, tl := h9, ev := (by show s2.ev.length < 1000; omega), rl := h11, rd := idx_first h12, pk := fun hp => by rw [h22] at hp; cases hp }
   ·rintro e w3 ⟨rfl, o3, kk, s2c, x2, ⟨hi2, hc2, cps2, hcl2, rfl, rfl, h21, h22, h23⟩, hw2, hst⟩
    obtain ⟨xid, xi, xw, xr, xd, xh, xp⟩ := x2
    have h22 : xp = false := h22
    have h23 : xr = r2 := h23
    subst h22 h23
    exact ⟨rfl, o3, _, _, ⟨hi2, hc2, cps2, hcl2, rfl, rfl⟩, hw2, hst⟩
  ·obtain ⟨_, _, cps2, _, rfl, rfl⟩ := hz
   exact ⟨h13.1, by show s2.steps < 1000000; omega, by show s2.ev.length ≤ 1000000; omega⟩
  ·rintro e w2 ⟨v, rfl, o2, kk, z, ⟨hi2, hc2, cps2, hcl2, rfl, rfl⟩, hw2, ho2, hf2, hs2⟩
   exact ⟨v, rfl, o2, ⟨hi2.same rfl rfl, hc2, cps2, hcl2, hw2⟩, ho2, hf2, hs2⟩
 | @adv s2 _ _ d hl hd hf h10 h13 =>
  obtain ⟨l1, l2, l3, l4, l5, l6, l7, l8, l9, l10, l11, l12, l13, l14, l15⟩ := hl
  obtain ⟨n, g1, g2, g3, g4⟩ := firesI_X (cps := cps) hf (hi.same rfl rfl) hc
  refine (wstep_advx (CX := CXs b) (k0 := concK cps k) (n := d) (d := 0) (R := fun kk z => z = conc cps s2 ∧ kk = concK cps k') (CXs.ext b) hw hd.1 (fun w1 o1 h1 => ?_) (fun kk z hz => ?_)).mono ?_
  ·refine (wadvance_xc (s2 := conc cps s2) (k2 := concK cps k') (n := n) h1 hd.1 ?_).mono ?_
   ·have hadd : addZ (conc cps s).now d = s.now + d := addZ_small l12 (by show s.now ≤ _; omega) hd.1 (by omega)
    show FiresX n { conc cps s with ev := [], now := addZ (conc cps s).now d } _ _ _
    rw [hadd]
    exact g1
   ·rintro e w2 ⟨rfl, o2, hw2, hs2⟩
    exact ⟨rfl, o2, _, _, ⟨rfl, rfl⟩, hw2, hs2⟩
  ·obtain ⟨rfl, rfl⟩ := hz
   exact ⟨h13.1, by show s2.steps < 1000000; omega, by show s2.ev.length ≤ 1000000; omega⟩
  ·rintro e w2 ⟨v, rfl, o2, kk, z, ⟨rfl, rfl⟩, hw2, ho2, hf2, hs2⟩
   exact ⟨v, rfl, o2, ⟨g2.same rfl rfl, g3, cps, by rw [hcl]; exact g4.symm, hw2⟩, ho2, hf2, hs2⟩
section
def bgX : Cx := ⟨0, true, none, 0, 0, 0, false, false, -1⟩
def k0 : Cs := ⟨[bgX], 1⟩
open Classical in
theorem bg_ctx {w w' : World} {q pm tr m lo : Nat} (h : Bg w w' q pm tr m) (h1 : lo ≤ tr) (h2 : tr < m) (h3 : m < q) (h4 : q < w.heap.size) (hs : w.heap.size ≤ w'.heap.size) : ∃ F vl, CtxAt w' q pm F vl [bgX] 1 ∧ ∀ k, F k → lo ≤ k ∧ k < w'.heap.size := by
 obtain ⟨vt, vl, b1, b2, b3, b4, b5, b6, b7, b8, b9⟩ := h
 have t2 := fun k (hk : vt.ownBlock = some k) => b2.lt hk
 have t4 := fun k (hk : vl.ownBlock = some k) => b4.lt hk
 have htr : ∃ FT, TrAt w' tr FT 1 1 ∧ ∀ k, FT k ↔ k = tr ∨ vt.ownBlock = some k := by
  refine ⟨fun k => k = tr ∨ vt.ownBlock = some k, ⟨fun k => if k = tr then 1 else if vt.ownBlock = some k then 2 else 0, vt, [(⟨-1, false, (none, 0, 0)⟩, [])], ⟨b1, by simp, b2, fun k => ?_, fun i x hx => ?_, fun k => ?_⟩, ⟨fun k => ?_, fun k hk => ?_⟩, rfl, fun i x hx => ?_⟩, fun k => Iff.rfl⟩
  ·by_cases hk : k = tr
   ·subst hk
    simp only [if_true]
    exact ⟨fun h => absurd (b6 _ h) (by omega), fun h => absurd h (by omega)⟩
   ·rw [if_neg hk]
    by_cases hv : vt.ownBlock = some k
    ·simp [hv]
    ·simp [hv]
  ·cases i with
   | zero =>
    cases hx
    refine ⟨Owns.nil, fun k => ⟨fun hk => (by cases hk), fun hk => ?_⟩⟩
    try dsimp only at hk
    split at hk
    ·omega
    ·split at hk <;> omega
   | succ i => simp at hx
  ·try dsimp only
   split
   ·simp
   ·split <;> simp
  ·try dsimp only
   by_cases hk : k = tr
   ·simp [hk]
   ·by_cases hv : vt.ownBlock = some k
    ·simp [hk, hv]
    ·simp [hk, hv]
  ·try dsimp only at hk
   split at hk
   ·rename_i e
    subst e
    omega
   ·split at hk
    ·rename_i e
     exact t2 k e
    ·exact absurd rfl hk
  ·cases i with
   | zero => cases hx; rfl
   | succ i => simp at hx
 obtain ⟨FT, htr, hft⟩ := htr
 refine ⟨fun k => k = q ∨ FT k ∨ k = m ∨ vl.ownBlock = some k, vl, ⟨tr, m, fun k => if k = q then 1 else if FT k then 2 else if k = m then 3 else if vl.ownBlock = some k then 4 else 0, ⟨b3, by simp, ?_, ?_, ?_, b4, fun k => ?_, fun i x hx => ?_⟩, ⟨fun k => ?_, fun k hk => ?_⟩⟩, fun k hk => ?_⟩
 ·have e : (fun k => (if k = q then 1 else if FT k then 2 else if k = m then 3 else if vl.ownBlock = some k then 4 else 0) = 2) = FT := by
   funext k
   refine propext ?_
   by_cases hk : k = q
   ·rw [if_pos hk]
    refine ⟨fun h => absurd h (by omega), fun h => ?_⟩
    rcases (hft k).1 h with h | h
    ·omega
    ·have := b6 k h
     omega
   ·rw [if_neg hk]
    by_cases hf : FT k
    ·simp [hf]
    ·rw [if_neg hf]
     refine ⟨fun h => ?_, fun h => absurd h hf⟩
     split at h
     ·omega
     ·split at h <;> omega
  rw [e]
  exact htr
 ·have e : (fun j : Int => if 0 ≤ j ∧ j < (([bgX] : List Cx).length : Int) then some (Value.int .i64 j) else none) = fun j => if j = 0 then some (.int .i64 0) else none := by
   funext j
   by_cases hj : j = 0
   ·subst hj
    simp
   ·rw [if_neg hj, if_neg (by simp only [List.length_cons, List.length_nil]; omega)]
  rw [e]
  exact b5
 ·have hm : ¬ FT m := fun h => by
   rcases (hft m).1 h with h | h
   ·omega
   ·have := b6 m h
    omega
  rw [if_neg (by omega), if_neg hm, if_pos rfl]
 ·by_cases hk : k = q
  ·rw [if_pos hk]
   exact ⟨fun h => absurd (b7 k h) (by omega), fun h => absurd h (by omega)⟩
  ·rw [if_neg hk]
   by_cases hf : FT k
   ·rw [if_pos hf]
    refine ⟨fun h => ?_, fun h => absurd h (by omega)⟩
    rcases (hft k).1 hf with h5 | h5
    ·have := b7 k h
     omega
    ·exact absurd h5 (b8 k h)
   ·rw [if_neg hf]
    by_cases hm : k = m
    ·rw [if_pos hm]
     exact ⟨fun h => absurd (b7 k h) (by omega), fun h => absurd h (by omega)⟩
    ·rw [if_neg hm]
     by_cases hv : vl.ownBlock = some k
     ·simp [hv]
     ·simp [hv]
 ·cases i with
  | zero => cases hx; rfl
  | succ i => simp at hx
 ·by_cases hk : k = q
  ·simp [hk]
  ·by_cases hf : FT k
   ·simp [hk, hf]
   ·by_cases hm : k = m
    ·subst hm
     simp [hk, hf]
    ·by_cases hv : vl.ownBlock = some k
     ·simp [hk, hf, hm, hv]
     ·simp [hk, hf, hm, hv]
 ·by_cases h5 : k = q
  ·omega
  ·by_cases hf : FT k
   ·rcases (hft k).1 hf with h6 | h6
    ·omega
    ·exact t2 k h6
   ·by_cases hm : k = m
    ·omega
    ·by_cases hv : vl.ownBlock = some k
     ·exact t4 k hv
     ·exfalso
      apply hk
      simp [h5, hf, hm, hv]
 ·rcases hk with h5 | h5 | h5 | h5
  ·omega
  ·rcases (hft k).1 h5 with h6 | h6
   ·omega
   ·have := b6 k h6
    have := t2 k h6
    omega
  ·omega
  ·have := b7 k h5
   have := t4 k h5
   omega
open Classical in
theorem seven_labels {F2 F3 F4 F6 G : Nat → Prop} {pb pk : Nat} (h12 : pb ≠ pk) (h13 : ¬ F2 pb) (h14 : ¬ F3 pb) (h15 : ¬ F4 pb) (h16 : ¬ F6 pb) (h17 : ¬ G pb) (h23 : ¬ F2 pk) (h24 : ¬ F3 pk) (h25 : ¬ F4 pk) (h26 : ¬ F6 pk) (h27 : ¬ G pk) (h34 : ∀ k, F3 k → ¬ F2 k) (h35 : ∀ k, F4 k → ¬ F2 k) (h36 : ∀ k, F6 k → ¬ F2 k) (h37 : ∀ k, G k → ¬ F2 k) (h45 : ∀ k, F4 k → ¬ F3 k) (h46 : ∀ k, F6 k → ¬ F3 k) (h47 : ∀ k, G k → ¬ F3 k) (h56 : ∀ k, F6 k → ¬ F4 k) (h57 : ∀ k, G k → ¬ F4 k) (h67 : ∀ k, G k → ¬ F6 k) :
  ∃ o : Nat → Nat, o pb = 1 ∧ o pk = 2 ∧ (fun k => o k = 3) = F2 ∧ (fun k => o k = 4) = F3 ∧ (fun k => o k = 5) = F4 ∧ (fun k => o k = 6) = F6 ∧ (∀ k, o k = 7 ↔ G k) ∧ (∀ k, o k ≠ 0 → k = pb ∨ k = pk ∨ F2 k ∨ F3 k ∨ F4 k ∨ F6 k ∨ G k) ∧ ∀ k, o k ≤ 7 := by
 refine ⟨fun k => if k = pb then 1 else if k = pk then 2 else if F2 k then 3 else if F3 k then 4 else if F4 k then 5 else if F6 k then 6 else if G k then 7 else 0, ?_, ?_, ?_, ?_, ?_, ?_, ?_, ?_, ?_⟩
 ·simp
 ·simp; grind
 ·funext k; grind
 ·funext k; grind
 ·funext k; grind
 ·funext k; grind
 ·intro k; grind
 ·intro k; grind
 ·intro k; grind
theorem worldnew_x {ps : List (List Ins)} {b off cap : Nat} (w : World) (hp : ProgsC ps) (hne : ∀ p ∈ ps, 1 ≤ p.length) (h : RowsIn w b off ps) :
  Calls Tryz.prog 8 #[.slice (some ⟨b, off, none⟩) ps.length cap] w fun e w' => ∃ wp o, e = .returned (.tuple #[.pointer (some ⟨wp.pb, 0, none⟩), .int .i64 0]) ∧ WX w' wp o ps initS k0 ∧ Made w w' ∧ (∀ k, Own o k → w.heap.size ≤ k) := by
 have HP := zh (And.intro hp hne)
 have HR := zh h
 have HAL := zh (all_c (cap := cap) w hp h)
 obtain ⟨i0, hi0, hz0, hz1, hz2⟩ := info_parts Tryz.infoPr
 clear hp h hne
 go_enter Tryz.func8, Tryz.ntmps8
 go_wp2_with fail
 refine HAL.out.mono ?_
 rintro e w0 ⟨rfl, hm0⟩
 have HM0 := zh hm0
 clear hm0
 go_wp2_with fail
 refine (clknew_c w0).mono ?_
 rintro e w1 ⟨pk, rfl, hk1, hm1, hl1⟩
 have HK1 := zh (And.intro hk1 (And.intro hm1 hl1))
 clear hk1 hm1 hl1
 go_wp2_with fail
 refine (tabnew_c w1).mono ?_
 rintro e w2 ⟨pt, F2, rfl, hk1, hm1, hl1⟩
 have HK2 := zh (And.intro hk1 (And.intro hm1 hl1))
 clear hk1 hm1 hl1
 go_wp2_with fail
 refine (tsnew_c w2).mono ?_
 rintro e w3 ⟨pm, F3, rfl, hk1, hm1, hl1⟩
 have HK3 := zh (And.intro hk1 (And.intro hm1 hl1))
 clear hk1 hm1 hl1
 go_wp2_with fail
 refine (dlnew_c w3).mono ?_
 rintro e w4 ⟨pd, F4, rfl, hk1, hm1, hl1⟩
 have HK4 := zh (And.intro hk1 (And.intro hm1 hl1))
 clear hk1 hm1 hl1
 have hb5 := Blk.new w4 65 #[.slice none 0 0, .pointer (some ⟨pk, 0, none⟩), .pointer (some ⟨pt, 0, none⟩), .slice none 0 0, .int .i64 0, .pointer (some ⟨pm, 0, none⟩), .pointer none, .pointer (some ⟨pd, 0, none⟩), .slice none 0 0, .int .i64 0, .slice none 0 0]
 have q5 := hb5.cell 5
 simp only [zG] at q5
 have HB5 := zh hb5
 have HM5 := zh ((zT w4).alloc (.cells #[.slice none 0 0, .pointer (some ⟨pk, 0, none⟩), .pointer (some ⟨pt, 0, none⟩), .slice none 0 0, .int .i64 0, .pointer (some ⟨pm, 0, none⟩), .pointer none, .pointer (some ⟨pd, 0, none⟩), .slice none 0 0, .int .i64 0, .slice none 0 0] 65))
 have HL5 := zh (show (w4.alloc (.cells #[.slice none 0 0, .pointer (some ⟨pk, 0, none⟩), .pointer (some ⟨pt, 0, none⟩), .slice none 0 0, .int .i64 0, .pointer (some ⟨pm, 0, none⟩), .pointer none, .pointer (some ⟨pd, 0, none⟩), .slice none 0 0, .int .i64 0, .slice none 0 0] 65)).heap.size = w4.heap.size + 1 from by simp)
 clear hb5
 go_upto_region 5 with fail
 generalize w4.alloc (.cells #[.slice none 0 0, .pointer (some ⟨pk, 0, none⟩), .pointer (some ⟨pt, 0, none⟩), .slice none 0 0, .int .i64 0, .pointer (some ⟨pm, 0, none⟩), .pointer none, .pointer (some ⟨pd, 0, none⟩), .slice none 0 0, .int .i64 0, .slice none 0 0] 65) = w5 at *
 go_wp2_with fail
 refine (ctxnew_c w5 pm).mono ?_
 rintro e w6 ⟨px, ptr, pmm, w06, rfl, hbg, hm06, hm6, hl6⟩
 obtain ⟨F6, vl6, hcx6, hf6⟩ := bg_ctx (lo := w5.heap.size) hbg hl6.1 hl6.2.1 hl6.2.2.1 hl6.2.2.2 (by obtain ⟨vt, vl, -, -, -, -, -, -, -, -, h9⟩ := hbg; exact h9.size)
 have HF6 := zh hf6
 have HC6 := zh hcx6
 have HK6 := zh (And.intro hm6 hl6)
 have HB6 := zh (HB5.out.turns hm6 (fun h => h))
 have q6 := HB6.out.cell 6
 have f6 := HB6.out.free 6
 simp only [zG] at q6
 clear hbg hm06 hm6 hl6 q5 hcx6 hf6
 go_upto_region 6 with fail
 have HB7 : Hid (Blk (w6.setCell ⟨w4.heap.size, 6, none⟩ (.pointer (some ⟨px, 0, none⟩))) w4.heap.size 65 #[.slice none 0 0, .pointer (some ⟨pk, 0, none⟩), .pointer (some ⟨pt, 0, none⟩), .slice none 0 0, .int .i64 0, .pointer (some ⟨pm, 0, none⟩), .pointer (some ⟨px, 0, none⟩), .pointer (some ⟨pd, 0, none⟩), .slice none 0 0, .int .i64 0, .slice none 0 0]) := zh (by simpa using HB6.out.put 6 (.pointer (some ⟨px, 0, none⟩)))
 have HT7 := zh ((HK6.out.1.mono (S' := fun k => k = w4.heap.size) (fun _ _ h => h.elim)).trans (set1 w6 w4.heap.size 6 (.pointer (some ⟨px, 0, none⟩))))
 clear q6 f6
 have HC7 := zh (HC6.out.turns (set1 w6 w4.heap.size 6 (.pointer (some ⟨px, 0, none⟩))) (fun k hk e => by have := HF6.out k hk; have h5 := HL5.out; omega))
 have HF7 : Hid (∀ k, F6 k → w5.heap.size ≤ k ∧ k < (w6.setCell ⟨w4.heap.size, 6, none⟩ (.pointer (some ⟨px, 0, none⟩))).heap.size) := zh (fun k hk => by have h1 := HF6.out k hk; have h2 := (set1 w6 w4.heap.size 6 (.pointer (some ⟨px, 0, none⟩))).size; omega)
 generalize w6.setCell ⟨w4.heap.size, 6, none⟩ (.pointer (some ⟨px, 0, none⟩)) = w7 at *
 have HL7 : Hid (w5.heap.size ≤ w7.heap.size) := zh HT7.out.size
 have HM7 := zh (show Made w w7 from by
  have hA := ((((HM0.out.trans HK1.out.2.1).trans HK2.out.2.1).trans HK3.out.2.1).trans HK4.out.2.1)
  have hB := hA.trans HM5.out
  have hs := hA.size
  exact hB.then HT7.out (fun k hk e => by omega))
 have HRL := zh (show NRel w7 w4.heap.size pk pt pm pd px ps 0 w7 from ⟨_, [], HB7.out, rfl, ⟨Owns.nil, fun j hj => (by cases hj), fun i r p hr _ => (by simp at hr)⟩, Turns.refl _ w7⟩)
 have HLW : Hid (w.heap.size ≤ w4.heap.size) := zh ((((HM0.out.trans HK1.out.2.1).trans HK2.out.2.1).trans HK3.out.2.1).trans HK4.out.2.1).size
 clear HB7
 go_wp2_with fail
 go_loopw [29] (fun v29 wr => ∃ k : Nat, k ≤ ps.length ∧ v29 = .int .i64 k ∧ NRel w7 w4.heap.size pk pt pm pd px ps k wr) (fun v29 _ => ps.length - (intOf v29).toNat)
 case atStart => exact ⟨0, Nat.zero_le _, rfl, HRL.out⟩
 case round =>
  obtain ⟨k0, hk, rfl, hg⟩ := hrel
  by_cases hlt : k0 < ps.length
  ·obtain ⟨p, hpk⟩ := get_of_lt (xs := ps) (k := k0) hlt
   obtain ⟨vp, rows, hbp, hrl, hpr, htr⟩ := hg
   have hmw : Made w wr := HM7.out.then htr (fun k hk e => by have := HLW.out; omega)
   obtain ⟨ap, cp, hcp, hrow⟩ := HR.out.row k0 p hpk
   have hcell : wr.cell? ⟨b, off + k0, none⟩ = some (.slice ap p.length cp) := (hmw.cell (p := ⟨b, off + k0, none⟩) HR.out.lt (fun h => h)).trans hcp
   have HB := zh hbp
   have HPR := zh hpr
   have HTR := zh htr
   have HMW := zh hmw
   have HRLN := zh hrl
   have HPK := zh hpk
   have HPS := zh (And.intro (HP.out.1.len p (List.mem_of_getElem? hpk)) (And.intro (HP.out.2 p (List.mem_of_getElem? hpk)) HP.out.1.le))
   have HRW := zh (hrow.turns hmw (fun _ _ _ h => h))
   have HOW := zh (fun ww (hh : Made wr ww) => own_c (cap := cp) ww (HRW.out.turns hh (fun _ _ _ h => h)) HPS.out.1 (fun e => by
    have h1 := HPS.out.2.1
    rcases HRW.out.2 with h2 | ⟨b2, o2, e2, _⟩
    ·omega
    ·rw [e] at e2; cases e2))
   have hps := HP.out.1.le
   have i1 : (0 : Int) ≤ (k0 : Int) := by omega
   have i2 : (k0 : Int) < (ps.length : Int) := by omega
   clear hbp hpr htr hmw hcp hrow hpk hrl
   have HNP := zh (show ∀ k, vp.ownBlock = some k → k ≠ w4.heap.size from fun k hk e => by have h1 := HPR.out.far k hk; have h2 := HL5.out; have h3 := HL7.out; omega)
   go_upto_region 9 with fail
   refine wp_region_z (S := fun w' => Blk w' (w4.heap.size) 65 #[vp, .pointer (some ⟨pk, 0, none⟩), .pointer (some ⟨pt, 0, none⟩), .slice none 0 0, .int .i64 0, .pointer (some ⟨pm, 0, none⟩), .pointer (some ⟨px, 0, none⟩), .pointer (some ⟨pd, 0, none⟩), .slice none 0 0, .int .i64 0, .slice none 0 0] ∧ Turns (fun k => vp.ownBlock = some k) wr w') 11 (by kernel_rfl) ?_ (fun hHeld => ?_)
   ·exact ⟨HB.out, (Turns.refl _ wr).drew⟩
   refine tZ 0 33 ?_ ?_ ?_;rotate_left
   ·intro w hSw
    go_simp
    try with_reducible rfl
   try simp only [zP]
   refine tZ 1 34 ?_ ?_ ?_;rotate_left
   ·intro w hSw
    go_simp
    try with_reducible rfl
   try simp only [zP]
   refine tZ 2 35 ?_ ?_ ?_;rotate_left
   ·intro w hSw
    go_simp
    try with_reducible rfl
   try simp only [zP]
   refine tZ 3 36 ?_ ?_ ?_;rotate_left
   ·intro w hSw
    go_simp
    try with_reducible rfl
   try simp only [zP]
   refine tZ 4 37 ?_ ?_ ?_;rotate_left
   ·intro w hSw
    have q0_0 := hSw.1.cell 0
    simp only [zG] at q0_0
    go_simp
    try with_reducible rfl
   try simp only [zP]
   refine tZ 5 38 ?_ ?_ ?_;rotate_left
   ·intro w hSw
    go_simp
    try with_reducible rfl
   try simp only [zP]
   refine wpAnyZ_ready (rs := [6]) (by kernel_rfl) (by simp) ?_
   refine AllReadyZ.cons rfl (fun K hK => ?_) AllReadyZ.nil
   go_simp
   refine (HOW.out wr.drew (zT wr).drew).mono ?_
   rintro e wG ⟨v1, rfl, hgG⟩
   obtain ⟨a1, c1, rfl⟩ := owns_slice hgG.own
   have hmG : Made wr wG := ((zT wr).drew).trans hgG.made
   refine hK.out _ _ ?_ (fun hHeld => ?_)
   ·exact ⟨hHeld.1.turns hgG.made (fun h => h), hHeld.2.trans (hgG.made.mono (fun _ _ h => h.elim))⟩
   clear hK K
   try simp only [zP]
   refine wpAnyZ_ready (rs := [7]) (by kernel_rfl) (by simp) ?_
   refine AllReadyZ.cons rfl (fun K hK => ?_) AllReadyZ.nil
   go_simp
   refine hK.out _ _ ?_ (fun hHeld => ?_)
   ·exact ⟨hHeld.1.alloc _, hHeld.2.alloc _⟩
   clear hK K
   try simp only [zP]
   refine wpAnyZ_ready (rs := [8]) (by kernel_rfl) (by simp) ?_
   refine AllReadyZ.cons rfl (fun K hK => ?_) AllReadyZ.nil
   refine step_push rfl _ _ _ (by rfl) i0 _ 24 Tryz.underlying31 hi0 hz0 hz1 hz2 rfl (by omega) prC_len prC_one (by rfl) ((HPR.out.own.turns hmG (fun _ _ h => h)).turns ((zT wG).alloc _) (fun _ _ h => h)) (a1, p.length, c1) (by rfl) (Blk.new wG _ _) (by have := HRLN.out; omega) (by omega) ?_
   intro v2 w2 hO2 hT2 hV2
   obtain ⟨a3, c3, rfl⟩ := owns_slice hO2
   refine hK.out _ _ ?_ (fun hHeld => ?_)
   ·exact ⟨hHeld.1.turns hT2 (fun e => HNP.out _ e rfl), hHeld.2.trans hT2⟩
   clear hK K
   try simp only [zP]
   refine wpAnyZ_ready (rs := [9]) (by kernel_rfl) (by simp) ?_
   refine AllReadyZ.cons rfl (fun K hK => ?_) AllReadyZ.nil
   go_simp
   refine hK.out _ _ hHeld (fun hHeld => ?_)
   clear hK K
   try simp only [zP]
   refine tZ 10 43 ?_ ?_ ?_;rotate_left
   ·intro w hSw
    go_simp
    try with_reducible rfl
   try simp only [zP]
   refine wpAnyZ_ready (rs := [11]) (by kernel_rfl) (by simp) ?_
   refine AllReadyZ.last rfl (fun K hK => ?_) AllReadyZ.nil
   have qz0 := hHeld.1.cell 0
   have qf := hHeld.1.free 0
   simp only [zG] at qz0
   go_simp
   refine hK.out _ _ ?_
   clear hK K
   try simp only [zP]
   refine wpAnyZ_done (by kernel_rfl) ?_ _
   have hL := zh hHeld
   have HE : Hid (NRel w7 w4.heap.size pk pt pm pd px ps (k0 + 1) (w2.setCell ⟨w4.heap.size, 0, none⟩ (.slice a3 (rows ++ [(a1, p.length, c1)]).length c3))) := zh (by
    have hs2 : wr.heap.size ≤ wG.heap.size := hgG.made.size
    have hs3 := hT2.size
    have hs4 : wG.heap.size ≤ (wG.alloc (.cells #[.slice a1 p.length c1] 26)).heap.size := by simp
    have hs5 := HTR.out.size
    have hfar : ∀ j, (Value.slice a3 (rows ++ [(a1, p.length, c1)]).length c3).ownBlock = some j → vp.ownBlock = some j ∨ wG.heap.size ≤ j := fun j hj => (hV2 j hj).imp id (fun h => by omega)
    have htw : Turns (fun k => vp.ownBlock = some k ∨ k = w4.heap.size) wG (w2.setCell ⟨w4.heap.size, 0, none⟩ (.slice a3 (rows ++ [(a1, p.length, c1)]).length c3)) := (((Turns.refl (fun k => vp.ownBlock = some k ∨ k = w4.heap.size) wG).alloc _).trans (hT2.mono (fun _ _ h => .inl h))).trans ((set1 w2 w4.heap.size 0 _).mono (fun _ _ e => .inr e))
    refine ⟨_, rows ++ [(a1, p.length, c1)], by simpa using hHeld.1.put 0 (.slice a3 (rows ++ [(a1, p.length, c1)]).length c3), by simp [HRLN.out], ⟨hO2.turns (set1 w2 w4.heap.size 0 _) (fun k hk e => ?_), fun j hj => ?_, fun i r q hr hq => ?_⟩, ?_⟩
    ·rcases hfar k hk with h1 | h1
     ·exact HNP.out k h1 e
     ·have := HL5.out; have := HL7.out; omega
    ·rcases hfar j hj with h1 | h1
     ·exact HPR.out.far j h1
     ·omega
    ·rcases Nat.lt_or_ge i rows.length with h1 | h1
     ·rw [List.getElem?_append_left h1] at hr
      obtain ⟨h2, h3, h4⟩ := HPR.out.row i r q hr hq
      refine ⟨h2, (h3.turns hmG (fun _ _ _ h => h)).turns htw (fun b2 off2 e h => ?_), fun b2 off2 e => ?_⟩
      ·obtain ⟨m1, m2, m3⟩ := h4 b2 off2 e
       rcases h with h | h
       ·exact m3 h
       ·have := HL5.out; have := HL7.out; omega
      ·obtain ⟨m1, m2, m3⟩ := h4 b2 off2 e
       have hsz := htw.size
       exact ⟨m1, by omega, fun h => by
        rcases hfar b2 h with h5 | h5
        ·exact m3 h5
        ·omega⟩
     ·rw [List.getElem?_append_right h1] at hr
      have hi0 : i - rows.length = 0 := by
       rcases Nat.eq_zero_or_pos (i - rows.length) with h2 | h2
       ·exact h2
       ·rw [List.getElem?_eq_none (by simp; omega)] at hr; cases hr
      rw [hi0] at hr
      cases hr
      have hie : i = k0 := by have := HRLN.out; omega
      subst hie
      have hq2 : q = p := by have h2 := HPK.out; rw [hq] at h2; exact Option.some.inj h2
      subst hq2
      have hgf : ∀ b2 off2, a1 = some ⟨b2, off2, none⟩ → wr.heap.size ≤ b2 ∧ b2 < wG.heap.size := fun b2 off2 e => by subst e; exact ⟨hgG.far b2 rfl, hgG.own.lt rfl⟩
      have hnv : ∀ b2 off2, a1 = some ⟨b2, off2, none⟩ → vp.ownBlock ≠ some b2 := fun b2 off2 e h => by have h6 := hgf b2 off2 e; have h7 := HPR.out.own.lt h; omega
      obtain ⟨a4, c4, he4, hri, -⟩ := hgG.own.rowIn insC_len
      cases he4
      refine ⟨rfl, hri.turns htw (fun b2 off2 e h => ?_), fun b2 off2 e => ?_⟩
      ·rcases h with h | h
       ·exact hnv b2 off2 e h
       ·have h6 := hgf b2 off2 e; have := HL5.out; have := HL7.out; omega
      ·have h6 := hgf b2 off2 e
       have hsz := htw.size
       exact ⟨by omega, by omega, fun h => by
        rcases hfar b2 h with h5 | h5
        ·exact hnv b2 off2 e h5
        ·omega⟩
    ·exact (HTR.out.then hmG (fun _ _ (h : False) => h.elim)).then htw (fun k hk e => by
      rcases e with e | e
      ·have := HPR.out.far k e; omega
      ·exact e))
   clear hHeld hO2 hT2 hV2
   go_wp2_with fail
   go_roundw
   case rel =>
    have HE2 := HE.out
    simp only [List.length_append, List.length_cons, List.length_nil, Nat.zero_add] at HE2
    exact ⟨k0 + 1, by omega, by go_num, HE2⟩
   case measure => simp [intOf]; omega
  ·have hk2 : k0 = ps.length := by omega
   obtain ⟨vp, rows, hbp, hrl, hpr, htr⟩ := hg
   have hs0 := HM0.out.size
   have hs1 := HK1.out.2.1.size
   have hs2 := HK2.out.2.1.size
   have hs3 := HK3.out.2.1.size
   have hs4 := HK4.out.2.1.size
   have hs5 := HL5.out
   have hs7 := htr.size
   have hkl := HK1.out.1.lt
   have m45 : Made w4 w7 := HM5.out.then HT7.out (fun k hk e => by omega)
   have hs57 := HL7.out
   have m15 : Made w1 w7 := ((HK2.out.2.1.trans HK3.out.2.1).trans HK4.out.2.1).trans m45
   have m25 : Made w2 w7 := (HK3.out.2.1.trans HK4.out.2.1).trans m45
   have m35 : Made w3 w7 := HK4.out.2.1.trans m45
   have hclk := (HK1.out.1.turns m15 (fun h => h)).turns htr (by omega)
   have htab := (HK2.out.1.made m25).turns htr (fun k hk e => by have := HK2.out.1.fb k hk; omega)
   have htms := (HK3.out.1.made m35).turns htr (fun k hk e => by have := HK3.out.1.fb k hk; omega)
   have hdls := (HK4.out.1.made m45).turns htr (fun k hk e => by have := HK4.out.1.fb k hk; omega)
   have hcx := HC7.out.turns htr (fun k hk e => by have := HF7.out k hk; omega)
   have HCX := zh hcx
   have HCL := zh hclk
   have HTM := zh htms
   have HDL := zh hdls
   have HBP := zh hbp
   have HPR := zh (And.intro hpr (And.intro hrl hk2))
   have HTR := zh htr
   have HST := zh (tabstart_c (pg := 0) (r := ⟨0, 0, 0, 0, 0, 0, 0, 0⟩) htab (by simp) (by omega) (by simp) (by simp))
   have HSZ : Hid (w.heap.size ≤ w0.heap.size ∧ w0.heap.size ≤ w1.heap.size ∧ w1.heap.size ≤ w2.heap.size ∧ w2.heap.size ≤ w3.heap.size ∧ w3.heap.size ≤ w4.heap.size ∧ w5.heap.size = w4.heap.size + 1 ∧ w7.heap.size ≤ wr.heap.size ∧ pk < w1.heap.size ∧ w5.heap.size ≤ w7.heap.size) := zh ⟨hs0, hs1, hs2, hs3, hs4, hs5, hs7, hkl, hs57⟩
   have q2 := hbp.cell 2
   simp only [zG] at q2
   clear hbp hpr htr hcx hs57 hclk htab htms hdls m45 m15 m25 m35 hs0 hs1 hs2 hs3 hs4 hs5 hs7 hkl hrl hk2
   go_wp2_with fail
   refine HST.out.mono ?_
   rintro e w8 ⟨rfl, F2', ht8, hst8⟩
   have HT8 := zh (And.intro ht8 hst8)
   clear ht8 hst8
   go_wp2_with fail
   go_returns
   obtain ⟨hs0, hs1, hs2, hs3, hs4, hs5, hs7, hkl, hs57⟩ := HSZ.out
   obtain ⟨ht8, hst8⟩ := HT8.out
   have hs8 := hst8.t.size
   have b2 : ∀ k, F2 k → w1.heap.size ≤ k ∧ k < w2.heap.size := fun k hk => ⟨HK2.out.2.2 k hk, HK2.out.1.fb k hk⟩
   have b2' : ∀ k, F2' k → (w1.heap.size ≤ k ∧ k < w2.heap.size) ∨ wr.heap.size ≤ k := fun k hk => (hst8.f k hk).imp (b2 k) id
   have b3 : ∀ k, F3 k → w2.heap.size ≤ k ∧ k < w3.heap.size := fun k hk => ⟨HK3.out.2.2 k hk, HK3.out.1.fb k hk⟩
   have b4 : ∀ k, F4 k → w3.heap.size ≤ k ∧ k < w4.heap.size := fun k hk => ⟨HK4.out.2.2 k hk, HK4.out.1.fb k hk⟩
   have b6 : ∀ k, F6 k → w5.heap.size ≤ k ∧ k < w7.heap.size := HF7.out
   have hpk := HK1.out.2.2
   obtain ⟨o, e1, e2, e3, e4, e5, e6, e7, eo, ele⟩ := seven_labels (F2 := F2') (F3 := F3) (F4 := F4) (F6 := F6) (G := fun k => w7.heap.size ≤ k ∧ k < wr.heap.size) (pb := w4.heap.size) (pk := pk) (by omega) (fun h => by have := b2' _ h; omega) (fun h => by have := b3 _ h; omega) (fun h => by have := b4 _ h; omega) (fun h => by have := b6 _ h; omega) (fun h => by omega) (fun h => by have := b2' _ h; omega) (fun h => by have := b3 _ h; omega) (fun h => by have := b4 _ h; omega) (fun h => by have := b6 _ h; omega) (fun h => by omega) (fun k h g => by have := b2' _ g; have := b3 _ h; omega) (fun k h g => by have := b2' _ g; have := b4 _ h; omega) (fun k h g => by have := b2' _ g; have := b6 _ h; omega) (fun k h g => by have := b2' _ g; omega) (fun k h g => by have := b3 _ g; have := b4 _ h; omega) (fun k h g => by have := b3 _ g; have := b6 _ h; omega) (fun k h g => by have := b3 _ g; omega) (fun k h g => by have := b4 _ g; have := b6 _ h; omega) (fun k h g => by have := b4 _ g; omega) (fun k h g => by have := b6 _ g; omega)
   have hm8 : Made w w8 := (show Made w wr from HM7.out.then HTR.out (fun k hk e => by omega)).then hst8.t (fun k hk h => by have := b2 k h; omega)
   have hn8 : ∀ k, o k = 8 ∨ o k = 9 ∨ o k = 10 → False := fun k hk => by
    have hz : o k ≠ 0 := by omega
    rcases eo k hz with h | h | h | h | h | h | h
    ·rw [h, e1] at hk; omega
    ·rw [h, e2] at hk; omega
    ·have h2 : o k = 3 := by rw [← e3] at h; exact h
     omega
    ·have h2 : o k = 4 := by rw [← e4] at h; exact h
     omega
    ·have h2 : o k = 5 := by rw [← e5] at h; exact h
     omega
    ·have h2 : o k = 6 := by rw [← e6] at h; exact h
     omega
    ·have h2 := (e7 k).2 h
     omega
   have hlo : ∀ k, o k ≠ 0 → w.heap.size ≤ k ∧ k < w8.heap.size := fun k hk => by
    rcases eo k hk with h | h | h | h | h | h | h
    ·omega
    ·omega
    ·have := ht8.fb k h; have := b2' k h; omega
    ·have := b3 k h; omega
    ·have := b4 k h; omega
    ·have := b6 k h; omega
    ·omega
   have hnl : ∀ k, (Value.slice none 0 0).ownBlock = some k ↔ False := fun k => ⟨fun h => (by cases h), fun h => h.elim⟩
   obtain ⟨hpr, hrl, hk2⟩ := HPR.out
   refine ⟨⟨w4.heap.size, pk, pt, pm, pd, px⟩, o, rfl, ⟨⟨fun i q hq => by simp [initS] at hq, fun t ht => by simp [initS] at ht⟩, fun x hx i hi => by (have hx2 : x ∈ [bgX] := hx; simp only [List.mem_singleton] at hx2; subst hx2; cases hi), [], rfl, vp, .slice none 0 0, .slice none 0 0, .slice none 0 0, ?_⟩, hm8, fun k hk => (hlo k hk).1⟩
   exact { blk := HBP.out.turns hst8.t (fun h => by have := b2 _ h; omega), ob := e1, lt := fun k hk => (hlo k hk).2, clk := HCL.out.turns hst8.t (fun h => by have := b2 _ h; omega), ok := e2, tab := by rw [e3]; exact ht8, tms := by rw [e4]; exact HTM.out.turns hst8.t (fun k hk h => by have := b2 _ h; have := b3 _ hk; omega), dls := ⟨[], rfl, by rw [e5]; exact HDL.out.turns hst8.t (fun k hk h => by have := b2 _ h; have := b4 _ hk; omega)⟩, ctx := ⟨vl6, by rw [e6]; exact HCX.out.turns hst8.t (fun k hk h => by have := b2 _ h; have := b6 _ hk; omega)⟩, prs := (by
    have hpos := HP.out.1.ge
    rcases hpr.own.form with ⟨_, h0⟩ | ⟨g, c, hv, hg, _⟩
    ·rw [h0] at hrl; simp only [List.length_nil] at hrl; omega
    ·have hgo : w7.heap.size ≤ g := hpr.far g (by rw [hv]; rfl)
     refine ⟨g, c, by rw [hv, hrl, hk2], (e7 g).2 ⟨hgo, hg⟩, by omega, fun i p hp => ?_⟩
     have hi : i < rows.length := by rw [hrl, hk2]; exact (List.getElem?_eq_some_iff.1 hp).1
     obtain ⟨r, hr⟩ := get_of_lt (xs := rows) hi
     obtain ⟨h1, h2, h3⟩ := hpr.row i r p hr hp
     have hc := Owns.cell prC_len (hv ▸ hpr.own) hr (j := 0) rfl
     refine ⟨r.1, r.2.2, ?_, h2.turns hst8.t (fun bb off2 e h => by have := h3 bb off2 e; have := b2 _ h; omega), fun bb off2 e => (e7 bb).2 ⟨(h3 bb off2 e).1, (h3 bb off2 e).2.1⟩⟩
     have h5 := (hst8.t.cell (p := ⟨g, i * 1 + 0, none⟩) hg (fun h => by have : w1.heap.size ≤ g ∧ g < w2.heap.size := b2 _ h; omega)).trans hc
     rw [h1] at h5
     simpa using h5), crow := Owns.nil, co := fun k => (hnl k).trans ⟨fun h => h.elim, fun h => hn8 k (.inl h)⟩, lrow := ⟨[], rfl, Owns.nil⟩, lo := fun k => (hnl k).trans ⟨fun h => h.elim, fun h => hn8 k (.inr (.inl h))⟩, erow := Owns.nil, eo := fun k => (hnl k).trans ⟨fun h => h.elim, fun h => hn8 k (.inr (.inr h))⟩, cnd := List.nodup_nil, chn := fun p c hp => (by cases hp) }
end
structure Cf where
 now : Int
 ts : List Tsk
 rd : List Int
 chs : List (Nat × Chn)
 tms : List Tk
 named : Int
 L : List It
 sq : Int
abbrev Cf.st (c : Cf) (nd nl : Nat) (steps : Int) (ev : List Ev) : Wst := ⟨c.now, c.ts, c.rd, c.chs, 0, c.tms, c.named, c.L, c.sq, nd, nl, steps, ev⟩
structure LimC (c : Cf) : Prop where
 rd : c.rd.length ≤ 50
 ts : c.ts.length ≤ 50
 chs : c.chs.length ≤ 100
 tms : c.tms.length ≤ 100
 sq : 0 ≤ c.sq ∧ c.sq ≤ 1000
 now : 0 ≤ c.now ∧ c.now ≤ 100000
 named : 0 ≤ c.named ∧ c.named ≤ 50
theorem LimC.lim {c : Cf} (h : LimC c) {nd nl : Nat} {steps : Int} {ev : List Ev} (h1 : nd ≤ 90010) (h2 : nl ≤ 9010) (h3 : 0 ≤ steps) (h4 : steps ≤ 9010) (h5 : ev.length ≤ 200) : Lim (c.st nd nl steps ev) := by
 obtain ⟨a1, a2, a3, a4, a5, a6, a7⟩ := h
 exact ⟨by show ev.length < 900; omega, by show c.rd.length ≤ 900; omega, by show c.ts.length < 64; omega, by show c.chs.length ≤ 900; omega, by show c.tms.length ≤ 900; omega, a5.1, by show c.sq < 100000; omega, by show nd < 100000; omega, by show nl < 100000; omega, h3, by show steps < 100000; omega, a6.1, by show c.now ≤ 1000000; omega, a7.1, by show c.named < 64; omega⟩
def Rx (ps : List (List Ins)) (c : Cf) (k : Cs) (e : Ent) (t : List Int) (c' : Cf) (k' : Cs) : Prop := ∀ (nd nl : Nat) (steps : Int) (ev : List Ev), nd ≤ 90000 → nl ≤ 9000 → 0 ≤ steps → steps ≤ 9000 → ev.length ≤ 200 → ∃ nd' nl' ev', SpX ps (c.st nd nl steps ev) k e (c'.st nd' nl' (steps + 1) ev') k' ∧ nd' ≤ nd + 10 ∧ nl' ≤ nl + 1 ∧ ev'.length ≤ 200 ∧ toldM ev' 0 = t
section
variable {ps : List (List Ins)} {c c2 : Cf} {k k2 : Cs} {n : Int} {i : Nat} {x : Tsk} {p : List Ins}
theorem Rx.idle (hl : LimC c) (hr : c.rd = []) : Rx ps c k (.run n) [] c k := fun nd nl steps ev h1 h2 h3 h4 h5 =>
 ⟨nd, nl + 1, [], .old (stepF_idle (s := c.st nd nl steps ev) (hl.lim (by omega) (by omega) h3 (by omega) h5) hr), by omega, Nat.le_refl _, by simp, rfl⟩
theorem Rx.loc {O : LOut} (hl : LimC c) (h1 : c.rd[(pickZ n c.rd.length).toNat]? = some (i : Int)) (h2 : c.ts[i]? = some x) (h3 : ps[x.prog.toNat]? = some p) (h4 : x.st = 0 ∧ 0 ≤ x.prog ∧ 0 ≤ x.pc) (h5 : locF p x.pc.toNat x.regs c.now = some O) (h6 : O.told = false) (h7 : O.ended = false) : Rx ps c k (.run n) [] { c with ts := c.ts.set i ⟨x.prog, O.pc, x.st, x.how, O.regs, x.ins⟩ } k := fun nd nl steps ev g1 g2 g3 g4 g5 => by
 have h8 := stepF_loc (ps := ps) (s := c.st nd nl steps ev) (hl.lim (by omega) (by omega) g3 (by omega) g5) (by show nl < 99999; omega) h1 h2 h3 h4 h5
 obtain ⟨opc, oregs, ot, ov, oe⟩ := O
 have h6 : ot = false := h6
 have h7 : oe = false := h7
 subst h6 h7
 exact ⟨nd, nl + 1, [], .old h8, by omega, Nat.le_refl _, by simp, rfl⟩
theorem Rx.told {O : LOut} (hl : LimC c) (h1 : c.rd[(pickZ n c.rd.length).toNat]? = some (i : Int)) (h2 : c.ts[i]? = some x) (h3 : ps[x.prog.toNat]? = some p) (h4 : x.st = 0 ∧ 0 ≤ x.prog ∧ 0 ≤ x.pc) (h5 : locF p x.pc.toNat x.regs c.now = some O) (h6 : O.told = true) : Rx ps c k (.run n) (if i = 0 then [O.value] else []) { c with ts := c.ts.set i ⟨x.prog, O.pc, x.st, x.how, O.regs, x.ins⟩ } k := fun nd nl steps ev g1 g2 g3 g4 g5 => by
 have h8 := stepF_loc (ps := ps) (s := c.st nd nl steps ev) (hl.lim (by omega) (by omega) g3 (by omega) g5) (by show nl < 99999; omega) h1 h2 h3 h4 h5
 obtain ⟨opc, oregs, ot, ov, oe⟩ := O
 have h6 : ot = true := h6
 subst h6
 refine ⟨nd, nl + 1, [⟨steps, 1, i, ov, 0, 0⟩], .old h8, by omega, Nat.le_refl _, by simp, ?_⟩
 unfold toldM
 by_cases hi : i = 0
 ·subst hi
  simp
 ·rw [if_neg hi]
  simp [hi]
theorem Rx.ends {O : LOut} (hl : LimC c) (h1 : c.rd[(pickZ n c.rd.length).toNat]? = some (i : Int)) (h2 : c.ts[i]? = some x) (h3 : ps[x.prog.toNat]? = some p) (h4 : x.st = 0 ∧ 0 ≤ x.prog ∧ 0 ≤ x.pc) (h5 : locF p x.pc.toNat x.regs c.now = some O) (h6 : O.told = false) (h7 : O.ended = true) : Rx ps c k (.run n) [] { c with ts := c.ts.set i ⟨x.prog, O.pc, 2, 0, O.regs, ⟨0, 0, 0, 0⟩⟩, rd := c.rd.eraseIdx (c.rd.idxOf (i : Int)) } k := fun nd nl steps ev g1 g2 g3 g4 g5 => by
 have h8 := stepF_loc (ps := ps) (s := c.st nd nl steps ev) (hl.lim (by omega) (by omega) g3 (by omega) g5) (by show nl < 99999; omega) h1 h2 h3 h4 h5
 obtain ⟨opc, oregs, ot, ov, oe⟩ := O
 have h6 : ot = false := h6
 have h7 : oe = true := h7
 subst h6 h7
 exact ⟨nd, nl + 1, [⟨steps, 4, i, 0, 0, 0⟩], .old h8, by omega, Nat.le_refl _, by simp, by simp [toldM]⟩
theorem Rx.act {ins : Ins} {r2 : Reg} (hl : LimC c) (h1 : c.rd[(pickZ n c.rd.length).toNat]? = some (i : Int)) (h2 : c.ts[i]? = some x) (h3 : ps[x.prog.toNat]? = some p) (h4 : x.st = 0 ∧ 0 ≤ x.prog ∧ 0 ≤ x.pc) (h5 : p[x.pc.toNat]? = some ins) (h6 : mineB ins.op = false)
  (h7 : ∀ (nd nl : Nat) (steps : Int), ∃ ev', actF (c.st nd nl steps []) i ins x.regs = some (c2.st nd nl steps ev', some r2) ∧ ev'.length ≤ 200 ∧ toldM ev' 0 = []) : Rx ps c k (.run n) [] { c2 with ts := c2.ts.set i ⟨x.prog, x.pc + 1, x.st, x.how, r2, x.ins⟩ } k := fun nd nl steps ev g1 g2 g3 g4 g5 => by
 obtain ⟨ev', h8, h9, h10⟩ := h7 nd (nl + 1) steps
 exact ⟨nd, nl + 1, ev', .old (stepF_act (s := c.st nd nl steps ev) (hl.lim (by omega) (by omega) g3 (by omega) g5) (by show nl < 99999; omega) h1 h2 h3 h4 h5 h6 h8 rfl (by show ev'.length < 800; omega)), by omega, Nat.le_refl _, h9, h10⟩
theorem Rx.park {ins : Ins} (hl : LimC c) (h1 : c.rd[(pickZ n c.rd.length).toNat]? = some (i : Int)) (h2 : c.ts[i]? = some x) (h3 : ps[x.prog.toNat]? = some p) (h4 : x.st = 0 ∧ 0 ≤ x.prog ∧ 0 ≤ x.pc) (h5 : p[x.pc.toNat]? = some ins) (h6 : mineB ins.op = false)
  (h7 : ∀ (nd nl : Nat) (steps : Int), actF (c.st nd nl steps []) i ins x.regs = some (c2.st nd nl steps [], none)) : Rx ps c k (.run n) [] { c2 with ts := c2.ts.set i ⟨x.prog, x.pc, 1, x.how, x.regs, ins⟩, rd := c2.rd.eraseIdx (c2.rd.idxOf (i : Int)) } k := fun nd nl steps ev g1 g2 g3 g4 g5 => by
 exact ⟨nd, nl + 1, [⟨steps, 2, i, 0, 0, 0⟩], .old (stepF_act (s := c.st nd nl steps ev) (hl.lim (by omega) (by omega) g3 (by omega) g5) (by show nl < 99999; omega) h1 h2 h3 h4 h5 h6 (h7 nd (nl + 1) steps) rfl (by simp)), by omega, Nat.le_refl _, by simp, by simp [toldM]⟩
theorem Rx.ctx {ins : Ins} {r2 : Reg} (hl : LimC c) (h1 : c.rd[(pickZ n c.rd.length).toNat]? = some (i : Int)) (h2 : c.ts[i]? = some x) (h3 : ps[x.prog.toNat]? = some p) (h4 : x.st = 0 ∧ 0 ≤ x.prog ∧ 0 ≤ x.pc) (h5 : p[x.pc.toNat]? = some ins) (h6 : mineB ins.op = false)
  (h7 : ∀ (nd nl : Nat) (steps : Int), nd ≤ 90000 → ∃ nd' ev', ActX (c.st nd nl steps []) k ins x.regs (c2.st nd' nl steps ev') k2 r2 ∧ nd' ≤ nd + 10 ∧ ev'.length ≤ 200 ∧ toldM ev' 0 = []) (h8 : c2.ts[i]? = some x) (h9 : c2.ts.length ≤ 64) (h11 : c2.rd.length ≤ 1000) (h12 : (i : Int) ∈ c2.rd) : Rx ps c k (.run n) [] { c2 with ts := c2.ts.set i ⟨x.prog, x.pc + 1, x.st, x.how, r2, x.ins⟩ } k2 := fun nd nl steps ev g1 g2 g3 g4 g5 => by
 obtain ⟨nd', ev', h13, h14, h15, h16⟩ := h7 nd (nl + 1) steps g1
 exact ⟨nd', nl + 1, ev', .act (s := c.st nd nl steps ev) (hl.lim (by omega) (by omega) g3 (by omega) g5) (by show nl < 99999; omega) h1 h2 h3 h4 h5 h6 h13 h8 h9 (by show ev'.length < 900; omega) h11 h12 ⟨g3, by show steps < 100000; omega⟩, h14, Nat.le_refl _, h15, h16⟩
theorem Rx.adv {d : Int} (hl : LimC c) (hd : 0 ≤ d ∧ c.now + d ≤ 100000) (h7 : ∀ (nd nl : Nat) (steps : Int), nd ≤ 90000 → nl ≤ 9000 → 0 ≤ steps → steps ≤ 9000 → ∃ nd' ev', FiresI ({ c with now := c.now + d }.st nd nl steps []) k (c2.st nd' nl steps ev') k2 ∧ nd' ≤ nd + 10 ∧ ev'.length ≤ 200 ∧ toldM ev' 0 = []) : Rx ps c k (.adv d) [] c2 k2 := fun nd nl steps ev g1 g2 g3 g4 g5 => by
 obtain ⟨nd', ev', h13, h14, h15, h16⟩ := h7 nd nl steps g1 g2 g3 g4
 exact ⟨nd', nl, ev', .adv (s := c.st nd nl steps ev) (hl.lim (by omega) (by omega) g3 (by omega) g5) ⟨hd.1, by show c.now + d ≤ 1000000; omega⟩ h13 (by show ev'.length < 900; omega) ⟨g3, by show steps < 100000; omega⟩, h14, Nat.le_succ _, h15, h16⟩
theorem Rx.adv0 {d : Int} (hl : LimC c) (hd : 0 ≤ d ∧ c.now + d ≤ 100000) (h : ∀ it, c.L[0]? = some it → c.now + d < it.when) : Rx ps c k (.adv d) [] { c with now := c.now + d } k :=
 Rx.adv hl hd fun nd nl steps _ _ _ _ => ⟨nd, [], .done _ _ h, by omega, by simp, rfl⟩
end
def Rxs (ps : List (List Ins)) : Cf → Cs → List Ent → List Int → Cf → Cs → Prop
 | c, k, [], t, c', k' => t = [] ∧ c' = c ∧ k' = k
 | c, k, e :: l, t, c', k' => ∃ c1 k1 t1 t2, Rx ps c k e t1 c1 k1 ∧ Rxs ps c1 k1 l t2 c' k' ∧ t = t1 ++ t2
def ExX (ps : List (List Ins)) : Wst → Cs → List Ent → List Ev → Wst → Cs → Prop
 | s, k, [], evs, s', k' => evs = [] ∧ s' = s ∧ k' = k
 | s, k, e :: l, evs, s', k' => ∃ s1 k1 evs1, SpX ps s k e s1 k1 ∧ ExX ps s1 k1 l evs1 s' k' ∧ evs = s1.ev ++ evs1
section
variable {ps : List (List Ins)}
theorem Rxs.append : ∀ {l1 : List Ent} {c c1 c2 : Cf} {k k1 k2 : Cs} {t1 t2 : List Int} {l2 : List Ent}, Rxs ps c k l1 t1 c1 k1 → Rxs ps c1 k1 l2 t2 c2 k2 → Rxs ps c k (l1 ++ l2) (t1 ++ t2) c2 k2
 | [], c, c1, c2, k, k1, k2, t1, t2, l2, h, g => by
  obtain ⟨rfl, rfl, rfl⟩ := h
  simpa using g
 | e :: l, c, c1, c2, k, k1, k2, t1, t2, l2, h, g => by
  obtain ⟨c3, k3, t3, t4, h1, h2, rfl⟩ := h
  exact ⟨c3, k3, t3, t4 ++ t2, h1, Rxs.append h2 g, by simp⟩
theorem Rxs.one {c c' : Cf} {k k' : Cs} {e : Ent} {t : List Int} (h : Rx ps c k e t c' k') : Rxs ps c k [e] t c' k' := ⟨c', k', t, [], h, ⟨rfl, rfl, rfl⟩, by simp⟩
theorem Rxs.snoc {c c1 c2 : Cf} {k k1 k2 : Cs} {l : List Ent} {e : Ent} {t1 t2 : List Int} (h : Rxs ps c k l t1 c1 k1) (g : Rx ps c1 k1 e t2 c2 k2) : Rxs ps c k (l ++ [e]) (t1 ++ t2) c2 k2 := h.append (Rxs.one g)
theorem Rxs.idle {c : Cf} {k : Cs} (hl : LimC c) (hr : c.rd = []) : ∀ (l : List Ent), (∀ e ∈ l, ∃ n, e = .run n) → Rxs ps c k l [] c k
 | [], _ => ⟨rfl, rfl, rfl⟩
 | e :: l, h => by
  obtain ⟨n, rfl⟩ := h e List.mem_cons_self
  exact ⟨c, k, [], [], Rx.idle hl hr, Rxs.idle hl hr l (fun e he => h e (List.mem_cons_of_mem _ he)), rfl⟩
theorem Rxs.ex : ∀ {l : List Ent} {c c' : Cf} {k k' : Cs} {t : List Int} {nd nl : Nat} {steps : Int} {ev : List Ev}, Rxs ps c k l t c' k' → nd + 10 * l.length ≤ 90000 → nl + l.length ≤ 9000 → 0 ≤ steps → steps + l.length ≤ 9000 → ev.length ≤ 200 → ∃ evs nd' nl' ev', ExX ps (c.st nd nl steps ev) k l evs (c'.st nd' nl' (steps + l.length) ev') k' ∧ nd' ≤ nd + 10 * l.length ∧ nl' ≤ nl + l.length ∧ ev'.length ≤ 200 ∧ evs.length ≤ 200 * l.length ∧ toldM evs 0 = t
 | [], c, c', k, k', t, nd, nl, steps, ev, h, h1, h2, h3, h4, h5 => by
  obtain ⟨rfl, rfl, rfl⟩ := h
  exact ⟨[], nd, nl, ev, ⟨rfl, by simp, rfl⟩, by omega, by omega, h5, by simp, rfl⟩
 | e :: l, c, c', k, k', t, nd, nl, steps, ev, h, h1, h2, h3, h4, h5 => by
  obtain ⟨c1, k1, t1, t2, g1, g2, rfl⟩ := h
  simp only [List.length_cons] at h1 h2 h4
  obtain ⟨nd1, nl1, ev1, f1, f2, f3, f4, f5⟩ := g1 nd nl steps ev (by omega) (by omega) h3 (by omega) h5
  obtain ⟨evs, nd2, nl2, ev2, e1, e2, e3, e4, e5, e6⟩ := Rxs.ex (nd := nd1) (nl := nl1) (steps := steps + 1) (ev := ev1) g2 (by omega) (by omega) (by omega) (by omega) f4
  refine ⟨ev1 ++ evs, nd2, nl2, ev2, ⟨_, k1, evs, f1, ?_, rfl⟩, by simp only [List.length_cons]; omega, by simp only [List.length_cons]; omega, e4, by rw [List.length_append]; simp only [List.length_cons]; omega, by rw [toldM_append, f5, e6]⟩
  rw [show steps + ((e :: l).length : Int) = steps + 1 + (l.length : Int) from by simp only [List.length_cons]; omega]
  exact e1
end
def canC : List Cd → List (Nat × Chn) → List (Nat × Chn)
 | [], l => l
 | d :: D, l => canC D (l.set d.ci (d.q.1, ⟨d.q.2.timed, true, true, d.q.2.room, d.q.2.val, []⟩))
def canL : List Cd → List It → List It
 | [], L => L
 | d :: D, L => canL D (canT d.x.timer L)
theorem canS_eq : ∀ (D : List Cd) (s : Wst), canS D s = { s with chs := canC D s.chs, L := canL D s.L }
 | [], s => rfl
 | d :: D, s => by
  show canS D (can1 s d) = _
  rw [canS_eq D]
  rfl
theorem canC_len : ∀ (D : List Cd) (l : List (Nat × Chn)), (canC D l).length = l.length
 | [], _ => rfl
 | d :: D, l => by
  show (canC D (l.set _ _)).length = _
  rw [canC_len D, List.length_set]
def dOf (chs : List (Nat × Chn)) (cs : List Cx) (m cnt : Nat) : List Cd := (List.range cnt).map fun j => ⟨(cs[m + j]?).getD bgX, m + j - 1, (chs[m + j - 1]?).getD (0, ⟨false, false, false, false, none, []⟩)⟩
theorem dOf_len (chs : List (Nat × Chn)) (cs : List Cx) (m cnt : Nat) : (dOf chs cs m cnt).length = cnt := by simp [dOf]
theorem dOf_get {chs : List (Nat × Chn)} {cs : List Cx} {m cnt j : Nat} {d : Cd} (h : (dOf chs cs m cnt)[j]? = some d) : j < cnt ∧ d = ⟨(cs[m + j]?).getD bgX, m + j - 1, (chs[m + j - 1]?).getD (0, ⟨false, false, false, false, none, []⟩)⟩ := by
 have hj : j < cnt := by
  have h1 := (List.getElem?_eq_some_iff.1 h).1
  rwa [dOf_len] at h1
 refine ⟨hj, ?_⟩
 unfold dOf at h
 rw [List.getElem?_map, List.getElem?_range hj] at h
 cases h
 rfl
structure Alive (chs : List (Nat × Chn)) (tms : List Tk) (cs : List Cx) (i : Nat) (lw : List Wt) : Prop where
 ex : ∃ x ch, cs[i]? = some x ∧ x.c = some (i - 1) ∧ x.free = false ∧ x.err = 0 ∧ chs[i - 1]? = some (i - 1, ch) ∧ ch.signal = true ∧ ch.closed = false ∧ ch.recvs = lw ∧ (x.timer = -1 ∨ ∃ (j : Nat) (kd dt : Int), x.timer = j ∧ tms[j]? = some ⟨kd, dt, none⟩)
theorem canI_of {s : Wst} {k : Cs} {m : Nat} {lw : List Wt} (hm : 1 ≤ m) (hmc : m < k.cut) (hle : k.cut ≤ k.cs.length) (hf : k.cs.length ≤ 60) (hlw : (lw.map Wt.task).Nodup) (hll : lw.length ≤ 50) (h : ∀ i, m ≤ i → i < k.cut → Alive s.chs s.tms k.cs i (if i + 1 = k.cut then lw else [])) : CanI (dOf s.chs k.cs m (k.cut - m)) m s k where
 ne := fun e => by
  have := dOf_len s.chs k.cs m (k.cut - m)
  rw [e] at this
  simp only [List.length_nil] at this
  omega
 cut := by rw [dOf_len]; omega
 one := hm
 le := hle
 few := hf
 all := fun j d hd => by
  obtain ⟨hj, rfl⟩ := dOf_get hd
  obtain ⟨x, ch, h1, h2, h3, h4, h5, h6, h7, h8, h9⟩ := (h (m + j) (by omega) (by omega)).ex
  simp only [h1, h5, Option.getD_some]
  refine ⟨trivial, trivial, h2, h3, h4, h6, h7, ?_, ?_, h9⟩
  ·rw [h8]
   split
   ·exact hlw
   ·simp
  ·rw [h8]
   split
   ·exact hll
   ·simp
 nd := by
  have e : (dOf s.chs k.cs m (k.cut - m)).map Cd.ci = (List.range (k.cut - m)).map (fun j => m + j - 1) := by
   unfold dOf
   rw [List.map_map]
   rfl
  rw [e]
  refine List.Pairwise.map _ (fun a b hab => ?_) (List.nodup_range (n := k.cut - m))
  omega
theorem canO_append (a b : List Cd) (m : Nat) : canO (a ++ b) m = canO a m ++ canO b (m + a.length) := by
 induction a generalizing m with
 | nil => rfl
 | cons d a ih =>
  show (m, _) :: canO (a ++ b) (m + 1) = (m, _) :: (canO a (m + 1) ++ canO b (m + (a.length + 1)))
  rw [ih, show m + 1 + a.length = m + (a.length + 1) from by omega]
theorem lapS_append (err cause : Int) (a b : List (Nat × List Wk)) (s : Wst) : lapS err cause (a ++ b) s = lapS err cause b (lapS err cause a s) := by
 induction a generalizing s with
 | nil => rfl
 | cons y a ih => exact ih _
theorem LapI.append {err cause : Int} {a b : List (Nat × List Wk)} {s : Wst} (h : LapI err cause a s) (g : LapI err cause b (lapS err cause a s)) : LapI err cause (a ++ b) s := by
 induction a generalizing s with
 | nil => exact g
 | cons y a ih => exact ⟨h.1, ih h.2 g⟩
theorem lap_quiet (err cause : Int) : ∀ (ys : List (Nat × List Wk)) (s : Wst), (∀ y ∈ ys, y.2 = []) → s.ev.length + ys.length < 900 → s.rd.length ≤ 1000 → s.ts.length ≤ 64 → s.nd < 1000000 → ∃ E, E.length = ys.length ∧ toldM E 0 = [] ∧ lapS err cause ys s = { s with ev := s.ev ++ E } ∧ LapI err cause ys s
 | [], s, _, _, _, _, _ => ⟨[], rfl, rfl, by simp [lapS], trivial⟩
 | y :: l, s, h, h1, h2, h3, h4 => by
  have hy := h y List.mem_cons_self
  simp only [List.length_cons] at h1
  obtain ⟨E, e1, e2, e3, e4⟩ := lap_quiet err cause l (lapT err cause s y) (fun z hz => h z (List.mem_cons_of_mem _ hz)) (by show (s.ev ++ [_]).length + _ < 900; rw [List.length_append]; simp only [List.length_cons, List.length_nil]; omega) h2 h3 h4
  refine ⟨⟨s.steps, 7, -1, y.1, err, cause⟩ :: E, by simp [e1], ?_, ?_, ?_, ?_⟩
  ·unfold toldM at e2 ⊢
   rw [List.filterMap_cons]
   simp [e2]
  ·show lapS err cause l (wakesS (lapT err cause s y) y.2) = _
   rw [hy]
   show lapS err cause l (lapT err cause s y) = _
   rw [e3]
   show ({ s with ev := (s.ev ++ [_]) ++ E } : Wst) = _
   rw [List.append_assoc]
   rfl
  ·exact ⟨by rw [hy]; simp; omega, by rw [hy]; simpa using h2, h3, by rw [hy]; simpa using h4, by rw [hy]; trivial⟩
  ·rw [hy]
   exact e4
theorem lap_last {err cause : Int} {D : List Cd} {m : Nat} {s : Wst} {k : Cs} {lw : List Wt} (hD : CanI D m s k) (hq : ∀ (j : Nat) (d : Cd), D[j]? = some d → d.q.2.recvs = if j + 1 = D.length then lw else []) (h1 : s.ev.length + D.length + lw.length < 800) (h2 : s.rd.length + lw.length ≤ 900) (h3 : s.ts.length ≤ 64) (h4 : s.nd + lw.length < 900000) (hw : ∀ E, WakesB { canS D s with ev := s.ev ++ E } (lw.map clW)) :
  ∃ E, E.length = D.length ∧ toldM E 0 = [] ∧ lapS err cause (canO D m) (canS D s) = wakesS { canS D s with ev := s.ev ++ E } (lw.map clW) ∧ LapI err cause (canO D m) (canS D s) := by
 obtain ⟨D0, d, hd⟩ : ∃ D0 d, D = D0 ++ [d] := by
  rcases List.eq_nil_or_concat D with h | ⟨D0, d, h⟩
  ·exact absurd h hD.ne
  ·exact ⟨D0, d, by rw [h]; simp⟩
 have hdl : D.length = D0.length + 1 := by rw [hd]; simp
 have hlast : d.q.2.recvs = lw := by
  have h5 := hq D0.length d (by rw [hd]; simp)
  rwa [if_pos hdl.symm] at h5
 have hfst : ∀ e ∈ D0, e.q.2.recvs = [] := fun e he => by
  obtain ⟨j, hj⟩ := List.getElem?_of_mem he
  have hjl := (List.getElem?_eq_some_iff.1 hj).1
  have h5 := hq j e (by rw [hd, List.getElem?_append_left hjl]; exact hj)
  rwa [if_neg (by omega)] at h5
 have hsq : ∀ (l : List Cd) (n : Nat), (∀ e ∈ l, e.q.2.recvs = []) → ∀ y ∈ canO l n, y.2 = [] := fun l => by
  induction l with
  | nil => intro n _ y hy; cases hy
  | cons e l ih =>
   intro n he y hy
   rcases List.mem_cons.1 hy with h5 | h5
   ·subst h5
    show e.q.2.recvs.map clW = []
    rw [he e List.mem_cons_self]
    rfl
   ·exact ih (n + 1) (fun z hz => he z (List.mem_cons_of_mem _ hz)) y h5
 have hce : canO D m = canO D0 m ++ [(m + D0.length, lw.map clW)] := by
  rw [hd, canO_append]
  show canO D0 m ++ [(m + D0.length, d.q.2.recvs.map clW)] = _
  rw [hlast]
 have hsev : (canS D s).ev = s.ev ∧ (canS D s).rd = s.rd ∧ (canS D s).ts = s.ts ∧ (canS D s).nd = s.nd ∧ (canS D s).steps = s.steps := by rw [canS_eq]; exact ⟨rfl, rfl, rfl, rfl, rfl⟩
 obtain ⟨E, e1, e2, e3, e4⟩ := lap_quiet err cause (canO D0 m) (canS D s) (hsq D0 m hfst) (by rw [hsev.1, canO_len]; omega) (by rw [hsev.2.1]; omega) (by rw [hsev.2.2.1]; exact h3) (by rw [hsev.2.2.2.1]; omega)
 rw [hsev.1] at e3
 refine ⟨E ++ [⟨s.steps, 7, -1, (m + D0.length : Nat), err, cause⟩], by rw [List.length_append, e1, canO_len]; simp only [List.length_cons, List.length_nil]; omega, ?_, ?_, ?_⟩
 ·rw [toldM_append, e2]
  simp [toldM]
 ·rw [hce, lapS_append, e3]
  show wakesS (lapT err cause { canS D s with ev := s.ev ++ E } _) (lw.map clW) = _
  congr 1
  show ({ canS D s with ev := (s.ev ++ E) ++ [⟨(canS D s).steps, 7, -1, _, err, cause⟩] } : Wst) = _
  rw [hsev.2.2.2.2, List.append_assoc]
 ·rw [hce]
  refine e4.append ?_
  rw [e3]
  refine ⟨⟨?_, ?_, ?_, ?_, ?_⟩, trivial⟩
  ·show (s.ev ++ E).length + (lw.map clW).length < 999
   rw [List.length_append, e1, canO_len, List.length_map]
   omega
  ·show (canS D s).rd.length + (lw.map clW).length ≤ 1000
   rw [hsev.2.1, List.length_map]
   omega
  ·show (canS D s).ts.length ≤ 64
   rw [hsev.2.2.1]
   exact h3
  ·show (canS D s).nd + (lw.map clW).length < 1000000
   rw [hsev.2.2.2.1, List.length_map]
   omega
  ·have h5 := hw (E ++ [⟨(canS D s).steps, 7, -1, (m + D0.length : Nat), err, cause⟩])
   rw [← List.append_assoc] at h5
   exact h5
theorem cut_if {α : Type} {m j cut : Nat} {a b : α} (h : m ≤ cut) : (if m + j + 1 = cut then a else b) = if j + 1 = cut - m then a else b := by
 by_cases h1 : m + j + 1 = cut
 ·rw [if_pos h1, if_pos (by omega)]
 ·rw [if_neg h1, if_neg (by omega)]
theorem can_wake {err cause : Int} {c : Cf} {k : Cs} {m : Nat} {pg pc how : Int} {r : Reg} {a j q : Nat} (hm : 1 ≤ m) (hmc : m < k.cut) (hle : k.cut ≤ k.cs.length) (hf : k.cs.length ≤ 60) (h : ∀ i, m ≤ i → i < k.cut → Alive c.chs c.tms k.cs i (if i + 1 = k.cut then [⟨0, 0, 0⟩] else [])) (hts : c.ts[0]? = some ⟨pg, pc, 1, how, r, ⟨11, a, j, q⟩⟩) (ha : a < 8 ∧ j < 8 ∧ q < 8) (hg : 0 ≤ r.get a) (hpc : 0 ≤ pc ∧ pc ≤ 1000) (hr0 : (0 : Int) ∉ c.rd) (hrl : c.rd.length ≤ 50) (htl : c.ts.length ≤ 50) (nd nl : Nat) (steps : Int) (hnd : nd ≤ 90000) (ev : List Ev) (hev : ev.length ≤ 100) :
  CanI (dOf c.chs k.cs m (k.cut - m)) m (c.st nd nl steps ev) k ∧ LapI err cause (canO (dOf c.chs k.cs m (k.cut - m)) m) (canS (dOf c.chs k.cs m (k.cut - m)) (c.st nd nl steps ev)) ∧ ∃ ev', lapS err cause (canO (dOf c.chs k.cs m (k.cut - m)) m) (canS (dOf c.chs k.cs m (k.cut - m)) (c.st nd nl steps ev)) = { c with chs := canC (dOf c.chs k.cs m (k.cut - m)) c.chs, L := canL (dOf c.chs k.cs m (k.cut - m)) c.L, ts := c.ts.set 0 ⟨pg, pc + 1, 0, how, (r.set j 0).set q 0, ⟨0, 0, 0, 0⟩⟩, rd := c.rd ++ [0] }.st nd nl steps ev' ∧ ev'.length ≤ ev.length + 61 ∧ toldM ev' 0 = toldM ev 0 := by
 have hD := canI_of (s := c.st nd nl steps ev) (lw := [⟨0, 0, 0⟩]) hm hmc hle hf (by simp) (by simp) h
 have hdl := dOf_len c.chs k.cs m (k.cut - m)
 have hwb : ∀ E, WakesB { canS (dOf c.chs k.cs m (k.cut - m)) (c.st nd nl steps ev) with ev := ev ++ E } (([⟨0, 0, 0⟩] : List Wt).map clW) := fun E => by
  rw [canS_eq]
  refine ⟨⟨by simp [clW], rfl, hr0, ?_⟩, trivial⟩
  show (match c.ts[0]? with | none => False | some t => t.st = 1 ∧ t.ins.op = 11 ∧ RegOK t.ins.a ∧ RegOK t.ins.b ∧ RegOK t.ins.c ∧ 0 ≤ t.regs.get t.ins.a.toNat ∧ 0 ≤ t.pc ∧ t.pc ≤ 1000)
  rw [hts]
  exact ⟨rfl, rfl, ⟨by show (0 : Int) ≤ (a : Int); omega, by show (a : Int) < 8; omega⟩, ⟨by show (0 : Int) ≤ (j : Int); omega, by show (j : Int) < 8; omega⟩, ⟨by show (0 : Int) ≤ (q : Int); omega, by show (q : Int) < 8; omega⟩, by simpa using hg, hpc.1, hpc.2⟩
 obtain ⟨E, e1, e2, e3, e4⟩ := lap_last (err := err) (cause := cause) (lw := [⟨0, 0, 0⟩]) hD (fun j d hd => by
  obtain ⟨hj, rfl⟩ := dOf_get hd
  obtain ⟨x, ch, h1, h2, h3, h4, h5, h6, h7, h8, h9⟩ := (h (m + j) (by omega) (by omega)).ex
  rw [hdl]
  have h5 : c.chs[m + j - 1]? = some (m + j - 1, ch) := h5
  simp only [h5, Option.getD_some, h8]
  exact cut_if (Nat.le_of_lt hmc)) (by rw [hdl]; show ev.length + _ + 1 < 800; omega) (by show c.rd.length + 1 ≤ 900; omega) (by show c.ts.length ≤ 64; omega) (by show nd + 1 < 900000; omega) hwb
 refine ⟨hD, e4, (ev ++ E) ++ [⟨steps, 3, 0, 0, 0, 0⟩], ?_, ?_, ?_⟩
 ·rw [e3, canS_eq]
  show wakeS _ ⟨((0 : Nat) : Int), 0, 0, false, false⟩ = _
  rw [wakeS_no (i := 0) (a := a) (j := j) (k := q) (pg := pg) (pc := pc) (how := how) (r := r) hts]
  rfl
 ·simp only [List.length_append, e1, hdl, List.length_cons, List.length_nil]
  omega
 ·rw [toldM_append, toldM_append, e2]
  simp [toldM]
abbrev R0 : Ent := .run 0
theorem Rxs.cons {ps : List (List Ins)} {c c1 c' : Cf} {k k1 k' : Cs} {e : Ent} {l : List Ent} {t : List Int} (h : Rx ps c k e [] c1 k1) (g : Rxs ps c1 k1 l t c' k') : Rxs ps c k (e :: l) t c' k' := ⟨c1, k1, [], t, h, g, rfl⟩
theorem pick_0 (a : Int) (l : List Int) : (a :: l)[(pickZ 0 (a :: l).length).toNat]? = some a := by
 have h : pickZ 0 ((a :: l).length : Int) = 0 := by unfold pickZ; simp
 rw [h]; rfl
section
variable {p : List Ins} {pc : Nat} {r : Reg} {now : Int}
theorem lt_of_some {x : Ins} (h : p[pc]? = some x) : ¬ pc = p.length := fun e => by
 rw [e] at h
 simp at h
theorem locF_set {a : Nat} {v z : Int} (h : p[pc]? = some ⟨1, a, v, z⟩) (ha : a < 8) : locF p pc r now = some ⟨pc + 1, r.set a v, false, 0, false⟩ := by
 unfold locF
 rw [if_neg (lt_of_some h), h]
 simp only
 rw [if_pos ⟨trivial, by show (0 : Int) ≤ (a : Int); omega, by show (a : Int) < 8; omega⟩]
 simp
theorem locF_move {a b : Nat} {z : Int} (h : p[pc]? = some ⟨2, a, b, z⟩) (ha : a < 8) (hb : b < 8) : locF p pc r now = some ⟨pc + 1, r.set a (r.get b), false, 0, false⟩ := by
 unfold locF
 rw [if_neg (lt_of_some h), h]
 simp only
 rw [if_neg (by omega), if_pos ⟨trivial, ⟨by omega, by omega⟩, by omega, by omega⟩]
 simp
theorem locF_emit {a : Nat} {z : Int} (h : p[pc]? = some ⟨6, a, 0, z⟩) (ha : a < 8) : locF p pc r now = some ⟨pc + 1, r, true, r.get a, false⟩ := by
 unfold locF
 rw [if_neg (lt_of_some h), h]
 simp only
 rw [if_neg (by omega), if_neg (by omega), if_pos ⟨trivial, ⟨by omega, by omega⟩, trivial⟩]
 simp
theorem locF_end (h : pc = p.length) : locF p pc r now = some ⟨pc, r, false, 0, true⟩ := by
 unfold locF
 rw [if_pos h]
end
def tcO (tm : Bool) : Ins := if tm then ⟨24, 1, 0, 4⟩ else ⟨22, 1, 0, 0⟩
def tcE : List Ins := [⟨29, 2, 3, 0⟩, ⟨8, 5, 1, 0⟩, ⟨11, 3, 6, 7⟩, ⟨27, 2, 6, 0⟩, ⟨6, 6, 0, 0⟩]
def tcP (tm : Bool) (d : Int) (n : Nat) : List Ins := ⟨1, 4, d, 0⟩ :: tcO tm :: ⟨2, 2, 1, 0⟩ :: (List.replicate n ⟨22, 2, 2, 0⟩ ++ tcE)
def tcQ (at_ : Int) : List Ins := [⟨1, 4, at_, 0⟩, ⟨17, 6, 4, 7⟩, ⟨11, 7, 6, 4⟩, ⟨1, 4, 9, 0⟩, ⟨26, 1, 4, 0⟩]
theorem tcP_len (tm : Bool) (d : Int) (n : Nat) : (tcP tm d n).length = n + 8 := by
 simp [tcP, tcE]
theorem tcP_mid {tm : Bool} {d : Int} {n j : Nat} (h : j < n) : (tcP tm d n)[3 + j]? = some ⟨22, 2, 2, 0⟩ := by
 show (⟨1, 4, d, 0⟩ :: tcO tm :: ⟨2, 2, 1, 0⟩ :: (List.replicate n (⟨22, 2, 2, 0⟩ : Ins) ++ tcE))[3 + j]? = _
 rw [show 3 + j = j + 1 + 1 + 1 from by omega, List.getElem?_cons_succ, List.getElem?_cons_succ, List.getElem?_cons_succ, List.getElem?_append_left (by simpa using h), List.getElem?_replicate, if_pos h]
theorem tcP_end {tm : Bool} {d : Int} {n : Nat} (j : Nat) : (tcP tm d n)[n + 3 + j]? = tcE[j]? := by
 show (⟨1, 4, d, 0⟩ :: tcO tm :: ⟨2, 2, 1, 0⟩ :: (List.replicate n (⟨22, 2, 2, 0⟩ : Ins) ++ tcE))[n + 3 + j]? = _
 rw [show n + 3 + j = (n + j) + 1 + 1 + 1 from by omega, List.getElem?_cons_succ, List.getElem?_cons_succ, List.getElem?_cons_succ, List.getElem?_append_right (by simp)]
 simp
def tcX (tm : Bool) (d : Int) (i : Nat) : Cx := ⟨(i : Int) + 1, false, some i, 0, 0, if tm then d else 0, tm, tm && decide (i = 0), if (tm && decide (i = 0)) = true then 0 else -1⟩
def tcK (tm : Bool) (d : Int) (m : Nat) : Cs := ⟨bgX :: (List.range m).map (tcX tm d), m + 1⟩
def sigC (l : List Wt) : Chn := ⟨false, true, false, false, none, l⟩
def tcH (m : Nat) : List (Nat × Chn) := (List.range m).map fun i => (i, sigC [])
theorem tcK_len (tm : Bool) (d : Int) (m : Nat) : (tcK tm d m).cs.length = m + 1 := by simp [tcK]
theorem tcH_len (m : Nat) : (tcH m).length = m := by simp [tcH]
theorem tcK_get {tm : Bool} {d : Int} {m i : Nat} (h : i < m) : (tcK tm d m).cs[i + 1]? = some (tcX tm d i) := by
 show (bgX :: (List.range m).map (tcX tm d))[i + 1]? = _
 rw [List.getElem?_cons_succ, List.getElem?_map, List.getElem?_range h]
 rfl
theorem tcH_get {m i : Nat} (h : i < m) : (tcH m)[i]? = some (i, sigC []) := by
 unfold tcH
 rw [List.getElem?_map, List.getElem?_range h]
 rfl
theorem tcK_succ {tm : Bool} {d : Int} {m : Nat} (hm : 1 ≤ m) : mkC (tcK tm d m) m (if tm then d else 0) tm false (-1) m = tcK tm d (m + 1) := by
 unfold mkC tcK
 simp only [List.range_succ, List.map_append, List.map_cons, List.map_nil, List.cons_append]
 have e : tcX tm d m = ⟨(m : Int) + 1, false, some m, 0, 0, if tm then d else 0, tm, false, -1⟩ := by
  unfold tcX
  rw [show decide (m = 0) = false from by rw [decide_eq_false_iff_not]; omega]
  simp
 rw [e]
theorem tcH_succ (m : Nat) : tcH m ++ [((tcH m).length, sigC [])] = tcH (m + 1) := by
 rw [tcH_len]
 unfold tcH
 simp only [List.range_succ, List.map_append, List.map_cons, List.map_nil]
def tcB (tm : Bool) (d : Int) (m : Nat) (pc : Int) (r : Reg) : Cf := ⟨0, [⟨0, pc, 0, 0, r, zI⟩], [0], tcH m, if tm then [⟨4, 1, none⟩] else [], 0, if tm then [⟨0, d, 1⟩] else [], if tm then 1 else 0⟩
theorem tcB_lim {tm : Bool} {d : Int} {m : Nat} {pc : Int} {r : Reg} (h : m ≤ 10) : LimC (tcB tm d m pc r) := by
 refine ⟨by simp [tcB], by simp [tcB], by simp [tcB, tcH_len]; omega, ?_, ?_, by simp [tcB], by simp [tcB]⟩
 ·cases tm <;> simp [tcB]
 ·cases tm <;> simp [tcB]
def c0 : Cf := ⟨0, [⟨0, 0, 0, 0, zRg, zI⟩], [0], [], [], 0, [], 0⟩
section
variable {tm : Bool} {d at_ : Int} {n m : Nat}
theorem tc_set (hd : 1 ≤ d ∧ d ≤ 1000) : Rx [tcP tm d n, tcQ at_] c0 k0 R0 [] ⟨0, [⟨0, 1, 0, 0, ⟨0, 0, 0, 0, d, 0, 0, 0⟩, zI⟩], [0], [], [], 0, [], 0⟩ k0 :=
 Rx.loc (i := 0) (x := ⟨0, 0, 0, 0, zRg, zI⟩) (p := tcP tm d n) (O := ⟨1, ⟨0, 0, 0, 0, d, 0, 0, 0⟩, false, 0, false⟩) ⟨by simp [c0], by simp [c0], by simp [c0], by simp [c0], by simp [c0], by simp [c0], by simp [c0]⟩ (pick_0 0 []) rfl rfl ⟨rfl, by simp, by simp⟩ (locF_set (a := 4) (z := 0) rfl (by omega)) rfl rfl
theorem tc_ctx1 (hd : 1 ≤ d ∧ d ≤ 1000) : Rx [tcP tm d n, tcQ at_] ⟨0, [⟨0, 1, 0, 0, ⟨0, 0, 0, 0, d, 0, 0, 0⟩, zI⟩], [0], [], [], 0, [], 0⟩ k0 R0 [] (tcB tm d 1 2 ⟨0, 1, 0, 0, d, 0, 0, 0⟩) (tcK tm d 1) := by
 have a1 : addZ 0 d = d := (addZ_small (by omega) (by omega) (by omega) (by omega)).trans (by omega)
 cases tm with
 | false =>
  exact Rx.ctx (i := 0) (x := ⟨0, 1, 0, 0, ⟨0, 0, 0, 0, d, 0, 0, 0⟩, zI⟩) (p := tcP false d n) (ins := ⟨22, 1, 0, 0⟩) (r2 := ⟨0, 1, 0, 0, d, 0, 0, 0⟩) (c2 := ⟨0, [⟨0, 1, 0, 0, ⟨0, 0, 0, 0, d, 0, 0, 0⟩, zI⟩], [0], [(0, sigC [])], [], 0, [], 0⟩) ⟨by simp, by simp, by simp, by simp, by simp, by simp, by simp⟩ (pick_0 0 []) rfl rfl ⟨rfl, by simp, by simp⟩ rfl rfl
   (fun nd nl steps _ => ⟨nd, [], ActX.cancels (s := ⟨0, [⟨0, 1, 0, 0, ⟨0, 0, 0, 0, d, 0, 0, 0⟩, zI⟩], [0], [], 0, [], 0, [], 0, nd, nl, steps, []⟩) (k := k0) (a := 1) (bb := 0) (cc := 0) (n0 := 0) (r := ⟨0, 0, 0, 0, d, 0, 0, 0⟩) (x := bgX) (by omega) rfl rfl rfl (by omega) rfl rfl, by omega, by simp, rfl⟩) rfl (by simp) (by simp) (by simp)
 | true =>
  refine Rx.ctx (i := 0) (x := ⟨0, 1, 0, 0, ⟨0, 0, 0, 0, d, 0, 0, 0⟩, zI⟩) (p := tcP true d n) (ins := ⟨24, 1, 0, 4⟩) (r2 := ⟨0, 1, 0, 0, d, 0, 0, 0⟩) (c2 := ⟨0, [⟨0, 1, 0, 0, ⟨0, 0, 0, 0, d, 0, 0, 0⟩, zI⟩], [0], [(0, sigC [])], [⟨4, 1, none⟩], 0, [⟨0, d, 1⟩], 1⟩) ⟨by simp, by simp, by simp, by simp, by simp, by simp, by simp⟩ (pick_0 0 []) rfl rfl ⟨rfl, by simp, by simp⟩ rfl rfl
   (fun nd nl steps _ => ⟨nd, [], ?_, by omega, by simp, rfl⟩) rfl (by simp) (by simp) (by simp)
  exact ActX.dlOwn (s := ⟨0, [⟨0, 1, 0, 0, ⟨0, 0, 0, 0, d, 0, 0, 0⟩, zI⟩], [0], [], 0, [], 0, [], 0, nd, nl, steps, []⟩) (k := k0) (a := 1) (bb := 0) (cc := 4) (n0 := 0) (r := ⟨0, 0, 0, 0, d, 0, 0, 0⟩) (x := bgX) (op := 24) (when_ := d) (.inr ⟨rfl, a1.symm⟩) (by omega) rfl rfl rfl (by omega) rfl rfl (by omega) (fun h => by cases h) (by show (0 : Int) < d; omega)
theorem tc_move (hn : n ≤ 9) : Rx [tcP tm d n, tcQ at_] (tcB tm d 1 2 ⟨0, 1, 0, 0, d, 0, 0, 0⟩) (tcK tm d 1) R0 [] (tcB tm d 1 3 ⟨0, 1, 1, 0, d, 0, 0, 0⟩) (tcK tm d 1) :=
 Rx.loc (i := 0) (x := ⟨0, 2, 0, 0, ⟨0, 1, 0, 0, d, 0, 0, 0⟩, zI⟩) (p := tcP tm d n) (O := ⟨3, ⟨0, 1, 1, 0, d, 0, 0, 0⟩, false, 0, false⟩) (tcB_lim (by omega)) (pick_0 0 []) rfl rfl ⟨rfl, by simp, by simp⟩ (locF_move (a := 2) (b := 1) (z := 0) rfl (by omega) (by omega)) rfl rfl
theorem tc_more {j : Nat} (hj : j < n) (hn : n ≤ 9) : Rx [tcP tm d n, tcQ at_] (tcB tm d (j + 1) ((3 + j : Nat) : Int) ⟨0, 1, ((j + 1 : Nat) : Int), 0, d, 0, 0, 0⟩) (tcK tm d (j + 1)) R0 [] (tcB tm d (j + 2) ((3 + (j + 1) : Nat) : Int) ⟨0, 1, ((j + 2 : Nat) : Int), 0, d, 0, 0, 0⟩) (tcK tm d (j + 2)) := by
 have h := Rx.ctx (ps := [tcP tm d n, tcQ at_]) (n := 0) (c := tcB tm d (j + 1) ((3 + j : Nat) : Int) ⟨0, 1, ((j + 1 : Nat) : Int), 0, d, 0, 0, 0⟩) (k := tcK tm d (j + 1)) (k2 := tcK tm d (j + 2)) (i := 0) (x := ⟨0, ((3 + j : Nat) : Int), 0, 0, ⟨0, 1, ((j + 1 : Nat) : Int), 0, d, 0, 0, 0⟩, zI⟩) (p := tcP tm d n) (ins := ⟨22, 2, 2, 0⟩) (r2 := ⟨0, 1, ((j + 2 : Nat) : Int), 0, d, 0, 0, 0⟩) (c2 := tcB tm d (j + 2) ((3 + j : Nat) : Int) ⟨0, 1, ((j + 1 : Nat) : Int), 0, d, 0, 0, 0⟩) (tcB_lim (by omega)) (pick_0 0 []) rfl rfl ⟨rfl, by simp, by show (0 : Int) ≤ ((3 + j : Nat) : Int); omega⟩ (by show (tcP tm d n)[(((3 + j : Nat) : Int)).toNat]? = _; rw [Int.toNat_natCast]; exact tcP_mid hj) rfl
   (fun nd nl steps _ => ⟨nd, [], ?_, by omega, by simp, rfl⟩) rfl (by simp [tcB]) (by simp [tcB]) (by simp [tcB])
 ·refine cast ?_ h
  congr 1
 ·have h1 := ActX.cancels (s := (tcB tm d (j + 1) ((3 + j : Nat) : Int) ⟨0, 1, ((j + 1 : Nat) : Int), 0, d, 0, 0, 0⟩).st nd nl steps []) (k := tcK tm d (j + 1)) (a := 2) (bb := 2) (cc := 0) (n0 := j + 1) (r := ⟨0, 1, ((j + 1 : Nat) : Int), 0, d, 0, 0, 0⟩) (x := tcX tm d j) (by omega) rfl (tcK_len tm d (j + 1)) rfl (by omega) (tcK_get (by omega)) rfl
  have e1 : mkC (tcK tm d (j + 1)) (j + 1) (tcX tm d j).when (tcX tm d j).has false (-1) (tcH (j + 1)).length = tcK tm d (j + 2) := by
   rw [tcH_len]
   exact tcK_succ (by omega)
  have e2 : sigS ((tcB tm d (j + 1) ((3 + j : Nat) : Int) ⟨0, 1, ((j + 1 : Nat) : Int), 0, d, 0, 0, 0⟩).st nd nl steps []) = (tcB tm d (j + 2) ((3 + j : Nat) : Int) ⟨0, 1, ((j + 1 : Nat) : Int), 0, d, 0, 0, 0⟩).st nd nl steps [] := by
   have e3 := tcH_succ (j + 1)
   unfold sigS tcB
   simp only
   congr 1
  rw [e2] at h1
  rw [show (((tcB tm d (j + 1) ((3 + j : Nat) : Int) ⟨0, 1, ((j + 1 : Nat) : Int), 0, d, 0, 0, 0⟩).st nd nl steps []).chs.length) = (tcH (j + 1)).length from rfl, e1] at h1
  exact h1
theorem tc_chain (hn : n ≤ 9) : ∀ j, j ≤ n → Rxs [tcP tm d n, tcQ at_] (tcB tm d 1 3 ⟨0, 1, 1, 0, d, 0, 0, 0⟩) (tcK tm d 1) (List.replicate j R0) [] (tcB tm d (j + 1) ((3 + j : Nat) : Int) ⟨0, 1, ((j + 1 : Nat) : Int), 0, d, 0, 0, 0⟩) (tcK tm d (j + 1))
 | 0, _ => ⟨rfl, rfl, rfl⟩
 | j + 1, h => by
  rw [List.replicate_succ']
  exact (tc_chain hn j (by omega)).snoc (tc_more (by omega) hn)
end
def tmN (tm : Bool) : Nat := if tm then 1 else 0
def tmT (tm : Bool) : List Tk := if tm then [⟨4, 1, none⟩] else []
def tmL (tm : Bool) (d : Int) : List It := if tm then [⟨0, d, 1⟩] else []
def tcR (n : Nat) (d r5 : Int) : Reg := ⟨0, 1, ((n + 1 : Nat) : Int), (n : Int), d, r5, 0, 0⟩
def tcHw (n : Nat) : List (Nat × Chn) := (tcH (n + 1)).set n (n, sigC [⟨0, 0, 0⟩])
theorem tcHw_len (n : Nat) : (tcHw n).length = n + 1 := by simp [tcHw, tcH_len]
theorem set_last {α : Type} {l : List α} {n : Nat} {a b : α} (h : l.length = n) : (l ++ [a]).set n b = l ++ [b] := by
 subst h
 simp
theorem get_last {α : Type} {l : List α} {n : Nat} {a : α} (h : l.length = n) : (l ++ [a])[n]? = some a := by
 subst h
 simp
def tA (n : Nat) (d : Int) : Tsk := ⟨0, ((n + 5 : Nat) : Int), 1, 0, tcR n d 1, ⟨11, 3, 6, 7⟩⟩
def tcR2 (tm : Bool) (n : Nat) (at_ : Int) : Reg := ⟨0, 1, ((n + 1 : Nat) : Int), (n : Int), at_, 0, (tmN tm : Int), ((n + 1 : Nat) : Int)⟩
def tB (tm : Bool) (n : Nat) (at_ : Int) : Tsk := ⟨1, 2, 1, 0, tcR2 tm n at_, ⟨11, 7, 6, 4⟩⟩
def tcA (tm : Bool) (n : Nat) (d at_ now : Int) : Cf := ⟨now, [tA n d, tB tm n at_], [], tcHw n ++ [(n + 1, chE [⟨1, 0, 0⟩])], tmT tm ++ [⟨1, 0, some (n + 1)⟩], 1, insL ⟨tmN tm, at_, (tmN tm : Int) + 1⟩ (tmL tm d), (tmN tm : Int) + 1⟩
theorem lim2 {a b : Tsk} {now named sq : Int} {rd : List Int} {chs : List (Nat × Chn)} {tms : List Tk} {L : List It} (h1 : rd.length ≤ 50) (h2 : chs.length ≤ 100) (h3 : tms.length ≤ 100) (h4 : 0 ≤ sq ∧ sq ≤ 1000) (h5 : 0 ≤ named ∧ named ≤ 50) (h6 : 0 ≤ now ∧ now ≤ 100000) : LimC ⟨now, [a, b], rd, chs, tms, named, L, sq⟩ := ⟨h1, by simp, h2, h3, h4, h6, h5⟩
theorem tmT_len (tm : Bool) : (tmT tm).length = tmN tm := by cases tm <;> rfl
theorem tmN_le (tm : Bool) : tmN tm ≤ 1 := by cases tm <;> simp [tmN]
section
variable {tm : Bool} {d at_ : Int} {n : Nat}
theorem tc_rest (hn : n ≤ 9) (hd : 1 ≤ d ∧ d ≤ 1000) (ha : 0 ≤ at_ ∧ at_ ≤ 2000) : Rxs [tcP tm d n, tcQ at_] (tcB tm d (n + 1) ((3 + n : Nat) : Int) ⟨0, 1, ((n + 1 : Nat) : Int), 0, d, 0, 0, 0⟩) (tcK tm d (n + 1)) (List.replicate 6 R0) [] (tcA tm n d at_ 0) (tcK tm d (n + 1)) := by
 have a1 : addZ 0 at_ = at_ := (addZ_small (by omega) (by omega) (by omega) (by omega)).trans (by omega)
 have e0 : ∀ j : Nat, ((n + 3 + j : Nat) : Int).toNat = n + 3 + j := fun j => Int.toNat_natCast _
 have h1 : Rx [tcP tm d n, tcQ at_] (tcB tm d (n + 1) ((n + 3 + 0 : Nat) : Int) ⟨0, 1, ((n + 1 : Nat) : Int), 0, d, 0, 0, 0⟩) (tcK tm d (n + 1)) R0 [] (tcB tm d (n + 1) (((n + 3 + 0 : Nat) : Int) + 1) (tcR n d 0)) (tcK tm d (n + 1)) :=
  Rx.ctx (ps := [tcP tm d n, tcQ at_]) (n := 0) (c := tcB tm d (n + 1) ((n + 3 + 0 : Nat) : Int) ⟨0, 1, ((n + 1 : Nat) : Int), 0, d, 0, 0, 0⟩) (c2 := tcB tm d (n + 1) ((n + 3 + 0 : Nat) : Int) ⟨0, 1, ((n + 1 : Nat) : Int), 0, d, 0, 0, 0⟩) (i := 0) (x := ⟨0, ((n + 3 + 0 : Nat) : Int), 0, 0, ⟨0, 1, ((n + 1 : Nat) : Int), 0, d, 0, 0, 0⟩, zI⟩) (p := tcP tm d n) (ins := ⟨29, 2, 3, 0⟩) (r2 := tcR n d 0) (tcB_lim (by omega)) (pick_0 0 []) rfl rfl ⟨rfl, by simp, by show (0 : Int) ≤ ((n + 3 + 0 : Nat) : Int); omega⟩ (by show (tcP tm d n)[((n + 3 + 0 : Nat) : Int).toNat]? = _; rw [e0]; exact tcP_end 0) rfl
   (fun nd nl steps _ => ⟨nd, [], ActX.done (s := (tcB tm d (n + 1) ((n + 3 + 0 : Nat) : Int) ⟨0, 1, ((n + 1 : Nat) : Int), 0, d, 0, 0, 0⟩).st nd nl steps []) (k := tcK tm d (n + 1)) (a := 2) (bb := 3) (cc := 0) (i := n + 1) (j := n) (r := ⟨0, 1, ((n + 1 : Nat) : Int), 0, d, 0, 0, 0⟩) (y := tcX tm d n) (q := (n, sigC [])) (by omega) rfl (tcK_get (by omega)) (by rw [tcK_len]; omega) rfl (tcH_get (by omega)), by omega, by simp, rfl⟩) rfl (by simp [tcB]) (by simp [tcB]) (by simp [tcB])
 have h2 : Rx [tcP tm d n, tcQ at_] (tcB tm d (n + 1) ((n + 3 + 1 : Nat) : Int) (tcR n d 0)) (tcK tm d (n + 1)) R0 [] ⟨0, [⟨0, ((n + 3 + 1 : Nat) : Int) + 1, 0, 0, tcR n d 1, zI⟩, ⟨1, 0, 0, 0, tcR n d 0, zI⟩], [0, 1], tcH (n + 1), tmT tm, 0, tmL tm d, (tmN tm : Int)⟩ (tcK tm d (n + 1)) := by
  have h := Rx.act (ps := [tcP tm d n, tcQ at_]) (n := 0) (k := tcK tm d (n + 1)) (c := tcB tm d (n + 1) ((n + 3 + 1 : Nat) : Int) (tcR n d 0)) (c2 := ⟨0, [⟨0, ((n + 3 + 1 : Nat) : Int), 0, 0, tcR n d 0, zI⟩, ⟨1, 0, 0, 0, tcR n d 0, zI⟩], [0, 1], tcH (n + 1), if tm then [⟨4, 1, none⟩] else [], 0, if tm then [⟨0, d, 1⟩] else [], if tm then 1 else 0⟩) (i := 0) (x := ⟨0, ((n + 3 + 1 : Nat) : Int), 0, 0, tcR n d 0, zI⟩) (p := tcP tm d n) (ins := ⟨8, 5, 1, 0⟩) (r2 := tcR n d 1) (tcB_lim (by omega)) (pick_0 0 []) rfl rfl ⟨rfl, by simp, by show (0 : Int) ≤ ((n + 3 + 1 : Nat) : Int); omega⟩ (by show (tcP tm d n)[((n + 3 + 1 : Nat) : Int).toNat]? = _; rw [e0]; exact tcP_end 1) rfl
   (fun nd nl steps => ⟨[⟨steps, 5, 1, 1, 0, 0⟩], rfl, by simp, by simp [toldM]⟩)
  cases tm
  ·exact h
  ·exact h
 have h3 : Rx [tcP tm d n, tcQ at_] ⟨0, [⟨0, ((n + 3 + 2 : Nat) : Int), 0, 0, tcR n d 1, zI⟩, ⟨1, 0, 0, 0, tcR n d 0, zI⟩], [0, 1], tcH (n + 1), tmT tm, 0, tmL tm d, (tmN tm : Int)⟩ (tcK tm d (n + 1)) R0 [] ⟨0, [tA n d, ⟨1, 0, 0, 0, tcR n d 0, zI⟩], [1], tcHw n, tmT tm, 0, tmL tm d, (tmN tm : Int)⟩ (tcK tm d (n + 1)) := by
  refine Rx.park (ps := [tcP tm d n, tcQ at_]) (n := 0) (c2 := ⟨0, [⟨0, ((n + 3 + 2 : Nat) : Int), 0, 0, tcR n d 1, zI⟩, ⟨1, 0, 0, 0, tcR n d 0, zI⟩], [0, 1], tcHw n, tmT tm, 0, tmL tm d, (tmN tm : Int)⟩) (i := 0) (x := ⟨0, ((n + 3 + 2 : Nat) : Int), 0, 0, tcR n d 1, zI⟩) (p := tcP tm d n) (ins := ⟨11, 3, 6, 7⟩) (show LimC ⟨0, [⟨0, ((n + 3 + 2 : Nat) : Int), 0, 0, tcR n d 1, zI⟩, ⟨1, 0, 0, 0, tcR n d 0, zI⟩], [0, 1], tcH (n + 1), tmT tm, 0, tmL tm d, (tmN tm : Int)⟩ from lim2 (now := 0) (by simp) (by simp [tcH_len]; omega) (by have := tmT_len tm; have := tmN_le tm; simp; omega) (by have := tmN_le tm; omega) (by omega) (by omega)) (pick_0 0 [1]) rfl rfl ⟨rfl, by simp, by show (0 : Int) ≤ ((n + 3 + 2 : Nat) : Int); omega⟩ (by show (tcP tm d n)[((n + 3 + 2 : Nat) : Int).toNat]? = _; rw [e0]; exact tcP_end 2) rfl (fun nd nl steps => ?_)
  have h4 : (tcH (n + 1))[((n : Int)).toNat]? = some (n, sigC []) := by rw [Int.toNat_natCast]; exact tcH_get (by omega)
  show actRecv _ 0 ⟨11, 3, 6, 7⟩ (tcR n d 1) = _
  unfold actRecv
  rw [if_pos ⟨⟨by simp, by simp⟩, ⟨by simp, by simp⟩, ⟨by simp, by simp⟩, by show (0 : Int) ≤ (n : Int); omega⟩]
  show (match (tcH (n + 1))[((n : Int)).toNat]? with | none => none | some q => _) = _
  rw [h4]
  show some (_, none) = some (_, none)
  rw [show (Reg.get (tcR n d 1) (Int.toNat 3)).toNat = n from Int.toNat_natCast n]
  rfl
 have h5 : Rx [tcP tm d n, tcQ at_] ⟨0, [tA n d, ⟨1, 0, 0, 0, tcR n d 0, zI⟩], [1], tcHw n, tmT tm, 0, tmL tm d, (tmN tm : Int)⟩ (tcK tm d (n + 1)) R0 [] ⟨0, [tA n d, ⟨1, 1, 0, 0, tcR n at_ 0, zI⟩], [1], tcHw n, tmT tm, 0, tmL tm d, (tmN tm : Int)⟩ (tcK tm d (n + 1)) :=
  Rx.loc (ps := [tcP tm d n, tcQ at_]) (n := 0) (i := 1) (x := ⟨1, 0, 0, 0, tcR n d 0, zI⟩) (p := tcQ at_) (O := ⟨1, tcR n at_ 0, false, 0, false⟩) (show LimC ⟨0, [tA n d, ⟨1, 0, 0, 0, tcR n d 0, zI⟩], [1], tcHw n, tmT tm, 0, tmL tm d, (tmN tm : Int)⟩ from lim2 (now := 0) (by simp) (by simp [tcHw_len]; omega) (by have := tmT_len tm; have := tmN_le tm; simp; omega) (by have := tmN_le tm; omega) (by omega) (by omega)) (pick_0 1 []) rfl rfl ⟨rfl, by simp, by simp⟩ (locF_set (a := 4) (z := 0) rfl (by omega)) rfl rfl
 have h6 : Rx [tcP tm d n, tcQ at_] ⟨0, [tA n d, ⟨1, 1, 0, 0, tcR n at_ 0, zI⟩], [1], tcHw n, tmT tm, 0, tmL tm d, (tmN tm : Int)⟩ (tcK tm d (n + 1)) R0 [] ⟨0, [tA n d, ⟨1, 2, 0, 0, tcR2 tm n at_, zI⟩], [1], tcHw n ++ [(n + 1, chE [])], tmT tm ++ [⟨1, 0, some (n + 1)⟩], 1, insL ⟨tmN tm, at_, (tmN tm : Int) + 1⟩ (tmL tm d), (tmN tm : Int) + 1⟩ (tcK tm d (n + 1)) := by
  refine Rx.act (ps := [tcP tm d n, tcQ at_]) (n := 0) (c2 := ⟨0, [tA n d, ⟨1, 1, 0, 0, tcR n at_ 0, zI⟩], [1], tcHw n ++ [(n + 1, chE [])], tmT tm ++ [⟨1, 0, some (n + 1)⟩], 1, insL ⟨tmN tm, at_, (tmN tm : Int) + 1⟩ (tmL tm d), (tmN tm : Int) + 1⟩) (i := 1) (x := ⟨1, 1, 0, 0, tcR n at_ 0, zI⟩) (p := tcQ at_) (ins := ⟨17, 6, 4, 7⟩) (r2 := tcR2 tm n at_) (show LimC ⟨0, [tA n d, ⟨1, 1, 0, 0, tcR n at_ 0, zI⟩], [1], tcHw n, tmT tm, 0, tmL tm d, (tmN tm : Int)⟩ from lim2 (now := 0) (by simp) (by simp [tcHw_len]; omega) (by have := tmT_len tm; have := tmN_le tm; simp; omega) (by have := tmN_le tm; omega) (by omega) (by omega)) (pick_0 1 []) rfl rfl ⟨rfl, by simp, by simp⟩ rfl rfl (fun nd nl steps => ⟨[], ?_, by simp, rfl⟩)
  show actTimer _ 1 ⟨17, 6, 4, 7⟩ (tcR n at_ 0) = _
  unfold actTimer
  rw [if_pos ⟨⟨by simp, by simp⟩, ⟨by simp, by simp⟩, ⟨by simp, by simp⟩, by show (0 : Int) ≤ at_; omega, by show at_ ≤ 1000000; omega⟩]
  have hl : (tcHw n).length = n + 1 := tcHw_len n
  have hdl : ∀ (L : List It), delL (tmN tm : Int) (tmL tm d) = tmL tm d := fun _ => by cases tm <;> simp [tmN, tmL, delL]
  have htl : (tmT tm).length = tmN tm := by cases tm <;> rfl
  congr 1
  refine Prod.ext ?_ ?_
  ·show timerS _ at_ (tcHw n).length = _
   unfold timerS
   simp only [htl, hdl [], hl, a1]
   rfl
  ·show some (((tcR n at_ 0).set 6 ((tmT tm).length : Int)).set 7 ((tcHw n).length : Int)) = some (tcR2 tm n at_)
   rw [htl, hl]
   rfl
 have h7 : Rx [tcP tm d n, tcQ at_] ⟨0, [tA n d, ⟨1, 2, 0, 0, tcR2 tm n at_, zI⟩], [1], tcHw n ++ [(n + 1, chE [])], tmT tm ++ [⟨1, 0, some (n + 1)⟩], 1, insL ⟨tmN tm, at_, (tmN tm : Int) + 1⟩ (tmL tm d), (tmN tm : Int) + 1⟩ (tcK tm d (n + 1)) R0 [] (tcA tm n d at_ 0) (tcK tm d (n + 1)) := by
  refine Rx.park (ps := [tcP tm d n, tcQ at_]) (n := 0) (c2 := ⟨0, [tA n d, ⟨1, 2, 0, 0, tcR2 tm n at_, zI⟩], [1], tcHw n ++ [(n + 1, chE [⟨1, 0, 0⟩])], tmT tm ++ [⟨1, 0, some (n + 1)⟩], 1, insL ⟨tmN tm, at_, (tmN tm : Int) + 1⟩ (tmL tm d), (tmN tm : Int) + 1⟩) (i := 1) (x := ⟨1, 2, 0, 0, tcR2 tm n at_, zI⟩) (p := tcQ at_) (ins := ⟨11, 7, 6, 4⟩) (show LimC ⟨0, [tA n d, ⟨1, 2, 0, 0, tcR2 tm n at_, zI⟩], [1], tcHw n ++ [(n + 1, chE [])], tmT tm ++ [⟨1, 0, some (n + 1)⟩], 1, insL ⟨tmN tm, at_, (tmN tm : Int) + 1⟩ (tmL tm d), (tmN tm : Int) + 1⟩ from lim2 (now := 0) (by simp) (by simp [tcHw_len]; omega) (by have := tmT_len tm; have := tmN_le tm; simp; omega) (by have := tmN_le tm; omega) (by omega) (by omega)) (pick_0 1 []) rfl rfl ⟨rfl, by simp, by simp⟩ rfl rfl (fun nd nl steps => ?_)
  have h4 : (tcHw n ++ [(n + 1, chE [])])[(((n + 1 : Nat) : Int)).toNat]? = some (n + 1, chE []) := by rw [Int.toNat_natCast]; exact get_last (tcHw_len n)
  show actRecv _ 1 ⟨11, 7, 6, 4⟩ (tcR2 tm n at_) = _
  unfold actRecv
  rw [if_pos ⟨⟨by simp, by simp⟩, ⟨by simp, by simp⟩, ⟨by simp, by simp⟩, by show (0 : Int) ≤ ((n + 1 : Nat) : Int); omega⟩]
  show (match (tcHw n ++ [(n + 1, chE [])])[(((n + 1 : Nat) : Int)).toNat]? with | none => none | some q => _) = _
  rw [h4]
  show some (_, none) = some (_, none)
  rw [show (Reg.get (tcR2 tm n at_) (Int.toNat 7)).toNat = n + 1 from Int.toNat_natCast (n + 1)]
  congr 2
  show ({ now := _, ts := _, rd := _, chs := (tcHw n ++ [(n + 1, chE [])]).set (n + 1) _, made := _, tms := _, named := _, L := _, sq := _, nd := _, nl := _, steps := _, ev := _ } : Wst) = _
  rw [set_last (tcHw_len n)]
  rfl
 have e1 : ((n + 3 + 0 : Nat) : Int) + 1 = ((n + 3 + 1 : Nat) : Int) := by omega
 have e2 : ((n + 3 + 1 : Nat) : Int) + 1 = ((n + 3 + 2 : Nat) : Int) := by omega
 rw [e1] at h1
 rw [e2] at h2
 rw [show 3 + n = n + 3 + 0 from by omega]
 exact Rxs.cons h1 (Rxs.cons h2 (Rxs.cons h3 (Rxs.cons h5 (Rxs.cons h6 (Rxs.cons h7 ⟨rfl, rfl, rfl⟩)))))
theorem tcA_lim (hn : n ≤ 9) (hd : 1 ≤ d ∧ d ≤ 1000) (ha : 0 ≤ at_ ∧ at_ ≤ 2000) {now : Int} (hnow : 0 ≤ now ∧ now ≤ 100000) : LimC (tcA tm n d at_ now) := by
 refine ⟨by simp [tcA], by simp [tcA], by simp [tcA, tcHw_len]; omega, by cases tm <;> simp [tcA, tmT], by cases tm <;> simp [tcA, tmN], hnow, by simp [tcA]⟩
theorem runs_R0 (n : Nat) : ∀ e ∈ List.replicate n R0, ∃ m, e = .run m := fun e he => ⟨0, List.eq_of_mem_replicate he⟩
theorem tc_first (hn : n ≤ 9) (hd : 1 ≤ d ∧ d ≤ 1000) (ha : 0 ≤ at_ ∧ at_ ≤ 2000) : Rxs [tcP tm d n, tcQ at_] c0 k0 (List.replicate 60 R0) [] (tcA tm n d at_ 0) (tcK tm d (n + 1)) := by
 have h1 := Rxs.cons (tc_set (tm := tm) (n := n) (at_ := at_) hd) (Rxs.cons (tc_ctx1 (n := n) (at_ := at_) hd) (Rxs.cons (tc_move (tm := tm) (d := d) (at_ := at_) hn) (tc_chain hn n (Nat.le_refl n))))
 have h2 := h1.append (tc_rest (tm := tm) hn hd ha)
 have h3 := h2.append (Rxs.idle (ps := [tcP tm d n, tcQ at_]) (c := tcA tm n d at_ 0) (k := tcK tm d (n + 1)) (tcA_lim hn hd ha (by omega)) rfl (List.replicate (51 - n) R0) (runs_R0 _))
 have e : R0 :: R0 :: R0 :: List.replicate n R0 ++ List.replicate 6 R0 ++ List.replicate (51 - n) R0 = List.replicate 60 R0 := by
  rw [show R0 :: R0 :: R0 :: List.replicate n R0 = List.replicate (n + 3) R0 from rfl, List.replicate_append_replicate, List.replicate_append_replicate]
  congr 1
  omega
 rw [e] at h3
 exact h3
end
theorem fireF_wake {s : Wst} {i ci : Nat} {wh se dt : Int} {ll : List It} {sg cl : Bool} {v : Option Int} {x : Wt} {lw : List Wt} {q : Nat} (hL : s.L = ⟨i, wh, se⟩ :: ll) (ht : s.tms[i]? = some ⟨1, dt, some ci⟩) (hc : s.chs[ci]? = some (q, ⟨true, sg, cl, true, v, x :: lw⟩)) (hlw : lw.length ≤ 800) (hw : wakeB s ⟨x.task, x.kase, s.now, true, false⟩) :
  fireF s = some (wakeS (fireB { s with L := ll, chs := s.chs.set ci (q, ⟨true, sg, cl, true, v, lw⟩) } i wh) ⟨x.task, x.kase, s.now, true, false⟩) := by
 unfold fireF
 rw [hL]
 simp only [Int.toNat_natCast, ht, hc]
 rw [if_pos ⟨Int.natCast_nonneg _, trivial, trivial, trivial, by simp only [List.length_cons]; omega⟩, if_pos hw]
theorem canK_get (err cause : Int) : ∀ (D : List Cd) (m : Nat) (cs : List Cx) (j : Nat) (d : Cd), D[j]? = some d → m + j < cs.length → (canK err cause D m cs)[m + j]? = some (canX err cause d.x)
 | [], _, _, _, _, h, _ => by simp at h
 | e :: D, m, cs, j, d, h, hl => by
  cases j with
  | zero =>
   cases h
   show (canK err cause D (m + 1) (cs.set m _))[m + 0]? = _
   rw [canK_low err cause D (m + 1) _ (m + 0) (by omega), Nat.add_zero, List.getElem?_set_self (by omega)]
  | succ j =>
   show (canK err cause D (m + 1) (cs.set m _))[m + (j + 1)]? = _
   rw [show m + (j + 1) = m + 1 + j from by omega]
   exact canK_get err cause D (m + 1) _ j d (by simpa using h) (by rw [List.length_set]; omega)
theorem canL_far : ∀ (D : List Cd) (L : List It), (∀ d ∈ D, ∀ it ∈ L, it.id ≠ d.x.timer) → canL D L = L
 | [], _, _ => rfl
 | d :: D, L, h => by
  have h1 : canT d.x.timer L = L := by
   unfold canT
   split
   ·unfold delL
    rw [List.filter_eq_self]
    intro it hit
    simpa using h d List.mem_cons_self it hit
   ·rfl
  show canL D (canT d.x.timer L) = L
  rw [h1]
  exact canL_far D L (fun e he => h e (List.mem_cons_of_mem _ he))
section
variable {tm : Bool} {d at_ : Int} {n : Nat}
theorem tcHw_get {i : Nat} (h : i ≤ n) : (tcHw n)[i]? = some (i, sigC (if i = n then [⟨0, 0, 0⟩] else [])) := by
 unfold tcHw
 rw [List.getElem?_set]
 by_cases hi : n = i
 ·subst hi
  rw [if_pos rfl, if_pos (by rw [tcH_len]; omega), if_pos rfl]
 ·rw [if_neg hi, if_neg (by omega)]
  exact tcH_get (by omega)
theorem tc_alive {chs : List (Nat × Chn)} {tms : List Tk} (hc : ∀ i, i ≤ n → chs[i]? = (tcHw n)[i]?) (ht : ∃ r, tms = tmT tm ++ r) (i : Nat) (h1 : 1 ≤ i) (h2 : i < (tcK tm d (n + 1)).cut) : Alive chs tms (tcK tm d (n + 1)).cs i (if i + 1 = (tcK tm d (n + 1)).cut then [⟨0, 0, 0⟩] else []) := by
 have h2 : i < n + 2 := h2
 obtain ⟨j, rfl⟩ : ∃ j, i = j + 1 := ⟨i - 1, by omega⟩
 refine ⟨tcX tm d j, _, tcK_get (by omega), rfl, rfl, rfl, by rw [Nat.add_sub_cancel, hc j (by omega)]; exact tcHw_get (by omega), rfl, rfl, ?_, ?_⟩
 ·show (if j = n then ([⟨0, 0, 0⟩] : List Wt) else []) = if j + 1 + 1 = n + 2 then [⟨0, 0, 0⟩] else []
  by_cases hj : j = n
  ·rw [if_pos hj, if_pos (by omega)]
  ·rw [if_neg hj, if_neg (by omega)]
 ·unfold tcX
  cases tm with
  | false => exact .inl rfl
  | true =>
   by_cases hj : j = 0
   ·obtain ⟨r, rfl⟩ := ht
    refine .inr ⟨0, 4, 1, ?_, rfl⟩
    simp [hj]
   ·refine .inl ?_
    simp [hj]
abbrev tcD (tm : Bool) (d : Int) (n : Nat) (chs : List (Nat × Chn)) : List Cd := dOf chs (tcK tm d (n + 1)).cs 1 (n + 1)
theorem tcD_mem {chs : List (Nat × Chn)} {e : Cd} (h : e ∈ tcD tm d n chs) : ∃ j, j ≤ n ∧ e.x = tcX tm d j ∧ e.ci = j := by
 obtain ⟨j, hj⟩ := List.getElem?_of_mem h
 obtain ⟨h1, rfl⟩ := dOf_get hj
 refine ⟨j, by omega, ?_, by show 1 + j - 1 = j; omega⟩
 show ((tcK tm d (n + 1)).cs[1 + j]?).getD bgX = _
 rw [show 1 + j = j + 1 from by omega, tcK_get (by omega)]
 rfl
theorem tcD_err {err cause : Int} {chs : List (Nat × Chn)} {i : Nat} (hi : i ≤ n) : (canCs err cause (tcD tm d n chs) 1 (tcK tm d (n + 1))).cs[i + 1]? = some (canX err cause (tcX tm d i)) := by
 have hd : (tcD tm d n chs)[i]? = some ⟨((tcK tm d (n + 1)).cs[1 + i]?).getD bgX, 1 + i - 1, (chs[1 + i - 1]?).getD (0, ⟨false, false, false, false, none, []⟩)⟩ := by
  show (List.map _ (List.range (n + 1)))[i]? = _
  rw [List.getElem?_map, List.getElem?_range (by omega)]
  rfl
 have h1 := canK_get err cause (tcD tm d n chs) 1 (tcK tm d (n + 1)).cs i _ hd (by rw [tcK_len]; omega)
 rw [Nat.add_comm 1 i] at h1
 show (canK err cause (tcD tm d n chs) 1 (tcK tm d (n + 1)).cs)[i + 1]? = _
 rw [h1]
 congr 2
 show ((tcK tm d (n + 1)).cs[i + 1]?).getD bgX = _
 rw [tcK_get (by omega)]
 rfl
theorem canCs_len (err cause : Int) (D : List Cd) (m : Nat) (k : Cs) : (canCs err cause D m k).cs.length = k.cs.length := canK_len err cause D m k.cs
theorem tc_tail {now named sq : Int} {b : Tsk} {rest : List Int} {chs : List (Nat × Chn)} {tms : List Tk} {L : List It} {k2 : Cs} {y : Cx} {at_ : Int} (hn : n ≤ 9) (hl : LimC ⟨now, [⟨0, ((n + 6 : Nat) : Int), 0, 0, tcR n d 1, zI⟩, b], 0 :: rest, chs, tms, named, L, sq⟩) (hy : k2.cs[n + 1]? = some y) (hk : k2.cs.length ≤ 60) :
  Rxs [tcP tm d n, tcQ at_] ⟨now, [⟨0, ((n + 6 : Nat) : Int), 0, 0, tcR n d 1, zI⟩, b], 0 :: rest, chs, tms, named, L, sq⟩ k2 (List.replicate 3 R0) [y.err] ⟨now, [⟨0, ((n + 8 : Nat) : Int), 2, 0, (tcR n d 1).set 6 y.err, zI⟩, b], rest, chs, tms, named, L, sq⟩ k2 := by
 have hr := hl.rd
 have e0 : ∀ j : Nat, ((n + 3 + j : Nat) : Int).toNat = n + 3 + j := fun j => Int.toNat_natCast _
 have hlA : ∀ (a : Tsk), LimC ⟨now, [a, b], 0 :: rest, chs, tms, named, L, sq⟩ := fun a => ⟨hr, by simp, hl.chs, hl.tms, hl.sq, hl.now, hl.named⟩
 have h1 : Rx [tcP tm d n, tcQ at_] ⟨now, [⟨0, ((n + 3 + 3 : Nat) : Int), 0, 0, tcR n d 1, zI⟩, b], 0 :: rest, chs, tms, named, L, sq⟩ k2 R0 [] ⟨now, [⟨0, ((n + 3 + 3 : Nat) : Int) + 1, 0, 0, (tcR n d 1).set 6 y.err, zI⟩, b], 0 :: rest, chs, tms, named, L, sq⟩ k2 :=
  Rx.ctx (ps := [tcP tm d n, tcQ at_]) (n := 0) (c2 := ⟨now, [⟨0, ((n + 3 + 3 : Nat) : Int), 0, 0, tcR n d 1, zI⟩, b], 0 :: rest, chs, tms, named, L, sq⟩) (i := 0) (x := ⟨0, ((n + 3 + 3 : Nat) : Int), 0, 0, tcR n d 1, zI⟩) (p := tcP tm d n) (ins := ⟨27, 2, 6, 0⟩) (r2 := (tcR n d 1).set 6 y.err) (hlA _) (pick_0 0 rest) rfl rfl ⟨rfl, by simp, by show (0 : Int) ≤ ((n + 3 + 3 : Nat) : Int); omega⟩ (by show (tcP tm d n)[((n + 3 + 3 : Nat) : Int).toNat]? = _; rw [e0]; exact tcP_end 3) rfl
   (fun nd nl steps _ => ⟨nd, [], ActX.err (a := 2) (bb := 6) (cc := 0) (i := n + 1) (by omega) rfl hy hk, by omega, by simp, rfl⟩) rfl (by simp) (by simp only [List.length_cons] at hr ⊢; omega) (by simp)
 have h2 : Rx [tcP tm d n, tcQ at_] ⟨now, [⟨0, ((n + 3 + 4 : Nat) : Int), 0, 0, (tcR n d 1).set 6 y.err, zI⟩, b], 0 :: rest, chs, tms, named, L, sq⟩ k2 R0 [y.err] ⟨now, [⟨0, ((n + 3 + 4 : Nat) : Int) + 1, 0, 0, (tcR n d 1).set 6 y.err, zI⟩, b], 0 :: rest, chs, tms, named, L, sq⟩ k2 :=
  Rx.told (ps := [tcP tm d n, tcQ at_]) (n := 0) (i := 0) (x := ⟨0, ((n + 3 + 4 : Nat) : Int), 0, 0, (tcR n d 1).set 6 y.err, zI⟩) (p := tcP tm d n) (O := ⟨((n + 3 + 4 : Nat) : Int) + 1, (tcR n d 1).set 6 y.err, true, y.err, false⟩) (hlA _) (pick_0 0 rest) rfl rfl ⟨rfl, by simp, by show (0 : Int) ≤ ((n + 3 + 4 : Nat) : Int); omega⟩ (by
   have h3 := locF_emit (p := tcP tm d n) (pc := n + 3 + 4) (r := (tcR n d 1).set 6 y.err) (now := now) (a := 6) (z := 0) (tcP_end 4) (by omega)
   show locF (tcP tm d n) ((n + 3 + 4 : Nat) : Int).toNat _ _ = _
   rw [e0]
   exact h3) rfl
 have h3 : Rx [tcP tm d n, tcQ at_] ⟨now, [⟨0, ((n + 3 + 5 : Nat) : Int), 0, 0, (tcR n d 1).set 6 y.err, zI⟩, b], 0 :: rest, chs, tms, named, L, sq⟩ k2 R0 [] ⟨now, [⟨0, ((n + 3 + 5 : Nat) : Int), 2, 0, (tcR n d 1).set 6 y.err, zI⟩, b], rest, chs, tms, named, L, sq⟩ k2 := by
  have h4 := Rx.ends (ps := [tcP tm d n, tcQ at_]) (n := 0) (k := k2) (i := 0) (c := ⟨now, [⟨0, ((n + 3 + 5 : Nat) : Int), 0, 0, (tcR n d 1).set 6 y.err, zI⟩, b], 0 :: rest, chs, tms, named, L, sq⟩) (x := ⟨0, ((n + 3 + 5 : Nat) : Int), 0, 0, (tcR n d 1).set 6 y.err, zI⟩) (p := tcP tm d n) (O := ⟨((n + 3 + 5 : Nat) : Int), (tcR n d 1).set 6 y.err, false, 0, true⟩) (hlA _) (pick_0 0 rest) rfl rfl ⟨rfl, by simp, by show (0 : Int) ≤ ((n + 3 + 5 : Nat) : Int); omega⟩ (by
   show locF (tcP tm d n) ((n + 3 + 5 : Nat) : Int).toNat _ _ = _
   rw [e0]
   exact locF_end (by rw [tcP_len])) rfl rfl
  have e4 : (0 :: rest).eraseIdx ((0 :: rest).idxOf ((0 : Nat) : Int)) = rest := by simp
  simp only [e4] at h4
  exact h4
 have e1 : ((n + 3 + 3 : Nat) : Int) + 1 = ((n + 3 + 4 : Nat) : Int) := by omega
 have e2 : ((n + 3 + 4 : Nat) : Int) + 1 = ((n + 3 + 5 : Nat) : Int) := by omega
 rw [e1] at h1
 rw [e2] at h2
 exact Rxs.cons h1 ((Rxs.one h2).append (Rxs.one h3))
end
section
variable {tm : Bool} {d at_ : Int} {n : Nat}
theorem tcL_at (h : tm = true → at_ < d) : insL ⟨tmN tm, at_, (tmN tm : Int) + 1⟩ (tmL tm d) = ⟨tmN tm, at_, (tmN tm : Int) + 1⟩ :: tmL tm d := by
 cases tm with
 | false => rfl
 | true =>
  show (if lt (⟨1, at_, 2⟩ : It) ⟨0, d, 1⟩ then _ else _) = _
  rw [if_pos (.inl (h rfl))]
  rfl
theorem tcL_d (h : d ≤ at_) : insL ⟨tmN true, at_, (tmN true : Int) + 1⟩ (tmL true d) = [⟨0, d, 1⟩, ⟨1, at_, 2⟩] := by
 show (if lt (⟨1, at_, 2⟩ : It) ⟨0, d, 1⟩ then _ else _) = _
 rw [if_neg]
 ·rfl
 ·rintro (h1 | ⟨_, h1⟩)
  ·have h1 : at_ < d := h1
   omega
  ·have h1 : (2 : Int) < 1 := h1
   omega
def rW (tm : Bool) (n : Nat) (at_ : Int) : Reg := ((tcR2 tm n at_).set 6 at_).set 4 1
def chAf (n : Nat) : List (Nat × Chn) := tcHw n ++ [(n + 1, chE [])]
theorem chAf_get {i : Nat} (h : i ≤ n) : (chAf n)[i]? = (tcHw n)[i]? := by
 unfold chAf
 rw [List.getElem?_append_left (by rw [tcHw_len]; omega)]
theorem chAf_len (n : Nat) : (chAf n).length = n + 2 := by simp [chAf, tcHw_len]
def tcI (tm : Bool) (n : Nat) (d at_ : Int) (pc : Int) (r : Reg) : Cf := ⟨at_, [tA n d, ⟨1, pc, 0, 0, r, zI⟩], [1], chAf n, tmT tm ++ [⟨1, 0, some (n + 1)⟩], 1, tmL tm d, (tmN tm : Int) + 1⟩
theorem tcI_lim {pc : Int} {r : Reg} (hn : n ≤ 9) (ha : 0 ≤ at_ ∧ at_ ≤ 2000) : LimC (tcI tm n d at_ pc r) := lim2 (by simp) (by rw [chAf_len]; omega) (by have := tmT_len tm; have := tmN_le tm; simp; omega) (by have := tmN_le tm; omega) (by omega) (by omega)
theorem tc_fire2 {now : Int} {a : Tsk} {rd : List Int} {L ll : List It} {named sq se : Int} {chs : List (Nat × Chn)} {nd nl : Nat} {steps : Int} {ev : List Ev} (hL : L = ⟨tmN tm, at_, se⟩ :: ll) (hchs : chs.length = n + 1) (hrd : (1 : Int) ∉ rd) :
  fireF (⟨now, [a, tB tm n at_], rd, chs ++ [(n + 1, chE [⟨1, 0, 0⟩])], 0, tmT tm ++ [⟨1, 0, some (n + 1)⟩], named, L, sq, nd, nl, steps, ev⟩ : Wst) = some ⟨now, [a, ⟨1, 3, 0, 0, ((tcR2 tm n at_).set 6 now).set 4 1, zI⟩], rd ++ [1], chs ++ [(n + 1, chE [])], 0, tmT tm ++ [⟨1, 0, some (n + 1)⟩], named, ll, sq, nd + 1 + 1, nl, steps, ev ++ [⟨steps, 6, -1, tmN tm, at_, 0⟩] ++ [⟨steps, 3, 1, 0, now, 1⟩]⟩ := by
 have ht : (tmT tm ++ [(⟨1, 0, some (n + 1)⟩ : Tk)])[tmN tm]? = some ⟨1, 0, some (n + 1)⟩ := get_last (tmT_len tm)
 have hc : (chs ++ [(n + 1, chE [⟨1, 0, 0⟩])])[n + 1]? = some (n + 1, ⟨true, false, false, true, none, ⟨1, 0, 0⟩ :: []⟩) := get_last hchs
 have hg : (tcR2 tm n at_).get 7 = ((n + 1 : Nat) : Int) := rfl
 have hw : wakeB (⟨now, [a, tB tm n at_], rd, chs ++ [(n + 1, chE [⟨1, 0, 0⟩])], 0, tmT tm ++ [⟨1, 0, some (n + 1)⟩], named, L, sq, nd, nl, steps, ev⟩ : Wst) ⟨1, 0, now, true, false⟩ := by
  refine ⟨by simp, rfl, hrd, ?_⟩
  show (1 : Int) = 1 ∧ (11 : Int) = 11 ∧ RegOK 7 ∧ RegOK 6 ∧ RegOK 4 ∧ 0 ≤ (tcR2 tm n at_).get 7 ∧ (0 : Int) ≤ 2 ∧ (2 : Int) ≤ 1000
  rw [hg]
  exact ⟨rfl, rfl, ⟨by simp, by simp⟩, ⟨by simp, by simp⟩, ⟨by simp, by simp⟩, by omega, by simp, by simp⟩
 have hf := fireF_wake (s := (⟨now, [a, tB tm n at_], rd, chs ++ [(n + 1, chE [⟨1, 0, 0⟩])], 0, tmT tm ++ [⟨1, 0, some (n + 1)⟩], named, L, sq, nd, nl, steps, ev⟩ : Wst)) hL ht hc (by simp) hw
 rw [hf]
 congr 1
 show wakeS (fireB (⟨now, [a, tB tm n at_], rd, (chs ++ [(n + 1, chE [⟨1, 0, 0⟩])]).set (n + 1) (n + 1, ⟨true, false, false, true, none, []⟩), 0, tmT tm ++ [⟨1, 0, some (n + 1)⟩], named, ll, sq, nd, nl, steps, ev⟩ : Wst) (tmN tm) at_) ⟨((1 : Nat) : Int), 0, now, true, false⟩ = _
 rw [set_last hchs, wakeS_yes (i := 1) (a := 7) (j := 6) (k := 4) (pg := 1) (pc := 2) (how := 0) (r := tcR2 tm n at_) rfl]
 rfl
theorem tc_advI {a0 dd : Int} (hn : n ≤ 9) (hd : 1 ≤ d ∧ d ≤ 1000) (ha : 0 ≤ at_ ∧ at_ ≤ 2000) (h : tm = true → at_ < d) (h1 : 0 ≤ a0) (h2 : 0 ≤ dd) (h3 : a0 + dd = at_) : Rx [tcP tm d n, tcQ at_] (tcA tm n d at_ a0) (tcK tm d (n + 1)) (.adv dd) [] (tcI tm n d at_ 3 (rW tm n at_)) (tcK tm d (n + 1)) := by
 refine Rx.adv (tcA_lim hn hd ha (by omega)) ⟨h2, by show a0 + dd ≤ 100000; omega⟩ (fun nd nl steps g1 g2 g3 g4 => ⟨nd + 1 + 1, [] ++ [⟨steps, 6, -1, tmN tm, at_, 0⟩] ++ [⟨steps, 3, 1, 0, at_, 1⟩], ?_, by omega, by simp, by simp [toldM]⟩)
 have hl := (tcA_lim (tm := tm) hn hd ha (now := at_) (by omega)).lim (nd := nd) (nl := nl) (steps := steps) (ev := []) (by omega) (by omega) g3 (by omega) (by simp)
 show FiresI ((tcA tm n d at_ (a0 + dd)).st nd nl steps []) _ _ _
 rw [h3]
 refine FiresI.next hl (tcL_at h) (Int.le_refl _) (tc_fire2 (now := at_) (rd := []) (tcL_at h) (tcHw_len n) (by simp)) (FiresI.done _ _ (fun it hit => ?_))
 have hit : (tmL tm d)[0]? = some it := hit
 cases tm with
 | false => cases hit
 | true =>
  cases hit
  exact h rfl
theorem tc_runsI (hn : n ≤ 9) (hd : 1 ≤ d ∧ d ≤ 1000) (ha : 0 ≤ at_ ∧ at_ ≤ 2000) : ∃ t c' k', Rxs [tcP tm d n, tcQ at_] (tcI tm n d at_ 3 (rW tm n at_)) (tcK tm d (n + 1)) (List.replicate 60 R0) t c' k' ∧ c'.ts[0]? = some ⟨0, ((n + 8 : Nat) : Int), 2, 0, (tcR n d 1).set 6 1, zI⟩ ∧ c'.ts.length = 2 := by
 have h1 : Rx [tcP tm d n, tcQ at_] (tcI tm n d at_ 3 (rW tm n at_)) (tcK tm d (n + 1)) R0 [] (tcI tm n d at_ 4 ((rW tm n at_).set 4 9)) (tcK tm d (n + 1)) :=
  Rx.loc (ps := [tcP tm d n, tcQ at_]) (n := 0) (i := 1) (x := ⟨1, 3, 0, 0, rW tm n at_, zI⟩) (p := tcQ at_) (O := ⟨4, (rW tm n at_).set 4 9, false, 0, false⟩) (tcI_lim hn ha) (pick_0 1 []) rfl rfl ⟨rfl, by simp, by simp⟩ (locF_set (a := 4) (z := 0) rfl (by omega)) rfl rfl
 have hcw := fun (nd nl : Nat) (steps : Int) (hnd : nd ≤ 90000) => can_wake (err := 1) (cause := 9) (c := tcI tm n d at_ 4 ((rW tm n at_).set 4 9)) (k := tcK tm d (n + 1)) (m := 1) (pg := 0) (pc := ((n + 5 : Nat) : Int)) (how := 0) (r := tcR n d 1) (a := 3) (j := 6) (q := 7) (Nat.le_refl 1) (by show 1 < n + 2; omega) (by rw [tcK_len]; exact Nat.le_refl _) (by rw [tcK_len]; omega) (tc_alive (fun i hi => chAf_get hi) ⟨_, rfl⟩) rfl (by omega) (by show (0 : Int) ≤ (n : Int); omega) (by omega) (by simp [tcI]) (by simp [tcI]) (by simp [tcI]) nd nl steps hnd [] (by simp)
 have h2 := Rx.ctx (ps := [tcP tm d n, tcQ at_]) (n := 0) (c := tcI tm n d at_ 4 ((rW tm n at_).set 4 9)) (k := tcK tm d (n + 1)) (k2 := canCs 1 9 (tcD tm d n (chAf n)) 1 (tcK tm d (n + 1))) (c2 := ⟨at_, [⟨0, ((n + 5 : Nat) : Int) + 1, 0, 0, tcR n d 1, zI⟩, ⟨1, 4, 0, 0, (rW tm n at_).set 4 9, zI⟩], [1, 0], canC (tcD tm d n (chAf n)) (chAf n), tmT tm ++ [⟨1, 0, some (n + 1)⟩], 1, canL (tcD tm d n (chAf n)) (tmL tm d), (tmN tm : Int) + 1⟩) (i := 1) (x := ⟨1, 4, 0, 0, (rW tm n at_).set 4 9, zI⟩) (p := tcQ at_) (ins := ⟨26, 1, 4, 0⟩) (r2 := (rW tm n at_).set 4 9) (tcI_lim hn ha) (pick_0 1 []) rfl rfl ⟨rfl, by simp, by simp⟩ rfl rfl
  (fun nd nl steps hnd => by
   obtain ⟨g1, g2, ev', g3, g4, g5⟩ := hcw nd nl steps hnd
   refine ⟨nd, ev', ?_, by omega, by simp only [List.length_nil] at g4; omega, g5⟩
   have h3 := ActX.cancel (s := (tcI tm n d at_ 4 ((rW tm n at_).set 4 9)).st nd nl steps []) (k := tcK tm d (n + 1)) (a := 1) (bb := 4) (cc := 0) (i := 1) (r := (rW tm n at_).set 4 9) (y := tcX tm d 0) (cause := 9) (D := tcD tm d n (chAf n)) (by omega) rfl rfl (by omega) (tcK_get (by omega)) (by rw [tcK_len]; omega) rfl g1 g2
   rw [show lapS 1 9 (canO (tcD tm d n (chAf n)) 1) (canS (tcD tm d n (chAf n)) ((tcI tm n d at_ 4 ((rW tm n at_).set 4 9)).st nd nl steps [])) = _ from g3] at h3
   exact h3) rfl (by simp) (by simp) (by simp)
 have h3 := Rx.ends (ps := [tcP tm d n, tcQ at_]) (n := 0) (k := canCs 1 9 (tcD tm d n (chAf n)) 1 (tcK tm d (n + 1))) (i := 1) (c := ⟨at_, [⟨0, ((n + 6 : Nat) : Int), 0, 0, tcR n d 1, zI⟩, ⟨1, 5, 0, 0, (rW tm n at_).set 4 9, zI⟩], [1, 0], canC (tcD tm d n (chAf n)) (chAf n), tmT tm ++ [⟨1, 0, some (n + 1)⟩], 1, canL (tcD tm d n (chAf n)) (tmL tm d), (tmN tm : Int) + 1⟩) (x := ⟨1, 5, 0, 0, (rW tm n at_).set 4 9, zI⟩) (p := tcQ at_) (O := ⟨5, (rW tm n at_).set 4 9, false, 0, true⟩) (lim2 (by simp) (by rw [canC_len, chAf_len]; omega) (by have := tmT_len tm; have := tmN_le tm; simp; omega) (by have := tmN_le tm; omega) (by omega) (by omega)) (pick_0 1 [0]) rfl rfl ⟨rfl, by simp, by simp⟩ (locF_end rfl) rfl rfl
 have h4 := tc_tail (tm := tm) (n := n) (d := d) (at_ := at_) (now := at_) (named := 1) (sq := (tmN tm : Int) + 1) (b := ⟨1, 5, 2, 0, (rW tm n at_).set 4 9, ⟨0, 0, 0, 0⟩⟩) (rest := []) (chs := canC (tcD tm d n (chAf n)) (chAf n)) (tms := tmT tm ++ [⟨1, 0, some (n + 1)⟩]) (L := canL (tcD tm d n (chAf n)) (tmL tm d)) hn (lim2 (by simp) (by rw [canC_len, chAf_len]; omega) (by have := tmT_len tm; have := tmN_le tm; simp; omega) (by have := tmN_le tm; omega) (by omega) (by omega)) (tcD_err (tm := tm) (d := d) (err := 1) (cause := 9) (chs := chAf n) (Nat.le_refl n)) (by rw [canCs_len, tcK_len]; omega)
 have h5 := Rxs.cons h1 (Rxs.cons h2 (Rxs.cons h3 h4))
 have h6 := h5.append (Rxs.idle (ps := [tcP tm d n, tcQ at_]) (lim2 (by simp) (by rw [canC_len, chAf_len]; omega) (by have := tmT_len tm; have := tmN_le tm; simp; omega) (by have := tmN_le tm; omega) (by omega) (by omega)) rfl (List.replicate 54 R0) (runs_R0 _))
 exact ⟨_, _, _, h6, rfl, rfl⟩
end
theorem canC_app {a : Nat × Chn} : ∀ (D : List Cd) (l : List (Nat × Chn)), (∀ d ∈ D, d.ci < l.length) → canC D (l ++ [a]) = canC D l ++ [a]
 | [], _, _ => rfl
 | d :: D, l, h => by
  show canC D ((l ++ [a]).set d.ci _) = canC D (l.set d.ci _) ++ [a]
  rw [List.set_append_left _ _ (h d List.mem_cons_self)]
  exact canC_app D _ (fun e he => by rw [List.length_set]; exact h e (List.mem_cons_of_mem _ he))
section
variable {d at_ : Int} {n : Nat}
def chW (n : Nat) : List (Nat × Chn) := tcHw n ++ [(n + 1, chE [⟨1, 0, 0⟩])]
theorem chW_get {i : Nat} (h : i ≤ n) : (chW n)[i]? = (tcHw n)[i]? := by
 unfold chW
 rw [List.getElem?_append_left (by rw [tcHw_len]; omega)]
abbrev dW (d : Int) (n : Nat) : List Cd := tcD true d n (chW n)
def tcJ (n : Nat) (d now : Int) (b : Tsk) (rd : List Int) (x : List Wt) (L : List It) : Cf := ⟨now, [⟨0, ((n + 6 : Nat) : Int), 0, 0, tcR n d 1, zI⟩, b], rd, canC (dW d n) (tcHw n) ++ [(n + 1, chE x)], tmT true ++ [⟨1, 0, some (n + 1)⟩], 1, L, 2⟩
theorem tcJ_lim {now : Int} {b : Tsk} {rd : List Int} {x : List Wt} {L : List It} (hn : n ≤ 9) (hr : rd.length ≤ 50) (hnow : 0 ≤ now ∧ now ≤ 100000) : LimC (tcJ n d now b rd x L) := lim2 hr (by rw [List.length_append, canC_len, tcHw_len]; simp only [List.length_cons, List.length_nil]; omega) (by simp [tmT]) (by omega) (by omega) hnow
theorem tc_advII {a0 dd : Int} (hn : n ≤ 9) (hd : 1 ≤ d ∧ d ≤ 1000) (ha : 0 ≤ at_ ∧ at_ ≤ 2000) (h : d ≤ at_) (h1 : 0 ≤ a0) (h2 : 0 ≤ dd) (h3 : a0 + dd = d) {c2 : Cf} (hc2 : (d < at_ ∧ c2 = tcJ n d d (tB true n at_) [0] [⟨1, 0, 0⟩] [⟨1, at_, 2⟩]) ∨ (d = at_ ∧ c2 = tcJ n d d ⟨1, 3, 0, 0, ((tcR2 true n at_).set 6 d).set 4 1, zI⟩ [0, 1] [] [])) : Rx [tcP true d n, tcQ at_] (tcA true n d at_ a0) (tcK true d (n + 1)) (.adv dd) [] c2 (canCs 2 2 (dW d n) 1 (tcK true d (n + 1))) := by
 refine Rx.adv (tcA_lim hn hd ha (by omega)) ⟨h2, by show a0 + dd ≤ 100000; omega⟩ (fun nd nl steps g1 g2 g3 g4 => ?_)
 have hl := (tcA_lim (tm := true) hn hd ha (now := d) (by omega)).lim (nd := nd) (nl := nl) (steps := steps) (ev := []) (by omega) (by omega) g3 (by omega) (by simp)
 have hst : ({ tcA true n d at_ a0 with now := (tcA true n d at_ a0).now + dd } : Cf) = tcA true n d at_ d := by
  show tcA true n d at_ (a0 + dd) = _
  rw [h3]
 rw [hst]
 obtain ⟨f1, f2, ev', f3, f4, f5⟩ := can_wake (err := 2) (cause := 2) (c := ⟨d, [tA n d, tB true n at_], [], chW n, tmT true ++ [⟨1, 0, some (n + 1)⟩], 1, [⟨1, at_, 2⟩], 2⟩) (k := tcK true d (n + 1)) (m := 1) (pg := 0) (pc := ((n + 5 : Nat) : Int)) (how := 0) (r := tcR n d 1) (a := 3) (j := 6) (q := 7) (Nat.le_refl 1) (by show 1 < n + 2; omega) (by rw [tcK_len]; exact Nat.le_refl _) (by rw [tcK_len]; omega) (tc_alive (fun i hi => chW_get hi) ⟨_, rfl⟩) rfl (by omega) (by show (0 : Int) ≤ (n : Int); omega) (by omega) (by simp) (by simp) (by simp) nd nl steps g1 [] (by simp)
 have hf3 : lapS 2 2 (canO (dW d n) 1) (canS (dW d n) (⟨d, [tA n d, tB true n at_], [], chW n, 0, tmT true ++ [⟨1, 0, some (n + 1)⟩], 1, [⟨1, at_, 2⟩], 2, nd, nl, steps, []⟩ : Wst)) = (tcJ n d d (tB true n at_) [0] [⟨1, 0, 0⟩] [⟨1, at_, 2⟩]).st nd nl steps ev' := by
  refine Eq.trans f3 ?_
  have e1 : canC (dW d n) (chW n) = canC (dW d n) (tcHw n) ++ [(n + 1, chE [⟨1, 0, 0⟩])] := canC_app _ _ (fun e he => by
   obtain ⟨j, h5, h6, h7⟩ := tcD_mem he
   rw [h7, tcHw_len]
   omega)
  have e2 : canL (dW d n) [⟨1, at_, 2⟩] = [⟨1, at_, 2⟩] := canL_far _ _ (fun e he it hit => by
   obtain ⟨j, h5, h6, h7⟩ := tcD_mem he
   simp only [List.mem_singleton] at hit
   subst hit
   rw [h6]
   show (1 : Int) ≠ (tcX true d j).timer
   unfold tcX
   simp only [Bool.true_and, decide_eq_true_eq]
   split <;> omega)
  show (⟨d, [⟨0, ((n + 5 : Nat) : Int) + 1, 0, 0, tcR n d 1, zI⟩, tB true n at_], [0], canC (dW d n) (chW n), 0, tmT true ++ [⟨1, 0, some (n + 1)⟩], 1, canL (dW d n) [⟨1, at_, 2⟩], 2, nd, nl, steps, ev'⟩ : Wst) = _
  rw [e1, e2]
  rfl
 have hlap : ∀ s2 k2, FiresI ((tcJ n d d (tB true n at_) [0] [⟨1, 0, 0⟩] [⟨1, at_, 2⟩]).st nd nl steps ev') (canCs 2 2 (dW d n) 1 (tcK true d (n + 1))) s2 k2 → FiresI ((tcA true n d at_ d).st nd nl steps []) (tcK true d (n + 1)) s2 k2 := fun s2 k2 hk =>
  FiresI.lapse (i := 0) (m := 1) (wh := d) (se := 1) (D := dW d n) (x := tcX true d 0) (ll := [⟨1, at_, 2⟩]) hl (tcL_d h) (Int.le_refl _) rfl f1 (tcK_get (by omega)) rfl f2 (by rw [show lapS 2 2 (canO (dW d n) 1) (canS (dW d n) { (tcA true n d at_ d).st nd nl steps [] with L := [⟨1, at_, 2⟩] }) = _ from hf3]; exact hk)
 rcases hc2 with ⟨h4, rfl⟩ | ⟨h4, rfl⟩
 ·refine ⟨nd, ev', hlap _ _ (FiresI.done _ _ (fun it hit => ?_)), by omega, by simp only [List.length_nil] at f4; omega, f5⟩
  cases hit
  exact h4
 ·refine ⟨nd + 1 + 1, ev' ++ [⟨steps, 6, -1, tmN true, at_, 0⟩] ++ [⟨steps, 3, 1, 0, d, 1⟩], hlap _ _ (FiresI.next ((tcJ_lim hn (by simp) (by omega)).lim (by omega) (by omega) g3 (by omega) (by simp only [List.length_nil] at f4; omega)) rfl (by show at_ ≤ d; omega) (tc_fire2 (tm := true) (now := d) (a := ⟨0, ((n + 6 : Nat) : Int), 0, 0, tcR n d 1, zI⟩) (rd := [0]) (chs := canC (dW d n) (tcHw n)) rfl (by rw [canC_len, tcHw_len]) (by simp)) (FiresI.done _ _ (fun it hit => by cases hit))), by omega, ?_, ?_⟩
  ·simp only [List.length_nil] at f4
   simp only [List.length_append, List.length_cons, List.length_nil]
   omega
  ·rw [toldM_append, toldM_append, f5]
   simp [toldM]
theorem tc_IIa (hn : n ≤ 9) (hd : 1 ≤ d ∧ d ≤ 1000) (ha : 0 ≤ at_ ∧ at_ ≤ 2000) : ∃ t c' k', Rxs [tcP true d n, tcQ at_] (tcJ n d d (tB true n at_) [0] [⟨1, 0, 0⟩] [⟨1, at_, 2⟩]) (canCs 2 2 (dW d n) 1 (tcK true d (n + 1))) (List.replicate 60 R0) t c' k' ∧ c'.ts[0]? = some ⟨0, ((n + 8 : Nat) : Int), 2, 0, (tcR n d 1).set 6 2, zI⟩ ∧ c'.ts.length = 2 := by
 have h4 := tc_tail (tm := true) (n := n) (d := d) (at_ := at_) (now := d) (named := 1) (sq := 2) (b := tB true n at_) (rest := []) (chs := canC (dW d n) (tcHw n) ++ [(n + 1, chE [⟨1, 0, 0⟩])]) (tms := tmT true ++ [⟨1, 0, some (n + 1)⟩]) (L := [⟨1, at_, 2⟩]) hn (lim2 (by simp) (by rw [List.length_append, canC_len, tcHw_len]; simp only [List.length_cons, List.length_nil]; omega) (by simp [tmT]) (by omega) (by omega) (by omega)) (tcD_err (tm := true) (d := d) (err := 2) (cause := 2) (chs := chW n) (Nat.le_refl n)) (by rw [canCs_len, tcK_len]; omega)
 have h6 := h4.append (Rxs.idle (ps := [tcP true d n, tcQ at_]) (lim2 (by simp) (by rw [List.length_append, canC_len, tcHw_len]; simp only [List.length_cons, List.length_nil]; omega) (by simp [tmT]) (by omega) (by omega) (by omega)) rfl (List.replicate 57 R0) (runs_R0 _))
 exact ⟨_, _, _, h6, rfl, rfl⟩
theorem tc_IIb (hn : n ≤ 9) (hd : 1 ≤ d ∧ d ≤ 1000) (ha : 0 ≤ at_ ∧ at_ ≤ 2000) : ∃ t c' k', Rxs [tcP true d n, tcQ at_] (tcJ n d d ⟨1, 3, 0, 0, ((tcR2 true n at_).set 6 d).set 4 1, zI⟩ [0, 1] [] []) (canCs 2 2 (dW d n) 1 (tcK true d (n + 1))) (List.replicate 60 R0) t c' k' ∧ c'.ts[0]? = some ⟨0, ((n + 8 : Nat) : Int), 2, 0, (tcR n d 1).set 6 2, zI⟩ ∧ c'.ts.length = 2 := by
 obtain ⟨rB, hrB⟩ : ∃ rB, rB = ((tcR2 true n at_).set 6 d).set 4 1 := ⟨_, rfl⟩
 have hr1 : rB.get 1 = 1 := by rw [hrB]; rfl
 rw [← hrB]
 clear hrB
 have hlim : ∀ (a b : Tsk) (rd : List Int), rd.length ≤ 50 → LimC ⟨d, [a, b], rd, canC (dW d n) (tcHw n) ++ [(n + 1, chE [])], tmT true ++ [⟨1, 0, some (n + 1)⟩], 1, [], 2⟩ := fun a b rd hr => lim2 hr (by rw [List.length_append, canC_len, tcHw_len]; simp only [List.length_cons, List.length_nil]; omega) (by simp [tmT]) (by omega) (by omega) (by omega)
 have h4 := tc_tail (tm := true) (n := n) (d := d) (at_ := at_) (now := d) (named := 1) (sq := 2) (b := ⟨1, 3, 0, 0, rB, zI⟩) (rest := [1]) (chs := canC (dW d n) (tcHw n) ++ [(n + 1, chE [])]) (tms := tmT true ++ [⟨1, 0, some (n + 1)⟩]) (L := []) hn (hlim _ _ _ (by simp)) (tcD_err (tm := true) (d := d) (err := 2) (cause := 2) (chs := chW n) (Nat.le_refl n)) (by rw [canCs_len, tcK_len]; omega)
 have h5 := Rx.loc (ps := [tcP true d n, tcQ at_]) (n := 0) (k := canCs 2 2 (dW d n) 1 (tcK true d (n + 1))) (c := ⟨d, [⟨0, ((n + 8 : Nat) : Int), 2, 0, (tcR n d 1).set 6 2, zI⟩, ⟨1, 3, 0, 0, rB, zI⟩], [1], canC (dW d n) (tcHw n) ++ [(n + 1, chE [])], tmT true ++ [⟨1, 0, some (n + 1)⟩], 1, [], 2⟩) (i := 1) (x := ⟨1, 3, 0, 0, rB, zI⟩) (p := tcQ at_) (O := ⟨4, rB.set 4 9, false, 0, false⟩) (hlim _ _ _ (by simp)) (pick_0 1 []) rfl rfl ⟨rfl, by simp, by simp⟩ (locF_set (a := 4) (z := 0) rfl (by omega)) rfl rfl
 have h6 := Rx.ctx (ps := [tcP true d n, tcQ at_]) (n := 0) (k := canCs 2 2 (dW d n) 1 (tcK true d (n + 1))) (k2 := canCs 2 2 (dW d n) 1 (tcK true d (n + 1))) (c := ⟨d, [⟨0, ((n + 8 : Nat) : Int), 2, 0, (tcR n d 1).set 6 2, zI⟩, ⟨1, 4, 0, 0, rB.set 4 9, zI⟩], [1], canC (dW d n) (tcHw n) ++ [(n + 1, chE [])], tmT true ++ [⟨1, 0, some (n + 1)⟩], 1, [], 2⟩) (c2 := ⟨d, [⟨0, ((n + 8 : Nat) : Int), 2, 0, (tcR n d 1).set 6 2, zI⟩, ⟨1, 4, 0, 0, rB.set 4 9, zI⟩], [1], canC (dW d n) (tcHw n) ++ [(n + 1, chE [])], tmT true ++ [⟨1, 0, some (n + 1)⟩], 1, [], 2⟩) (i := 1) (x := ⟨1, 4, 0, 0, rB.set 4 9, zI⟩) (p := tcQ at_) (ins := ⟨26, 1, 4, 0⟩) (r2 := rB.set 4 9) (hlim _ _ _ (by simp)) (pick_0 1 []) rfl rfl ⟨rfl, by simp, by simp⟩ rfl rfl
  (fun nd nl steps _ => ⟨nd, [], ActX.again (a := 1) (bb := 4) (cc := 0) (i := 1) (cause := 9) (r := rB.set 4 9) (y := canX 2 2 (tcX true d 0)) (by omega) hr1 rfl (by omega) (tcD_err (tm := true) (d := d) (err := 2) (cause := 2) (chs := chW n) (Nat.zero_le n)) (by rw [canCs_len, tcK_len]; omega) rfl (by show (2 : Int) ≠ 0; omega), by omega, by simp, rfl⟩) rfl (by simp) (by simp) (by simp)
 have h7 := Rx.ends (ps := [tcP true d n, tcQ at_]) (n := 0) (k := canCs 2 2 (dW d n) 1 (tcK true d (n + 1))) (c := ⟨d, [⟨0, ((n + 8 : Nat) : Int), 2, 0, (tcR n d 1).set 6 2, zI⟩, ⟨1, 5, 0, 0, rB.set 4 9, zI⟩], [1], canC (dW d n) (tcHw n) ++ [(n + 1, chE [])], tmT true ++ [⟨1, 0, some (n + 1)⟩], 1, [], 2⟩) (i := 1) (x := ⟨1, 5, 0, 0, rB.set 4 9, zI⟩) (p := tcQ at_) (O := ⟨5, rB.set 4 9, false, 0, true⟩) (hlim _ _ _ (by simp)) (pick_0 1 []) rfl rfl ⟨rfl, by simp, by simp⟩ (locF_end rfl) rfl rfl
 have h8 := h4.append (Rxs.cons h5 (Rxs.cons h6 (Rxs.one h7)))
 have h9 := h8.append (Rxs.idle (ps := [tcP true d n, tcQ at_]) (hlim _ _ _ (by simp)) rfl (List.replicate 54 R0) (runs_R0 _))
 exact ⟨_, _, _, h9, rfl, rfl⟩
theorem tc_second {tm : Bool} (hn : n ≤ 9) (hd : 1 ≤ d ∧ d ≤ 1000) (ha : 0 ≤ at_ ∧ at_ ≤ 2000) {a0 dd first err : Int} (hf : (tm = true ∧ d ≤ at_ ∧ first = d ∧ err = 2) ∨ ((tm = true → at_ < d) ∧ first = at_ ∧ err = 1)) (h1 : 0 ≤ a0) (h2 : 0 ≤ dd) (h3 : a0 + dd = first) :
  ∃ t c1 k1 c' k', Rx [tcP tm d n, tcQ at_] (tcA tm n d at_ a0) (tcK tm d (n + 1)) (.adv dd) [] c1 k1 ∧ Rxs [tcP tm d n, tcQ at_] c1 k1 (List.replicate 60 R0) t c' k' ∧ c'.ts[0]? = some ⟨0, ((n + 8 : Nat) : Int), 2, 0, (tcR n d 1).set 6 err, zI⟩ ∧ c'.ts.length = 2 := by
 rcases hf with ⟨rfl, h4, rfl, rfl⟩ | ⟨h4, rfl, rfl⟩
 ·by_cases h5 : first < at_
  ·obtain ⟨t, c', k', h6, h7⟩ := tc_IIa (n := n) (at_ := at_) hn hd ha
   exact ⟨t, _, _, c', k', tc_advII hn hd ha h4 h1 h2 h3 (.inl ⟨h5, rfl⟩), h6, h7⟩
  ·obtain ⟨t, c', k', h6, h7⟩ := tc_IIb (n := n) (at_ := at_) hn hd ha
   exact ⟨t, _, _, c', k', tc_advII hn hd ha h4 h1 h2 h3 (.inr ⟨by omega, rfl⟩), h6, h7⟩
 ·obtain ⟨t, c', k', h6, h7⟩ := tc_runsI (tm := tm) (n := n) (d := d) (at_ := first) hn hd ha
  exact ⟨t, _, _, c', k', tc_advI hn hd ha h4 h1 h2 h3, h6, h7⟩
end
theorem WX.turns {w w' : World} {b : Wp} {o : Nat → Nat} {ps : List (List Ins)} {s : Wst} {k : Cs} {S : Nat → Prop} (h : WX w b o ps s k) (ht : Turns S w w') (hn : ∀ q, Own o q → ¬ S q) : WX w' b o ps s k := by
 obtain ⟨hi, hc, cps, hl, hw⟩ := h
 exact ⟨hi, hc, cps, hl, hw.turns (CXs.ext b _) ht hn⟩
def SRel (b : Wp) (ps : List (List Ins)) (w : World) (L : List Ent) (s' : Wst) (k' : Cs) (wr : World) : Prop := ∃ o s k e, WX wr b o ps s k ∧ ExX ps s k L e s' k' ∧ Made w wr ∧ ∀ q, Own o q → w.heap.size ≤ q
section
variable {b : Wp} {ps : List (List Ins)} {w wr : World} {L : List Ent} {s' s2 : Wst} {k' k2 : Cs}
theorem SRel.step {e : Ent} (hps : PsOK ps) (h : SRel b ps w (e :: L) s' k' wr) : Calls Tryz.prog 9 #[.pointer (some ⟨b.pb, 0, none⟩), entV e] wr fun en w3 => ∃ vx, en = .returned vx ∧ SRel b ps w L s' k' w3 := by
 obtain ⟨o, s, k, f, hw, ⟨s1, k1, f1, hst, hex, -⟩, hm, hlo⟩ := h
 refine (step_X hps hw hst).mono ?_
 rintro en w3 ⟨vx, rfl, o2, hw2, -, -, hs2⟩
 exact ⟨vx, rfl, o2, s1, k1, f1, hw2, hex, hm.then hs2.t (fun q hq h => absurd (hlo q h) (by omega)), fun q hq => (hs2.f q hq).elim (hlo q) (fun h => Nat.le_trans hm.size h)⟩
theorem SRel.more {e : List Ev} (h : SRel b ps w [] s' k' wr) (hx : ExX ps s' k' L e s2 k2) : SRel b ps w L s2 k2 wr := by
 obtain ⟨o, s, k, f, hw, ⟨rfl, rfl, rfl⟩, hm, hlo⟩ := h
 exact ⟨o, s', k', e, hw, hx, hm, hlo⟩
theorem SRel.turned (h : SRel b ps w L s' k' wr) : Made w wr := by
 obtain ⟨o, s, k, f, hw, hex, hm, hlo⟩ := h
 exact hm
theorem SRel.kept {w' : World} (h : SRel b ps w L s' k' wr) (hm : Made wr w') : SRel b ps w L s' k' w' := by
 obtain ⟨o, s, k, f, hw, hex, hm0, hlo⟩ := h
 exact ⟨o, s, k, f, hw.turns hm (fun _ _ h => h), hex, hm0.trans hm, hlo⟩
theorem SRel.task {i : Nat} {x : Tsk} (h : SRel b ps w [] s' k' wr) (hx : s'.ts[i]? = some x) (hl : s'.ts.length ≤ 64) : Calls Tryz.prog 10 #[.pointer (some ⟨b.pb, 0, none⟩), .int .i64 i] wr fun e w' => e = .returned (.tuple #[.agg (tskC x).toArray, .bool true]) ∧ Made wr w' := by
 obtain ⟨o, s, k, f, ⟨hi, hc, cps, hcl, hw⟩, ⟨rfl, rfl, rfl⟩, hm, hlo⟩ := h
 have hm0 := (zT wr).alloc (.cells tskZ 38)
 have hw1 := hw.made (CXs.ext b _) hm0
 have q2 := hw1.cell2
 have HM := zh hm0
 have HB := zh (Blk.new wr 38 tskZ)
 have HTG : Hid _ := zh (show Calls Tryz.prog 28 #[.pointer (some ⟨b.pt, 0, none⟩), .int .i64 i] (wr.alloc (.cells tskZ 38)) _ from by
  obtain ⟨vp, vc, vl, ve, h1⟩ := hw1
  exact tabget_c h1.tab hx hl)
 clear hi hc hcl hw hm hlo hx hl hm0 hw1
 go_enter Tryz.func10, Tryz.ntmps10
 go_wp2_with fail
 refine HTG.out.mono ?_
 rintro e w1 ⟨rfl, hm1⟩
 have HM1 := zh hm1
 have HB1 := zh (HB.out.turns hm1 (fun h => h))
 clear hm1 q2
 go_wp2_with (first
  | (refine wpList_store_blk (o := ⟨none, .store 38 (.tmp 4) (.tmp 15), _, _, _, _⟩) rfl _ _ _ rfl rfl _ rfl (tskC x) ([.int .i64 0, .int .i64 0, .int .i64 0, .int .i64 0, .int .i64 0, .int .i64 0, .int .i64 0, .int .i64 0, .int .i64 0, .int .i64 0, .int .i64 0, .int .i64 0, .int .i64 0, .int .i64 0, .int .i64 0, .int .i64 0, .slice none 0 0, .bool false]) 38 rfl HB1.out rfl (tskC_one x) Tryz.sizeTsk ?_; intro w5 hb5 ht5; have HB5 := zh hb5; have HT5 := zh ht5; clear hb5 ht5)
  | fail)
 refine bodyPost_ret (res_boxT rfl HB5.out rfl rfl) rfl ?_
 exact ⟨rfl, (HM.out.trans HM1.out).then HT5.out (fun k hk (e : k = wr.heap.size) => by omega)⟩
end
structure FinT (err : Int) (s : Wst) : Prop where
 ex : ∃ pg pc r ins, s.ts[0]? = some ⟨pg, pc, 2, 0, r, ins⟩ ∧ r.r6 = err ∧ r.r7 = 0
 few : s.ts.length ≤ 64
structure WaitT (s : Wst) : Prop where
 ex : ∃ pg pc how r ins, s.ts[0]? = some ⟨pg, pc, 1, how, r, ins⟩
 few : s.ts.length ≤ 64
theorem tc_all {tm : Bool} {n : Nat} {d at_ first err : Int} (hn : n ≤ 9) (hd : 1 ≤ d ∧ d ≤ 1000) (ha : 0 ≤ at_ ∧ at_ ≤ 2000) (hf : (tm = true ∧ d ≤ at_ ∧ first = d ∧ err = 2) ∨ ((tm = true → at_ < d) ∧ first = at_ ∧ err = 1)) :
  ∃ e1 s1 k1, ExX [tcP tm d n, tcQ at_] initS k0 (List.replicate 60 R0) e1 s1 k1 ∧
   (0 < first → ∃ e2 s2 k2 e3 s3 k3 e4 s4 k4 e5 s5 k5, ExX [tcP tm d n, tcQ at_] s1 k1 [.adv (first - 1)] e2 s2 k2 ∧ ExX [tcP tm d n, tcQ at_] s2 k2 (List.replicate 20 R0) e3 s3 k3 ∧ WaitT s3 ∧ ExX [tcP tm d n, tcQ at_] s3 k3 [.adv 1] e4 s4 k4 ∧ ExX [tcP tm d n, tcQ at_] s4 k4 (List.replicate 60 R0) e5 s5 k5 ∧ FinT err s5) ∧
   (first = 0 → ∃ e4 s4 k4 e5 s5 k5, ExX [tcP tm d n, tcQ at_] s1 k1 [.adv 0] e4 s4 k4 ∧ ExX [tcP tm d n, tcQ at_] s4 k4 (List.replicate 60 R0) e5 s5 k5 ∧ FinT err s5) := by
 have hle : 0 ≤ first ∧ first ≤ 2000 := by rcases hf with ⟨_, _, rfl, _⟩ | ⟨_, rfl, _⟩ <;> omega
 obtain ⟨e1, nd1, nl1, ev1, h1, b1, b2, b3, -, -⟩ := Rxs.ex (nd := 0) (nl := 0) (steps := 0) (ev := []) (tc_first (tm := tm) hn hd ha) (by simp) (by simp) (by omega) (by simp) (by simp)
 simp only [List.length_replicate] at h1 b1 b2
 have fin : ∀ {c1 c' : Cf} {k1 k' : Cs} {t : List Int} {nd nl : Nat} {steps : Int} {ev : List Ev}, Rxs [tcP tm d n, tcQ at_] c1 k1 (List.replicate 60 R0) t c' k' → c'.ts[0]? = some ⟨0, ((n + 8 : Nat) : Int), 2, 0, (tcR n d 1).set 6 err, zI⟩ → c'.ts.length = 2 → nd ≤ 10000 → nl ≤ 1000 → 0 ≤ steps → steps ≤ 1000 → ev.length ≤ 200 → ∃ e5 s5 k5, ExX [tcP tm d n, tcQ at_] (c1.st nd nl steps ev) k1 (List.replicate 60 R0) e5 s5 k5 ∧ FinT err s5 := by
  intro c1 c' k1 k' t nd nl steps ev h g1 g2 f1 f2 f3 f4 f5
  obtain ⟨e5, nd5, nl5, ev5, h5, -, -, -, -, -⟩ := Rxs.ex (nd := nd) (nl := nl) (steps := steps) (ev := ev) h (by simp; omega) (by simp; omega) f3 (by simp; omega) f5
  exact ⟨e5, _, _, h5, ⟨⟨0, ((n + 8 : Nat) : Int), (tcR n d 1).set 6 err, zI, g1, rfl, rfl⟩, by show c'.ts.length ≤ 64; rw [g2]; omega⟩⟩
 refine ⟨e1, _, _, h1, fun hpos => ?_, fun hz => ?_⟩
 ·have hidle : Rx [tcP tm d n, tcQ at_] (tcA tm n d at_ 0) (tcK tm d (n + 1)) (.adv (first - 1)) [] (tcA tm n d at_ (first - 1)) (tcK tm d (n + 1)) := by
   have h2 := Rx.adv0 (ps := [tcP tm d n, tcQ at_]) (k := tcK tm d (n + 1)) (c := tcA tm n d at_ 0) (d := first - 1) (tcA_lim hn hd ha (by omega)) ⟨by omega, by show 0 + (first - 1) ≤ 100000; omega⟩ (fun it hit => by
    have hit : (insL ⟨tmN tm, at_, (tmN tm : Int) + 1⟩ (tmL tm d))[0]? = some it := hit
    show 0 + (first - 1) < it.when
    rcases hf with ⟨rfl, h4, rfl, -⟩ | ⟨h4, rfl, -⟩
    ·rw [tcL_d h4] at hit
     cases hit
     show 0 + (first - 1) < first
     omega
    ·rw [tcL_at h4] at hit
     cases hit
     show 0 + (first - 1) < first
     omega)
   have e : ({ tcA tm n d at_ 0 with now := (tcA tm n d at_ 0).now + (first - 1) } : Cf) = tcA tm n d at_ (first - 1) := by
    show tcA tm n d at_ (0 + (first - 1)) = _
    rw [Int.zero_add]
   rw [e] at h2
   exact h2
  obtain ⟨e2, nd2, nl2, ev2, h2, c1, c2, c3, -, -⟩ := Rxs.ex (nd := nd1) (nl := nl1) (steps := 0 + (60 : Nat)) (ev := ev1) (Rxs.one hidle) (by simp; omega) (by simp; omega) (by omega) (by simp) b3
  simp only [List.length_cons, List.length_nil] at h2 c1 c2
  obtain ⟨e3, nd3, nl3, ev3, h3, d1, d2, d3, -, -⟩ := Rxs.ex (nd := nd2) (nl := nl2) (steps := 0 + (60 : Nat) + ((0 + 1 : Nat) : Int)) (ev := ev2) (Rxs.idle (ps := [tcP tm d n, tcQ at_]) (k := tcK tm d (n + 1)) (tcA_lim (tm := tm) hn hd ha (now := first - 1) (by omega)) rfl (List.replicate 20 R0) (runs_R0 _)) (by simp; omega) (by simp; omega) (by omega) (by simp) c3
  simp only [List.length_replicate] at h3 d1 d2
  obtain ⟨t, c4, k4, c', k', h4, h5, h6, h7⟩ := tc_second hn hd ha hf (a0 := first - 1) (dd := 1) (by omega) (by omega) (by omega)
  obtain ⟨e4, nd4, nl4, ev4, h8, g1, g2, g3, -, -⟩ := Rxs.ex (nd := nd3) (nl := nl3) (steps := 0 + (60 : Nat) + ((0 + 1 : Nat) : Int) + (20 : Nat)) (ev := ev3) (Rxs.one h4) (by simp; omega) (by simp; omega) (by omega) (by simp) d3
  simp only [List.length_cons, List.length_nil] at h8 g1 g2
  obtain ⟨e5, s5, k5, h9, h10⟩ := fin (nd := nd4) (nl := nl4) (ev := ev4) (steps := 0 + (60 : Nat) + ((0 + 1 : Nat) : Int) + (20 : Nat) + ((0 + 1 : Nat) : Int)) h5 h6 h7 (by omega) (by omega) (by omega) (by simp) g3
  exact ⟨e2, _, _, e3, _, _, e4, _, _, e5, s5, k5, h2, h3, ⟨⟨_, _, _, _, _, rfl⟩, by show 2 ≤ 64; omega⟩, h8, h9, h10⟩
 ·obtain ⟨t, c4, k4, c', k', h4, h5, h6, h7⟩ := tc_second hn hd ha hf (a0 := 0) (dd := 0) (by omega) (by omega) (by omega)
  obtain ⟨e4, nd4, nl4, ev4, h8, g1, g2, g3, -, -⟩ := Rxs.ex (nd := nd1) (nl := nl1) (steps := 0 + (60 : Nat)) (ev := ev1) (Rxs.one h4) (by simp; omega) (by simp; omega) (by omega) (by simp) b3
  simp only [List.length_cons, List.length_nil] at h8 g1 g2
  obtain ⟨e5, s5, k5, h9, h10⟩ := fin (nd := nd4) (nl := nl4) (ev := ev4) (steps := 0 + (60 : Nat) + ((0 + 1 : Nat) : Int)) h5 h6 h7 (by omega) (by omega) (by omega) (by simp) g3
  exact ⟨e4, _, _, e5, s5, k5, h8, h9, h10⟩
theorem step_F2 {CX : World → (Nat → Prop) → Prop} {w : World} {b : Wp} {o : Nat → Nat} {ps : List (List Ins)} {s : Wst} {s' : Wst} {e : Ent} (hx : Ext CX) (hps : PsOK ps) (hW : WA CX w b o ps s) (hf : stepF ps s e = some s') :
  Calls Tryz.prog 9 #[.pointer (some ⟨b.pb, 0, none⟩), entV e] w fun e w' => ∃ v, e = .returned v ∧ ∃ o', WA CX w' b o' ps s' ∧ Owns evC 45 6 w' v s'.ev ∧ (∀ k, v.ownBlock = some k → ¬ Own o' k ∧ w.heap.size ≤ k) ∧ Stp w w' (Own o) (Own o') := by
 obtain ⟨hi, cps, hcl, hw⟩ := hW
 refine (step_Fp hx hps hi hcl hw hf).mono ?_
 rintro e w' ⟨v, rfl, o', ⟨hi2, cps2, -, hc2, hw2⟩, h3, h4, h5⟩
 exact ⟨v, rfl, o', ⟨hi2, cps2, hc2, hw2⟩, h3, h4, h5⟩
theorem worldnew_c2 {ps : List (List Ins)} {b off cap : Nat} (w : World) (hp : ProgsC ps) (hne : ∀ p ∈ ps, 1 ≤ p.length) (h : RowsIn w b off ps) :
  Calls Tryz.prog 8 #[.slice (some ⟨b, off, none⟩) ps.length cap] w fun e w' => ∃ wp o, e = .returned (.tuple #[.pointer (some ⟨wp.pb, 0, none⟩), .int .i64 0]) ∧ WA CX0 w' wp o ps initS ∧ Made w w' ∧ (∀ k, Own o k → w.heap.size ≤ k) := by
 refine (worldnew_x (cap := cap) w hp hne h).mono ?_
 rintro e w' ⟨wp, o, rfl, ⟨hi, -, cps, hcl, vp, vc, vl, ve, h1⟩, hm, hlo⟩
 exact ⟨wp, o, rfl, ⟨hi, cps, hcl, vp, vc, vl, ve, { blk := h1.blk, ob := h1.ob, lt := h1.lt, clk := h1.clk, ok := h1.ok, tab := h1.tab, tms := h1.tms, dls := h1.dls, ctx := trivial, prs := h1.prs, crow := h1.crow, co := h1.co, lrow := h1.lrow, lo := h1.lo, erow := h1.erow, eo := h1.eo, cnd := h1.cnd, chn := h1.chn }⟩, hm, hlo⟩
theorem awake_x (w : World) : Calls Tryz.prog 7 #[] w fun e w' => e = .returned (.bool true) ∧ Made w w' := by
 have hb1 := Blk.new w 25 #[.int .i64 1, .int .i64 1, .int .i64 10, .int .i64 0, .slice none 0 0, .bool false, .int .i64 17, .int .i64 0, .int .i64 1, .int .i64 2, .slice none 0 0, .bool false, .int .i64 20, .int .i64 0, .int .i64 3, .int .i64 0, .slice none 0 0, .bool false, .int .i64 6, .int .i64 3, .int .i64 0, .int .i64 0, .slice none 0 0, .bool false, .int .i64 11, .int .i64 2, .int .i64 4, .int .i64 5, .slice none 0 0, .bool false]
 have hm1 := (zT w).alloc (.cells #[.int .i64 1, .int .i64 1, .int .i64 10, .int .i64 0, .slice none 0 0, .bool false, .int .i64 17, .int .i64 0, .int .i64 1, .int .i64 2, .slice none 0 0, .bool false, .int .i64 20, .int .i64 0, .int .i64 3, .int .i64 0, .slice none 0 0, .bool false, .int .i64 6, .int .i64 3, .int .i64 0, .int .i64 0, .slice none 0 0, .bool false, .int .i64 11, .int .i64 2, .int .i64 4, .int .i64 5, .slice none 0 0, .bool false] 25)
 have hs : (w.alloc (.cells #[.int .i64 1, .int .i64 1, .int .i64 10, .int .i64 0, .slice none 0 0, .bool false, .int .i64 17, .int .i64 0, .int .i64 1, .int .i64 2, .slice none 0 0, .bool false, .int .i64 20, .int .i64 0, .int .i64 3, .int .i64 0, .slice none 0 0, .bool false, .int .i64 6, .int .i64 3, .int .i64 0, .int .i64 0, .slice none 0 0, .bool false, .int .i64 11, .int .i64 2, .int .i64 4, .int .i64 5, .slice none 0 0, .bool false] 25)).heap.size = w.heap.size + 1 := by simp
 have hb2 := Blk.new (w.alloc (.cells #[.int .i64 1, .int .i64 1, .int .i64 10, .int .i64 0, .slice none 0 0, .bool false, .int .i64 17, .int .i64 0, .int .i64 1, .int .i64 2, .slice none 0 0, .bool false, .int .i64 20, .int .i64 0, .int .i64 3, .int .i64 0, .slice none 0 0, .bool false, .int .i64 6, .int .i64 3, .int .i64 0, .int .i64 0, .slice none 0 0, .bool false, .int .i64 11, .int .i64 2, .int .i64 4, .int .i64 5, .slice none 0 0, .bool false] 25)) 26 #[.slice (some ⟨w.heap.size, 0, none⟩) 5 5]
 rw [hs] at hb2
 have hm2 := (zT (w.alloc (.cells #[.int .i64 1, .int .i64 1, .int .i64 10, .int .i64 0, .slice none 0 0, .bool false, .int .i64 17, .int .i64 0, .int .i64 1, .int .i64 2, .slice none 0 0, .bool false, .int .i64 20, .int .i64 0, .int .i64 3, .int .i64 0, .slice none 0 0, .bool false, .int .i64 6, .int .i64 3, .int .i64 0, .int .i64 0, .slice none 0 0, .bool false, .int .i64 11, .int .i64 2, .int .i64 4, .int .i64 5, .slice none 0 0, .bool false] 25))).alloc (.cells #[.slice (some ⟨w.heap.size, 0, none⟩) 5 5] 26)
 have hr : RowIn insC 6 ((w.alloc (.cells #[.int .i64 1, .int .i64 1, .int .i64 10, .int .i64 0, .slice none 0 0, .bool false, .int .i64 17, .int .i64 0, .int .i64 1, .int .i64 2, .slice none 0 0, .bool false, .int .i64 20, .int .i64 0, .int .i64 3, .int .i64 0, .slice none 0 0, .bool false, .int .i64 6, .int .i64 3, .int .i64 0, .int .i64 0, .slice none 0 0, .bool false, .int .i64 11, .int .i64 2, .int .i64 4, .int .i64 5, .slice none 0 0, .bool false] 25)).alloc (.cells #[.slice (some ⟨w.heap.size, 0, none⟩) 5 5] 26)) (some ⟨w.heap.size, 0, none⟩) 5 awP := RowIn.ofBlk insC_len (show Blk _ _ 25 (flat insC awP).toArray from hb1.turns hm2 (fun h => h))
 have hrs : RowsIn ((w.alloc (.cells #[.int .i64 1, .int .i64 1, .int .i64 10, .int .i64 0, .slice none 0 0, .bool false, .int .i64 17, .int .i64 0, .int .i64 1, .int .i64 2, .slice none 0 0, .bool false, .int .i64 20, .int .i64 0, .int .i64 3, .int .i64 0, .slice none 0 0, .bool false, .int .i64 6, .int .i64 3, .int .i64 0, .int .i64 0, .slice none 0 0, .bool false, .int .i64 11, .int .i64 2, .int .i64 4, .int .i64 5, .slice none 0 0, .bool false] 25)).alloc (.cells #[.slice (some ⟨w.heap.size, 0, none⟩) 5 5] 26)) (w.heap.size + 1) 0 [awP] := ⟨hb2.lt, fun i p hp => by
  cases i with
  | zero =>
   cases hp
   exact ⟨_, 5, hb2.cell 0, hr⟩
  | succ i => simp at hp⟩
 have HNW := zh (worldnew_c2 (cap := 1) _ awProgs (by simp [awP]) hrs)
 have HM := zh (hm1.trans hm2)
 clear hb1 hb2 hr hrs hm1 hm2 hs
 go_enter Tryz.func7, Tryz.ntmps7
 go_wp2_with fail
 refine HNW.out.mono ?_
 rintro e w1 ⟨b, o0, rfl, hw, hmw, hlo⟩
 have HPS := zh awProgs.ok
 have HLO := zh hlo
 have HSZ := zh (HM.out.trans hmw)
 have HST := zh (step_F2 (e := .run 0) CX0.ext HPS.out hw awS1)
 clear hw hmw hlo
 go_wp2_with fail
 refine HST.out.mono ?_
 rintro e w2 ⟨v1, rfl, o1, hw, -, -, hs1⟩
 have HST2 := zh (step_F2 (e := .run 0) CX0.ext HPS.out hw awS2)
 have HS1 := zh hs1
 clear hw hs1
 go_wp2_with fail
 refine HST2.out.mono ?_
 rintro e w3 ⟨v2, rfl, o2, hw, -, -, hs1⟩
 have HST3 := zh (step_F2 (e := .adv 20) CX0.ext HPS.out hw awS3)
 have HS2 := zh (HS1.out.trans hs1)
 clear hw hs1
 go_wp2_with fail
 refine HST3.out.mono ?_
 rintro e w4 ⟨vf, rfl, o3, hw, hof, hff, hs1⟩
 have HST4 := zh (step_F2 (e := .run 0) CX0.ext HPS.out hw awS4)
 have HS3 := zh (HS2.out.trans hs1)
 have HF := zh (And.intro hof (fun k hk => (hff k hk).1))
 clear hw hs1 hof hff
 go_wp2_with fail
 refine HST4.out.mono ?_
 rintro e w5 ⟨v4, rfl, o4, hw, -, -, hs1⟩
 have HST5 := zh (step_F2 (e := .run 0) CX0.ext HPS.out hw awS5)
 have HS4 := zh (HS3.out.trans hs1)
 have HF2 := zh (show Owns evC 45 6 w5 vf _ ∧ ∀ k, vf.ownBlock = some k → ¬ Own o4 k from ⟨HF.out.1.turns hs1.t HF.out.2, fun k hk h0 => (hs1.f k h0).elim (HF.out.2 k hk) (fun h => absurd (HF.out.1.lt hk) (Nat.not_lt.2 h))⟩)
 clear hw hs1
 go_wp2_with fail
 refine HST5.out.mono ?_
 rintro e w6 ⟨vt, rfl, o5, hw, hot, hft, hs1⟩
 have HST6 := zh (step_F2 (e := .run 0) CX0.ext HPS.out hw awS6)
 have HS5 := zh (HS4.out.trans hs1)
 have HF3 := zh (show Owns evC 45 6 w6 vf _ ∧ ∀ k, vf.ownBlock = some k → ¬ Own o5 k from ⟨HF2.out.1.turns hs1.t HF2.out.2, fun k hk h0 => (hs1.f k h0).elim (HF2.out.2 k hk) (fun h => absurd (HF2.out.1.lt hk) (Nat.not_lt.2 h))⟩)
 have HT := zh (And.intro hot (fun k hk => (hft k hk).1))
 clear hw hs1 hot hft
 go_wp2_with fail
 refine HST6.out.mono ?_
 rintro e w7 ⟨vl, rfl, o6, hw, hol, -, hs1⟩
 have HS6 := zh (HS5.out.trans hs1)
 obtain ⟨gf, cf, rfl, f1, f3, f4⟩ := one_ev (HF3.out.1.turns hs1.t HF3.out.2)
 obtain ⟨gt, ct, rfl, t1, t3, t4⟩ := one_ev (HT.out.1.turns hs1.t HT.out.2)
 obtain ⟨gl, cl, rfl, l1, l3, l4⟩ := one_ev hol
 simp only at f1 f3 f4 t1 t3 t4 l1 l3 l4
 clear hw hol hs1
 go_wp2_with fail
 go_returns
 exact ⟨rfl, HSZ.out.then HS6.out.t (fun k hk h => absurd (HLO.out k h) (by have := HM.out.size; omega))⟩
end Go.Proofs.YtjnkphhlkoapbaaGreat
