/-
  Walks and laws under LawTopNested, part 10.
-/
import Derived.Test.YtjnkphhlkoapbaaGreatPn9
set_option linter.unusedVariables false
set_option linter.unusedSimpArgs false
set_option maxRecDepth 100000
set_option maxHeartbeats 16000000
namespace Go.Proofs.YtjnkphhlkoapbaaGreat
open Go.RowKit
section
variable {CX : World → (Nat → Prop) → Prop} {w w' : World} {b : Wp} {o o' : Nat → Nat} {ps : List (List Ins)} {s : Wst}
theorem run_Fp {cps : List Nat} {s' : Wst} {n d : Int} (hx : Ext CX) (hps : PsOK ps) (hi : AInv s) (hcl : cps.length = s.chs.length) (hw : WW CX w b o ps (conc cps s)) (hl : Lim s) (hf : runF ps s n = some s') :
  Calls Tryz.prog 26 #[.pointer (some ⟨b.pb, 0, none⟩), .int .i64 n, .int .i64 d] w fun e w' => e = .returned (.tuple #[]) ∧ ∃ o', WAp cps CX w' b o' ps s' ∧ Stp w w' (Own o) (Own o') := by
 have hl0 := hl
 obtain ⟨l1, l2, l3, l4, l5, l6, l7, l8, l9, l10, l11, l12, l13, l14, l15⟩ := hl
 unfold runF at hf
 split at hf
 ·rename_i hrd
  cases hf
  refine (wrun_none hx hw hrd (by show s.rd.length ≤ 1000; omega) (by show s.nl < 900000; omega)).mono ?_
  rintro e w2 ⟨rfl, o2, h1, h2⟩
  exact ⟨rfl, o2, ⟨hi.same rfl rfl, cps, List.prefix_rfl, hcl, h1⟩, h2⟩
 ·rename_i hrd
  split at hf
  ·cases hf
  ·rename_i id hid
   split at hf
   ·cases hf
   ·rename_i x hxt
    split at hf
    ·cases hf
    ·rename_i p hp
     split at hf
     ·rename_i hc
      obtain ⟨c1, c2, c3, c4, c5⟩ := hc
      obtain ⟨i, rfl⟩ := Int.eq_ofNat_of_zero_le c1
      simp only [Int.toNat_natCast] at hf hxt
      have hpm := List.mem_of_getElem? hp
      have hpl := hps.len p hpm
      have hne : (0 : Int) < s.rd.length := by
       cases hr : s.rd with
       | nil => exact absurd hr hrd
       | cons a l => simp only [List.length_cons]; omega
      have hsel : Sel ps (conc cps s) n (pickZ n s.rd.length).toNat i x p x.prog.toNat x.pc.toNat :=
       { hj := (Int.toNat_of_nonneg (Int.emod_nonneg _ (by have := hne; show (s.rd.length : Int) ≠ 0; omega))).symm, hi := hid, hx := hxt, hp := (Int.toNat_of_nonneg c3).symm, hps := hp, hpc := (Int.toNat_of_nonneg c4).symm, st := c2, tl := (by show s.ts.length ≤ 64; omega), pl := hps.le, il := hpl }
      have hir : (i : Int) ∈ s.rd := List.mem_of_getElem? hid
      split at hf
      ·rename_i O hO
       cases hf
       refine (wrun_local (O := O) (s' := conc cps (aloneS { s with nl := s.nl + 1 } i x O)) hx hw hsel (by show s.rd.length ≤ 1000; omega) (by show s.nl < 900000; omega) (fun w1 a ci hr => ldo_F w1 (hps.good p hpm) hr hpl hO) (fun w1 o1 h1 => ?_)).mono ?_
       ·rw [conc_alone]
        exact walone_F hx h1 hxt (by show s.ts.length ≤ 64; omega) c2 (by show s.ev.length < 1000; omega) (locF_one hO) hir (by show s.rd.length ≤ 1000; omega)
       ·rintro e w2 ⟨rfl, o2, h1, h2⟩
        exact ⟨rfl, o2, ⟨hi.same (alone_chs i x O).1 (alone_chs i x O).2, cps, List.prefix_rfl, by rw [(alone_chs (s := { s with nl := s.nl + 1 }) i x O).1]; exact hcl, h1⟩, h2⟩
      ·rename_i hN
       split at hf
       ·cases hf
       ·rename_i ins hins
        split at hf
        ·rename_i hmi
         have hl1 : Lim { s with nl := s.nl + 1 } := ⟨l1, l2, l3, l4, l5, l6, l7, l8, by show s.nl + 1 < 100000; omega, l10, l11, l12, l13, l14, l15⟩
         obtain ⟨s2, rr, hact, hfin⟩ : ∃ s2 rr, actF { s with nl := s.nl + 1 } i ins x.regs = some (s2, rr) ∧ s' = (match rr with | none => parkS s2 i x ins | some r2 => putS s2 i x r2) := by
          split at hf
          ·cases hf
          ·rename_i s2 h1
           exact ⟨s2, none, h1, (Option.some.inj hf).symm⟩
          ·rename_i s2 r2 h1
           exact ⟨s2, some r2, h1, (Option.some.inj hf).symm⟩
         have hK := actF_K hl1 hact
         refine (wrun_act2 (ins := ins) (Q := fun s2c x2 => ∃ cps2 : List Nat, cps <+: cps2 ∧ cps2.length = s2.chs.length ∧ s2c = conc cps2 s2 ∧ AInv s2 ∧ x2.how = 0 ∧ x2.parks = rr.isNone ∧ (rr = none → x2.i = ins) ∧ ∀ r2, rr = some r2 → x2.regs = r2) hx hw hsel hins (by show s.rd.length ≤ 1000; omega) (by show s.nl < 900000; omega) (fun w1 a ci hr => ldo_none (i := 0) (j := 0) (u := 0) (v := ins.op) w1 (hps.good p hpm) hr hpl ⟨ins.a, ins.b, ins.c, hins⟩ hmi) (fun w1 o1 g h1 hb hg => ?_) (fun s2c x2 hq => ?_)).mono ?_
         ·refine (act_Fp (cps := cps) (s := { s with nl := s.nl + 1 }) hx (hi.same rfl rfl) hcl h1 hl1 hb hg hact).mono ?_
          rintro e w2 ⟨rfl, o2, x2, ⟨hi2, cps2, hpf, hc2, hw2⟩, hst, hb2, h5, h6, h7, h8⟩
          exact ⟨rfl, o2, conc cps2 s2, x2, ⟨cps2, hpf, hc2, rfl, hi2, h5, h6, h7, h8⟩, hw2, hst, hb2⟩
         ·obtain ⟨cps2, hpf, hc2, rfl, hi2, h5, h6, h7, h8⟩ := hq
          refine { how := h5, ts := hK.ts i x c2 hxt, tl := hK.tl, ev := hK.ev, rl := hK.rl, rd := idx_first (hK.rd _ hir), pk := fun hp => ?_ }
          cases rr with
          | none =>
           obtain ⟨k1, k2, k3, k4⟩ := hK.pk rfl
           rw [h7 rfl]
           obtain ⟨xo, xa, xb, xc⟩ := ins
           simp only at k1 k2 k3 k4
           subst k1
           exact ⟨rfl, good_11 _ _ _ _ k2 k3 k4⟩
          | some r2 => rw [h6] at hp; cases hp
         ·rintro e w2 ⟨rfl, o2, s2c, x2, ⟨cps2, hpf, hc2, rfl, hi2, h5, h6, h7, h8⟩, hw2, hst⟩
          refine ⟨rfl, o2, ?_, hst⟩
          obtain ⟨xid, xi, xw, xr, xd, xh, xp⟩ := x2
          cases rr with
          | none =>
           have h7 : xi = ins := h7 rfl
           have h6 : xp = true := h6
           subst h7 h6
           subst hfin
           exact ⟨hi2.same rfl rfl, cps2, hpf, hc2, hw2⟩
          | some r2 =>
           have h8 : xr = r2 := h8 r2 rfl
           have h6 : xp = false := h6
           subst h8 h6
           subst hfin
           exact ⟨hi2.same rfl rfl, cps2, hpf, hc2, hw2⟩
        ·cases hf
     ·cases hf
theorem step_Fp {cps : List Nat} {s' : Wst} {e : Ent} (hx : Ext CX) (hps : PsOK ps) (hi : AInv s) (hcl : cps.length = s.chs.length) (hw : WW CX w b o ps (conc cps s)) (hf : stepF ps s e = some s') :
  Calls Tryz.prog 9 #[.pointer (some ⟨b.pb, 0, none⟩), entV e] w fun e w' => ∃ v, e = .returned v ∧ ∃ o', WAp cps CX w' b o' ps s' ∧ Owns evC 45 6 w' v s'.ev ∧ (∀ k, v.ownBlock = some k → ¬ Own o' k ∧ w.heap.size ≤ k) ∧ Stp w w' (Own o) (Own o') := by
 unfold stepF at hf
 split at hf
 ·rename_i hl
  cases e with
  | run n =>
   simp only at hf
   split at hf
   ·cases hf
   ·rename_i s2 h2
    unfold doneF at hf
    split at hf
    ·rename_i hb
     cases hf
     have hl0 : Lim { s with ev := [] } := ⟨by simp, hl.2⟩
     refine (wstep_run (n := n) (d := 0) (R := fun z => AInv s2 ∧ ∃ cps2 : List Nat, cps <+: cps2 ∧ cps2.length = s2.chs.length ∧ z = conc cps2 s2) hx hw (fun w1 o1 h1 => ?_) (fun z hz => ?_)).mono ?_
     ·refine (run_Fp (cps := cps) (s := { s with ev := [] }) (d := 0) hx hps (hi.same rfl rfl) hcl h1 hl0 h2).mono ?_
      rintro e w2 ⟨rfl, o2, ⟨hi2, cps2, hpf, hc2, hw2⟩, hs2⟩
      exact ⟨rfl, o2, conc cps2 s2, ⟨hi2, cps2, hpf, hc2, rfl⟩, hw2, hs2⟩
     ·obtain ⟨_, cps2, _, _, rfl⟩ := hz
      exact ⟨hb.1, by show s2.steps < 1000000; omega, by show s2.ev.length ≤ 1000000; omega⟩
     ·rintro e w2 ⟨v, rfl, o2, z, ⟨hi2, cps2, hpf, hc2, rfl⟩, hw2, ho2, hf2, hs2⟩
      exact ⟨v, rfl, o2, ⟨hi2.same rfl rfl, cps2, hpf, hc2, hw2⟩, ho2, hf2, hs2⟩
    ·cases hf
  | adv d =>
   simp only at hf
   split at hf
   ·rename_i hd
    split at hf
    ·cases hf
    ·rename_i s2 h2
     unfold doneF at hf
     split at hf
     ·rename_i hb
      cases hf
      obtain ⟨l1, l2, l3, l4, l5, l6, l7, l8, l9, l10, l11, l12, l13, l14, l15⟩ := hl
      obtain ⟨n, hn, hi2, hcl2⟩ := fires_F (cps := cps) (hi.same (s' := { s with ev := [], now := s.now + d }) rfl rfl) h2
      refine (wstep_adv (n := d) (d := 0) (R := fun z => z = conc cps s2) hx hw hd.1 (fun w1 o1 h1 => ?_) (fun z hz => ?_)).mono ?_
      ·refine (wadvance_c2 (s2 := conc cps s2) (n := n) hx h1 hd.1 ?_ (by show (s.tms.map _).length ≤ 1000; rw [List.length_map]; omega)).mono ?_
       ·have hadd : addZ (conc cps s).now d = s.now + d := addZ_small l12 (by show s.now ≤ _; omega) hd.1 (by omega)
        show Fires n { conc cps s with ev := [], now := addZ (conc cps s).now d } _
        rw [hadd]
        exact hn
       ·rintro e w2 ⟨rfl, o2, hw2, hs2⟩
        exact ⟨rfl, o2, _, rfl, hw2, hs2⟩
      ·subst hz
       exact ⟨hb.1, by show s2.steps < 1000000; omega, by show s2.ev.length ≤ 1000000; omega⟩
      ·rintro e w2 ⟨v, rfl, o2, z, rfl, hw2, ho2, hf2, hs2⟩
       exact ⟨v, rfl, o2, ⟨hi2.same rfl rfl, cps, List.prefix_rfl, by rw [hcl]; exact hcl2.symm, hw2⟩, ho2, hf2, hs2⟩
     ·cases hf
   ·cases hf
 ·cases hf
end
def cxM (cps : List Nat) (x : Cx) : Cx := ⟨x.node, x.free, x.c.map (fun i => cps.getD i 0), x.err, x.cause, x.when, x.has, x.own, x.timer⟩
def concK (cps : List Nat) (k : Cs) : Cs := ⟨k.cs.map (cxM cps), k.cut⟩
def CInv (s : Wst) (k : Cs) : Prop := ∀ x ∈ k.cs, ∀ i, x.c = some i → i < s.chs.length
def WX (w : World) (b : Wp) (o : Nat → Nat) (ps : List (List Ins)) (s : Wst) (k : Cs) : Prop := AInv s ∧ CInv s k ∧ ∃ cps : List Nat, cps.length = s.chs.length ∧ WW (CXs b (concK cps k)) w b o ps (conc cps s)
def concD (cps : List Nat) (d : Cd) : Cd := ⟨cxM cps d.x, d.ci, (cps.getD d.q.1 0, d.q.2)⟩
theorem concK_pre {cps cps2 : List Nat} {s : Wst} {k : Cs} (h : CInv s k) (hl : cps.length = s.chs.length) (hp : cps <+: cps2) : concK cps2 k = concK cps k := by
 obtain ⟨r, rfl⟩ := hp
 unfold concK
 congr 1
 refine List.map_congr_left fun x hx => ?_
 unfold cxM
 congr 1
 cases hc : x.c with
 | none => rfl
 | some i =>
  have := h x hx i hc
  simp only [Option.map_some, List.getD_eq_getElem?_getD]
  rw [List.getElem?_append_left (by omega)]
theorem CInv.grow {s s2 : Wst} {k : Cs} (h : CInv s k) (hl : s.chs.length ≤ s2.chs.length) : CInv s2 k := fun x hx i hi => Nat.lt_of_lt_of_le (h x hx i hi) hl
structure CanI (D : List Cd) (m : Nat) (s : Wst) (k : Cs) : Prop where
 ne : D ≠ []
 cut : m + D.length = k.cut
 one : 1 ≤ m
 le : k.cut ≤ k.cs.length
 few : k.cs.length ≤ 60
 all : ∀ (j : Nat) (d : Cd), D[j]? = some d → k.cs[m + j]? = some d.x ∧ s.chs[d.ci]? = some d.q ∧ d.x.c = some d.ci ∧ d.x.free = false ∧ d.x.err = 0 ∧ d.q.2.signal = true ∧ d.q.2.closed = false ∧ (d.q.2.recvs.map Wt.task).Nodup ∧ d.q.2.recvs.length ≤ 50 ∧ (d.x.timer = -1 ∨ ∃ (i : Nat) (kd dt : Int), d.x.timer = i ∧ s.tms[i]? = some ⟨kd, dt, none⟩)
 nd : (D.map Cd.ci).Nodup
theorem canOK_of (err cause : Int) : ∀ (D : List Cd) (m : Nat) (s : Wst) (cs : List Cx), (∀ (j : Nat) (d : Cd), D[j]? = some d → CanOK1 d (m + j) s cs) → (D.map Cd.ci).Nodup → CanOK err cause D m s cs
 | [], _, _, _, _, _ => trivial
 | d :: D, m, s, cs, h, hn => by
  rw [List.map_cons, List.nodup_cons] at hn
  refine ⟨h 0 d rfl, canOK_of err cause D (m + 1) (can1 s d) (cs.set m (canX err cause d.x)) (fun j e he => ?_) hn.2⟩
  have h1 := h (j + 1) e (by simpa using he)
  rw [show m + (j + 1) = m + 1 + j from by omega] at h1
  have hne : d.ci ≠ e.ci := fun h2 => hn.1 (by rw [h2]; exact List.mem_map.2 ⟨e, List.mem_of_getElem? he, rfl⟩)
  refine ⟨?_, ?_, h1.c, h1.free, h1.err, h1.sig, h1.cl, h1.nd, h1.le, h1.tm⟩
  ·rw [List.getElem?_set_ne (by omega)]
   exact h1.x
  ·show (s.chs.set d.ci _)[e.ci]? = _
   rw [List.getElem?_set_ne hne]
   exact h1.q
section
variable {cps : List Nat} {s : Wst} {k : Cs}
theorem conc_can1 (d : Cd) : conc cps (can1 s d) = can1 (conc cps s) (concD cps d) := by
 unfold can1 conc concD cxM
 simp only [List.map_set]
theorem conc_canS : ∀ (D : List Cd) (s : Wst), conc cps (canS D s) = canS (D.map (concD cps)) (conc cps s)
 | [], s => rfl
 | d :: D, s => by
  show conc cps (canS D (can1 s d)) = canS (D.map (concD cps)) (can1 (conc cps s) (concD cps d))
  rw [conc_canS D, conc_can1]
theorem concK_canK (err cause : Int) : ∀ (D : List Cd) (m : Nat) (cs : List Cx), (canK err cause D m cs).map (cxM cps) = canK err cause (D.map (concD cps)) m (cs.map (cxM cps))
 | [], _, _ => rfl
 | d :: D, m, cs => by
  show (canK err cause D (m + 1) (cs.set m (canX err cause d.x))).map (cxM cps) = canK err cause (D.map (concD cps)) (m + 1) ((cs.map (cxM cps)).set m (canX err cause (concD cps d).x))
  rw [concK_canK err cause D, List.map_set]
  rfl
theorem canO_conc : ∀ (D : List Cd) (m : Nat), canO (D.map (concD cps)) m = canO D m
 | [], _ => rfl
 | d :: D, m => by
  show (m, _) :: canO (D.map (concD cps)) (m + 1) = (m, _) :: canO D (m + 1)
  rw [canO_conc D]
  rfl
theorem CanI.pre {err cause : Int} {D : List Cd} {m : Nat} (h : CanI D m s k) (hi : AInv s) (htl : s.tms.length ≤ 1000) (hsq : s.sq ≤ 1000000) : CanPre err cause (D.map (concD cps)) m (conc cps s) (concK cps k) where
 ne := fun e => h.ne (List.map_eq_nil_iff.1 e)
 cut := by rw [List.length_map]; exact h.cut
 one := h.one
 le := by show k.cut ≤ (k.cs.map _).length; rw [List.length_map]; exact h.le
 few := by show (k.cs.map _).length ≤ 60; rw [List.length_map]; exact h.few
 ok := by
  refine canOK_of err cause _ m _ _ (fun j d hd => ?_) (by rw [List.map_map]; exact h.nd)
  rw [List.getElem?_map] at hd
  obtain ⟨e, he, rfl⟩ := Option.map_eq_some_iff.1 hd
  obtain ⟨h1, h2, h3, h4, h5, h6, h7, h8, h9, h10⟩ := h.all j e he
  refine ⟨?_, conc_chs h2, ?_, h4, h5, h6, h7, h8, h9, ?_⟩
  ·show (k.cs.map _)[m + j]? = _
   rw [List.getElem?_map, h1]
   rfl
  ·show e.x.c.map _ = some (cps.getD e.q.1 0)
   rw [h3, hi.idx e.ci e.q h2]
   rfl
  ·rcases h10 with h11 | ⟨i, kd, dt, h11, h12⟩
   ·exact .inl h11
   ·exact .inr ⟨i, kd, dt, h11, conc_tms h12⟩
 tl := by show (s.tms.map _).length ≤ 1000; rw [List.length_map]; exact htl
 sq := hsq
theorem canCs_conc (err cause : Int) (D : List Cd) (m : Nat) : canCs err cause (D.map (concD cps)) m (concK cps k) = concK cps (canCs err cause D m k) := by
 unfold canCs concK
 simp only [concK_canK]
theorem canS_inv : ∀ (D : List Cd) (s : Wst), AInv s → (∀ d ∈ D, d.q.1 = d.ci) → AInv (canS D s) ∧ (canS D s).chs.length = s.chs.length ∧ (canS D s).tms = s.tms
 | [], s, h, _ => ⟨h, rfl, rfl⟩
 | d :: D, s, h, hq => by
  have h1 : AInv (can1 s d) := by
   refine ⟨fun i q hi => ?_, fun t ht i hi => ?_⟩
   ·have hi2 : (s.chs.set d.ci (d.q.1, ⟨d.q.2.timed, true, true, d.q.2.room, d.q.2.val, []⟩))[i]? = some q := hi
    rw [List.getElem?_set] at hi2
    by_cases h2 : d.ci = i
    ·rw [if_pos h2] at hi2
     split at hi2
     ·cases hi2
      rw [← h2]
      exact hq d (List.mem_cons_self)
     ·cases hi2
    ·rw [if_neg h2] at hi2
     exact h.idx i q hi2
   ·have := h.tmc t ht i hi
    show i < (s.chs.set _ _).length
    rw [List.length_set]
    exact this
  obtain ⟨h2, h3, h4⟩ := canS_inv D (can1 s d) h1 (fun e he => hq e (List.mem_cons_of_mem _ he))
  exact ⟨h2, h3.trans (by show (s.chs.set _ _).length = _; rw [List.length_set]), h4⟩
theorem canK_mem (err cause : Int) : ∀ (D : List Cd) (m : Nat) (cs : List Cx) (x : Cx), x ∈ canK err cause D m cs → x ∈ cs ∨ ∃ d ∈ D, x = canX err cause d.x
 | [], _, _, _, h => .inl h
 | d :: D, m, cs, x, h => by
  rcases canK_mem err cause D (m + 1) _ x h with h1 | ⟨e, he, h1⟩
  ·rcases List.mem_or_eq_of_mem_set h1 with h2 | h2
   ·exact .inl h2
   ·exact .inr ⟨d, List.mem_cons_self, h2⟩
  ·exact .inr ⟨e, List.mem_cons_of_mem _ he, h1⟩
theorem CanI.inv {err cause : Int} {D : List Cd} {m : Nat} (h : CanI D m s k) (hi : AInv s) (hc : CInv s k) : AInv (canS D s) ∧ CInv (canS D s) (canCs err cause D m k) ∧ (canS D s).chs.length = s.chs.length := by
 have hq : ∀ d ∈ D, d.q.1 = d.ci := fun d hd => by
  obtain ⟨j, hj⟩ := List.getElem?_of_mem hd
  exact hi.idx d.ci d.q (h.all j d hj).2.1
 obtain ⟨h1, h2, h3⟩ := canS_inv D s hi hq
 refine ⟨h1, fun x hx i hxi => ?_, h2⟩
 rw [h2]
 rcases canK_mem err cause D m k.cs x hx with h4 | ⟨d, hd, rfl⟩
 ·exact hc x h4 i hxi
 ·obtain ⟨j, hj⟩ := List.getElem?_of_mem hd
  exact hc d.x (List.mem_of_getElem? (h.all j d hj).1) i hxi
def LapI (err cause : Int) : List (Nat × List Wk) → Wst → Prop
 | [], _ => True
 | y :: l, s => (s.ev.length + y.2.length < 999 ∧ s.rd.length + y.2.length ≤ 1000 ∧ s.ts.length ≤ 64 ∧ s.nd + y.2.length < 1000000 ∧ WakesB (lapT err cause s y) y.2) ∧ LapI err cause l (wakesS (lapT err cause s y) y.2)
theorem LapI.ok {err cause : Int} : ∀ {ys : List (Nat × List Wk)} {s : Wst}, LapI err cause ys s → LapOK err cause ys (conc cps s)
 | [], _, _ => trivial
 | y :: l, s, h => by
  obtain ⟨⟨h1, h2, h3, h4, h5⟩, h6⟩ := h
  have hl := LapI.ok h6
  rw [conc_wakes] at hl
  have hev : (lapT err cause s y).ev.length = s.ev.length + 1 := by
   show (s.ev ++ [_]).length = _
   rw [List.length_append]
   rfl
  exact ⟨⟨by show s.ev.length < 1000; omega, by omega, (wakesOK_conc cps y.2 (lapT err cause s y)).1 (wakesB_ok h5 h2 h3 h4 (by omega))⟩, hl⟩
theorem conc_lapS (err cause : Int) : ∀ (ys : List (Nat × List Wk)) (s : Wst), conc cps (lapS err cause ys s) = lapS err cause ys (conc cps s)
 | [], s => rfl
 | y :: l, s => by
  show conc cps (lapS err cause l (wakesS (lapT err cause s y) y.2)) = lapS err cause l (wakesS (lapT err cause (conc cps s) y) y.2)
  rw [conc_lapS err cause l, conc_wakes]
  rfl
theorem lapS_keep (err cause : Int) : ∀ (ys : List (Nat × List Wk)) (s : Wst), (lapS err cause ys s).chs = s.chs ∧ (lapS err cause ys s).tms = s.tms ∧ (lapS err cause ys s).ts.length = s.ts.length
 | [], s => ⟨rfl, rfl, rfl⟩
 | y :: l, s => by
  obtain ⟨h1, h2, h3⟩ := lapS_keep err cause l (wakesS (lapT err cause s y) y.2)
  obtain ⟨n1, n2, n3, -⟩ := wakes_chs y.2 (lapT err cause s y)
  exact ⟨h1.trans n1, h2.trans n2, h3.trans n3⟩
end
def sigS (s : Wst) : Wst := { s with chs := s.chs ++ [(s.chs.length, ⟨false, true, false, false, none, []⟩)] }
inductive ActX : Wst → Cs → Ins → Reg → Wst → Cs → Reg → Prop
 | cancels {s : Wst} {k : Cs} {a bb cc n0 : Nat} {r : Reg} {x : Cx} (ha : a < 8 ∧ bb < 8 ∧ cc < 8) (hi : r.get bb = n0) (hlen : k.cs.length = n0 + 1) (hcut : k.cut = n0 + 1) (hn : n0 ≤ 50) (hx : k.cs[n0]? = some x) (he : x.err = 0) : ActX s k ⟨22, a, bb, cc⟩ r (sigS s) (mkC k n0 x.when x.has false (-1) s.chs.length) (r.set a (n0 + 1 : Nat))
 | dlAs {s : Wst} {k : Cs} {a bb cc n0 : Nat} {r : Reg} {x : Cx} {op when_ : Int} (hop : op = 23 ∧ when_ = r.get cc ∨ op = 24 ∧ when_ = addZ s.now (r.get cc)) (ha : a < 8 ∧ bb < 8 ∧ cc < 8) (hi : r.get bb = n0) (hlen : k.cs.length = n0 + 1) (hcut : k.cut = n0 + 1) (hn : n0 ≤ 50) (hx : k.cs[n0]? = some x) (he : x.err = 0) (hw : 0 ≤ when_ ∧ when_ ≤ 4611686018427387904) (hh : x.has = true) (hle : x.when ≤ when_) : ActX s k ⟨op, a, bb, cc⟩ r (sigS s) (mkC k n0 x.when x.has false (-1) s.chs.length) (r.set a (n0 + 1 : Nat))
 | dlOwn {s : Wst} {k : Cs} {a bb cc n0 : Nat} {r : Reg} {x : Cx} {op when_ : Int} (hop : op = 23 ∧ when_ = r.get cc ∨ op = 24 ∧ when_ = addZ s.now (r.get cc)) (ha : a < 8 ∧ bb < 8 ∧ cc < 8) (hi : r.get bb = n0) (hlen : k.cs.length = n0 + 1) (hcut : k.cut = n0 + 1) (hn : n0 ≤ 50) (hx : k.cs[n0]? = some x) (he : x.err = 0) (hw : 0 ≤ when_ ∧ when_ ≤ 4611686018427387904) (hno : x.has = true → when_ < x.when) (hnow : s.now < when_) : ActX s k ⟨op, a, bb, cc⟩ r (sigS (dlS s n0 when_)) (mkC k n0 when_ true true s.tms.length s.chs.length) (r.set a (n0 + 1 : Nat))
 | err {s : Wst} {k : Cs} {a bb cc i : Nat} {r : Reg} {y : Cx} (ha : a < 8 ∧ bb < 8) (hi : r.get a = i) (hy : k.cs[i]? = some y) (hn : k.cs.length ≤ 60) : ActX s k ⟨27, a, bb, cc⟩ r s k (r.set bb y.err)
 | done {s : Wst} {k : Cs} {a bb cc i j : Nat} {r : Reg} {y : Cx} {q : Nat × Chn} (ha : a < 8 ∧ bb < 8) (hi : r.get a = i) (hy : k.cs[i]? = some y) (hn : k.cs.length ≤ 60) (hyc : y.c = some j) (hch : s.chs[j]? = some q) : ActX s k ⟨29, a, bb, cc⟩ r s k (r.set bb j)
 | untl {s : Wst} {k : Cs} {a bb cc i : Nat} {r : Reg} {y : Cx} (ha : a < 8 ∧ bb < 8 ∧ cc < 8) (hi : r.get a = i) (hy : k.cs[i]? = some y) (hn : k.cs.length ≤ 60) : ActX s k ⟨30, a, bb, cc⟩ r s k ((r.set bb y.when).set cc (bitZ y.has))
 | again {s : Wst} {k : Cs} {a bb cc i : Nat} {r : Reg} {y : Cx} {cause : Int} (ha : a < 8 ∧ bb < 8) (hi : r.get a = i) (hca : r.get bb = cause) (h1 : 1 ≤ cause) (hy : k.cs[i]? = some y) (hn : k.cs.length ≤ 60) (hf : y.free = false) (he : y.err ≠ 0) : ActX s k ⟨26, a, bb, cc⟩ r s k r
 | cancel {s : Wst} {k : Cs} {a bb cc i : Nat} {r : Reg} {y : Cx} {cause : Int} {D : List Cd} (ha : a < 8 ∧ bb < 8) (hi : r.get a = i) (hca : r.get bb = cause) (h1 : 1 ≤ cause) (hy : k.cs[i]? = some y) (hn : k.cs.length ≤ 60) (hf : y.free = false) (hD : CanI D i s k) (hok : LapI 1 cause (canO D i) (canS D s)) : ActX s k ⟨26, a, bb, cc⟩ r (lapS 1 cause (canO D i) (canS D s)) (canCs 1 cause D i k) r
section
variable {cps : List Nat} {s : Wst} {k : Cs}
theorem conc_sig {cp : Nat} (hi : AInv s) (hl : cps.length = s.chs.length) : conc (cps ++ [cp]) (sigS s) = { conc cps s with chs := (conc cps s).chs ++ [(cp, ⟨false, true, false, false, none, []⟩)] } := by
 have h3 : s.chs.map (fun q : Nat × Chn => ((cps ++ [cp]).getD q.1 0, q.2)) = s.chs.map (fun q => (cps.getD q.1 0, q.2)) := by
  refine List.map_congr_left fun q hq => ?_
  obtain ⟨i, hiq⟩ := List.getElem?_of_mem hq
  rw [hi.idx i q hiq, getD_snoc hl (List.getElem?_eq_some_iff.1 hiq).1]
 have h4 : s.tms.map (fun t : Tk => (⟨t.kind, t.data, t.c.map (fun i => (cps ++ [cp]).getD i 0)⟩ : Tk)) = s.tms.map (fun t => ⟨t.kind, t.data, t.c.map (fun i => cps.getD i 0)⟩) := by
  refine List.map_congr_left fun t ht => ?_
  cases hc : t.c with
  | none => rfl
  | some i => simp only [Option.map_some, getD_snoc hl (hi.tmc t ht i hc)]
 unfold sigS conc
 simp only [List.map_append, List.map_cons, List.map_nil, h3, h4, getD_last hl]
theorem concK_mk {cp n0 : Nat} {wh tm : Int} {hs ow : Bool} (hc : CInv s k) (hl : cps.length = s.chs.length) : concK (cps ++ [cp]) (mkC k n0 wh hs ow tm s.chs.length) = mkC (concK cps k) n0 wh hs ow tm cp := by
 have h1 := concK_pre hc hl (List.prefix_append cps [cp])
 unfold concK at h1
 simp only [Cs.mk.injEq, and_true] at h1
 unfold mkC concK
 simp only [List.map_append, List.map_cons, List.map_nil, h1, cxM, Option.map_some, getD_last hl]
theorem conc_dlS (n0 : Nat) (when_ : Int) : conc cps (dlS s n0 when_) = dlS (conc cps s) n0 when_ := by
 unfold conc dlS
 simp only [List.map_append, List.map_cons, List.map_nil, Option.map_none, List.length_map]
theorem dlS_inv {n0 : Nat} {when_ : Int} (hi : AInv s) : AInv (dlS s n0 when_) := by
 refine ⟨hi.idx, fun t ht i hc => ?_⟩
 have ht2 : t ∈ s.tms ++ [⟨4, (n0 : Int) + 1, none⟩] := ht
 rcases List.mem_append.1 ht2 with h1 | h1
 ·exact hi.tmc t h1 i hc
 ·simp only [List.mem_singleton] at h1
  subst h1
  cases hc
theorem CInv.mk' {n0 : Nat} {wh tm : Int} {hs ow : Bool} {s2 : Wst} (h : CInv s k) (hl : s2.chs.length = s.chs.length) : CInv (sigS s2) (mkC k n0 wh hs ow tm s2.chs.length) := by
 intro x hx i hi
 have hx2 : x ∈ k.cs ++ [⟨(n0 : Int) + 1, false, some s2.chs.length, 0, 0, wh, hs, ow, tm⟩] := hx
 show i < (s2.chs ++ [_]).length
 rw [List.length_append]
 rcases List.mem_append.1 hx2 with h1 | h1
 ·have := h x h1 i hi
  omega
 ·simp only [List.mem_singleton] at h1
  subst h1
  cases hi
  simp
def ActXP (b : Wp) (ps : List (List Ins)) (g : Nat) (w : World) (o : Nat → Nat) (s2 : Wst) (k2 : Cs) (r2 : Reg) (w' : World) : Prop :=
 ∃ o' x2, WX w' b o' ps s2 k2 ∧ AStp w w' o o' g ∧ Blk w' g 131 (acA b.pb x2) ∧ x2.how = 0 ∧ x2.parks = false ∧ x2.regs = r2
theorem act_X {w : World} {b : Wp} {o : Nat → Nat} {ps : List (List Ins)} {s2 : Wst} {k2 : Cs} {r2 : Reg} {g i : Nat} {ins : Ins} {r : Reg} {dd : Int} (hW : WX w b o ps s k) (hl : Lim s) (hb : Blk w g 131 (acA b.pb ⟨i, ins, r, r, dd, 0, false⟩)) (hg : ¬ Own o g) (hf : ActX s k ins r s2 k2 r2) :
  Calls Tryz.prog 50 #[.pointer (some ⟨g, 0, none⟩)] w fun e w' => e = .returned (.tuple #[]) ∧ ActXP b ps g w o s2 k2 r2 w' := by
 obtain ⟨hi, hc, cps, hcl, hw⟩ := hW
 obtain ⟨l1, l2, l3, l4, l5, l6, l7, l8, l9, l10, l11, l12, l13, l14, l15⟩ := hl
 have hcc : (conc cps s).chs.length = s.chs.length := by show (s.chs.map _).length = _; rw [List.length_map]
 have hct : (conc cps s).tms.length = s.tms.length := by show (s.tms.map _).length = _; rw [List.length_map]
 have hck : (concK cps k).cs.length = k.cs.length := by show (k.cs.map _).length = _; rw [List.length_map]
 have hget : ∀ (j : Nat) (x : Cx), k.cs[j]? = some x → (concK cps k).cs[j]? = some (cxM cps x) := fun j x h => by
  show (k.cs.map _)[j]? = _
  rw [List.getElem?_map, h]
  rfl
 cases hf with
 | @cancels a bb cc n0 _ x ha hri hlen hcut hn hx he =>
  refine acdo_22 hb rfl ((accontext_22 (a := a) (bb := bb) (cc := cc) (n0 := n0) (id := n0 + 1) (k' := mkC (concK cps k) n0 (cxM cps x).when (cxM cps x).has false (-1)) hw hb hg rfl rfl rfl rfl ha.1 ha.2.1 ha.2.2 hri (fun w1 h1 => mk22 h1 (by rw [hck]; exact hlen) hcut hn (hget _ _ hx) he) (fun cp => mkC_get cp (by rw [hck]; exact hlen)) (fun cp => by rw [mkC_len, hck]; omega) (by rw [hcc]; omega)).mono ?_)
  rintro e w2 ⟨rfl, o2, cp, h6, h7, h8⟩
  refine ⟨rfl, o2, _, ⟨hi.snoc (m := s.made), CInv.mk' hc rfl, cps ++ [cp], by simp [sigS, hcl], ?_⟩, h7, h8, rfl, rfl, rfl⟩
  rw [conc_sig hi hcl, concK_mk hc hcl]
  exact h6
 | @dlAs a bb cc n0 _ x op when_ hop ha hri hlen hcut hn hx he hwn hh hle =>
  rcases hop with ⟨rfl, hwe⟩ | ⟨rfl, hwe⟩
  ·refine acdo_23 hb rfl ((accontext_23 (a := a) (bb := bb) (cc := cc) (n0 := n0) (id := n0 + 1) (k' := mkC (concK cps k) n0 (cxM cps x).when (cxM cps x).has false (-1)) hw hb hg rfl rfl rfl rfl ha.1 ha.2.1 ha.2.2 hri (fun w1 h1 => by rw [← hwe]; exact mk23_0 h1 (by rw [hck]; exact hlen) hcut hn (hget _ _ hx) he hwn hh hle) (fun cp => mkC_get cp (by rw [hck]; exact hlen)) (fun cp => by rw [mkC_len, hck]; omega) (by rw [hcc]; omega)).mono ?_)
   rintro e w2 ⟨rfl, o2, cp, h6, h7, h8⟩
   refine ⟨rfl, o2, _, ⟨hi.snoc (m := s.made), CInv.mk' hc rfl, cps ++ [cp], by simp [sigS, hcl], ?_⟩, h7, h8, rfl, rfl, rfl⟩
   rw [conc_sig hi hcl, concK_mk hc hcl]
   exact h6
  ·refine acdo_24 hb rfl ((accontext_24 (a := a) (bb := bb) (cc := cc) (n0 := n0) (id := n0 + 1) (k' := mkC (concK cps k) n0 (cxM cps x).when (cxM cps x).has false (-1)) hw hb hg rfl rfl rfl rfl ha.1 ha.2.1 ha.2.2 hri (fun w1 h1 => by rw [show addZ (conc cps s).now _ = when_ from hwe.symm]; exact mk23_0 h1 (by rw [hck]; exact hlen) hcut hn (hget _ _ hx) he hwn hh hle) (fun cp => mkC_get cp (by rw [hck]; exact hlen)) (fun cp => by rw [mkC_len, hck]; omega) (by rw [hcc]; omega)).mono ?_)
   rintro e w2 ⟨rfl, o2, cp, h6, h7, h8⟩
   refine ⟨rfl, o2, _, ⟨hi.snoc (m := s.made), CInv.mk' hc rfl, cps ++ [cp], by simp [sigS, hcl], ?_⟩, h7, h8, rfl, rfl, rfl⟩
   rw [conc_sig hi hcl, concK_mk hc hcl]
   exact h6
 | @dlOwn a bb cc n0 _ x op when_ hop ha hri hlen hcut hn hx he hwn hno hnow =>
  have hmk : ∀ w1, WW (CXs b (concK cps k)) w1 b o ps (conc cps s) → Calls Tryz.prog 138 #[.pointer (some ⟨b.px, 0, none⟩), .int .i64 n0, .int .i64 when_, .int .i64 (conc cps s).now] w1 (MkP b ps (dlS (conc cps s) n0 when_) (mkC (concK cps k) n0 when_ true true (conc cps s).tms.length) (n0 + 1) w1 o) := fun w1 h1 => mk23_1 h1 (by rw [hck]; exact hlen) hcut hn (hget _ _ hx) he hwn hno hnow (by rw [hct]; omega) ⟨l14, by show s.named ≤ 64; omega⟩ (by show s.sq < 1000000; omega)
  have hfin : ∀ cp, AInv (sigS (dlS s n0 when_)) ∧ CInv (sigS (dlS s n0 when_)) (mkC k n0 when_ true true s.tms.length s.chs.length) ∧ (cps ++ [cp]).length = (sigS (dlS s n0 when_)).chs.length ∧ conc (cps ++ [cp]) (sigS (dlS s n0 when_)) = { dlS (conc cps s) n0 when_ with chs := (dlS (conc cps s) n0 when_).chs ++ [(cp, ⟨false, true, false, false, none, []⟩)] } ∧ concK (cps ++ [cp]) (mkC k n0 when_ true true s.tms.length s.chs.length) = mkC (concK cps k) n0 when_ true true (conc cps s).tms.length cp := fun cp => by
   have hdi := dlS_inv (n0 := n0) (when_ := when_) hi
   refine ⟨hdi.snoc (m := s.made), CInv.mk' (s2 := dlS s n0 when_) hc rfl, by simp [sigS, dlS, hcl], ?_, ?_⟩
   ·rw [conc_sig hdi hcl, conc_dlS]
   ·rw [hct]
    exact concK_mk hc hcl
  rcases hop with ⟨rfl, hwe⟩ | ⟨rfl, hwe⟩
  ·refine acdo_23 hb rfl ((accontext_23 (a := a) (bb := bb) (cc := cc) (n0 := n0) (id := n0 + 1) (k' := mkC (concK cps k) n0 when_ true true (conc cps s).tms.length) hw hb hg rfl rfl rfl rfl ha.1 ha.2.1 ha.2.2 hri (fun w1 h1 => by rw [← hwe]; exact hmk w1 h1) (fun cp => mkC_get cp (by rw [hck]; exact hlen)) (fun cp => by rw [mkC_len, hck]; omega) (by show (conc cps s).chs.length ≤ 1000; rw [hcc]; omega)).mono ?_)
   rintro e w2 ⟨rfl, o2, cp, h6, h7, h8⟩
   obtain ⟨f1, f2, f3, f4, f5⟩ := hfin cp
   refine ⟨rfl, o2, _, ⟨f1, f2, cps ++ [cp], f3, ?_⟩, h7, h8, rfl, rfl, rfl⟩
   rw [f4, f5]
   exact h6
  ·refine acdo_24 hb rfl ((accontext_24 (a := a) (bb := bb) (cc := cc) (n0 := n0) (id := n0 + 1) (k' := mkC (concK cps k) n0 when_ true true (conc cps s).tms.length) hw hb hg rfl rfl rfl rfl ha.1 ha.2.1 ha.2.2 hri (fun w1 h1 => by rw [show addZ (conc cps s).now _ = when_ from hwe.symm]; exact hmk w1 h1) (fun cp => mkC_get cp (by rw [hck]; exact hlen)) (fun cp => by rw [mkC_len, hck]; omega) (by show (conc cps s).chs.length ≤ 1000; rw [hcc]; omega)).mono ?_)
   rintro e w2 ⟨rfl, o2, cp, h6, h7, h8⟩
   obtain ⟨f1, f2, f3, f4, f5⟩ := hfin cp
   refine ⟨rfl, o2, _, ⟨f1, f2, cps ++ [cp], f3, ?_⟩, h7, h8, rfl, rfl, rfl⟩
   rw [f4, f5]
   exact h6
 | @err a bb cc i1 _ y ha hri hy hn =>
  refine acdo_27 hb rfl ((acask_27 (a := a) (bb := bb) (i := i1) hw hb hg rfl rfl rfl ha.1 ha.2 hri (hget _ _ hy) (by rw [hck]; exact hn)).mono ?_)
  rintro e w2 ⟨rfl, o2, h6, h7, h8⟩
  exact ⟨rfl, o2, _, ⟨hi, hc, cps, hcl, h6⟩, h7, h8, rfl, rfl, rfl⟩
 | @done a bb cc i1 j _ y q ha hri hy hn hyc hch =>
  refine acdo_29 hb rfl ((acask_29 (a := a) (bb := bb) (i := i1) (j := j) (p := cps.getD q.1 0) (c := q.2) hw hb hg rfl rfl rfl ha.1 ha.2 hri (hget _ _ hy) (by rw [hck]; exact hn) (by show y.c.map _ = _; rw [hyc, hi.idx j q hch]; rfl) (conc_chs hch) (by rw [hcc]; omega)).mono ?_)
  rintro e w2 ⟨rfl, o2, h6, h7, h8⟩
  exact ⟨rfl, o2, _, ⟨hi, hc, cps, hcl, h6⟩, h7, h8, rfl, rfl, rfl⟩
 | @untl a bb cc i1 _ y ha hri hy hn =>
  refine acdo_30 hb rfl ((acask_30 (a := a) (bb := bb) (cc := cc) (i := i1) hw hb hg rfl rfl rfl ha.1 ha.2.1 hri (hget _ _ hy) (by rw [hck]; exact hn) rfl ha.2.2).mono ?_)
  rintro e w2 ⟨rfl, o2, h6, h7, h8⟩
  exact ⟨rfl, o2, _, ⟨hi, hc, cps, hcl, h6⟩, h7, h8, rfl, rfl, rfl⟩
 | @again a bb cc i1 _ y cause ha hri hca h1 hy hn hf he =>
  refine (acdo_26 (a := a) (bb := bb) (i := i1) (cause := cause) (err := 1) (ys := []) (s2 := conc cps s) (k2 := concK cps k) hw hb hg rfl rfl rfl ha.1 ha.2 hri hca (fun w1 h2 => ?_) (by simp) trivial).mono ?_
  ·obtain ⟨vl, hcx⟩ := h2.ctx
   refine cxCancel_c hcx (hget _ _ hy) hf (by rw [hck]; exact hn) h1 ((cxcancel_done hcx (hget _ _ hy) hf he).mono ?_)
   rintro e w2 ⟨rfl, hm⟩
   exact ⟨_, rfl, o, h2.made (CXs.ext b _) hm, LpOut.nil _ _ _ _, Stp.made hm⟩
  ·rintro e w2 ⟨rfl, o2, h6, h7, h8⟩
   exact ⟨rfl, o2, _, ⟨hi, hc, cps, hcl, h6⟩, h7, h8, rfl, rfl, rfl⟩
 | @cancel a bb cc i1 _ y cause D ha hri hca h1 hy hn hf hD hok =>
  have hpre := hD.pre (err := 1) (cause := cause) (cps := cps) hi (by omega) (by omega)
  obtain ⟨f1, f2, f3⟩ := hD.inv (err := 1) (cause := cause) hi hc
  obtain ⟨g1, g2, g3⟩ := lapS_keep 1 cause (canO D i1) (canS D s)
  refine (acdo_26 (a := a) (bb := bb) (i := i1) (cause := cause) (err := 1) (ys := canO D i1) (s2 := conc cps (canS D s)) (k2 := concK cps (canCs 1 cause D i1 k)) hw hb hg rfl rfl rfl ha.1 ha.2 hri hca (fun w1 h2 => ?_) (by rw [canO_len]; have := hD.cut; have := hD.le; have := hD.few; omega) hok.ok).mono ?_
  ·obtain ⟨vl, hcx⟩ := h2.ctx
   refine cxCancel_c hcx (hget _ _ hy) hf (by rw [hck]; exact hn) h1 ((wwcancel_c h2 hpre).mono ?_)
   rintro e w2 ⟨v, rfl, o2, h3, h4, h5⟩
   rw [canCs_conc, ← conc_canS] at h3
   rw [canO_conc] at h4
   exact ⟨v, rfl, o2, h3, h4, h5⟩
  ·rintro e w2 ⟨rfl, o2, h6, h7, h8⟩
   rw [← conc_lapS] at h6
   refine ⟨rfl, o2, _, ⟨f1.same g1 g2, f2.grow (by rw [g1]; exact Nat.le_refl _), cps, by rw [g1, f3]; exact hcl, h6⟩, h7, h8, rfl, rfl, rfl⟩
end
section
variable {cps : List Nat} {s s1 : Wst} {k : Cs}
theorem fire_next {it : It} {ll0 : List It} (hi : AInv s) (hlim : Lim s) (hL : s.L = it :: ll0) (hdue : it.when ≤ s.now) (h1 : fireF s = some s1) : AInv s1 ∧ s1.chs.length = s.chs.length ∧ ∀ (n : Nat) (K K2 : Cs) (s2 : Wst), FiresX n (conc cps s1) K s2 K2 → FiresX (n + 1) (conc cps s) K s2 K2 := by
 obtain ⟨l1, l2, l3, l4, l5, l6, l7, l8, l9, l10, l11, l12, l13, l14, l15⟩ := hlim
 unfold fireF at h1
 rw [hL] at h1
 simp only at h1
 split at h1
 ·cases h1
 ·rename_i t ht
  split at h1
  ·cases h1
  ·rename_i ci hci
   split at h1
   ·cases h1
   ·rename_i q hq
    split at h1
    ·rename_i hc
     obtain ⟨c1, c2, c3, c4, c5⟩ := hc
     obtain ⟨iid, iwh, ise⟩ := it
     obtain ⟨i, hii⟩ := Int.eq_ofNat_of_zero_le c1
     simp only at hii hdue
     subst hii
     simp only [Int.toNat_natCast] at ht h1
     obtain ⟨tk, td, tc⟩ := t
     obtain ⟨q1, qt, qs, qc, qr, qv, ql⟩ := q
     simp only at c2 c3 c4 c5 hci h1
     subst c2 c3 c4 hci
     have hq1 : q1 = ci := hi.idx ci _ hq
     subst hq1
     cases ql with
     | nil =>
      simp only at h1
      split at h1
      ·rename_i hqv
       subst hqv
       cases h1
       refine ⟨(hi.set hq (c := ⟨true, qs, qc, true, some s.now, []⟩)).same (s' := fireB { s with L := ll0, chs := s.chs.set q1 (q1, ⟨true, qs, qc, true, some s.now, []⟩) } i iwh) rfl rfl, by show (s.chs.set q1 _).length = _; rw [List.length_set], fun n K K2 s2 hn => ?_⟩
       refine FiresX.next i iwh td q1 (cps.getD q1 0) ⟨true, qs, qc, true, none, []⟩ ⟨true, qs, qc, true, some s.now, []⟩ [] ll0 { due := ⟨ise, hL⟩, wh := hdue, now := l12, tm := conc_tms ht, ch := conc_chs hq, tl := (by show (s.tms.map _).length ≤ 1000; rw [List.length_map]; omega), sq := (by show s.sq < 1000000; omega), wq := .inl ⟨qs, qc, rfl, rfl, rfl⟩ } (by simp) (by show (s.chs.map _).length ≤ 1000; rw [List.length_map]; omega) (by show s.ev.length < 1000; omega) (by show s.nd < 1000000; omega) trivial ?_
       have e1 : conc cps (fireB { s with L := ll0, chs := s.chs.set q1 (q1, ⟨true, qs, qc, true, some s.now, []⟩) } i iwh) = fireB { conc cps s with L := ll0, chs := (conc cps s).chs.set q1 (cps.getD q1 0, ⟨true, qs, qc, true, some s.now, []⟩) } i iwh := by
        have e2 := conc_set (s := { s with L := ll0 }) cps q1 q1 ⟨true, qs, qc, true, some s.now, []⟩
        exact congrArg (fun z => fireB z i iwh) e2
       rw [e1] at hn
       exact hn
      ·cases h1
     | cons x lw =>
      simp only at h1
      split at h1
      ·rename_i hwb
       cases h1
       have hfi : AInv (fireB { s with L := ll0, chs := s.chs.set q1 (q1, ⟨true, qs, qc, true, qv, lw⟩) } i iwh) := (hi.set hq (c := ⟨true, qs, qc, true, qv, lw⟩)).same rfl rfl
       refine ⟨hfi.wake _, by rw [wake_chs]; show (s.chs.set q1 _).length = _; rw [List.length_set], fun n K K2 s2 hn => ?_⟩
       refine FiresX.next i iwh td q1 (cps.getD q1 0) ⟨true, qs, qc, true, qv, x :: lw⟩ ⟨true, qs, qc, true, qv, lw⟩ [⟨x.task, x.kase, s.now, true, false⟩] ll0 { due := ⟨ise, hL⟩, wh := hdue, now := l12, tm := conc_tms ht, ch := conc_chs hq, tl := (by show (s.tms.map _).length ≤ 1000; rw [List.length_map]; omega), sq := (by show s.sq < 1000000; omega), wq := .inr ⟨qs, qc, qv, x, lw, rfl, rfl, (by simp only [List.length_cons] at c5; omega), rfl⟩ } (by simp) (by show (s.chs.map _).length ≤ 1000; rw [List.length_map]; omega) (by show s.ev.length < 1000; omega) (by show s.nd < 1000000; omega) ⟨?_, trivial⟩ ?_
       ·exact wakeB_ok hwb rfl rfl (by omega) (by omega) (by show s.nd + 1 < 1000000; omega) (by show (s.ev ++ [_]).length < 1000; rw [List.length_append]; simp only [List.length_cons, List.length_nil]; omega)
       ·have e1 : conc cps (fireB { s with L := ll0, chs := s.chs.set q1 (q1, ⟨true, qs, qc, true, qv, lw⟩) } i iwh) = fireB { conc cps s with L := ll0, chs := (conc cps s).chs.set q1 (cps.getD q1 0, ⟨true, qs, qc, true, qv, lw⟩) } i iwh := by
         have e2 := conc_set (s := { s with L := ll0 }) cps q1 q1 ⟨true, qs, qc, true, qv, lw⟩
         exact congrArg (fun z => fireB z i iwh) e2
        rw [conc_wakeS, e1] at hn
        exact hn
      ·cases h1
    ·cases h1
end
inductive FiresI : Wst → Cs → Wst → Cs → Prop
 | done (s : Wst) (k : Cs) (h : ∀ it, s.L[0]? = some it → s.now < it.when) : FiresI s k s k
 | next {s s1 s2 : Wst} {k k2 : Cs} {it : It} {ll : List It} (hl : Lim s) (hL : s.L = it :: ll) (hd : it.when ≤ s.now) (h1 : fireF s = some s1) (hk : FiresI s1 k s2 k2) : FiresI s k s2 k2
 | lapse {s s2 : Wst} {k k2 : Cs} {i m : Nat} {wh se : Int} {D : List Cd} {x : Cx} {ll : List It} (hl : Lim s) (hL : s.L = ⟨i, wh, se⟩ :: ll) (hd : wh ≤ s.now) (ht : s.tms[i]? = some ⟨4, m, none⟩) (hD : CanI D m { s with L := ll } k) (hx : k.cs[m]? = some x) (ho : x.own = true) (hok : LapI 2 2 (canO D m) (canS D { s with L := ll })) (hk : FiresI (lapS 2 2 (canO D m) (canS D { s with L := ll })) (canCs 2 2 D m k) s2 k2) : FiresI s k s2 k2
theorem firesI_X {cps : List Nat} {s s2 : Wst} {k k2 : Cs} (h : FiresI s k s2 k2) : AInv s → CInv s k → ∃ n, FiresX n (conc cps s) (concK cps k) (conc cps s2) (concK cps k2) ∧ AInv s2 ∧ CInv s2 k2 ∧ s2.chs.length = s.chs.length := by
 induction h with
 | done s k h => exact fun hi hc => ⟨0, FiresX.done _ _ (fun x hx => .inr (h x hx)), hi, hc, rfl⟩
 | next hl hL hd h1 hk ih =>
  intro hi hc
  obtain ⟨f1, f2, f3⟩ := fire_next (cps := cps) hi hl hL hd h1
  obtain ⟨n, g1, g2, g3, g4⟩ := ih f1 (hc.grow (by omega))
  exact ⟨n + 1, f3 n _ _ _ g1, g2, g3, g4.trans f2⟩
 | @lapse s s2 k k2 i m wh se D x ll hl hL hd ht hD hx ho hok hk ih =>
  intro hi hc
  obtain ⟨l1, l2, l3, l4, l5, l6, l7, l8, l9, l10, l11, l12, l13, l14, l15⟩ := hl
  have hi2 : AInv { s with L := ll } := ⟨hi.idx, hi.tmc⟩
  obtain ⟨f1, f2, f3⟩ := hD.inv (err := 2) (cause := 2) hi2 hc
  obtain ⟨g1, g2, g3⟩ := lapS_keep 2 2 (canO D m) (canS D { s with L := ll })
  obtain ⟨n, h1, h2, h3, h4⟩ := ih (f1.same g1 g2) (f2.grow (by rw [g1]; exact Nat.le_refl _))
  refine ⟨n + 1, FiresX.lapse i m wh (D.map (concD cps)) (cxM cps x) ll { due := ⟨se, hL⟩, wh := hd, now := l12, tm := conc_tms ht, tl := (by show (s.tms.map _).length ≤ 1000; rw [List.length_map]; omega), sq := (by show s.sq < 1000000; omega), pre := ?_, hx := ?_, own := ho, ok := ?_ } ?_, h2, h3, by rw [h4, g1, f3]⟩
  ·exact hD.pre (cps := cps) hi2 (by show s.tms.length ≤ 1000; omega) (by show s.sq ≤ 1000000; omega)
  ·show (k.cs.map _)[m]? = _
   rw [List.getElem?_map, hx]
   rfl
  ·have h5 := hok.ok (cps := cps)
   rw [conc_canS] at h5
   rw [canO_conc]
   exact h5
  ·rw [conc_lapS, conc_canS, ← canO_conc (cps := cps) D m, ← canCs_conc] at h1
   exact h1
inductive SpX (ps : List (List Ins)) : Wst → Cs → Ent → Wst → Cs → Prop
 | old {s s' : Wst} {k : Cs} {e : Ent} (h : stepF ps s e = some s') : SpX ps s k e s' k
 | act {s s2 : Wst} {k k2 : Cs} {n : Int} {i : Nat} {x : Tsk} {p : List Ins} {ins : Ins} {r2 : Reg} (hl : Lim s) (hnl : s.nl < 99999) (h1 : s.rd[(pickZ n s.rd.length).toNat]? = some (i : Int)) (h2 : s.ts[i]? = some x) (h3 : ps[x.prog.toNat]? = some p) (h4 : x.st = 0 ∧ 0 ≤ x.prog ∧ 0 ≤ x.pc) (h5 : p[x.pc.toNat]? = some ins) (h6 : mineB ins.op = false) (h7 : ActX { s with ev := [], nl := s.nl + 1 } k ins x.regs s2 k2 r2) (h8 : s2.ts[i]? = some x) (h9 : s2.ts.length ≤ 64) (h10 : s2.ev.length < 900) (h11 : s2.rd.length ≤ 1000) (h12 : (i : Int) ∈ s2.rd) (h13 : 0 ≤ s2.steps ∧ s2.steps < 100000) : SpX ps s k (.run n) { putS s2 i x r2 with steps := s2.steps + 1 } k2
 | adv {s s2 : Wst} {k k2 : Cs} {d : Int} (hl : Lim s) (hd : 0 ≤ d ∧ s.now + d ≤ 1000000) (hf : FiresI { s with ev := [], now := s.now + d } k s2 k2) (h10 : s2.ev.length < 900) (h13 : 0 ≤ s2.steps ∧ s2.steps < 100000) : SpX ps s k (.adv d) { s2 with steps := s2.steps + 1 } k2
theorem step_X {w : World} {b : Wp} {o : Nat → Nat} {ps : List (List Ins)} {s s' : Wst} {k k' : Cs} {e : Ent} (hps : PsOK ps) (hW : WX w b o ps s k) (hf : SpX ps s k e s' k') :
  Calls Tryz.prog 9 #[.pointer (some ⟨b.pb, 0, none⟩), entV e] w fun e w' => ∃ v, e = .returned v ∧ ∃ o', WX w' b o' ps s' k' ∧ Owns evC 45 6 w' v s'.ev ∧ (∀ k, v.ownBlock = some k → ¬ Own o' k ∧ w.heap.size ≤ k) ∧ Stp w w' (Own o) (Own o') := by
 obtain ⟨hi, hc, cps, hcl, hw⟩ := hW
 cases hf with
 | old h =>
  refine (step_Fp (CXs.ext b _) hps hi hcl hw h).mono ?_
  rintro e w2 ⟨v, rfl, o2, ⟨hi2, cps2, hpf, hcl2, hw2⟩, h3, h4, h5⟩
  refine ⟨v, rfl, o2, ⟨hi2, hc.grow (by rw [← hcl, ← hcl2]; exact hpf.length_le), cps2, hcl2, ?_⟩, h3, h4, h5⟩
  rw [concK_pre hc hcl hpf]
  exact hw2
 | @act s2 _ _ n i x p ins r2 hl hnl h1 h2 h3 h4 h5 h6 h7 h8 h9 h10 h11 h12 h13 =>
  have hl0 := hl
  obtain ⟨l1, l2, l3, l4, l5, l6, l7, l8, l9, l10, l11, l12, l13, l14, l15⟩ := hl
  have hpm := List.mem_of_getElem? h3
  have hpl := hps.len p hpm
  have hne : (0 : Int) < s.rd.length := by
   cases hr : s.rd with
   | nil => rw [hr] at h1; simp at h1
   | cons a l => simp only [List.length_cons]; omega
  have hsel : Sel ps { conc cps s with ev := [] } n (pickZ n s.rd.length).toNat i x p x.prog.toNat x.pc.toNat :=
   { hj := (Int.toNat_of_nonneg (Int.emod_nonneg _ (by have := hne; show (s.rd.length : Int) ≠ 0; omega))).symm, hi := h1, hx := h2, hp := (Int.toNat_of_nonneg h4.2.1).symm, hps := h3, hpc := (Int.toNat_of_nonneg h4.2.2).symm, st := h4.1, tl := (by show s.ts.length ≤ 64; omega), pl := hps.le, il := hpl }
  refine (wstep_runx (CX := CXs b) (k0 := concK cps k) (n := n) (d := 0) (R := fun kk z => AInv s2 ∧ CInv s2 k' ∧ ∃ cps2 : List Nat, cps2.length = s2.chs.length ∧ z = putS (conc cps2 s2) i x r2 ∧ kk = concK cps2 k') (CXs.ext b) hw (fun w1 o1 hw1 => ?_) (fun kk z hz => ?_)).mono ?_
  ·refine (wrun_actx (CX := CXs b) (k0 := concK cps k) (ins := ins) (Q := fun kk s2c x2 => AInv s2 ∧ CInv s2 k' ∧ ∃ cps2 : List Nat, cps2.length = s2.chs.length ∧ s2c = conc cps2 s2 ∧ kk = concK cps2 k' ∧ x2.how = 0 ∧ x2.parks = false ∧ x2.regs = r2) (CXs.ext b) hw1 hsel h5 (by show s.rd.length ≤ 1000; omega) (by show s.nl < 900000; omega) (fun w1 a ci hr => ldo_none (i := 0) (j := 0) (u := 0) (v := ins.op) w1 (hps.good p hpm) hr hpl ⟨ins.a, ins.b, ins.c, h5⟩ h6) (fun w2 o2 g h20 hb hg => ?_) (fun kk s2c x2 hq => ?_)).mono ?_
   ·refine (act_X (s := { s with ev := [], nl := s.nl + 1 }) ⟨hi.same rfl rfl, hc, cps, hcl, h20⟩ ⟨by simp, l2, l3, l4, l5, l6, l7, l8, by show s.nl + 1 < 100000; omega, l10, l11, l12, l13, l14, l15⟩ hb hg h7).mono ?_
    rintro e w3 ⟨rfl, o3, x2, ⟨hi2, hc2, cps2, hcl2, hw2⟩, hst, hb2, h21, h22, h23⟩
    exact ⟨rfl, o3, concK cps2 k', conc cps2 s2, x2, ⟨hi2, hc2, cps2, hcl2, rfl, rfl, h21, h22, h23⟩, hw2, hst, hb2⟩
   ·obtain ⟨hi2, hc2, cps2, hcl2, rfl, rfl, h21, h22, h23⟩ := hq
    exact { how := h21, ts := h8, tl := h9, ev := (by show s2.ev.length < 1000; omega), rl := h11, rd := idx_first h12, pk := fun hp => by rw [h22] at hp; cases hp }
   ·rintro e w3 ⟨rfl, o3, kk, s2c, x2, ⟨hi2, hc2, cps2, hcl2, rfl, rfl, h21, h22, h23⟩, hw2, hst⟩
    obtain ⟨xid, xi, xw, xr, xd, xh, xp⟩ := x2
    have h22 : xp = false := h22
    have h23 : xr = r2 := h23
    subst h22 h23
    exact ⟨rfl, o3, _, _, ⟨hi2, hc2, cps2, hcl2, rfl, rfl⟩, hw2, hst⟩
  ·obtain ⟨_, _, cps2, _, rfl, rfl⟩ := hz
   exact ⟨h13.1, by show s2.steps < 1000000; omega, by show s2.ev.length ≤ 1000000; omega⟩
  ·rintro e w2 ⟨v, rfl, o2, kk, z, ⟨hi2, hc2, cps2, hcl2, rfl, rfl⟩, hw2, ho2, hf2, hs2⟩
   exact ⟨v, rfl, o2, ⟨hi2.same rfl rfl, hc2, cps2, hcl2, hw2⟩, ho2, hf2, hs2⟩
 | @adv s2 _ _ d hl hd hf h10 h13 =>
  obtain ⟨l1, l2, l3, l4, l5, l6, l7, l8, l9, l10, l11, l12, l13, l14, l15⟩ := hl
  obtain ⟨n, g1, g2, g3, g4⟩ := firesI_X (cps := cps) hf (hi.same rfl rfl) hc
  refine (wstep_advx (CX := CXs b) (k0 := concK cps k) (n := d) (d := 0) (R := fun kk z => z = conc cps s2 ∧ kk = concK cps k') (CXs.ext b) hw hd.1 (fun w1 o1 h1 => ?_) (fun kk z hz => ?_)).mono ?_
  ·refine (wadvance_xc (s2 := conc cps s2) (k2 := concK cps k') (n := n) h1 hd.1 ?_).mono ?_
   ·have hadd : addZ (conc cps s).now d = s.now + d := addZ_small l12 (by show s.now ≤ _; omega) hd.1 (by omega)
    show FiresX n { conc cps s with ev := [], now := addZ (conc cps s).now d } _ _ _
    rw [hadd]
    exact g1
   ·rintro e w2 ⟨rfl, o2, hw2, hs2⟩
    exact ⟨rfl, o2, _, _, ⟨rfl, rfl⟩, hw2, hs2⟩
  ·obtain ⟨rfl, rfl⟩ := hz
   exact ⟨h13.1, by show s2.steps < 1000000; omega, by show s2.ev.length ≤ 1000000; omega⟩
  ·rintro e w2 ⟨v, rfl, o2, kk, z, ⟨rfl, rfl⟩, hw2, ho2, hf2, hs2⟩
   exact ⟨v, rfl, o2, ⟨g2.same rfl rfl, g3, cps, by rw [hcl]; exact g4.symm, hw2⟩, ho2, hf2, hs2⟩
section
def bgX : Cx := ⟨0, true, none, 0, 0, 0, false, false, -1⟩
def k0 : Cs := ⟨[bgX], 1⟩
open Classical in
theorem bg_ctx {w w' : World} {q pm tr m lo : Nat} (h : Bg w w' q pm tr m) (h1 : lo ≤ tr) (h2 : tr < m) (h3 : m < q) (h4 : q < w.heap.size) (hs : w.heap.size ≤ w'.heap.size) : ∃ F vl, CtxAt w' q pm F vl [bgX] 1 ∧ ∀ k, F k → lo ≤ k ∧ k < w'.heap.size := by
 obtain ⟨vt, vl, b1, b2, b3, b4, b5, b6, b7, b8, b9⟩ := h
 have t2 := fun k (hk : vt.ownBlock = some k) => b2.lt hk
 have t4 := fun k (hk : vl.ownBlock = some k) => b4.lt hk
 have htr : ∃ FT, TrAt w' tr FT 1 1 ∧ ∀ k, FT k ↔ k = tr ∨ vt.ownBlock = some k := by
  refine ⟨fun k => k = tr ∨ vt.ownBlock = some k, ⟨fun k => if k = tr then 1 else if vt.ownBlock = some k then 2 else 0, vt, [(⟨-1, false, (none, 0, 0)⟩, [])], ⟨b1, by simp, b2, fun k => ?_, fun i x hx => ?_, fun k => ?_⟩, ⟨fun k => ?_, fun k hk => ?_⟩, rfl, fun i x hx => ?_⟩, fun k => Iff.rfl⟩
  ·by_cases hk : k = tr
   ·subst hk
    simp only [if_true]
    exact ⟨fun h => absurd (b6 _ h) (by omega), fun h => absurd h (by omega)⟩
   ·rw [if_neg hk]
    by_cases hv : vt.ownBlock = some k
    ·simp [hv]
    ·simp [hv]
  ·cases i with
   | zero =>
    cases hx
    refine ⟨Owns.nil, fun k => ⟨fun hk => (by cases hk), fun hk => ?_⟩⟩
    try dsimp only at hk
    split at hk
    ·omega
    ·split at hk <;> omega
   | succ i => simp at hx
  ·try dsimp only
   split
   ·simp
   ·split <;> simp
  ·try dsimp only
   by_cases hk : k = tr
   ·simp [hk]
   ·by_cases hv : vt.ownBlock = some k
    ·simp [hk, hv]
    ·simp [hk, hv]
  ·try dsimp only at hk
   split at hk
   ·rename_i e
    subst e
    omega
   ·split at hk
    ·rename_i e
     exact t2 k e
    ·exact absurd rfl hk
  ·cases i with
   | zero => cases hx; rfl
   | succ i => simp at hx
 obtain ⟨FT, htr, hft⟩ := htr
 refine ⟨fun k => k = q ∨ FT k ∨ k = m ∨ vl.ownBlock = some k, vl, ⟨tr, m, fun k => if k = q then 1 else if FT k then 2 else if k = m then 3 else if vl.ownBlock = some k then 4 else 0, ⟨b3, by simp, ?_, ?_, ?_, b4, fun k => ?_, fun i x hx => ?_⟩, ⟨fun k => ?_, fun k hk => ?_⟩⟩, fun k hk => ?_⟩
 ·have e : (fun k => (if k = q then 1 else if FT k then 2 else if k = m then 3 else if vl.ownBlock = some k then 4 else 0) = 2) = FT := by
   funext k
   refine propext ?_
   by_cases hk : k = q
   ·rw [if_pos hk]
    refine ⟨fun h => absurd h (by omega), fun h => ?_⟩
    rcases (hft k).1 h with h | h
    ·omega
    ·have := b6 k h
     omega
   ·rw [if_neg hk]
    by_cases hf : FT k
    ·simp [hf]
    ·rw [if_neg hf]
     refine ⟨fun h => ?_, fun h => absurd h hf⟩
     split at h
     ·omega
     ·split at h <;> omega
  rw [e]
  exact htr
 ·have e : (fun j : Int => if 0 ≤ j ∧ j < (([bgX] : List Cx).length : Int) then some (Value.int .i64 j) else none) = fun j => if j = 0 then some (.int .i64 0) else none := by
   funext j
   by_cases hj : j = 0
   ·subst hj
    simp
   ·rw [if_neg hj, if_neg (by simp only [List.length_cons, List.length_nil]; omega)]
  rw [e]
  exact b5
 ·have hm : ¬ FT m := fun h => by
   rcases (hft m).1 h with h | h
   ·omega
   ·have := b6 m h
    omega
  rw [if_neg (by omega), if_neg hm, if_pos rfl]
 ·by_cases hk : k = q
  ·rw [if_pos hk]
   exact ⟨fun h => absurd (b7 k h) (by omega), fun h => absurd h (by omega)⟩
  ·rw [if_neg hk]
   by_cases hf : FT k
   ·rw [if_pos hf]
    refine ⟨fun h => ?_, fun h => absurd h (by omega)⟩
    rcases (hft k).1 hf with h5 | h5
    ·have := b7 k h
     omega
    ·exact absurd h5 (b8 k h)
   ·rw [if_neg hf]
    by_cases hm : k = m
    ·rw [if_pos hm]
     exact ⟨fun h => absurd (b7 k h) (by omega), fun h => absurd h (by omega)⟩
    ·rw [if_neg hm]
     by_cases hv : vl.ownBlock = some k
     ·simp [hv]
     ·simp [hv]
 ·cases i with
  | zero => cases hx; rfl
  | succ i => simp at hx
 ·by_cases hk : k = q
  ·simp [hk]
  ·by_cases hf : FT k
   ·simp [hk, hf]
   ·by_cases hm : k = m
    ·subst hm
     simp [hk, hf]
    ·by_cases hv : vl.ownBlock = some k
     ·simp [hk, hf, hm, hv]
     ·simp [hk, hf, hm, hv]
 ·by_cases h5 : k = q
  ·omega
  ·by_cases hf : FT k
   ·rcases (hft k).1 hf with h6 | h6
    ·omega
    ·exact t2 k h6
   ·by_cases hm : k = m
    ·omega
    ·by_cases hv : vl.ownBlock = some k
     ·exact t4 k hv
     ·exfalso
      apply hk
      simp [h5, hf, hm, hv]
 ·rcases hk with h5 | h5 | h5 | h5
  ·omega
  ·rcases (hft k).1 h5 with h6 | h6
   ·omega
   ·have := b6 k h6
    have := t2 k h6
    omega
  ·omega
  ·have := b7 k h5
   have := t4 k h5
   omega
open Classical in
theorem seven_labels {F2 F3 F4 F6 G : Nat → Prop} {pb pk : Nat} (h12 : pb ≠ pk) (h13 : ¬ F2 pb) (h14 : ¬ F3 pb) (h15 : ¬ F4 pb) (h16 : ¬ F6 pb) (h17 : ¬ G pb) (h23 : ¬ F2 pk) (h24 : ¬ F3 pk) (h25 : ¬ F4 pk) (h26 : ¬ F6 pk) (h27 : ¬ G pk) (h34 : ∀ k, F3 k → ¬ F2 k) (h35 : ∀ k, F4 k → ¬ F2 k) (h36 : ∀ k, F6 k → ¬ F2 k) (h37 : ∀ k, G k → ¬ F2 k) (h45 : ∀ k, F4 k → ¬ F3 k) (h46 : ∀ k, F6 k → ¬ F3 k) (h47 : ∀ k, G k → ¬ F3 k) (h56 : ∀ k, F6 k → ¬ F4 k) (h57 : ∀ k, G k → ¬ F4 k) (h67 : ∀ k, G k → ¬ F6 k) :
  ∃ o : Nat → Nat, o pb = 1 ∧ o pk = 2 ∧ (fun k => o k = 3) = F2 ∧ (fun k => o k = 4) = F3 ∧ (fun k => o k = 5) = F4 ∧ (fun k => o k = 6) = F6 ∧ (∀ k, o k = 7 ↔ G k) ∧ (∀ k, o k ≠ 0 → k = pb ∨ k = pk ∨ F2 k ∨ F3 k ∨ F4 k ∨ F6 k ∨ G k) ∧ ∀ k, o k ≤ 7 := by
 refine ⟨fun k => if k = pb then 1 else if k = pk then 2 else if F2 k then 3 else if F3 k then 4 else if F4 k then 5 else if F6 k then 6 else if G k then 7 else 0, ?_, ?_, ?_, ?_, ?_, ?_, ?_, ?_, ?_⟩
 ·simp
 ·simp; grind
 ·funext k; grind
 ·funext k; grind
 ·funext k; grind
 ·funext k; grind
 ·intro k; grind
 ·intro k; grind
 ·intro k; grind
theorem worldnew_x {ps : List (List Ins)} {b off cap : Nat} (w : World) (hp : ProgsC ps) (hne : ∀ p ∈ ps, 1 ≤ p.length) (h : RowsIn w b off ps) :
  Calls Tryz.prog 8 #[.slice (some ⟨b, off, none⟩) ps.length cap] w fun e w' => ∃ wp o, e = .returned (.tuple #[.pointer (some ⟨wp.pb, 0, none⟩), .int .i64 0]) ∧ WX w' wp o ps initS k0 ∧ Made w w' ∧ (∀ k, Own o k → w.heap.size ≤ k) := by
 have HP := zh (And.intro hp hne)
 have HR := zh h
 have HAL := zh (all_c (cap := cap) w hp h)
 obtain ⟨i0, hi0, hz0, hz1, hz2⟩ := info_parts Tryz.infoPr
 clear hp h hne
 go_enter Tryz.func8, Tryz.ntmps8
 go_wp2_with fail
 refine HAL.out.mono ?_
 rintro e w0 ⟨rfl, hm0⟩
 have HM0 := zh hm0
 clear hm0
 go_wp2_with fail
 refine (clknew_c w0).mono ?_
 rintro e w1 ⟨pk, rfl, hk1, hm1, hl1⟩
 have HK1 := zh (And.intro hk1 (And.intro hm1 hl1))
 clear hk1 hm1 hl1
 go_wp2_with fail
 refine (tabnew_c w1).mono ?_
 rintro e w2 ⟨pt, F2, rfl, hk1, hm1, hl1⟩
 have HK2 := zh (And.intro hk1 (And.intro hm1 hl1))
 clear hk1 hm1 hl1
 go_wp2_with fail
 refine (tsnew_c w2).mono ?_
 rintro e w3 ⟨pm, F3, rfl, hk1, hm1, hl1⟩
 have HK3 := zh (And.intro hk1 (And.intro hm1 hl1))
 clear hk1 hm1 hl1
 go_wp2_with fail
 refine (dlnew_c w3).mono ?_
 rintro e w4 ⟨pd, F4, rfl, hk1, hm1, hl1⟩
 have HK4 := zh (And.intro hk1 (And.intro hm1 hl1))
 clear hk1 hm1 hl1
 have hb5 := Blk.new w4 65 #[.slice none 0 0, .pointer (some ⟨pk, 0, none⟩), .pointer (some ⟨pt, 0, none⟩), .slice none 0 0, .int .i64 0, .pointer (some ⟨pm, 0, none⟩), .pointer none, .pointer (some ⟨pd, 0, none⟩), .slice none 0 0, .int .i64 0, .slice none 0 0]
 have q5 := hb5.cell 5
 simp only [zG] at q5
 have HB5 := zh hb5
 have HM5 := zh ((zT w4).alloc (.cells #[.slice none 0 0, .pointer (some ⟨pk, 0, none⟩), .pointer (some ⟨pt, 0, none⟩), .slice none 0 0, .int .i64 0, .pointer (some ⟨pm, 0, none⟩), .pointer none, .pointer (some ⟨pd, 0, none⟩), .slice none 0 0, .int .i64 0, .slice none 0 0] 65))
 have HL5 := zh (show (w4.alloc (.cells #[.slice none 0 0, .pointer (some ⟨pk, 0, none⟩), .pointer (some ⟨pt, 0, none⟩), .slice none 0 0, .int .i64 0, .pointer (some ⟨pm, 0, none⟩), .pointer none, .pointer (some ⟨pd, 0, none⟩), .slice none 0 0, .int .i64 0, .slice none 0 0] 65)).heap.size = w4.heap.size + 1 from by simp)
 clear hb5
 go_upto_region 5 with fail
 generalize w4.alloc (.cells #[.slice none 0 0, .pointer (some ⟨pk, 0, none⟩), .pointer (some ⟨pt, 0, none⟩), .slice none 0 0, .int .i64 0, .pointer (some ⟨pm, 0, none⟩), .pointer none, .pointer (some ⟨pd, 0, none⟩), .slice none 0 0, .int .i64 0, .slice none 0 0] 65) = w5 at *
 go_wp2_with fail
 refine (ctxnew_c w5 pm).mono ?_
 rintro e w6 ⟨px, ptr, pmm, w06, rfl, hbg, hm06, hm6, hl6⟩
 obtain ⟨F6, vl6, hcx6, hf6⟩ := bg_ctx (lo := w5.heap.size) hbg hl6.1 hl6.2.1 hl6.2.2.1 hl6.2.2.2 (by obtain ⟨vt, vl, -, -, -, -, -, -, -, -, h9⟩ := hbg; exact h9.size)
 have HF6 := zh hf6
 have HC6 := zh hcx6
 have HK6 := zh (And.intro hm6 hl6)
 have HB6 := zh (HB5.out.turns hm6 (fun h => h))
 have q6 := HB6.out.cell 6
 have f6 := HB6.out.free 6
 simp only [zG] at q6
 clear hbg hm06 hm6 hl6 q5 hcx6 hf6
 go_upto_region 6 with fail
 have HB7 : Hid (Blk (w6.setCell ⟨w4.heap.size, 6, none⟩ (.pointer (some ⟨px, 0, none⟩))) w4.heap.size 65 #[.slice none 0 0, .pointer (some ⟨pk, 0, none⟩), .pointer (some ⟨pt, 0, none⟩), .slice none 0 0, .int .i64 0, .pointer (some ⟨pm, 0, none⟩), .pointer (some ⟨px, 0, none⟩), .pointer (some ⟨pd, 0, none⟩), .slice none 0 0, .int .i64 0, .slice none 0 0]) := zh (by simpa using HB6.out.put 6 (.pointer (some ⟨px, 0, none⟩)))
 have HT7 := zh ((HK6.out.1.mono (S' := fun k => k = w4.heap.size) (fun _ _ h => h.elim)).trans (set1 w6 w4.heap.size 6 (.pointer (some ⟨px, 0, none⟩))))
 clear q6 f6
 have HC7 := zh (HC6.out.turns (set1 w6 w4.heap.size 6 (.pointer (some ⟨px, 0, none⟩))) (fun k hk e => by have := HF6.out k hk; have h5 := HL5.out; omega))
 have HF7 : Hid (∀ k, F6 k → w5.heap.size ≤ k ∧ k < (w6.setCell ⟨w4.heap.size, 6, none⟩ (.pointer (some ⟨px, 0, none⟩))).heap.size) := zh (fun k hk => by have h1 := HF6.out k hk; have h2 := (set1 w6 w4.heap.size 6 (.pointer (some ⟨px, 0, none⟩))).size; omega)
 generalize w6.setCell ⟨w4.heap.size, 6, none⟩ (.pointer (some ⟨px, 0, none⟩)) = w7 at *
 have HL7 : Hid (w5.heap.size ≤ w7.heap.size) := zh HT7.out.size
 have HM7 := zh (show Made w w7 from by
  have hA := ((((HM0.out.trans HK1.out.2.1).trans HK2.out.2.1).trans HK3.out.2.1).trans HK4.out.2.1)
  have hB := hA.trans HM5.out
  have hs := hA.size
  exact hB.then HT7.out (fun k hk e => by omega))
 have HRL := zh (show NRel w7 w4.heap.size pk pt pm pd px ps 0 w7 from ⟨_, [], HB7.out, rfl, ⟨Owns.nil, fun j hj => (by cases hj), fun i r p hr _ => (by simp at hr)⟩, Turns.refl _ w7⟩)
 have HLW : Hid (w.heap.size ≤ w4.heap.size) := zh ((((HM0.out.trans HK1.out.2.1).trans HK2.out.2.1).trans HK3.out.2.1).trans HK4.out.2.1).size
 clear HB7
 go_wp2_with fail
 go_loopw [29] (fun v29 wr => ∃ k : Nat, k ≤ ps.length ∧ v29 = .int .i64 k ∧ NRel w7 w4.heap.size pk pt pm pd px ps k wr) (fun v29 _ => ps.length - (intOf v29).toNat)
 case atStart => exact ⟨0, Nat.zero_le _, rfl, HRL.out⟩
 case round =>
  obtain ⟨k0, hk, rfl, hg⟩ := hrel
  by_cases hlt : k0 < ps.length
  ·obtain ⟨p, hpk⟩ := get_of_lt (xs := ps) (k := k0) hlt
   obtain ⟨vp, rows, hbp, hrl, hpr, htr⟩ := hg
   have hmw : Made w wr := HM7.out.then htr (fun k hk e => by have := HLW.out; omega)
   obtain ⟨ap, cp, hcp, hrow⟩ := HR.out.row k0 p hpk
   have hcell : wr.cell? ⟨b, off + k0, none⟩ = some (.slice ap p.length cp) := (hmw.cell (p := ⟨b, off + k0, none⟩) HR.out.lt (fun h => h)).trans hcp
   have HB := zh hbp
   have HPR := zh hpr
   have HTR := zh htr
   have HMW := zh hmw
   have HRLN := zh hrl
   have HPK := zh hpk
   have HPS := zh (And.intro (HP.out.1.len p (List.mem_of_getElem? hpk)) (And.intro (HP.out.2 p (List.mem_of_getElem? hpk)) HP.out.1.le))
   have HRW := zh (hrow.turns hmw (fun _ _ _ h => h))
   have HOW := zh (fun ww (hh : Made wr ww) => own_c (cap := cp) ww (HRW.out.turns hh (fun _ _ _ h => h)) HPS.out.1 (fun e => by
    have h1 := HPS.out.2.1
    rcases HRW.out.2 with h2 | ⟨b2, o2, e2, _⟩
    ·omega
    ·rw [e] at e2; cases e2))
   have hps := HP.out.1.le
   have i1 : (0 : Int) ≤ (k0 : Int) := by omega
   have i2 : (k0 : Int) < (ps.length : Int) := by omega
   clear hbp hpr htr hmw hcp hrow hpk hrl
   have HNP := zh (show ∀ k, vp.ownBlock = some k → k ≠ w4.heap.size from fun k hk e => by have h1 := HPR.out.far k hk; have h2 := HL5.out; have h3 := HL7.out; omega)
   go_upto_region 9 with fail
   refine wp_region_z (S := fun w' => Blk w' (w4.heap.size) 65 #[vp, .pointer (some ⟨pk, 0, none⟩), .pointer (some ⟨pt, 0, none⟩), .slice none 0 0, .int .i64 0, .pointer (some ⟨pm, 0, none⟩), .pointer (some ⟨px, 0, none⟩), .pointer (some ⟨pd, 0, none⟩), .slice none 0 0, .int .i64 0, .slice none 0 0] ∧ Turns (fun k => vp.ownBlock = some k) wr w') 11 (by kernel_rfl) ?_ (fun hHeld => ?_)
   ·exact ⟨HB.out, (Turns.refl _ wr).drew⟩
   refine tZ 0 33 ?_ ?_ ?_;rotate_left
   ·intro w hSw
    go_simp
    try with_reducible rfl
   try simp only [zP]
   refine tZ 1 34 ?_ ?_ ?_;rotate_left
   ·intro w hSw
    go_simp
    try with_reducible rfl
   try simp only [zP]
   refine tZ 2 35 ?_ ?_ ?_;rotate_left
   ·intro w hSw
    go_simp
    try with_reducible rfl
   try simp only [zP]
   refine tZ 3 36 ?_ ?_ ?_;rotate_left
   ·intro w hSw
    go_simp
    try with_reducible rfl
   try simp only [zP]
   refine tZ 4 37 ?_ ?_ ?_;rotate_left
   ·intro w hSw
    have q0_0 := hSw.1.cell 0
    simp only [zG] at q0_0
    go_simp
    try with_reducible rfl
   try simp only [zP]
   refine tZ 5 38 ?_ ?_ ?_;rotate_left
   ·intro w hSw
    go_simp
    try with_reducible rfl
   try simp only [zP]
   refine wpAnyZ_ready (rs := [6]) (by kernel_rfl) (by simp) ?_
   refine AllReadyZ.cons rfl (fun K hK => ?_) AllReadyZ.nil
   go_simp
   refine (HOW.out wr.drew (zT wr).drew).mono ?_
   rintro e wG ⟨v1, rfl, hgG⟩
   obtain ⟨a1, c1, rfl⟩ := owns_slice hgG.own
   have hmG : Made wr wG := ((zT wr).drew).trans hgG.made
   refine hK.out _ _ ?_ (fun hHeld => ?_)
   ·exact ⟨hHeld.1.turns hgG.made (fun h => h), hHeld.2.trans (hgG.made.mono (fun _ _ h => h.elim))⟩
   clear hK K
   try simp only [zP]
   refine wpAnyZ_ready (rs := [7]) (by kernel_rfl) (by simp) ?_
   refine AllReadyZ.cons rfl (fun K hK => ?_) AllReadyZ.nil
   go_simp
   refine hK.out _ _ ?_ (fun hHeld => ?_)
   ·exact ⟨hHeld.1.alloc _, hHeld.2.alloc _⟩
   clear hK K
   try simp only [zP]
   refine wpAnyZ_ready (rs := [8]) (by kernel_rfl) (by simp) ?_
   refine AllReadyZ.cons rfl (fun K hK => ?_) AllReadyZ.nil
   refine step_push rfl _ _ _ (by rfl) i0 _ 24 Tryz.underlying31 hi0 hz0 hz1 hz2 rfl (by omega) prC_len prC_one (by rfl) ((HPR.out.own.turns hmG (fun _ _ h => h)).turns ((zT wG).alloc _) (fun _ _ h => h)) (a1, p.length, c1) (by rfl) (Blk.new wG _ _) (by have := HRLN.out; omega) (by omega) ?_
   intro v2 w2 hO2 hT2 hV2
   obtain ⟨a3, c3, rfl⟩ := owns_slice hO2
   refine hK.out _ _ ?_ (fun hHeld => ?_)
   ·exact ⟨hHeld.1.turns hT2 (fun e => HNP.out _ e rfl), hHeld.2.trans hT2⟩
   clear hK K
   try simp only [zP]
   refine wpAnyZ_ready (rs := [9]) (by kernel_rfl) (by simp) ?_
   refine AllReadyZ.cons rfl (fun K hK => ?_) AllReadyZ.nil
   go_simp
   refine hK.out _ _ hHeld (fun hHeld => ?_)
   clear hK K
   try simp only [zP]
   refine tZ 10 43 ?_ ?_ ?_;rotate_left
   ·intro w hSw
    go_simp
    try with_reducible rfl
   try simp only [zP]
   refine wpAnyZ_ready (rs := [11]) (by kernel_rfl) (by simp) ?_
   refine AllReadyZ.last rfl (fun K hK => ?_) AllReadyZ.nil
   have qz0 := hHeld.1.cell 0
   have qf := hHeld.1.free 0
   simp only [zG] at qz0
   go_simp
   refine hK.out _ _ ?_
   clear hK K
   try simp only [zP]
   refine wpAnyZ_done (by kernel_rfl) ?_ _
   have hL := zh hHeld
   have HE : Hid (NRel w7 w4.heap.size pk pt pm pd px ps (k0 + 1) (w2.setCell ⟨w4.heap.size, 0, none⟩ (.slice a3 (rows ++ [(a1, p.length, c1)]).length c3))) := zh (by
    have hs2 : wr.heap.size ≤ wG.heap.size := hgG.made.size
    have hs3 := hT2.size
    have hs4 : wG.heap.size ≤ (wG.alloc (.cells #[.slice a1 p.length c1] 26)).heap.size := by simp
    have hs5 := HTR.out.size
    have hfar : ∀ j, (Value.slice a3 (rows ++ [(a1, p.length, c1)]).length c3).ownBlock = some j → vp.ownBlock = some j ∨ wG.heap.size ≤ j := fun j hj => (hV2 j hj).imp id (fun h => by omega)
    have htw : Turns (fun k => vp.ownBlock = some k ∨ k = w4.heap.size) wG (w2.setCell ⟨w4.heap.size, 0, none⟩ (.slice a3 (rows ++ [(a1, p.length, c1)]).length c3)) := (((Turns.refl (fun k => vp.ownBlock = some k ∨ k = w4.heap.size) wG).alloc _).trans (hT2.mono (fun _ _ h => .inl h))).trans ((set1 w2 w4.heap.size 0 _).mono (fun _ _ e => .inr e))
    refine ⟨_, rows ++ [(a1, p.length, c1)], by simpa using hHeld.1.put 0 (.slice a3 (rows ++ [(a1, p.length, c1)]).length c3), by simp [HRLN.out], ⟨hO2.turns (set1 w2 w4.heap.size 0 _) (fun k hk e => ?_), fun j hj => ?_, fun i r q hr hq => ?_⟩, ?_⟩
    ·rcases hfar k hk with h1 | h1
     ·exact HNP.out k h1 e
     ·have := HL5.out; have := HL7.out; omega
    ·rcases hfar j hj with h1 | h1
     ·exact HPR.out.far j h1
     ·omega
    ·rcases Nat.lt_or_ge i rows.length with h1 | h1
     ·rw [List.getElem?_append_left h1] at hr
      obtain ⟨h2, h3, h4⟩ := HPR.out.row i r q hr hq
      refine ⟨h2, (h3.turns hmG (fun _ _ _ h => h)).turns htw (fun b2 off2 e h => ?_), fun b2 off2 e => ?_⟩
      ·obtain ⟨m1, m2, m3⟩ := h4 b2 off2 e
       rcases h with h | h
       ·exact m3 h
       ·have := HL5.out; have := HL7.out; omega
      ·obtain ⟨m1, m2, m3⟩ := h4 b2 off2 e
       have hsz := htw.size
       exact ⟨m1, by omega, fun h => by
        rcases hfar b2 h with h5 | h5
        ·exact m3 h5
        ·omega⟩
     ·rw [List.getElem?_append_right h1] at hr
      have hi0 : i - rows.length = 0 := by
       rcases Nat.eq_zero_or_pos (i - rows.length) with h2 | h2
       ·exact h2
       ·rw [List.getElem?_eq_none (by simp; omega)] at hr; cases hr
      rw [hi0] at hr
      cases hr
      have hie : i = k0 := by have := HRLN.out; omega
      subst hie
      have hq2 : q = p := by have h2 := HPK.out; rw [hq] at h2; exact Option.some.inj h2
      subst hq2
      have hgf : ∀ b2 off2, a1 = some ⟨b2, off2, none⟩ → wr.heap.size ≤ b2 ∧ b2 < wG.heap.size := fun b2 off2 e => by subst e; exact ⟨hgG.far b2 rfl, hgG.own.lt rfl⟩
      have hnv : ∀ b2 off2, a1 = some ⟨b2, off2, none⟩ → vp.ownBlock ≠ some b2 := fun b2 off2 e h => by have h6 := hgf b2 off2 e; have h7 := HPR.out.own.lt h; omega
      obtain ⟨a4, c4, he4, hri, -⟩ := hgG.own.rowIn insC_len
      cases he4
      refine ⟨rfl, hri.turns htw (fun b2 off2 e h => ?_), fun b2 off2 e => ?_⟩
      ·rcases h with h | h
       ·exact hnv b2 off2 e h
       ·have h6 := hgf b2 off2 e; have := HL5.out; have := HL7.out; omega
      ·have h6 := hgf b2 off2 e
       have hsz := htw.size
       exact ⟨by omega, by omega, fun h => by
        rcases hfar b2 h with h5 | h5
        ·exact hnv b2 off2 e h5
        ·omega⟩
    ·exact (HTR.out.then hmG (fun _ _ (h : False) => h.elim)).then htw (fun k hk e => by
      rcases e with e | e
      ·have := HPR.out.far k e; omega
      ·exact e))
   clear hHeld hO2 hT2 hV2
   go_wp2_with fail
   go_roundw
   case rel =>
    have HE2 := HE.out
    simp only [List.length_append, List.length_cons, List.length_nil, Nat.zero_add] at HE2
    exact ⟨k0 + 1, by omega, by go_num, HE2⟩
   case measure => simp [intOf]; omega
  ·have hk2 : k0 = ps.length := by omega
   obtain ⟨vp, rows, hbp, hrl, hpr, htr⟩ := hg
   have hs0 := HM0.out.size
   have hs1 := HK1.out.2.1.size
   have hs2 := HK2.out.2.1.size
   have hs3 := HK3.out.2.1.size
   have hs4 := HK4.out.2.1.size
   have hs5 := HL5.out
   have hs7 := htr.size
   have hkl := HK1.out.1.lt
   have m45 : Made w4 w7 := HM5.out.then HT7.out (fun k hk e => by omega)
   have hs57 := HL7.out
   have m15 : Made w1 w7 := ((HK2.out.2.1.trans HK3.out.2.1).trans HK4.out.2.1).trans m45
   have m25 : Made w2 w7 := (HK3.out.2.1.trans HK4.out.2.1).trans m45
   have m35 : Made w3 w7 := HK4.out.2.1.trans m45
   have hclk := (HK1.out.1.turns m15 (fun h => h)).turns htr (by omega)
   have htab := (HK2.out.1.made m25).turns htr (fun k hk e => by have := HK2.out.1.fb k hk; omega)
   have htms := (HK3.out.1.made m35).turns htr (fun k hk e => by have := HK3.out.1.fb k hk; omega)
   have hdls := (HK4.out.1.made m45).turns htr (fun k hk e => by have := HK4.out.1.fb k hk; omega)
   have hcx := HC7.out.turns htr (fun k hk e => by have := HF7.out k hk; omega)
   have HCX := zh hcx
   have HCL := zh hclk
   have HTM := zh htms
   have HDL := zh hdls
   have HBP := zh hbp
   have HPR := zh (And.intro hpr (And.intro hrl hk2))
   have HTR := zh htr
   have HST := zh (tabstart_c (pg := 0) (r := ⟨0, 0, 0, 0, 0, 0, 0, 0⟩) htab (by simp) (by omega) (by simp) (by simp))
   have HSZ : Hid (w.heap.size ≤ w0.heap.size ∧ w0.heap.size ≤ w1.heap.size ∧ w1.heap.size ≤ w2.heap.size ∧ w2.heap.size ≤ w3.heap.size ∧ w3.heap.size ≤ w4.heap.size ∧ w5.heap.size = w4.heap.size + 1 ∧ w7.heap.size ≤ wr.heap.size ∧ pk < w1.heap.size ∧ w5.heap.size ≤ w7.heap.size) := zh ⟨hs0, hs1, hs2, hs3, hs4, hs5, hs7, hkl, hs57⟩
   have q2 := hbp.cell 2
   simp only [zG] at q2
   clear hbp hpr htr hcx hs57 hclk htab htms hdls m45 m15 m25 m35 hs0 hs1 hs2 hs3 hs4 hs5 hs7 hkl hrl hk2
   go_wp2_with fail
   refine HST.out.mono ?_
   rintro e w8 ⟨rfl, F2', ht8, hst8⟩
   have HT8 := zh (And.intro ht8 hst8)
   clear ht8 hst8
   go_wp2_with fail
   go_returns
   obtain ⟨hs0, hs1, hs2, hs3, hs4, hs5, hs7, hkl, hs57⟩ := HSZ.out
   obtain ⟨ht8, hst8⟩ := HT8.out
   have hs8 := hst8.t.size
   have b2 : ∀ k, F2 k → w1.heap.size ≤ k ∧ k < w2.heap.size := fun k hk => ⟨HK2.out.2.2 k hk, HK2.out.1.fb k hk⟩
   have b2' : ∀ k, F2' k → (w1.heap.size ≤ k ∧ k < w2.heap.size) ∨ wr.heap.size ≤ k := fun k hk => (hst8.f k hk).imp (b2 k) id
   have b3 : ∀ k, F3 k → w2.heap.size ≤ k ∧ k < w3.heap.size := fun k hk => ⟨HK3.out.2.2 k hk, HK3.out.1.fb k hk⟩
   have b4 : ∀ k, F4 k → w3.heap.size ≤ k ∧ k < w4.heap.size := fun k hk => ⟨HK4.out.2.2 k hk, HK4.out.1.fb k hk⟩
   have b6 : ∀ k, F6 k → w5.heap.size ≤ k ∧ k < w7.heap.size := HF7.out
   have hpk := HK1.out.2.2
   obtain ⟨o, e1, e2, e3, e4, e5, e6, e7, eo, ele⟩ := seven_labels (F2 := F2') (F3 := F3) (F4 := F4) (F6 := F6) (G := fun k => w7.heap.size ≤ k ∧ k < wr.heap.size) (pb := w4.heap.size) (pk := pk) (by omega) (fun h => by have := b2' _ h; omega) (fun h => by have := b3 _ h; omega) (fun h => by have := b4 _ h; omega) (fun h => by have := b6 _ h; omega) (fun h => by omega) (fun h => by have := b2' _ h; omega) (fun h => by have := b3 _ h; omega) (fun h => by have := b4 _ h; omega) (fun h => by have := b6 _ h; omega) (fun h => by omega) (fun k h g => by have := b2' _ g; have := b3 _ h; omega) (fun k h g => by have := b2' _ g; have := b4 _ h; omega) (fun k h g => by have := b2' _ g; have := b6 _ h; omega) (fun k h g => by have := b2' _ g; omega) (fun k h g => by have := b3 _ g; have := b4 _ h; omega) (fun k h g => by have := b3 _ g; have := b6 _ h; omega) (fun k h g => by have := b3 _ g; omega) (fun k h g => by have := b4 _ g; have := b6 _ h; omega) (fun k h g => by have := b4 _ g; omega) (fun k h g => by have := b6 _ g; omega)
   have hm8 : Made w w8 := (show Made w wr from HM7.out.then HTR.out (fun k hk e => by omega)).then hst8.t (fun k hk h => by have := b2 k h; omega)
   have hn8 : ∀ k, o k = 8 ∨ o k = 9 ∨ o k = 10 → False := fun k hk => by
    have hz : o k ≠ 0 := by omega
    rcases eo k hz with h | h | h | h | h | h | h
    ·rw [h, e1] at hk; omega
    ·rw [h, e2] at hk; omega
    ·have h2 : o k = 3 := by rw [← e3] at h; exact h
     omega
    ·have h2 : o k = 4 := by rw [← e4] at h; exact h
     omega
    ·have h2 : o k = 5 := by rw [← e5] at h; exact h
     omega
    ·have h2 : o k = 6 := by rw [← e6] at h; exact h
     omega
    ·have h2 := (e7 k).2 h
     omega
   have hlo : ∀ k, o k ≠ 0 → w.heap.size ≤ k ∧ k < w8.heap.size := fun k hk => by
    rcases eo k hk with h | h | h | h | h | h | h
    ·omega
    ·omega
    ·have := ht8.fb k h; have := b2' k h; omega
    ·have := b3 k h; omega
    ·have := b4 k h; omega
    ·have := b6 k h; omega
    ·omega
   have hnl : ∀ k, (Value.slice none 0 0).ownBlock = some k ↔ False := fun k => ⟨fun h => (by cases h), fun h => h.elim⟩
   obtain ⟨hpr, hrl, hk2⟩ := HPR.out
   refine ⟨⟨w4.heap.size, pk, pt, pm, pd, px⟩, o, rfl, ⟨⟨fun i q hq => by simp [initS] at hq, fun t ht => by simp [initS] at ht⟩, fun x hx i hi => by (have hx2 : x ∈ [bgX] := hx; simp only [List.mem_singleton] at hx2; subst hx2; cases hi), [], rfl, vp, .slice none 0 0, .slice none 0 0, .slice none 0 0, ?_⟩, hm8, fun k hk => (hlo k hk).1⟩
   exact { blk := HBP.out.turns hst8.t (fun h => by have := b2 _ h; omega), ob := e1, lt := fun k hk => (hlo k hk).2, clk := HCL.out.turns hst8.t (fun h => by have := b2 _ h; omega), ok := e2, tab := by rw [e3]; exact ht8, tms := by rw [e4]; exact HTM.out.turns hst8.t (fun k hk h => by have := b2 _ h; have := b3 _ hk; omega), dls := ⟨[], rfl, by rw [e5]; exact HDL.out.turns hst8.t (fun k hk h => by have := b2 _ h; have := b4 _ hk; omega)⟩, ctx := ⟨vl6, by rw [e6]; exact HCX.out.turns hst8.t (fun k hk h => by have := b2 _ h; have := b6 _ hk; omega)⟩, prs := (by
    have hpos := HP.out.1.ge
    rcases hpr.own.form with ⟨_, h0⟩ | ⟨g, c, hv, hg, _⟩
    ·rw [h0] at hrl; simp only [List.length_nil] at hrl; omega
    ·have hgo : w7.heap.size ≤ g := hpr.far g (by rw [hv]; rfl)
     refine ⟨g, c, by rw [hv, hrl, hk2], (e7 g).2 ⟨hgo, hg⟩, by omega, fun i p hp => ?_⟩
     have hi : i < rows.length := by rw [hrl, hk2]; exact (List.getElem?_eq_some_iff.1 hp).1
     obtain ⟨r, hr⟩ := get_of_lt (xs := rows) hi
     obtain ⟨h1, h2, h3⟩ := hpr.row i r p hr hp
     have hc := Owns.cell prC_len (hv ▸ hpr.own) hr (j := 0) rfl
     refine ⟨r.1, r.2.2, ?_, h2.turns hst8.t (fun bb off2 e h => by have := h3 bb off2 e; have := b2 _ h; omega), fun bb off2 e => (e7 bb).2 ⟨(h3 bb off2 e).1, (h3 bb off2 e).2.1⟩⟩
     have h5 := (hst8.t.cell (p := ⟨g, i * 1 + 0, none⟩) hg (fun h => by have : w1.heap.size ≤ g ∧ g < w2.heap.size := b2 _ h; omega)).trans hc
     rw [h1] at h5
     simpa using h5), crow := Owns.nil, co := fun k => (hnl k).trans ⟨fun h => h.elim, fun h => hn8 k (.inl h)⟩, lrow := ⟨[], rfl, Owns.nil⟩, lo := fun k => (hnl k).trans ⟨fun h => h.elim, fun h => hn8 k (.inr (.inl h))⟩, erow := Owns.nil, eo := fun k => (hnl k).trans ⟨fun h => h.elim, fun h => hn8 k (.inr (.inr h))⟩, cnd := List.nodup_nil, chn := fun p c hp => (by cases hp) }
end
structure Cf where
 now : Int
 ts : List Tsk
 rd : List Int
 chs : List (Nat × Chn)
 tms : List Tk
 named : Int
 L : List It
 sq : Int
abbrev Cf.st (c : Cf) (nd nl : Nat) (steps : Int) (ev : List Ev) : Wst := ⟨c.now, c.ts, c.rd, c.chs, 0, c.tms, c.named, c.L, c.sq, nd, nl, steps, ev⟩
structure LimC (c : Cf) : Prop where
 rd : c.rd.length ≤ 50
 ts : c.ts.length ≤ 50
 chs : c.chs.length ≤ 100
 tms : c.tms.length ≤ 100
 sq : 0 ≤ c.sq ∧ c.sq ≤ 1000
 now : 0 ≤ c.now ∧ c.now ≤ 100000
 named : 0 ≤ c.named ∧ c.named ≤ 50
theorem LimC.lim {c : Cf} (h : LimC c) {nd nl : Nat} {steps : Int} {ev : List Ev} (h1 : nd ≤ 90010) (h2 : nl ≤ 9010) (h3 : 0 ≤ steps) (h4 : steps ≤ 9010) (h5 : ev.length ≤ 200) : Lim (c.st nd nl steps ev) := by
 obtain ⟨a1, a2, a3, a4, a5, a6, a7⟩ := h
 exact ⟨by show ev.length < 900; omega, by show c.rd.length ≤ 900; omega, by show c.ts.length < 64; omega, by show c.chs.length ≤ 900; omega, by show c.tms.length ≤ 900; omega, a5.1, by show c.sq < 100000; omega, by show nd < 100000; omega, by show nl < 100000; omega, h3, by show steps < 100000; omega, a6.1, by show c.now ≤ 1000000; omega, a7.1, by show c.named < 64; omega⟩
def Rx (ps : List (List Ins)) (c : Cf) (k : Cs) (e : Ent) (t : List Int) (c' : Cf) (k' : Cs) : Prop := ∀ (nd nl : Nat) (steps : Int) (ev : List Ev), nd ≤ 90000 → nl ≤ 9000 → 0 ≤ steps → steps ≤ 9000 → ev.length ≤ 200 → ∃ nd' nl' ev', SpX ps (c.st nd nl steps ev) k e (c'.st nd' nl' (steps + 1) ev') k' ∧ nd' ≤ nd + 10 ∧ nl' ≤ nl + 1 ∧ ev'.length ≤ 200 ∧ toldM ev' 0 = t
section
variable {ps : List (List Ins)} {c c2 : Cf} {k k2 : Cs} {n : Int} {i : Nat} {x : Tsk} {p : List Ins}
theorem Rx.idle (hl : LimC c) (hr : c.rd = []) : Rx ps c k (.run n) [] c k := fun nd nl steps ev h1 h2 h3 h4 h5 =>
 ⟨nd, nl + 1, [], .old (stepF_idle (s := c.st nd nl steps ev) (hl.lim (by omega) (by omega) h3 (by omega) h5) hr), by omega, Nat.le_refl _, by simp, rfl⟩
theorem Rx.loc {O : LOut} (hl : LimC c) (h1 : c.rd[(pickZ n c.rd.length).toNat]? = some (i : Int)) (h2 : c.ts[i]? = some x) (h3 : ps[x.prog.toNat]? = some p) (h4 : x.st = 0 ∧ 0 ≤ x.prog ∧ 0 ≤ x.pc) (h5 : locF p x.pc.toNat x.regs c.now = some O) (h6 : O.told = false) (h7 : O.ended = false) : Rx ps c k (.run n) [] { c with ts := c.ts.set i ⟨x.prog, O.pc, x.st, x.how, O.regs, x.ins⟩ } k := fun nd nl steps ev g1 g2 g3 g4 g5 => by
 have h8 := stepF_loc (ps := ps) (s := c.st nd nl steps ev) (hl.lim (by omega) (by omega) g3 (by omega) g5) (by show nl < 99999; omega) h1 h2 h3 h4 h5
 obtain ⟨opc, oregs, ot, ov, oe⟩ := O
 have h6 : ot = false := h6
 have h7 : oe = false := h7
 subst h6 h7
 exact ⟨nd, nl + 1, [], .old h8, by omega, Nat.le_refl _, by simp, rfl⟩
theorem Rx.told {O : LOut} (hl : LimC c) (h1 : c.rd[(pickZ n c.rd.length).toNat]? = some (i : Int)) (h2 : c.ts[i]? = some x) (h3 : ps[x.prog.toNat]? = some p) (h4 : x.st = 0 ∧ 0 ≤ x.prog ∧ 0 ≤ x.pc) (h5 : locF p x.pc.toNat x.regs c.now = some O) (h6 : O.told = true) : Rx ps c k (.run n) (if i = 0 then [O.value] else []) { c with ts := c.ts.set i ⟨x.prog, O.pc, x.st, x.how, O.regs, x.ins⟩ } k := fun nd nl steps ev g1 g2 g3 g4 g5 => by
 have h8 := stepF_loc (ps := ps) (s := c.st nd nl steps ev) (hl.lim (by omega) (by omega) g3 (by omega) g5) (by show nl < 99999; omega) h1 h2 h3 h4 h5
 obtain ⟨opc, oregs, ot, ov, oe⟩ := O
 have h6 : ot = true := h6
 subst h6
 refine ⟨nd, nl + 1, [⟨steps, 1, i, ov, 0, 0⟩], .old h8, by omega, Nat.le_refl _, by simp, ?_⟩
 unfold toldM
 by_cases hi : i = 0
 ·subst hi
  simp
 ·rw [if_neg hi]
  simp [hi]
theorem Rx.ends {O : LOut} (hl : LimC c) (h1 : c.rd[(pickZ n c.rd.length).toNat]? = some (i : Int)) (h2 : c.ts[i]? = some x) (h3 : ps[x.prog.toNat]? = some p) (h4 : x.st = 0 ∧ 0 ≤ x.prog ∧ 0 ≤ x.pc) (h5 : locF p x.pc.toNat x.regs c.now = some O) (h6 : O.told = false) (h7 : O.ended = true) : Rx ps c k (.run n) [] { c with ts := c.ts.set i ⟨x.prog, O.pc, 2, 0, O.regs, ⟨0, 0, 0, 0⟩⟩, rd := c.rd.eraseIdx (c.rd.idxOf (i : Int)) } k := fun nd nl steps ev g1 g2 g3 g4 g5 => by
 have h8 := stepF_loc (ps := ps) (s := c.st nd nl steps ev) (hl.lim (by omega) (by omega) g3 (by omega) g5) (by show nl < 99999; omega) h1 h2 h3 h4 h5
 obtain ⟨opc, oregs, ot, ov, oe⟩ := O
 have h6 : ot = false := h6
 have h7 : oe = true := h7
 subst h6 h7
 exact ⟨nd, nl + 1, [⟨steps, 4, i, 0, 0, 0⟩], .old h8, by omega, Nat.le_refl _, by simp, by simp [toldM]⟩
theorem Rx.park {ins : Ins} (hl : LimC c) (h1 : c.rd[(pickZ n c.rd.length).toNat]? = some (i : Int)) (h2 : c.ts[i]? = some x) (h3 : ps[x.prog.toNat]? = some p) (h4 : x.st = 0 ∧ 0 ≤ x.prog ∧ 0 ≤ x.pc) (h5 : p[x.pc.toNat]? = some ins) (h6 : mineB ins.op = false)
  (h7 : ∀ (nd nl : Nat) (steps : Int), actF (c.st nd nl steps []) i ins x.regs = some (c2.st nd nl steps [], none)) : Rx ps c k (.run n) [] { c2 with ts := c2.ts.set i ⟨x.prog, x.pc, 1, x.how, x.regs, ins⟩, rd := c2.rd.eraseIdx (c2.rd.idxOf (i : Int)) } k := fun nd nl steps ev g1 g2 g3 g4 g5 => by
 exact ⟨nd, nl + 1, [⟨steps, 2, i, 0, 0, 0⟩], .old (stepF_act (s := c.st nd nl steps ev) (hl.lim (by omega) (by omega) g3 (by omega) g5) (by show nl < 99999; omega) h1 h2 h3 h4 h5 h6 (h7 nd (nl + 1) steps) rfl (by simp)), by omega, Nat.le_refl _, by simp, by simp [toldM]⟩
theorem Rx.ctx {ins : Ins} {r2 : Reg} (hl : LimC c) (h1 : c.rd[(pickZ n c.rd.length).toNat]? = some (i : Int)) (h2 : c.ts[i]? = some x) (h3 : ps[x.prog.toNat]? = some p) (h4 : x.st = 0 ∧ 0 ≤ x.prog ∧ 0 ≤ x.pc) (h5 : p[x.pc.toNat]? = some ins) (h6 : mineB ins.op = false)
  (h7 : ∀ (nd nl : Nat) (steps : Int), nd ≤ 90000 → ∃ nd' ev', ActX (c.st nd nl steps []) k ins x.regs (c2.st nd' nl steps ev') k2 r2 ∧ nd' ≤ nd + 10 ∧ ev'.length ≤ 200 ∧ toldM ev' 0 = []) (h8 : c2.ts[i]? = some x) (h9 : c2.ts.length ≤ 64) (h11 : c2.rd.length ≤ 1000) (h12 : (i : Int) ∈ c2.rd) : Rx ps c k (.run n) [] { c2 with ts := c2.ts.set i ⟨x.prog, x.pc + 1, x.st, x.how, r2, x.ins⟩ } k2 := fun nd nl steps ev g1 g2 g3 g4 g5 => by
 obtain ⟨nd', ev', h13, h14, h15, h16⟩ := h7 nd (nl + 1) steps g1
 exact ⟨nd', nl + 1, ev', .act (s := c.st nd nl steps ev) (hl.lim (by omega) (by omega) g3 (by omega) g5) (by show nl < 99999; omega) h1 h2 h3 h4 h5 h6 h13 h8 h9 (by show ev'.length < 900; omega) h11 h12 ⟨g3, by show steps < 100000; omega⟩, h14, Nat.le_refl _, h15, h16⟩
theorem Rx.adv {d : Int} (hl : LimC c) (hd : 0 ≤ d ∧ c.now + d ≤ 100000) (h7 : ∀ (nd nl : Nat) (steps : Int), nd ≤ 90000 → nl ≤ 9000 → 0 ≤ steps → steps ≤ 9000 → ∃ nd' ev', FiresI ({ c with now := c.now + d }.st nd nl steps []) k (c2.st nd' nl steps ev') k2 ∧ nd' ≤ nd + 10 ∧ ev'.length ≤ 200 ∧ toldM ev' 0 = []) : Rx ps c k (.adv d) [] c2 k2 := fun nd nl steps ev g1 g2 g3 g4 g5 => by
 obtain ⟨nd', ev', h13, h14, h15, h16⟩ := h7 nd nl steps g1 g2 g3 g4
 exact ⟨nd', nl, ev', .adv (s := c.st nd nl steps ev) (hl.lim (by omega) (by omega) g3 (by omega) g5) ⟨hd.1, by show c.now + d ≤ 1000000; omega⟩ h13 (by show ev'.length < 900; omega) ⟨g3, by show steps < 100000; omega⟩, h14, Nat.le_succ _, h15, h16⟩
theorem Rx.adv0 {d : Int} (hl : LimC c) (hd : 0 ≤ d ∧ c.now + d ≤ 100000) (h : ∀ it, c.L[0]? = some it → c.now + d < it.when) : Rx ps c k (.adv d) [] { c with now := c.now + d } k :=
 Rx.adv hl hd fun nd nl steps _ _ _ _ => ⟨nd, [], .done _ _ h, by omega, by simp, rfl⟩
end
def Rxs (ps : List (List Ins)) : Cf → Cs → List Ent → List Int → Cf → Cs → Prop
 | c, k, [], t, c', k' => t = [] ∧ c' = c ∧ k' = k
 | c, k, e :: l, t, c', k' => ∃ c1 k1 t1 t2, Rx ps c k e t1 c1 k1 ∧ Rxs ps c1 k1 l t2 c' k' ∧ t = t1 ++ t2
def ExX (ps : List (List Ins)) : Wst → Cs → List Ent → List Ev → Wst → Cs → Prop
 | s, k, [], evs, s', k' => evs = [] ∧ s' = s ∧ k' = k
 | s, k, e :: l, evs, s', k' => ∃ s1 k1 evs1, SpX ps s k e s1 k1 ∧ ExX ps s1 k1 l evs1 s' k' ∧ evs = s1.ev ++ evs1
section
variable {ps : List (List Ins)}
theorem Rxs.append : ∀ {l1 : List Ent} {c c1 c2 : Cf} {k k1 k2 : Cs} {t1 t2 : List Int} {l2 : List Ent}, Rxs ps c k l1 t1 c1 k1 → Rxs ps c1 k1 l2 t2 c2 k2 → Rxs ps c k (l1 ++ l2) (t1 ++ t2) c2 k2
 | [], c, c1, c2, k, k1, k2, t1, t2, l2, h, g => by
  obtain ⟨rfl, rfl, rfl⟩ := h
  simpa using g
 | e :: l, c, c1, c2, k, k1, k2, t1, t2, l2, h, g => by
  obtain ⟨c3, k3, t3, t4, h1, h2, rfl⟩ := h
  exact ⟨c3, k3, t3, t4 ++ t2, h1, Rxs.append h2 g, by simp⟩
theorem Rxs.idle {c : Cf} {k : Cs} (hl : LimC c) (hr : c.rd = []) : ∀ (l : List Ent), (∀ e ∈ l, ∃ n, e = .run n) → Rxs ps c k l [] c k
 | [], _ => ⟨rfl, rfl, rfl⟩
 | e :: l, h => by
  obtain ⟨n, rfl⟩ := h e List.mem_cons_self
  exact ⟨c, k, [], [], Rx.idle hl hr, Rxs.idle hl hr l (fun e he => h e (List.mem_cons_of_mem _ he)), rfl⟩
theorem Rxs.ex : ∀ {l : List Ent} {c c' : Cf} {k k' : Cs} {t : List Int} {nd nl : Nat} {steps : Int} {ev : List Ev}, Rxs ps c k l t c' k' → nd + 10 * l.length ≤ 90000 → nl + l.length ≤ 9000 → 0 ≤ steps → steps + l.length ≤ 9000 → ev.length ≤ 200 → ∃ evs nd' nl' ev', ExX ps (c.st nd nl steps ev) k l evs (c'.st nd' nl' (steps + l.length) ev') k' ∧ nd' ≤ nd + 10 * l.length ∧ nl' ≤ nl + l.length ∧ ev'.length ≤ 200 ∧ evs.length ≤ 200 * l.length ∧ toldM evs 0 = t
 | [], c, c', k, k', t, nd, nl, steps, ev, h, h1, h2, h3, h4, h5 => by
  obtain ⟨rfl, rfl, rfl⟩ := h
  exact ⟨[], nd, nl, ev, ⟨rfl, by simp, rfl⟩, by omega, by omega, h5, by simp, rfl⟩
 | e :: l, c, c', k, k', t, nd, nl, steps, ev, h, h1, h2, h3, h4, h5 => by
  obtain ⟨c1, k1, t1, t2, g1, g2, rfl⟩ := h
  simp only [List.length_cons] at h1 h2 h4
  obtain ⟨nd1, nl1, ev1, f1, f2, f3, f4, f5⟩ := g1 nd nl steps ev (by omega) (by omega) h3 (by omega) h5
  obtain ⟨evs, nd2, nl2, ev2, e1, e2, e3, e4, e5, e6⟩ := Rxs.ex (nd := nd1) (nl := nl1) (steps := steps + 1) (ev := ev1) g2 (by omega) (by omega) (by omega) (by omega) f4
  refine ⟨ev1 ++ evs, nd2, nl2, ev2, ⟨_, k1, evs, f1, ?_, rfl⟩, by simp only [List.length_cons]; omega, by simp only [List.length_cons]; omega, e4, by rw [List.length_append]; simp only [List.length_cons]; omega, by rw [toldM_append, f5, e6]⟩
  rw [show steps + ((e :: l).length : Int) = steps + 1 + (l.length : Int) from by simp only [List.length_cons]; omega]
  exact e1
end
theorem WX.turns {w w' : World} {b : Wp} {o : Nat → Nat} {ps : List (List Ins)} {s : Wst} {k : Cs} {S : Nat → Prop} (h : WX w b o ps s k) (ht : Turns S w w') (hn : ∀ q, Own o q → ¬ S q) : WX w' b o ps s k := by
 obtain ⟨hi, hc, cps, hl, hw⟩ := h
 exact ⟨hi, hc, cps, hl, hw.turns (CXs.ext b _) ht hn⟩
theorem WX.lt {w : World} {b : Wp} {o : Nat → Nat} {ps : List (List Ins)} {s : Wst} {k : Cs} (h : WX w b o ps s k) : ∀ q, Own o q → q < w.heap.size := by
 obtain ⟨hi, hc, cps, hl, hw⟩ := h
 exact hw.lt

theorem ret_int {k : IntKind} {a b : Int} (h : a = b) : Ending.returned (.int k a) = .returned (.int k b) := by rw [h]
theorem tmod_round (k n : Int) (hn : 0 < n) : (k.tmod n + n).tmod n = k % n := by
 have h2 := Int.lt_tmod_of_pos k hn
 rw [Int.tmod_eq_emod_of_nonneg (by omega), Int.add_emod_right]
 have e := Int.tmod_add_mul_tdiv k n
 have e2 : k.tmod n = k - n * k.tdiv n := by omega
 rw [e2, Int.sub_mul_emod_self_left]
theorem round_c (k n : Int) (w : World) (hn : 0 < n) (hb : n ≤ 4611686018427387904) : Calls Tryz.prog 14 #[.int .i64 k, .int .i64 n] w fun e w' => e = .returned (.int .i64 (k % n)) ∧ w = w' := by
 have h1 := Int.tmod_lt_of_pos k hn
 have h2 := Int.lt_tmod_of_pos k hn
 have h3 := tmod_round k n hn
 have h4 : 0 ≤ k % n := Int.emod_nonneg _ (by omega)
 have h5 : k % n < n := Int.emod_lt_of_pos _ hn
 have n1 : ¬ n = 0 := by omega
 have n2 : (n == 0) = false := beq_eq_false_iff_ne.mpr n1
 generalize hr : k % n = r at *
 generalize ha : k.tmod n = a at *
 have w1 : wrap64 a = a := by unfold wrap64; omega
 have w2 : wrap64 (a + n) = a + n := by unfold wrap64; omega
 generalize hs : a + n = s at *
 have w3 : s % n = r := by rw [← Int.tmod_eq_emod_of_nonneg (by omega)]; exact h3
 have H := zh hr
 clear hr h3
 go_enter Tryz.func14, Tryz.ntmps14
 go_wp2
 go_ret
 exact ⟨ret_int w3, rfl⟩
theorem told_x (a : Option Addr) (len cap : Nat) (l : List Ev) (t : Int) (w : World) (hw : RowIn evC 6 w a len l) (hn : len ≤ 1000000) :
  Calls Tryz.prog 13 #[.slice a len cap, .int .i64 t] w fun e w' => ∃ v, e = .returned v ∧ Grow encI 3 1 w w' v (toldM l t) := by
 obtain ⟨i0, hi0, hz0, hz1, hz2⟩ := info_parts Tryz.infoI
 have HW := zh hw
 clear hw
 go_enter Tryz.func13, Tryz.ntmps13
 go_wp2_with fail
 go_loopw [4, 9] (fun v4 v9 wr => ∃ j : Nat, j ≤ len ∧ v9 = .int .i64 j ∧ Grow encI 3 1 w wr v4 (toldM (l.take j) t)) (fun _ v9 _ => len - (intOf v9).toNat)
 case atStart => exact ⟨0, Nat.zero_le _, rfl, Grow.nil (Turns.refl _ _)⟩
 case round =>
  obtain ⟨j, hj, rfl, hg⟩ := hrel
  have HG := zh hg
  clear hg
  have j1 : (0 : Int) ≤ (j : Int) := Int.natCast_nonneg _
  by_cases hjl : j < len
  ·have j2 : (j : Int) < (len : Int) := by omega
   obtain ⟨hlen, h0 | ⟨bb, off, rfl, hb, hlies⟩⟩ := HW.out
   ·omega
   obtain ⟨e, he⟩ := get_of_lt (xs := l) (k := j) (by omega)
   obtain ⟨c0, c1, c2, c3, c4, c5⟩ := ev_cells (hlies.keep fun o => HG.out.made.cell (p := ⟨bb, o, none⟩) hb (fun h => h)) he
   have HN := zh (told_next (t := t) he)
   have hle := told_le l t j
   generalize toldM (l.take j) t = A at *
   clear he hlies hb hlen
   by_cases h1 : e.kind = 1
   ·have b1 : (e.kind == 1) = true := by simp [h1]
    by_cases h2 : e.task = t
    ·have b2 : (e.task == t) = true := by simp [h2]
     have HA := zh (show toldM (l.take (j + 1)) t = A ++ [e.a] by rw [HN.out, if_pos ⟨h1, h2⟩])
     clear h1 h2
     have HGA := zh ((HG.out.alloc (.cells #[.int .i64 e.step, .int .i64 e.kind, .int .i64 e.task, .int .i64 e.a, .int .i64 e.b, .int .i64 e.c] 45)).alloc (.cells #[.int .i64 e.a] 3))
     have HS := zh (SrcAt.block (enc := encI) (N := [e.a]) (n := 1) (c := 1) (Blk.new (wr.alloc (.cells #[.int .i64 e.step, .int .i64 e.kind, .int .i64 e.task, .int .i64 e.a, .int .i64 e.b, .int .i64 e.c] 45)) 3 #[.int .i64 e.a]) rfl (by simp [flat, encI]))
     rw [World.size_alloc] at HS
     go_wp2_with (at_builtin; refine wpList_grow rfl (.tmp 22) (.tmp 25) 42 rfl i0 _ 8 Tryz.underlying42 hi0 hz0 hz1 hz2 rfl (by omega) encI_len encI_one rfl HGA.out rfl HS.out (by simp [maxLen]; omega) (by simp; omega) ?_)
     intro v3 w3 hg3 hF hS hO
     have HG3 := zh hg3
     clear hg3 hF hS hO HS HGA
     go_wp2_with fail
     go_roundw
     case rel => exact ⟨j + 1, by omega, by go_num, by rw [HA.out]; exact HG3.out⟩
     case measure => simp [intOf]; omega
    ·have b2 : (e.task == t) = false := by simp [h2]
     have HA := zh (show toldM (l.take (j + 1)) t = A by rw [HN.out, if_neg (fun h => h2 h.2), List.append_nil])
     clear h1 h2
     go_wp2_with fail
     go_roundw
     case rel => exact ⟨j + 1, by omega, by go_num, by rw [HA.out]; exact HG.out.alloc _⟩
     case measure => simp [intOf]; omega
   ·have b1 : (e.kind == 1) = false := by simp [h1]
    have HA := zh (show toldM (l.take (j + 1)) t = A by rw [HN.out, if_neg (fun h => h1 h.1), List.append_nil])
    clear h1
    go_wp2_with fail
    go_roundw
    case rel => exact ⟨j + 1, by omega, by go_num, by rw [HA.out]; exact HG.out.alloc _⟩
    case measure => simp [intOf]; omega
  ·have j2 : ¬ (j : Int) < (len : Int) := by omega
   have hall : l.take j = l := List.take_of_length_le (by have := HW.out.1; omega)
   rw [hall] at HG
   clear hall
   go_wp2_with fail
   go_ret
   exact ⟨_, rfl, HG.out⟩
def MRelX (b : Wp) (ps : List (List Ins)) (w : World) (o : Nat → Nat) (n : Nat) (evs : List Ev) (s' : Wst) (k' : Cs) (k : Nat) (v : Value) (wr : World) : Prop := ∃ o1 s1 k1 e1 e2, WX wr b o1 ps s1 k1 ∧ ExX ps s1 k1 (manyE k (n - k)) e2 s' k' ∧ evs = e1 ++ e2 ∧ Owns evC 45 6 wr v e1 ∧ (∀ k, v.ownBlock = some k → ¬ Own o1 k ∧ w.heap.size ≤ k) ∧ Stp w wr (Own o) (Own o1)
theorem many_x {w : World} {b : Wp} {o : Nat → Nat} {ps : List (List Ins)} {s : Wst} {n : Nat} {evs : List Ev} {s' : Wst} {k0 k' : Cs} (hps : PsOK ps) (hn : n ≤ 10000) (hW : WX w b o ps s k0) (hex : ExX ps s k0 (manyE 0 n) evs s' k') (hlen : evs.length ≤ 1000000) :
  Calls Tryz.prog 11 #[.pointer (some ⟨b.pb, 0, none⟩), .int .i64 n] w fun e w' => ∃ v, e = .returned v ∧ ∃ o', WX w' b o' ps s' k' ∧ Owns evC 45 6 w' v evs ∧ (∀ k, v.ownBlock = some k → ¬ Own o' k ∧ w.heap.size ≤ k) ∧ Stp w w' (Own o) (Own o') := by
 obtain ⟨i0, hi0, hz0, hz1, hz2⟩ := info_parts Tryz.infoEv
 have HXX := zh hps
 have HLN := zh hlen
 have H0 := zh (show MRelX b ps w o n evs s' k' 0 (.slice none 0 0) w from ⟨o, s, k0, [], evs, hW, hex, rfl, Owns.nil, fun k hk => (by cases hk), Stp.made (Turns.refl _ w)⟩)
 clear hW hex hps hlen
 go_enter Tryz.func11, Tryz.ntmps11
 go_wp2_with fail
 go_loopw [5, 6] (fun v5 v6 wr => ∃ k : Nat, k ≤ n ∧ v6 = .int .i64 k ∧ MRelX b ps w o n evs s' k' k v5 wr) (fun _ v6 _ => n - (intOf v6).toNat)
 case atStart => exact ⟨0, Nat.zero_le _, rfl, H0.out⟩
 case round =>
  obtain ⟨k, hk, rfl, hrl⟩ := hrel
  have j1 : (0 : Int) ≤ (k : Int) := Int.natCast_nonneg _
  by_cases hkn : k < n
  ·obtain ⟨o1, s1, k1, e1, e2, hw1, hex1, he, ho1, hf1, hs1⟩ := hrl
   have hsub : n - k = (n - (k + 1)) + 1 := by omega
   rw [hsub] at hex1
   obtain ⟨s2, k2, e3, hst, hex2, he2⟩ := hex1
   have HST := zh (step_X (e := .run k) HXX.out hw1 hst)
   have HE := zh (And.intro hex2 (And.intro he he2))
   have HO := zh (And.intro ho1 hf1)
   have HS := zh hs1
   have HLT := zh hw1.lt
   have j2 : (k : Int) < (n : Int) := by omega
   clear hw1 hex2 he he2 ho1 hf1 hs1 hst hsub
   go_wp2_with fail
   refine HST.out.mono ?_
   rintro e w2 ⟨vx, rfl, o2, hw2, hox, hfx, hs2⟩
   have hlow : ∀ k, u5.ownBlock = some k → ¬ Own o2 k := fun k hk h0 => by
    rcases hs2.f k h0 with h1 | h1
    ·exact (HO.out.2 k hk).1 h1
    ·exact absurd (HO.out.1.lt hk) (Nat.not_lt.2 h1)
   have hlen : (e1.length + s2.ev.length) ≤ 1000000 := by
    have h1 := HLN.out
    rw [HE.out.2.1, HE.out.2.2, List.length_append, List.length_append] at h1
    omega
   have HO2 := zh (HO.out.1.turns hs2.t (fun k hk => (HO.out.2 k hk).1))
   have HSX := zh (SrcAt.ofOwns evC_len hox)
   have HW2 := zh (And.intro hw2 (HS.out.trans hs2))
   have HFX := zh (And.intro hlow hw2.lt)
   clear hw2 hox hfx hs2 hlow
   go_wp2_with (at_builtin; refine wpList_cat rfl (.tmp 12) (.tmp 16) 32 rfl i0 _ 48 Tryz.underlying32 hi0 hz0 hz1 hz2 rfl (by omega) evC_len evC_one rfl HO2.out rfl HSX.out (by unfold maxLen; omega) (by omega) ?_)
   intro v3 w3 ho3 ht3 hv3
   have HR := zh (show MRelX b ps w o n evs s' k' (k + 1) v3 w3 from ⟨o2, s2, k2, e1 ++ s2.ev, e3, HW2.out.1.turns ht3 (fun j hj hk => HFX.out.1 j hk hj), HE.out.1, by rw [HE.out.2.1, HE.out.2.2, List.append_assoc], ho3, fun j hj => by
    rcases hv3 j hj with h1 | h1
    ·exact ⟨HFX.out.1 j h1, (HO.out.2 j h1).2⟩
    ·exact ⟨fun h0 => absurd (HFX.out.2 j h0) (Nat.not_lt.2 h1), Nat.le_trans HW2.out.2.t.size h1⟩, ⟨HW2.out.2.t.then ht3 (fun j hj hk => absurd (HO.out.2 j hk).2 (Nat.not_le.2 hj)), HW2.out.2.f⟩⟩)
   clear ho3 ht3 hv3
   go_wp2_with fail
   go_roundw
   case rel => exact ⟨k + 1, by omega, by go_num, HR.out⟩
   case measure => simp [intOf]; omega
  ·obtain ⟨o1, s1, k1, e1, e2, hw1, hex1, he, ho1, hf1, hs1⟩ := hrl
   have hk2 : k = n := by omega
   subst hk2
   rw [Nat.sub_self] at hex1
   obtain ⟨rfl, rfl, rfl⟩ := hex1
   rw [List.append_nil] at he
   subst he
   have HE := zh (And.intro hw1 (And.intro ho1 (And.intro hf1 hs1)))
   clear hw1 ho1 hf1 hs1
   go_wp2_with fail
   go_ret
   exact ⟨_, rfl, o1, HE.out.1, HE.out.2.1, HE.out.2.2.1, HE.out.2.2.2⟩
def LX (b : Wp) (ps : List (List Ins)) (w : World) (L : List Ent) (evs : List Ev) (s' : Wst) (k' : Cs) (v : Value) (wr : World) : Prop := ∃ o1 s1 k1 e1 e2, WX wr b o1 ps s1 k1 ∧ ExX ps s1 k1 L e2 s' k' ∧ evs = e1 ++ e2 ∧ Owns evC 45 6 wr v e1 ∧ (∀ k, v.ownBlock = some k → ¬ Own o1 k ∧ w.heap.size ≤ k) ∧ Made w wr ∧ ∀ k, Own o1 k → w.heap.size ≤ k
def LNextX (b : Wp) (ps : List (List Ins)) (w : World) (L : List Ent) (evs : List Ev) (s' : Wst) (k' : Cs) (v : Value) (M : List Ev) (e : Ending) (w3 : World) : Prop := ∃ vx, e = .returned vx ∧ ∃ N, Owns evC 45 6 w3 v M ∧ SrcAt evC w3 vx N ∧ M.length + N.length ≤ 1000000 ∧ ∀ v4 w4, Owns evC 45 6 w4 v4 (M ++ N) → Turns (fun k => v.ownBlock = some k) w3 w4 → (∀ k, v4.ownBlock = some k → v.ownBlock = some k ∨ w3.heap.size ≤ k) → LX b ps w L evs s' k' v4 w4
section
variable {b : Wp} {ps : List (List Ins)} {w wr : World} {L : List Ent} {evs : List Ev} {s' : Wst} {k' : Cs} {v : Value}
theorem LX.next {o1 : Nat → Nat} {s2 : Wst} {k2 : Cs} {M N f3 : List Ev} {w3 : World} {o2 : Nat → Nat} {vx : Value} (hw : WX w3 b o2 ps s2 k2) (hex : ExX ps s2 k2 L f3 s' k') (he : evs = (M ++ N) ++ f3) (ho : Owns evC 45 6 wr v M) (hf : ∀ k, v.ownBlock = some k → ¬ Own o1 k ∧ w.heap.size ≤ k) (hm : Made w wr) (hlo : ∀ k, Own o1 k → w.heap.size ≤ k) (hox : Owns evC 45 6 w3 vx N) (hs : Stp wr w3 (Own o1) (Own o2)) (hlen : evs.length ≤ 1000000) : LNextX b ps w L evs s' k' v M (.returned vx) w3 := by
 refine ⟨vx, rfl, N, ho.turns hs.t (fun k hk => (hf k hk).1), SrcAt.ofOwns evC_len hox, ?_, fun v4 w4 h4 t4 f4 => ?_⟩
 ·rw [he] at hlen
  simp only [List.length_append] at hlen
  omega
 ·have hn : ∀ k, v.ownBlock = some k → ¬ Own o2 k := fun k hk h0 => (hs.f k h0).elim (hf k hk).1 (fun h1 => absurd (ho.lt hk) (Nat.not_lt.2 h1))
  have hm3 : Made w w3 := hm.then hs.t (fun k hk h => absurd (hlo k h) (by omega))
  refine ⟨o2, s2, k2, M ++ N, f3, hw.turns t4 (fun j hj hk => hn j hk hj), hex, he, h4, fun j hj => ?_, hm3.then t4 (fun k hk h => absurd (hf k h).2 (by omega)), fun k hk => (hs.f k hk).elim (hlo k) (fun h => Nat.le_trans hm.size h)⟩
  rcases f4 j hj with h1 | h1
  ·exact ⟨hn j h1, (hf j h1).2⟩
  ·exact ⟨fun h0 => absurd (hw.lt j h0) (Nat.not_lt.2 h1), Nat.le_trans hm3.size h1⟩
theorem LX.step {e : Ent} (hps : PsOK ps) (hlen : evs.length ≤ 1000000) (h : LX b ps w (e :: L) evs s' k' v wr) : ∃ M, Calls Tryz.prog 9 #[.pointer (some ⟨b.pb, 0, none⟩), entV e] wr (LNextX b ps w L evs s' k' v M) := by
 obtain ⟨o1, s1, k1, f1, f2, hw1, ⟨s2, k2, f3, hst, hex2, he2⟩, he, ho1, hf1, hm1, hlo1⟩ := h
 refine ⟨f1, (step_X hps hw1 hst).mono ?_⟩
 rintro en w3 ⟨vx, rfl, o2, hw2, hox, hfx, hs2⟩
 exact LX.next hw2 hex2 (by rw [he, he2, List.append_assoc]) ho1 hf1 hm1 hlo1 hox hs2 hlen
theorem ExX.split2 : ∀ {l1 : List Ent} {s s2 : Wst} {k k2 : Cs} {l2 : List Ent} {evs : List Ev}, ExX ps s k (l1 ++ l2) evs s2 k2 → ∃ e1 e2 s1 k1, ExX ps s k l1 e1 s1 k1 ∧ ExX ps s1 k1 l2 e2 s2 k2 ∧ evs = e1 ++ e2
 | [], s, s2, k, k2, l2, evs, h => ⟨[], evs, s, k, ⟨rfl, rfl, rfl⟩, h, rfl⟩
 | e :: l1, s, s2, k, k2, l2, evs, h => by
  obtain ⟨s1, k1, f1, h1, h2, rfl⟩ := h
  obtain ⟨g1, g2, s3, k3, h3, h4, rfl⟩ := ExX.split2 h2
  exact ⟨s1.ev ++ g1, g2, s3, k3, ⟨s1, k1, g1, h1, h3, rfl⟩, h4, by rw [List.append_assoc]⟩
theorem LX.many {n : Nat} (hps : PsOK ps) (hn : n ≤ 10000) (hlen : evs.length ≤ 1000000) (h : LX b ps w (manyE 0 n ++ L) evs s' k' v wr) : ∃ M, Calls Tryz.prog 11 #[.pointer (some ⟨b.pb, 0, none⟩), .int .i64 n] wr (LNextX b ps w L evs s' k' v M) := by
 obtain ⟨o1, s1, k1, f1, f2, hw1, hex, he, ho1, hf1, hm1, hlo1⟩ := h
 obtain ⟨g1, g2, s2, k2, hx1, hx2, rfl⟩ := hex.split2
 refine ⟨f1, (many_x hps hn hw1 hx1 (by rw [he, List.length_append, List.length_append] at hlen; omega)).mono ?_⟩
 rintro e w3 ⟨vx, rfl, o2, hw2, hox, hfx, hs2⟩
 exact LX.next hw2 hx2 (by rw [he, List.append_assoc]) ho1 hf1 hm1 hlo1 hox hs2 hlen
theorem LX.done (h : LX b ps w [] evs s' k' v wr) : Owns evC 45 6 wr v evs ∧ Made w wr := by
 obtain ⟨o1, s1, k1, f1, f2, hw1, ⟨rfl, rfl, rfl⟩, he, ho1, hf1, hm1, hlo1⟩ := h
 rw [List.append_nil] at he
 subst he
 exact ⟨ho1, hm1⟩
end
def canC : List Cd → List (Nat × Chn) → List (Nat × Chn)
 | [], l => l
 | d :: D, l => canC D (l.set d.ci (d.q.1, ⟨d.q.2.timed, true, true, d.q.2.room, d.q.2.val, []⟩))
def canL : List Cd → List It → List It
 | [], L => L
 | d :: D, L => canL D (canT d.x.timer L)
theorem canS_eq : ∀ (D : List Cd) (s : Wst), canS D s = { s with chs := canC D s.chs, L := canL D s.L }
 | [], s => rfl
 | d :: D, s => by
  show canS D (can1 s d) = _
  rw [canS_eq D]
  rfl
theorem canC_len : ∀ (D : List Cd) (l : List (Nat × Chn)), (canC D l).length = l.length
 | [], _ => rfl
 | d :: D, l => by
  show (canC D (l.set _ _)).length = _
  rw [canC_len D, List.length_set]
theorem canC_far : ∀ (D : List Cd) (l : List (Nat × Chn)) (i : Nat), (∀ d ∈ D, d.ci ≠ i) → (canC D l)[i]? = l[i]?
 | [], _, _, _ => rfl
 | d :: D, l, i, h => by
  show (canC D (l.set _ _))[i]? = _
  rw [canC_far D _ i (fun e he => h e (List.mem_cons_of_mem _ he)), List.getElem?_set_ne (h d List.mem_cons_self)]
def dOf (chs : List (Nat × Chn)) (cs : List Cx) (m cnt : Nat) : List Cd := (List.range cnt).map fun j => ⟨(cs[m + j]?).getD bgX, m + j - 1, (chs[m + j - 1]?).getD (0, ⟨false, false, false, false, none, []⟩)⟩
theorem dOf_len (chs : List (Nat × Chn)) (cs : List Cx) (m cnt : Nat) : (dOf chs cs m cnt).length = cnt := by simp [dOf]
theorem dOf_get {chs : List (Nat × Chn)} {cs : List Cx} {m cnt j : Nat} {d : Cd} (h : (dOf chs cs m cnt)[j]? = some d) : j < cnt ∧ d = ⟨(cs[m + j]?).getD bgX, m + j - 1, (chs[m + j - 1]?).getD (0, ⟨false, false, false, false, none, []⟩)⟩ := by
 have hj : j < cnt := by
  have h1 := (List.getElem?_eq_some_iff.1 h).1
  rwa [dOf_len] at h1
 refine ⟨hj, ?_⟩
 unfold dOf at h
 rw [List.getElem?_map, List.getElem?_range hj] at h
 cases h
 rfl
structure Alive (chs : List (Nat × Chn)) (tms : List Tk) (cs : List Cx) (i : Nat) (lw : List Wt) : Prop where
 ex : ∃ x ch, cs[i]? = some x ∧ x.c = some (i - 1) ∧ x.free = false ∧ x.err = 0 ∧ chs[i - 1]? = some (i - 1, ch) ∧ ch.signal = true ∧ ch.closed = false ∧ ch.recvs = lw ∧ (x.timer = -1 ∨ ∃ (j : Nat) (kd dt : Int), x.timer = j ∧ tms[j]? = some ⟨kd, dt, none⟩)
theorem canI_of {s : Wst} {k : Cs} {m : Nat} {lw : List Wt} (hm : 1 ≤ m) (hmc : m < k.cut) (hle : k.cut ≤ k.cs.length) (hf : k.cs.length ≤ 60) (hlw : (lw.map Wt.task).Nodup) (hll : lw.length ≤ 50) (h : ∀ i, m ≤ i → i < k.cut → Alive s.chs s.tms k.cs i (if i + 1 = k.cut then lw else [])) : CanI (dOf s.chs k.cs m (k.cut - m)) m s k where
 ne := fun e => by
  have := dOf_len s.chs k.cs m (k.cut - m)
  rw [e] at this
  simp only [List.length_nil] at this
  omega
 cut := by rw [dOf_len]; omega
 one := hm
 le := hle
 few := hf
 all := fun j d hd => by
  obtain ⟨hj, rfl⟩ := dOf_get hd
  obtain ⟨x, ch, h1, h2, h3, h4, h5, h6, h7, h8, h9⟩ := (h (m + j) (by omega) (by omega)).ex
  simp only [h1, h5, Option.getD_some]
  refine ⟨trivial, trivial, h2, h3, h4, h6, h7, ?_, ?_, h9⟩
  ·rw [h8]
   split
   ·exact hlw
   ·simp
  ·rw [h8]
   split
   ·exact hll
   ·simp
 nd := by
  have e : (dOf s.chs k.cs m (k.cut - m)).map Cd.ci = (List.range (k.cut - m)).map (fun j => m + j - 1) := by
   unfold dOf
   rw [List.map_map]
   rfl
  rw [e]
  refine List.Pairwise.map _ (fun a b hab => ?_) (List.nodup_range (n := k.cut - m))
  omega
theorem canO_append (a b : List Cd) (m : Nat) : canO (a ++ b) m = canO a m ++ canO b (m + a.length) := by
 induction a generalizing m with
 | nil => rfl
 | cons d a ih =>
  show (m, _) :: canO (a ++ b) (m + 1) = (m, _) :: (canO a (m + 1) ++ canO b (m + (a.length + 1)))
  rw [ih, show m + 1 + a.length = m + (a.length + 1) from by omega]
theorem lapS_append (err cause : Int) (a b : List (Nat × List Wk)) (s : Wst) : lapS err cause (a ++ b) s = lapS err cause b (lapS err cause a s) := by
 induction a generalizing s with
 | nil => rfl
 | cons y a ih => exact ih _
theorem LapI.append {err cause : Int} {a b : List (Nat × List Wk)} {s : Wst} (h : LapI err cause a s) (g : LapI err cause b (lapS err cause a s)) : LapI err cause (a ++ b) s := by
 induction a generalizing s with
 | nil => exact g
 | cons y a ih => exact ⟨h.1, ih h.2 g⟩
theorem lap_quiet (err cause : Int) : ∀ (ys : List (Nat × List Wk)) (s : Wst), (∀ y ∈ ys, y.2 = []) → s.ev.length + ys.length < 900 → s.rd.length ≤ 1000 → s.ts.length ≤ 64 → s.nd < 1000000 → ∃ E, E.length = ys.length ∧ toldM E 0 = [] ∧ lapS err cause ys s = { s with ev := s.ev ++ E } ∧ LapI err cause ys s
 | [], s, _, _, _, _, _ => ⟨[], rfl, rfl, by simp [lapS], trivial⟩
 | y :: l, s, h, h1, h2, h3, h4 => by
  have hy := h y List.mem_cons_self
  simp only [List.length_cons] at h1
  obtain ⟨E, e1, e2, e3, e4⟩ := lap_quiet err cause l (lapT err cause s y) (fun z hz => h z (List.mem_cons_of_mem _ hz)) (by show (s.ev ++ [_]).length + _ < 900; rw [List.length_append]; simp only [List.length_cons, List.length_nil]; omega) h2 h3 h4
  refine ⟨⟨s.steps, 7, -1, y.1, err, cause⟩ :: E, by simp [e1], ?_, ?_, ?_, ?_⟩
  ·unfold toldM at e2 ⊢
   rw [List.filterMap_cons]
   simp [e2]
  ·show lapS err cause l (wakesS (lapT err cause s y) y.2) = _
   rw [hy]
   show lapS err cause l (lapT err cause s y) = _
   rw [e3]
   show ({ s with ev := (s.ev ++ [_]) ++ E } : Wst) = _
   rw [List.append_assoc]
   rfl
  ·exact ⟨by rw [hy]; simp; omega, by rw [hy]; simpa using h2, h3, by rw [hy]; simpa using h4, by rw [hy]; trivial⟩
  ·rw [hy]
   exact e4
theorem lap_last {err cause : Int} {D : List Cd} {m : Nat} {s : Wst} {k : Cs} {lw : List Wt} (hD : CanI D m s k) (hq : ∀ (j : Nat) (d : Cd), D[j]? = some d → d.q.2.recvs = if j + 1 = D.length then lw else []) (h1 : s.ev.length + D.length + lw.length < 800) (h2 : s.rd.length + lw.length ≤ 900) (h3 : s.ts.length ≤ 64) (h4 : s.nd + lw.length < 900000) (hw : ∀ E, WakesB { canS D s with ev := s.ev ++ E } (lw.map clW)) :
  ∃ E, E.length = D.length ∧ toldM E 0 = [] ∧ lapS err cause (canO D m) (canS D s) = wakesS { canS D s with ev := s.ev ++ E } (lw.map clW) ∧ LapI err cause (canO D m) (canS D s) := by
 obtain ⟨D0, d, hd⟩ : ∃ D0 d, D = D0 ++ [d] := by
  rcases List.eq_nil_or_concat D with h | ⟨D0, d, h⟩
  ·exact absurd h hD.ne
  ·exact ⟨D0, d, by rw [h]; simp⟩
 have hdl : D.length = D0.length + 1 := by rw [hd]; simp
 have hlast : d.q.2.recvs = lw := by
  have h5 := hq D0.length d (by rw [hd]; simp)
  rwa [if_pos hdl.symm] at h5
 have hfst : ∀ e ∈ D0, e.q.2.recvs = [] := fun e he => by
  obtain ⟨j, hj⟩ := List.getElem?_of_mem he
  have hjl := (List.getElem?_eq_some_iff.1 hj).1
  have h5 := hq j e (by rw [hd, List.getElem?_append_left hjl]; exact hj)
  rwa [if_neg (by omega)] at h5
 have hsq : ∀ (l : List Cd) (n : Nat), (∀ e ∈ l, e.q.2.recvs = []) → ∀ y ∈ canO l n, y.2 = [] := fun l => by
  induction l with
  | nil => intro n _ y hy; cases hy
  | cons e l ih =>
   intro n he y hy
   rcases List.mem_cons.1 hy with h5 | h5
   ·subst h5
    show e.q.2.recvs.map clW = []
    rw [he e List.mem_cons_self]
    rfl
   ·exact ih (n + 1) (fun z hz => he z (List.mem_cons_of_mem _ hz)) y h5
 have hce : canO D m = canO D0 m ++ [(m + D0.length, lw.map clW)] := by
  rw [hd, canO_append]
  show canO D0 m ++ [(m + D0.length, d.q.2.recvs.map clW)] = _
  rw [hlast]
 have hsev : (canS D s).ev = s.ev ∧ (canS D s).rd = s.rd ∧ (canS D s).ts = s.ts ∧ (canS D s).nd = s.nd ∧ (canS D s).steps = s.steps := by rw [canS_eq]; exact ⟨rfl, rfl, rfl, rfl, rfl⟩
 obtain ⟨E, e1, e2, e3, e4⟩ := lap_quiet err cause (canO D0 m) (canS D s) (hsq D0 m hfst) (by rw [hsev.1, canO_len]; omega) (by rw [hsev.2.1]; omega) (by rw [hsev.2.2.1]; exact h3) (by rw [hsev.2.2.2.1]; omega)
 rw [hsev.1] at e3
 refine ⟨E ++ [⟨s.steps, 7, -1, (m + D0.length : Nat), err, cause⟩], by rw [List.length_append, e1, canO_len]; simp only [List.length_cons, List.length_nil]; omega, ?_, ?_, ?_⟩
 ·rw [toldM_append, e2]
  simp [toldM]
 ·rw [hce, lapS_append, e3]
  show wakesS (lapT err cause { canS D s with ev := s.ev ++ E } _) (lw.map clW) = _
  congr 1
  show ({ canS D s with ev := (s.ev ++ E) ++ [⟨(canS D s).steps, 7, -1, _, err, cause⟩] } : Wst) = _
  rw [hsev.2.2.2.2, List.append_assoc]
 ·rw [hce]
  refine e4.append ?_
  rw [e3]
  refine ⟨⟨?_, ?_, ?_, ?_, ?_⟩, trivial⟩
  ·show (s.ev ++ E).length + (lw.map clW).length < 999
   rw [List.length_append, e1, canO_len, List.length_map]
   omega
  ·show (canS D s).rd.length + (lw.map clW).length ≤ 1000
   rw [hsev.2.1, List.length_map]
   omega
  ·show (canS D s).ts.length ≤ 64
   rw [hsev.2.2.1]
   exact h3
  ·show (canS D s).nd + (lw.map clW).length < 1000000
   rw [hsev.2.2.2.1, List.length_map]
   omega
  ·have h5 := hw (E ++ [⟨(canS D s).steps, 7, -1, (m + D0.length : Nat), err, cause⟩])
   rw [← List.append_assoc] at h5
   exact h5
theorem cut_if {α : Type} {m j cut : Nat} {a b : α} (h : m ≤ cut) : (if m + j + 1 = cut then a else b) = if j + 1 = cut - m then a else b := by
 by_cases h1 : m + j + 1 = cut
 ·rw [if_pos h1, if_pos (by omega)]
 ·rw [if_neg h1, if_neg (by omega)]
theorem can_wake {err cause : Int} {c : Cf} {k : Cs} {m : Nat} {pg pc how : Int} {r : Reg} {a j q : Nat} (hm : 1 ≤ m) (hmc : m < k.cut) (hle : k.cut ≤ k.cs.length) (hf : k.cs.length ≤ 60) (h : ∀ i, m ≤ i → i < k.cut → Alive c.chs c.tms k.cs i (if i + 1 = k.cut then [⟨0, 0, 0⟩] else [])) (hts : c.ts[0]? = some ⟨pg, pc, 1, how, r, ⟨11, a, j, q⟩⟩) (ha : a < 8 ∧ j < 8 ∧ q < 8) (hg : 0 ≤ r.get a) (hpc : 0 ≤ pc ∧ pc ≤ 1000) (hr0 : (0 : Int) ∉ c.rd) (hrl : c.rd.length ≤ 50) (htl : c.ts.length ≤ 50) (nd nl : Nat) (steps : Int) (hnd : nd ≤ 90000) (ev : List Ev) (hev : ev.length ≤ 100) :
  CanI (dOf c.chs k.cs m (k.cut - m)) m (c.st nd nl steps ev) k ∧ LapI err cause (canO (dOf c.chs k.cs m (k.cut - m)) m) (canS (dOf c.chs k.cs m (k.cut - m)) (c.st nd nl steps ev)) ∧ ∃ ev', lapS err cause (canO (dOf c.chs k.cs m (k.cut - m)) m) (canS (dOf c.chs k.cs m (k.cut - m)) (c.st nd nl steps ev)) = { c with chs := canC (dOf c.chs k.cs m (k.cut - m)) c.chs, L := canL (dOf c.chs k.cs m (k.cut - m)) c.L, ts := c.ts.set 0 ⟨pg, pc + 1, 0, how, (r.set j 0).set q 0, ⟨0, 0, 0, 0⟩⟩, rd := c.rd ++ [0] }.st nd nl steps ev' ∧ ev'.length ≤ ev.length + 61 ∧ toldM ev' 0 = toldM ev 0 := by
 have hD := canI_of (s := c.st nd nl steps ev) (lw := [⟨0, 0, 0⟩]) hm hmc hle hf (by simp) (by simp) h
 have hdl := dOf_len c.chs k.cs m (k.cut - m)
 have hwb : ∀ E, WakesB { canS (dOf c.chs k.cs m (k.cut - m)) (c.st nd nl steps ev) with ev := ev ++ E } (([⟨0, 0, 0⟩] : List Wt).map clW) := fun E => by
  rw [canS_eq]
  refine ⟨⟨by simp [clW], rfl, hr0, ?_⟩, trivial⟩
  show (match c.ts[0]? with | none => False | some t => t.st = 1 ∧ t.ins.op = 11 ∧ RegOK t.ins.a ∧ RegOK t.ins.b ∧ RegOK t.ins.c ∧ 0 ≤ t.regs.get t.ins.a.toNat ∧ 0 ≤ t.pc ∧ t.pc ≤ 1000)
  rw [hts]
  exact ⟨rfl, rfl, ⟨by show (0 : Int) ≤ (a : Int); omega, by show (a : Int) < 8; omega⟩, ⟨by show (0 : Int) ≤ (j : Int); omega, by show (j : Int) < 8; omega⟩, ⟨by show (0 : Int) ≤ (q : Int); omega, by show (q : Int) < 8; omega⟩, by simpa using hg, hpc.1, hpc.2⟩
 obtain ⟨E, e1, e2, e3, e4⟩ := lap_last (err := err) (cause := cause) (lw := [⟨0, 0, 0⟩]) hD (fun j d hd => by
  obtain ⟨hj, rfl⟩ := dOf_get hd
  obtain ⟨x, ch, h1, h2, h3, h4, h5, h6, h7, h8, h9⟩ := (h (m + j) (by omega) (by omega)).ex
  rw [hdl]
  have h5 : c.chs[m + j - 1]? = some (m + j - 1, ch) := h5
  simp only [h5, Option.getD_some, h8]
  exact cut_if (Nat.le_of_lt hmc)) (by rw [hdl]; show ev.length + _ + 1 < 800; omega) (by show c.rd.length + 1 ≤ 900; omega) (by show c.ts.length ≤ 64; omega) (by show nd + 1 < 900000; omega) hwb
 refine ⟨hD, e4, (ev ++ E) ++ [⟨steps, 3, 0, 0, 0, 0⟩], ?_, ?_, ?_⟩
 ·rw [e3, canS_eq]
  show wakeS _ ⟨((0 : Nat) : Int), 0, 0, false, false⟩ = _
  rw [wakeS_no (i := 0) (a := a) (j := j) (k := q) (pg := pg) (pc := pc) (how := how) (r := r) hts]
  rfl
 ·simp only [List.length_append, e1, hdl, List.length_cons, List.length_nil]
  omega
 ·rw [toldM_append, toldM_append, e2]
  simp [toldM]
theorem can_none {err cause : Int} {c : Cf} {k : Cs} {m : Nat} (hm : 1 ≤ m) (hmc : m < k.cut) (hle : k.cut ≤ k.cs.length) (hf : k.cs.length ≤ 60) (h : ∀ i, m ≤ i → i < k.cut → Alive c.chs c.tms k.cs i []) (hrl : c.rd.length ≤ 50) (htl : c.ts.length ≤ 50) (nd nl : Nat) (steps : Int) (hnd : nd ≤ 90000) (ev : List Ev) (hev : ev.length ≤ 100) :
  CanI (dOf c.chs k.cs m (k.cut - m)) m (c.st nd nl steps ev) k ∧ LapI err cause (canO (dOf c.chs k.cs m (k.cut - m)) m) (canS (dOf c.chs k.cs m (k.cut - m)) (c.st nd nl steps ev)) ∧ ∃ ev', lapS err cause (canO (dOf c.chs k.cs m (k.cut - m)) m) (canS (dOf c.chs k.cs m (k.cut - m)) (c.st nd nl steps ev)) = { c with chs := canC (dOf c.chs k.cs m (k.cut - m)) c.chs, L := canL (dOf c.chs k.cs m (k.cut - m)) c.L }.st nd nl steps ev' ∧ ev'.length ≤ ev.length + 61 ∧ toldM ev' 0 = toldM ev 0 := by
 have hD := canI_of (s := c.st nd nl steps ev) (lw := []) hm hmc hle hf (by simp) (by simp) (fun i h1 h2 => by
  have h3 := h i h1 h2
  split
  ·exact h3
  ·exact h3)
 have hdl := dOf_len c.chs k.cs m (k.cut - m)
 obtain ⟨E, e1, e2, e3, e4⟩ := lap_last (err := err) (cause := cause) (lw := []) hD (fun j d hd => by
  obtain ⟨hj, rfl⟩ := dOf_get hd
  obtain ⟨x, ch, h1, h2, h3, h4, h5, h6, h7, h8, h9⟩ := (h (m + j) (by omega) (by omega)).ex
  have h5 : c.chs[m + j - 1]? = some (m + j - 1, ch) := h5
  simp only [h5, Option.getD_some, h8]
  split <;> rfl) (by rw [hdl]; show ev.length + _ + 0 < 800; omega) (by show c.rd.length + 0 ≤ 900; omega) (by show c.ts.length ≤ 64; omega) (by show nd + 0 < 900000; omega) (fun E => trivial)
 refine ⟨hD, e4, ev ++ E, ?_, ?_, ?_⟩
 ·rw [e3, canS_eq]
  rfl
 ·simp only [List.length_append, e1, hdl]
  omega
 ·rw [toldM_append, e2]
  simp
theorem Rxs.cons {ps : List (List Ins)} {c c1 c' : Cf} {k k1 k' : Cs} {e : Ent} {l : List Ent} {t : List Int} (h : Rx ps c k e [] c1 k1) (g : Rxs ps c1 k1 l t c' k') : Rxs ps c k (e :: l) t c' k' := ⟨c1, k1, [], t, h, g, rfl⟩
section
variable {p : List Ins} {pc : Nat} {r : Reg} {now : Int}
theorem lt_of_some {x : Ins} (h : p[pc]? = some x) : ¬ pc = p.length := fun e => by
 rw [e] at h
 simp at h
theorem locF_set {a : Nat} {v z : Int} (h : p[pc]? = some ⟨1, a, v, z⟩) (ha : a < 8) : locF p pc r now = some ⟨pc + 1, r.set a v, false, 0, false⟩ := by
 unfold locF
 rw [if_neg (lt_of_some h), h]
 simp only
 rw [if_pos ⟨trivial, by show (0 : Int) ≤ (a : Int); omega, by show (a : Int) < 8; omega⟩]
 simp
theorem locF_emit {a : Nat} {z : Int} (h : p[pc]? = some ⟨6, a, 0, z⟩) (ha : a < 8) : locF p pc r now = some ⟨pc + 1, r, true, r.get a, false⟩ := by
 unfold locF
 rw [if_neg (lt_of_some h), h]
 simp only
 rw [if_neg (by omega), if_neg (by omega), if_pos ⟨trivial, ⟨by omega, by omega⟩, trivial⟩]
 simp
theorem locF_now {a : Nat} {y z : Int} (h : p[pc]? = some ⟨16, a, y, z⟩) (ha : a < 8) : locF p pc r now = some ⟨pc + 1, r.set a now, false, 0, false⟩ := by
 unfold locF
 rw [if_neg (lt_of_some h), h]
 simp only
 rw [if_neg (by omega), if_neg (by omega), if_neg (by omega), if_pos ⟨trivial, by omega, by omega⟩]
 simp
theorem locF_end (h : pc = p.length) : locF p pc r now = some ⟨pc, r, false, 0, true⟩ := by
 unfold locF
 rw [if_pos h]
end
def sigC (l : List Wt) : Chn := ⟨false, true, false, false, none, l⟩
def tcH (m : Nat) : List (Nat × Chn) := (List.range m).map fun i => (i, sigC [])
theorem tcH_len (m : Nat) : (tcH m).length = m := by simp [tcH]
theorem tcH_get {m i : Nat} (h : i < m) : (tcH m)[i]? = some (i, sigC []) := by
 unfold tcH
 rw [List.getElem?_map, List.getElem?_range h]
 rfl
theorem tcH_succ (m : Nat) : tcH m ++ [((tcH m).length, sigC [])] = tcH (m + 1) := by
 rw [tcH_len]
 unfold tcH
 simp only [List.range_succ, List.map_append, List.map_cons, List.map_nil]
def c0 : Cf := ⟨0, [⟨0, 0, 0, 0, zRg, zI⟩], [0], [], [], 0, [], 0⟩

def tcHw (n : Nat) : List (Nat × Chn) := (tcH (n + 1)).set n (n, sigC [⟨0, 0, 0⟩])
theorem tcHw_len (n : Nat) : (tcHw n).length = n + 1 := by simp [tcHw, tcH_len]

theorem canK_get (err cause : Int) : ∀ (D : List Cd) (m : Nat) (cs : List Cx) (j : Nat) (d : Cd), D[j]? = some d → m + j < cs.length → (canK err cause D m cs)[m + j]? = some (canX err cause d.x)
 | [], _, _, _, _, h, _ => by simp at h
 | e :: D, m, cs, j, d, h, hl => by
  cases j with
  | zero =>
   cases h
   show (canK err cause D (m + 1) (cs.set m _))[m + 0]? = _
   rw [canK_low err cause D (m + 1) _ (m + 0) (by omega), Nat.add_zero, List.getElem?_set_self (by omega)]
  | succ j =>
   show (canK err cause D (m + 1) (cs.set m _))[m + (j + 1)]? = _
   rw [show m + (j + 1) = m + 1 + j from by omega]
   exact canK_get err cause D (m + 1) _ j d (by simpa using h) (by rw [List.length_set]; omega)
theorem canL_far : ∀ (D : List Cd) (L : List It), (∀ d ∈ D, ∀ it ∈ L, it.id ≠ d.x.timer) → canL D L = L
 | [], _, _ => rfl
 | d :: D, L, h => by
  have h1 : canT d.x.timer L = L := by
   unfold canT
   split
   ·unfold delL
    rw [List.filter_eq_self]
    intro it hit
    simpa using h d List.mem_cons_self it hit
   ·rfl
  show canL D (canT d.x.timer L) = L
  rw [h1]
  exact canL_far D L (fun e he => h e (List.mem_cons_of_mem _ he))
section
variable {tm : Bool} {d at_ : Int} {n : Nat}
theorem tcHw_get {i : Nat} (h : i ≤ n) : (tcHw n)[i]? = some (i, sigC (if i = n then [⟨0, 0, 0⟩] else [])) := by
 unfold tcHw
 rw [List.getElem?_set]
 by_cases hi : n = i
 ·subst hi
  rw [if_pos rfl, if_pos (by rw [tcH_len]; omega), if_pos rfl]
 ·rw [if_neg hi, if_neg (by omega)]
  exact tcH_get (by omega)
end
def nsB (ks : List Int) : List Ins := ks.flatMap fun k => [⟨1, 2, k, 0⟩, ⟨23, 1, 1, 2⟩]
def nsE : List Ins := [⟨30, 1, 3, 4⟩, ⟨6, 3, 0, 0⟩, ⟨29, 1, 3, 0⟩, ⟨11, 3, 4, 5⟩, ⟨16, 6, 0, 0⟩, ⟨6, 6, 0, 0⟩, ⟨27, 1, 6, 0⟩, ⟨6, 6, 0, 0⟩]
def nsP (ks : List Int) : List Ins := nsB ks ++ nsE
theorem nsB_cons (k : Int) (ks : List Int) : nsB (k :: ks) = ⟨1, 2, k, 0⟩ :: ⟨23, 1, 1, 2⟩ :: nsB ks := rfl
theorem nsB_snoc (ks : List Int) (k : Int) : nsB (ks ++ [k]) = nsB ks ++ [⟨1, 2, k, 0⟩, ⟨23, 1, 1, 2⟩] := by
 unfold nsB
 rw [List.flatMap_append]
 rfl
theorem nsB_len (ks : List Int) : (nsB ks).length = 2 * ks.length := by
 induction ks with
 | nil => rfl
 | cons k ks ih =>
  rw [nsB_cons]
  simp only [List.length_cons, ih]
  omega
theorem nsP_len (ks : List Int) : (nsP ks).length = 2 * ks.length + 8 := by
 unfold nsP
 rw [List.length_append, nsB_len]
 rfl
theorem nsB_get : ∀ (ks : List Int) (j : Nat) (k : Int), ks[j]? = some k → (nsB ks)[2 * j]? = some ⟨1, 2, k, 0⟩ ∧ (nsB ks)[2 * j + 1]? = some ⟨23, 1, 1, 2⟩
 | [], _, _, h => by simp at h
 | k0 :: ks, 0, k, h => by
  cases h
  exact ⟨rfl, rfl⟩
 | k0 :: ks, j + 1, k, h => by
  rw [nsB_cons, show 2 * (j + 1) = 2 * j + 1 + 1 from by omega, show 2 * j + 1 + 1 + 1 = (2 * j + 1) + 1 + 1 from rfl]
  simp only [List.getElem?_cons_succ]
  exact nsB_get ks j k (by simpa using h)
theorem nsP_set {ks : List Int} {j : Nat} {k : Int} (h : ks[j]? = some k) : (nsP ks)[2 * j]? = some ⟨1, 2, k, 0⟩ := by
 have hj := (List.getElem?_eq_some_iff.1 h).1
 unfold nsP
 rw [List.getElem?_append_left (by rw [nsB_len]; omega)]
 exact (nsB_get ks j k h).1
theorem nsP_dl {ks : List Int} {j : Nat} {k : Int} (h : ks[j]? = some k) : (nsP ks)[2 * j + 1]? = some ⟨23, 1, 1, 2⟩ := by
 have hj := (List.getElem?_eq_some_iff.1 h).1
 unfold nsP
 rw [List.getElem?_append_left (by rw [nsB_len]; omega)]
 exact (nsB_get ks j k h).2
theorem nsP_end {ks : List Int} (j : Nat) : (nsP ks)[2 * ks.length + j]? = nsE[j]? := by
 unfold nsP
 rw [List.getElem?_append_right (by rw [nsB_len]; omega), nsB_len]
 congr 1
 omega
def NsL (cs : List Cx) (tms : List Tk) : Nat → List It → Prop
 | cut, [] => cut = 1
 | cut, it :: L => ∃ (m i : Nat) (x : Cx), 1 ≤ m ∧ m < cut ∧ it.id = i ∧ tms[i]? = some ⟨4, m, none⟩ ∧ cs[m]? = some x ∧ x.own = true ∧ x.timer = i ∧ (∀ q y, m < q → q < cut → cs[q]? = some y → y.timer = -1) ∧ (∀ u ∈ L, it.when < u.when ∧ u.id ≠ it.id) ∧ NsL cs tms m L
theorem get_app {α : Type} {l r : List α} {i : Nat} {x : α} (h : l[i]? = some x) : (l ++ r)[i]? = some x := by
 rw [List.getElem?_append_left (List.getElem?_eq_some_iff.1 h).1]
 exact h
theorem NsL.app {cs a : List Cx} {tms b : List Tk} : ∀ {L : List It} {cut : Nat}, NsL cs tms cut L → cut ≤ cs.length → NsL (cs ++ a) (tms ++ b) cut L
 | [], cut, h, _ => h
 | it :: L, cut, h, hc => by
  obtain ⟨m, i, x, h1, h2, h3, h4, h5, h6, h7, h8, h9, h10⟩ := h
  refine ⟨m, i, x, h1, h2, h3, get_app h4, get_app h5, h6, h7, fun q y hq hq2 hy => ?_, h9, h10.app (by omega)⟩
  rw [List.getElem?_append_left (by omega)] at hy
  exact h8 q y hq hq2 hy
structure NsI (n : Nat) (mn : Int) (cs : List Cx) (tms : List Tk) (L : List It) (sq : Int) : Prop where
 len : cs.length = n + 1
 sq : sq = tms.length
 tl : tms.length ≤ n
 kin : ∀ i, 1 ≤ i → i ≤ n → ∃ x, cs[i]? = some x ∧ x.c = some (i - 1) ∧ x.free = false ∧ x.err = 0 ∧ (x.timer = -1 ∨ ∃ j : Nat, x.timer = j ∧ tms[j]? = some ⟨4, i, none⟩)
 lst : ∃ x, cs[n]? = some x ∧ x.err = 0 ∧ (mn = 0 → x.has = false) ∧ (mn ≠ 0 → x.has = true ∧ x.when = mn)
 mz : (n = 0 → mn = 0) ∧ (1 ≤ n → 1 ≤ mn ∧ mn ≤ 100)
 hd : 1 ≤ n → ∃ it L', L = it :: L' ∧ it.when = mn
 rows : NsL cs tms (n + 1) L
 ids : ∀ it ∈ L, it.id < tms.length
theorem ns_zero : NsI 0 0 [bgX] [] [] 0 where
 len := rfl
 sq := rfl
 tl := Nat.le_refl _
 kin := fun i h1 h2 => by omega
 lst := ⟨bgX, rfl, rfl, fun _ => rfl, fun h => absurd rfl h⟩
 mz := ⟨fun _ => rfl, fun h => by omega⟩
 hd := fun h => by omega
 rows := rfl
 ids := fun it h => by cases h
section
variable {n : Nat} {mn k sq : Int} {cs : List Cx} {tms : List Tk} {L : List It}
theorem NsI.as_ (h : NsI n mn cs tms L sq) (h0 : mn ≠ 0) (hk : mn ≤ k) : NsI (n + 1) mn (cs ++ [⟨(n : Int) + 1, false, some n, 0, 0, mn, true, false, -1⟩]) tms L sq := by
 have hn : 1 ≤ n := by
  rcases Nat.eq_zero_or_pos n with e | e
  ·exact absurd (h.mz.1 e) h0
  ·exact e
 have hl := h.len
 have hlast : (cs ++ [(⟨(n : Int) + 1, false, some n, 0, 0, mn, true, false, -1⟩ : Cx)])[n + 1]? = some ⟨(n : Int) + 1, false, some n, 0, 0, mn, true, false, -1⟩ := by
  rw [List.getElem?_append_right (by omega), hl, Nat.sub_self]
  rfl
 refine ⟨by rw [List.length_append, hl]; rfl, h.sq, by have := h.tl; omega, fun i h1 h2 => ?_, ⟨_, hlast, rfl, fun e => absurd e h0, fun _ => ⟨rfl, rfl⟩⟩, ⟨fun e => by omega, fun _ => h.mz.2 hn⟩, fun _ => h.hd hn, ?_, h.ids⟩
 ·by_cases hi : i = n + 1
  ·subst hi
   exact ⟨_, hlast, rfl, rfl, rfl, .inl rfl⟩
  ·obtain ⟨x, g1, g2⟩ := h.kin i h1 (by omega)
   exact ⟨x, get_app g1, g2⟩
 ·obtain ⟨it, L', rfl, hw⟩ := h.hd hn
  obtain ⟨m, i, x, h1, h2, h3, h4, h5, h6, h7, h8, h9, h10⟩ := h.rows
  have h11 := h10.app (a := [⟨(n : Int) + 1, false, some n, 0, 0, mn, true, false, -1⟩]) (b := []) (by omega)
  rw [List.append_nil] at h11
  refine ⟨m, i, x, h1, by omega, h3, h4, get_app h5, h6, h7, fun q y hq hq2 hy => ?_, h9, h11⟩
  by_cases hq3 : q = n + 1
  ·subst hq3
   rw [hlast] at hy
   cases hy
   rfl
  ·rw [List.getElem?_append_left (by omega)] at hy
   exact h8 q y hq (by omega) hy
theorem NsI.own_ (h : NsI n mn cs tms L sq) (hk1 : 1 ≤ k ∧ k ≤ 100) (hk : mn = 0 ∨ k < mn) : NsI (n + 1) k (cs ++ [⟨(n : Int) + 1, false, some n, 0, 0, k, true, true, tms.length⟩]) (tms ++ [⟨4, (n : Int) + 1, none⟩]) (⟨tms.length, k, sq + 1⟩ :: L) (sq + 1) := by
 have hl := h.len
 have hlast : (cs ++ [(⟨(n : Int) + 1, false, some n, 0, 0, k, true, true, tms.length⟩ : Cx)])[n + 1]? = some ⟨(n : Int) + 1, false, some n, 0, 0, k, true, true, tms.length⟩ := by
  rw [List.getElem?_append_right (by omega), hl, Nat.sub_self]
  rfl
 have htl : (tms ++ [(⟨4, (n : Int) + 1, none⟩ : Tk)])[tms.length]? = some ⟨4, ((n + 1 : Nat) : Int), none⟩ := by
  rw [List.getElem?_append_right (Nat.le_refl _), Nat.sub_self]
  rfl
 refine ⟨by rw [List.length_append, hl]; rfl, by rw [List.length_append, h.sq]; rfl, by rw [List.length_append]; have := h.tl; simp only [List.length_cons, List.length_nil]; omega, fun i h1 h2 => ?_, ⟨_, hlast, rfl, fun e => by omega, fun _ => ⟨rfl, rfl⟩⟩, ⟨fun e => by omega, fun _ => hk1⟩, fun _ => ⟨_, _, rfl, rfl⟩, ?_, fun it hit => ?_⟩
 ·by_cases hi : i = n + 1
  ·subst hi
   exact ⟨_, hlast, rfl, rfl, rfl, .inr ⟨tms.length, rfl, htl⟩⟩
  ·obtain ⟨x, g1, g2, g3, g4, g5⟩ := h.kin i h1 (by omega)
   refine ⟨x, get_app g1, g2, g3, g4, ?_⟩
   rcases g5 with g5 | ⟨j, g5, g6⟩
   ·exact .inl g5
   ·exact .inr ⟨j, g5, get_app g6⟩
 ·refine ⟨n + 1, tms.length, _, by omega, by omega, rfl, htl, hlast, rfl, rfl, fun q y h1 h2 => by omega, fun u hu => ⟨?_, ?_⟩, h.rows.app (by omega)⟩
  ·rcases hk with hk | hk
   ·have hn0 : n = 0 := by
     rcases Nat.eq_zero_or_pos n with e | e
     ·exact e
     ·have := h.mz.2 e; omega
    subst hn0
    have h3 := h.rows
    cases L with
    | nil => cases hu
    | cons it L' =>
     obtain ⟨m, _, _, h4, h5, _⟩ := h3
     omega
   ·have hn : 1 ≤ n := by
     rcases Nat.eq_zero_or_pos n with e | e
     ·have := h.mz.1 e; omega
     ·exact e
    obtain ⟨it, L', rfl, hw⟩ := h.hd hn
    obtain ⟨m, i, x, h1, h2, h3, h4, h5, h6, h7, h8, h9, h10⟩ := h.rows
    show k < u.when
    rcases List.mem_cons.1 hu with rfl | hu
    ·omega
    ·have := (h9 u hu).1
     omega
  ·have := h.ids u hu
   show u.id ≠ (tms.length : Int)
   omega
 ·rw [List.length_append]
  simp only [List.length_cons, List.length_nil]
  rcases List.mem_cons.1 hit with rfl | hit
  ·show (tms.length : Int) < _
   omega
  ·have := h.ids it hit
   omega
theorem NsI.ins (h : NsI n mn cs tms L sq) (hk : mn = 0 ∨ k < mn) : insL ⟨tms.length, k, sq + 1⟩ (delL tms.length L) = ⟨tms.length, k, sq + 1⟩ :: L := by
 have h1 : delL tms.length L = L := by
  unfold delL
  rw [List.filter_eq_self]
  intro it hit
  have := h.ids it hit
  simp only [bne_iff_ne, ne_eq]
  omega
 rw [h1]
 cases L with
 | nil => rfl
 | cons it L' =>
  have hn : 1 ≤ n := by
   obtain ⟨m, _, _, h4, h5, _⟩ := h.rows
   omega
  obtain ⟨it2, L2, he, hw⟩ := h.hd hn
  cases he
  have := h.mz.2 hn
  unfold insL
  rw [if_pos (.inl (by show k < it.when; omega))]
end
def RunsTo (ps : List (List Ins)) (c : Cf) (k : Cs) (N : Nat) (t : List Int) (c' : Cf) (k' : Cs) : Prop := ∀ l : List Ent, l.length = N → (∀ e ∈ l, ∃ n, e = .run n) → Rxs ps c k l t c' k'
section
variable {ps : List (List Ins)} {c c1 c2 c' : Cf} {k k1 k2 k' : Cs} {t t1 t2 : List Int} {N M : Nat}
theorem RunsTo.zero : RunsTo ps c k 0 [] c k := fun l hl h => by
 cases l with
 | nil => exact ⟨rfl, rfl, rfl⟩
 | cons e l => cases hl
theorem RunsTo.cons (h : ∀ n, Rx ps c k (.run n) t1 c1 k1) (g : RunsTo ps c1 k1 N t2 c' k') : RunsTo ps c k (N + 1) (t1 ++ t2) c' k' := fun l hl hr => by
 cases l with
 | nil => cases hl
 | cons e l =>
  obtain ⟨n, rfl⟩ := hr e List.mem_cons_self
  exact ⟨c1, k1, t1, t2, h n, g l (by simpa using hl) (fun e he => hr e (List.mem_cons_of_mem _ he)), rfl⟩
theorem RunsTo.one (h : ∀ n, Rx ps c k (.run n) t1 c1 k1) : RunsTo ps c k 1 t1 c1 k1 := by
 have h2 := RunsTo.cons h (RunsTo.zero (ps := ps) (c := c1) (k := k1))
 rwa [List.append_nil] at h2
theorem RunsTo.append (h : RunsTo ps c k N t1 c1 k1) (g : RunsTo ps c1 k1 M t2 c2 k2) : RunsTo ps c k (N + M) (t1 ++ t2) c2 k2 := fun l hl hr => by
 have h1 := (h (l.take N) (by rw [List.length_take]; omega) (fun e he => hr e (List.mem_of_mem_take he))).append (g (l.drop N) (by rw [List.length_drop]; omega) (fun e he => hr e (List.mem_of_mem_drop he)))
 rwa [List.take_append_drop] at h1
theorem RunsTo.idle (hl : LimC c) (hr : c.rd = []) (N : Nat) : RunsTo ps c k N [] c k := fun l _ h => Rxs.idle hl hr l h
theorem RunsTo.many (h : RunsTo ps c k N t c' k') : ∀ j, Rxs ps c k (manyE j N) t c' k' := fun j => h _ (by
  have : ∀ n j, (manyE j n).length = n := fun n => by
   induction n with
   | zero => intro j; rfl
   | succ n ih => intro j; exact congrArg (· + 1) (ih (j + 1))
  exact this N j) (fun e he => by
  have : ∀ n j, ∀ e ∈ manyE j n, ∃ m, e = Ent.run m := fun n => by
   induction n with
   | zero => intro j e he; cases he
   | succ n ih =>
    intro j e he
    rcases List.mem_cons.1 he with h1 | h1
    ·exact ⟨_, h1⟩
    ·exact ih (j + 1) e h1
  exact this N j e he)
end
abbrev cfO (now : Int) (tk : Tsk) (rd : List Int) (chs : List (Nat × Chn)) (tms : List Tk) (L : List It) (sq : Int) : Cf := ⟨now, [tk], rd, chs, tms, 0, L, sq⟩
theorem cfO_lim {now sq : Int} {tk : Tsk} {rd : List Int} {chs : List (Nat × Chn)} {tms : List Tk} {L : List It} (h1 : rd.length ≤ 50) (h2 : chs.length ≤ 100) (h3 : tms.length ≤ 100) (h4 : 0 ≤ sq ∧ sq ≤ 1000) (h5 : 0 ≤ now ∧ now ≤ 100000) : LimC (cfO now tk rd chs tms L sq) := ⟨h1, by simp, h2, h3, h4, h5, by simp⟩
def nsR (n : Nat) (a : Int) : Reg := ⟨0, n, a, 0, 0, 0, 0, 0⟩
def nsC (n : Nat) (pc : Int) (r : Reg) (tms : List Tk) (L : List It) (sq : Int) : Cf := cfO 0 ⟨0, pc, 0, 0, r, zI⟩ [0] (tcH n) tms L sq
theorem nsC_lim {n : Nat} {pc sq : Int} {r : Reg} {tms : List Tk} {L : List It} (h1 : n ≤ 6) (h2 : tms.length ≤ n) (h3 : sq = tms.length) : LimC (nsC n pc r tms L sq) := cfO_lim (by simp) (by rw [tcH_len]; omega) (by omega) (by omega) (by omega)
section
variable {ks : List Int} {n : Nat} {mn kk sq : Int} {k : Cs} {tms : List Tk} {L : List It}
theorem ns_set (h : NsI n mn k.cs tms L sq) (hn : n < 6) (hk : ks[n]? = some kk) (a p : Int) : Rx [nsP ks] (nsC n ((2 * n : Nat) : Int) (nsR n a) tms L sq) k (.run p) [] (nsC n ((2 * n + 1 : Nat) : Int) (nsR n kk) tms L sq) k := by
 have h1 := Rx.loc (ps := [nsP ks]) (n := p) (k := k) (c := nsC n ((2 * n : Nat) : Int) (nsR n a) tms L sq) (i := 0) (x := ⟨0, ((2 * n : Nat) : Int), 0, 0, nsR n a, zI⟩) (p := nsP ks) (O := ⟨((2 * n : Nat) : Int) + 1, nsR n kk, false, 0, false⟩) (nsC_lim (by omega) h.tl h.sq) (pick_one p 0) rfl rfl ⟨rfl, by simp, by show (0 : Int) ≤ ((2 * n : Nat) : Int); omega⟩ (by
  show locF (nsP ks) (((2 * n : Nat) : Int)).toNat _ _ = _
  rw [Int.toNat_natCast]
  exact locF_set (a := 2) (nsP_set hk) (by omega)) rfl rfl
 rw [show ((2 * n + 1 : Nat) : Int) = ((2 * n : Nat) : Int) + 1 from by omega]
 exact h1
theorem ns_dl (h : NsI n mn k.cs tms L sq) (hcut : k.cut = n + 1) (hn : n < 6) (hk : ks[n]? = some kk) (hkk : 1 ≤ kk ∧ kk ≤ 100) : ∃ k' tms' L' sq', NsI (n + 1) (if mn = 0 ∨ kk < mn then kk else mn) k'.cs tms' L' sq' ∧ k'.cut = n + 2 ∧ ∀ p, Rx [nsP ks] (nsC n ((2 * n + 1 : Nat) : Int) (nsR n kk) tms L sq) k (.run p) [] (nsC (n + 1) ((2 * (n + 1) : Nat) : Int) (nsR (n + 1) kk) tms' L' sq') k' := by
 obtain ⟨x, x1, x2, x3, x4⟩ := h.lst
 have e2 : ((2 * (n + 1) : Nat) : Int) = ((2 * n + 1 : Nat) : Int) + 1 := by omega
 by_cases ho : mn = 0 ∨ kk < mn
 ·rw [if_pos ho]
  refine ⟨⟨k.cs ++ [⟨(n : Int) + 1, false, some n, 0, 0, kk, true, true, tms.length⟩], n + 2⟩, tms ++ [⟨4, (n : Int) + 1, none⟩], ⟨tms.length, kk, sq + 1⟩ :: L, sq + 1, h.own_ hkk ho, rfl, fun p => ?_⟩
  rw [e2]
  refine Rx.ctx (ps := [nsP ks]) (n := p) (c := nsC n ((2 * n + 1 : Nat) : Int) (nsR n kk) tms L sq) (k := k) (k2 := ⟨k.cs ++ [⟨(n : Int) + 1, false, some n, 0, 0, kk, true, true, tms.length⟩], n + 2⟩) (i := 0) (x := ⟨0, ((2 * n + 1 : Nat) : Int), 0, 0, nsR n kk, zI⟩) (p := nsP ks) (ins := ⟨23, 1, 1, 2⟩) (r2 := nsR (n + 1) kk) (c2 := nsC (n + 1) ((2 * n + 1 : Nat) : Int) (nsR n kk) (tms ++ [⟨4, (n : Int) + 1, none⟩]) (⟨tms.length, kk, sq + 1⟩ :: L) (sq + 1)) (nsC_lim (by omega) h.tl h.sq) (pick_one p 0) rfl rfl ⟨rfl, by simp, by show (0 : Int) ≤ ((2 * n + 1 : Nat) : Int); omega⟩ (by show (nsP ks)[(((2 * n + 1 : Nat) : Int)).toNat]? = _; rw [Int.toNat_natCast]; exact nsP_dl hk) rfl (fun nd nl steps _ => ⟨nd, [], ?_, by omega, by simp, rfl⟩) rfl (by simp [nsC]) (by simp [nsC]) (by simp [nsC])
  have h1 := ActX.dlOwn (s := (nsC n ((2 * n + 1 : Nat) : Int) (nsR n kk) tms L sq).st nd nl steps []) (k := k) (a := 1) (bb := 1) (cc := 2) (n0 := n) (r := nsR n kk) (x := x) (op := 23) (when_ := kk) (.inl ⟨rfl, rfl⟩) (by omega) rfl h.len hcut (by omega) x1 x2 (by omega) (fun hh => by
   rcases ho with ho | ho
   ·rw [x3 ho] at hh; cases hh
   ·rw [(x4 (by omega)).2]; exact ho) (by show (0 : Int) < kk; omega)
  have e3 : sigS (dlS ((nsC n ((2 * n + 1 : Nat) : Int) (nsR n kk) tms L sq).st nd nl steps []) n kk) = (nsC (n + 1) ((2 * n + 1 : Nat) : Int) (nsR n kk) (tms ++ [⟨4, (n : Int) + 1, none⟩]) (⟨tms.length, kk, sq + 1⟩ :: L) (sq + 1)).st nd nl steps [] := by
   have e4 := tcH_succ n
   have e5 := h.ins ho
   unfold sigS dlS nsC
   simp only [e5]
   congr 1
  have e6 : mkC k n kk true true ((nsC n ((2 * n + 1 : Nat) : Int) (nsR n kk) tms L sq).st nd nl steps []).tms.length ((nsC n ((2 * n + 1 : Nat) : Int) (nsR n kk) tms L sq).st nd nl steps []).chs.length = ⟨k.cs ++ [⟨(n : Int) + 1, false, some n, 0, 0, kk, true, true, tms.length⟩], n + 2⟩ := by
   show mkC k n kk true true tms.length (tcH n).length = _
   rw [tcH_len]
   rfl
  rw [e3, e6] at h1
  exact h1
 ·rw [if_neg ho]
  have hm0 : mn ≠ 0 := fun e => ho (.inl e)
  have hle : mn ≤ kk := by
   rcases Int.lt_or_le kk mn with e | e
   ·exact absurd (.inr e) ho
   ·exact e
  refine ⟨⟨k.cs ++ [⟨(n : Int) + 1, false, some n, 0, 0, mn, true, false, -1⟩], n + 2⟩, tms, L, sq, h.as_ hm0 hle, rfl, fun p => ?_⟩
  rw [e2]
  refine Rx.ctx (ps := [nsP ks]) (n := p) (c := nsC n ((2 * n + 1 : Nat) : Int) (nsR n kk) tms L sq) (k := k) (k2 := ⟨k.cs ++ [⟨(n : Int) + 1, false, some n, 0, 0, mn, true, false, -1⟩], n + 2⟩) (i := 0) (x := ⟨0, ((2 * n + 1 : Nat) : Int), 0, 0, nsR n kk, zI⟩) (p := nsP ks) (ins := ⟨23, 1, 1, 2⟩) (r2 := nsR (n + 1) kk) (c2 := nsC (n + 1) ((2 * n + 1 : Nat) : Int) (nsR n kk) tms L sq) (nsC_lim (by omega) h.tl h.sq) (pick_one p 0) rfl rfl ⟨rfl, by simp, by show (0 : Int) ≤ ((2 * n + 1 : Nat) : Int); omega⟩ (by show (nsP ks)[(((2 * n + 1 : Nat) : Int)).toNat]? = _; rw [Int.toNat_natCast]; exact nsP_dl hk) rfl (fun nd nl steps _ => ⟨nd, [], ?_, by omega, by simp, rfl⟩) rfl (by simp [nsC]) (by simp [nsC]) (by simp [nsC])
  have h1 := ActX.dlAs (s := (nsC n ((2 * n + 1 : Nat) : Int) (nsR n kk) tms L sq).st nd nl steps []) (k := k) (a := 1) (bb := 1) (cc := 2) (n0 := n) (r := nsR n kk) (x := x) (op := 23) (when_ := kk) (.inl ⟨rfl, rfl⟩) (by omega) rfl h.len hcut (by omega) x1 x2 (by omega) (x4 hm0).1 (by rw [(x4 hm0).2]; exact hle)
  have e3 : sigS ((nsC n ((2 * n + 1 : Nat) : Int) (nsR n kk) tms L sq).st nd nl steps []) = (nsC (n + 1) ((2 * n + 1 : Nat) : Int) (nsR n kk) tms L sq).st nd nl steps [] := by
   have e4 := tcH_succ n
   unfold sigS nsC
   simp only
   congr 1
  have e6 : mkC k n x.when x.has false (-1) ((nsC n ((2 * n + 1 : Nat) : Int) (nsR n kk) tms L sq).st nd nl steps []).chs.length = ⟨k.cs ++ [⟨(n : Int) + 1, false, some n, 0, 0, mn, true, false, -1⟩], n + 2⟩ := by
   show mkC k n x.when x.has false (-1) (tcH n).length = _
   rw [tcH_len, (x4 hm0).1, (x4 hm0).2]
   rfl
  rw [e3, e6] at h1
  exact h1
def nsMin (ks : List Int) : Int := ks.foldl (fun l k => if l = 0 ∨ k < l then k else l) 0
theorem nsMin_snoc (ks : List Int) (k : Int) : nsMin (ks ++ [k]) = if nsMin ks = 0 ∨ k < nsMin ks then k else nsMin ks := by
 unfold nsMin
 rw [List.foldl_append]
 rfl
theorem ns_chain (hlen : ks.length ≤ 6) (hks : ∀ x ∈ ks, 1 ≤ x ∧ x ≤ 100) : ∀ n, n ≤ ks.length → ∃ a k tms L sq, NsI n (nsMin (ks.take n)) k.cs tms L sq ∧ k.cut = n + 1 ∧ RunsTo [nsP ks] c0 k0 (2 * n) [] (nsC n ((2 * n : Nat) : Int) (nsR n a) tms L sq) k
 | 0, _ => by
  refine ⟨0, k0, [], [], 0, ?_, rfl, ?_⟩
  ·rw [List.take_zero]
   exact ns_zero
  ·exact RunsTo.zero
 | n + 1, hn => by
  have ih := ns_chain hlen hks n (Nat.le_of_succ_le hn)
  obtain ⟨a, k, tms, L, sq, h1, h2, h3⟩ := ih
  obtain ⟨kk, hk⟩ := get_of_lt (xs := ks) (k := n) (by omega)
  have hkk := hks kk (List.mem_of_getElem? hk)
  obtain ⟨k', tms', L', sq', g1, g2, g3⟩ := ns_dl h1 h2 (by omega) hk hkk
  refine ⟨kk, k', tms', L', sq', ?_, g2, ?_⟩
  ·rw [List.take_add_one, hk]
   show NsI (n + 1) (nsMin (ks.take n ++ [kk])) _ _ _ _
   rw [nsMin_snoc]
   exact g1
  ·have h4 := h3.append (RunsTo.cons (fun p => ns_set h1 (by omega) hk a p) (RunsTo.one g3))
   rw [show 2 * (n + 1) = 2 * n + (0 + 1 + 1) from by omega]
   exact h4
end
def nsRw (n : Nat) (a r3 r4 : Int) : Reg := ⟨0, n, a, r3, r4, 0, 0, 0⟩
def nsA (n : Nat) (a now : Int) (tms : List Tk) (L : List It) (sq : Int) : Cf := cfO now ⟨0, ((2 * n + 3 : Nat) : Int), 1, 0, nsRw n a ((n - 1 : Nat) : Int) 1, ⟨11, 3, 4, 5⟩⟩ [] (tcHw (n - 1)) tms L sq
section
variable {ks : List Int} {n : Nat} {mn a sq : Int} {k : Cs} {tms : List Tk} {L : List It}
theorem nsA_lim {now : Int} (h1 : n ≤ 6) (h2 : tms.length ≤ n) (h3 : sq = tms.length) (h4 : 0 ≤ now ∧ now ≤ 1000) : LimC (nsA n a now tms L sq) := cfO_lim (by simp) (by rw [tcHw_len]; omega) (by omega) (by omega) (by omega)
theorem ns_wait (h : NsI n mn k.cs tms L sq) (hn : 1 ≤ n ∧ n ≤ 6) (hk : ks.length = n) : RunsTo [nsP ks] (nsC n ((2 * n : Nat) : Int) (nsR n a) tms L sq) k 4 [mn] (nsA n a 0 tms L sq) k := by
 obtain ⟨x, x1, x2, x3, x4⟩ := h.lst
 obtain ⟨y, y1, y2, y3, y4, y5⟩ := h.kin n hn.1 (Nat.le_refl n)
 have hm := h.mz.2 hn.1
 have hm0 : mn ≠ 0 := by omega
 have hl : k.cs.length ≤ 60 := by rw [h.len]; omega
 have lim : ∀ pc r, LimC (nsC n pc r tms L sq) := fun pc r => nsC_lim hn.2 h.tl h.sq
 have e1 : ((2 * n : Nat) : Int) + 1 = ((2 * n + 1 : Nat) : Int) := by omega
 have e2 : ((2 * n + 1 : Nat) : Int) + 1 = ((2 * n + 2 : Nat) : Int) := by omega
 have e3 : ((2 * n + 2 : Nat) : Int) + 1 = ((2 * n + 3 : Nat) : Int) := by omega
 have ge : ∀ j : Nat, (nsP ks)[((2 * n + j : Nat) : Int).toNat]? = nsE[j]? := fun j => by rw [Int.toNat_natCast, ← hk]; exact nsP_end j
 have s1 : ∀ p, Rx [nsP ks] (nsC n ((2 * n : Nat) : Int) (nsR n a) tms L sq) k (.run p) [] (nsC n ((2 * n + 1 : Nat) : Int) (nsRw n a mn 1) tms L sq) k := fun p => by
  rw [← e1]
  refine Rx.ctx (ps := [nsP ks]) (n := p) (c := nsC n ((2 * n : Nat) : Int) (nsR n a) tms L sq) (k := k) (k2 := k) (i := 0) (x := ⟨0, ((2 * n : Nat) : Int), 0, 0, nsR n a, zI⟩) (p := nsP ks) (ins := ⟨30, 1, 3, 4⟩) (r2 := nsRw n a mn 1) (c2 := nsC n ((2 * n : Nat) : Int) (nsR n a) tms L sq) (lim _ _) (pick_one p 0) rfl rfl ⟨rfl, by simp, by show (0 : Int) ≤ ((2 * n : Nat) : Int); omega⟩ (ge 0) rfl (fun nd nl steps _ => ⟨nd, [], ?_, by omega, by simp, rfl⟩) rfl (by simp [nsC]) (by simp [nsC]) (by simp [nsC])
  have h1 := ActX.untl (s := (nsC n ((2 * n : Nat) : Int) (nsR n a) tms L sq).st nd nl steps []) (k := k) (a := 1) (bb := 3) (cc := 4) (i := n) (r := nsR n a) (y := x) (by omega) rfl x1 hl
  rw [(x4 hm0).1, (x4 hm0).2] at h1
  exact h1
 have s2 : ∀ p, Rx [nsP ks] (nsC n ((2 * n + 1 : Nat) : Int) (nsRw n a mn 1) tms L sq) k (.run p) [mn] (nsC n ((2 * n + 2 : Nat) : Int) (nsRw n a mn 1) tms L sq) k := fun p => by
  rw [← e2]
  exact Rx.told (ps := [nsP ks]) (n := p) (c := nsC n ((2 * n + 1 : Nat) : Int) (nsRw n a mn 1) tms L sq) (k := k) (i := 0) (x := ⟨0, ((2 * n + 1 : Nat) : Int), 0, 0, nsRw n a mn 1, zI⟩) (p := nsP ks) (O := ⟨((2 * n + 1 : Nat) : Int) + 1, nsRw n a mn 1, true, mn, false⟩) (lim _ _) (pick_one p 0) rfl rfl ⟨rfl, by simp, by show (0 : Int) ≤ ((2 * n + 1 : Nat) : Int); omega⟩ (by
   show locF (nsP ks) (((2 * n + 1 : Nat) : Int)).toNat _ _ = _
   rw [Int.toNat_natCast]
   refine locF_emit (a := 3) (z := 0) ?_ (by omega)
   have := ge 1
   rwa [Int.toNat_natCast] at this) rfl
 have s3 : ∀ p, Rx [nsP ks] (nsC n ((2 * n + 2 : Nat) : Int) (nsRw n a mn 1) tms L sq) k (.run p) [] (nsC n ((2 * n + 3 : Nat) : Int) (nsRw n a ((n - 1 : Nat) : Int) 1) tms L sq) k := fun p => by
  rw [← e3]
  refine Rx.ctx (ps := [nsP ks]) (n := p) (c := nsC n ((2 * n + 2 : Nat) : Int) (nsRw n a mn 1) tms L sq) (k := k) (k2 := k) (i := 0) (x := ⟨0, ((2 * n + 2 : Nat) : Int), 0, 0, nsRw n a mn 1, zI⟩) (p := nsP ks) (ins := ⟨29, 1, 3, 0⟩) (r2 := nsRw n a ((n - 1 : Nat) : Int) 1) (c2 := nsC n ((2 * n + 2 : Nat) : Int) (nsRw n a mn 1) tms L sq) (lim _ _) (pick_one p 0) rfl rfl ⟨rfl, by simp, by show (0 : Int) ≤ ((2 * n + 2 : Nat) : Int); omega⟩ (ge 2) rfl (fun nd nl steps _ => ⟨nd, [], ?_, by omega, by simp, rfl⟩) rfl (by simp [nsC]) (by simp [nsC]) (by simp [nsC])
  exact ActX.done (s := (nsC n ((2 * n + 2 : Nat) : Int) (nsRw n a mn 1) tms L sq).st nd nl steps []) (k := k) (a := 1) (bb := 3) (cc := 0) (i := n) (j := n - 1) (r := nsRw n a mn 1) (y := y) (q := (n - 1, sigC [])) (by omega) rfl y1 hl y2 (tcH_get (by omega))
 have s4 : ∀ p, Rx [nsP ks] (nsC n ((2 * n + 3 : Nat) : Int) (nsRw n a ((n - 1 : Nat) : Int) 1) tms L sq) k (.run p) [] (nsA n a 0 tms L sq) k := fun p => by
  refine Rx.park (ps := [nsP ks]) (n := p) (c := nsC n ((2 * n + 3 : Nat) : Int) (nsRw n a ((n - 1 : Nat) : Int) 1) tms L sq) (k := k) (c2 := cfO 0 ⟨0, ((2 * n + 3 : Nat) : Int), 0, 0, nsRw n a ((n - 1 : Nat) : Int) 1, zI⟩ [0] (tcHw (n - 1)) tms L sq) (i := 0) (x := ⟨0, ((2 * n + 3 : Nat) : Int), 0, 0, nsRw n a ((n - 1 : Nat) : Int) 1, zI⟩) (p := nsP ks) (ins := ⟨11, 3, 4, 5⟩) (lim _ _) (pick_one p 0) rfl rfl ⟨rfl, by simp, by show (0 : Int) ≤ ((2 * n + 3 : Nat) : Int); omega⟩ (ge 3) rfl (fun nd nl steps => ?_)
  have h4 : (tcH n)[((n - 1 : Nat) : Int).toNat]? = some (n - 1, sigC []) := by rw [Int.toNat_natCast]; exact tcH_get (by omega)
  show actRecv _ 0 ⟨11, 3, 4, 5⟩ (nsRw n a ((n - 1 : Nat) : Int) 1) = _
  unfold actRecv
  rw [if_pos ⟨⟨by simp, by simp⟩, ⟨by simp, by simp⟩, ⟨by simp, by simp⟩, by show (0 : Int) ≤ ((n - 1 : Nat) : Int); omega⟩]
  show (match (tcH n)[((n - 1 : Nat) : Int).toNat]? with | none => none | some q => _) = _
  rw [h4]
  show some (_, none) = some (_, none)
  rw [show (Reg.get (nsRw n a ((n - 1 : Nat) : Int) 1) (Int.toNat 3)).toNat = n - 1 from Int.toNat_natCast (n - 1)]
  congr 2
  show ({ now := _, ts := _, rd := _, chs := (tcH n).set (n - 1) _, made := _, tms := _, named := _, L := _, sq := _, nd := _, nl := _, steps := _, ev := _ } : Wst) = _
  unfold tcHw
  rw [show n - 1 + 1 = n from by omega]
  rfl
 exact RunsTo.cons s1 (RunsTo.cons s2 (RunsTo.cons s3 (RunsTo.one s4)))
theorem ns_first (hlen : 1 ≤ ks.length ∧ ks.length ≤ 6) (hks : ∀ x ∈ ks, 1 ≤ x ∧ x ≤ 100) : ∃ a k tms L sq, NsI ks.length (nsMin ks) k.cs tms L sq ∧ k.cut = ks.length + 1 ∧ RunsTo [nsP ks] c0 k0 ((nsP ks).length + 2) [nsMin ks] (nsA ks.length a 0 tms L sq) k := by
 obtain ⟨a, k, tms, L, sq, h1, h2, h3⟩ := ns_chain hlen.2 hks ks.length (Nat.le_refl _)
 rw [List.take_length] at h1
 have h4 := (h3.append (ns_wait (a := a) h1 hlen rfl)).append (RunsTo.idle (ps := [nsP ks]) (k := k) (nsA_lim (a := a) (L := L) hlen.2 h1.tl h1.sq (by omega : (0 : Int) ≤ 0 ∧ (0 : Int) ≤ 1000)) rfl 6)
 refine ⟨a, k, tms, L, sq, h1, h2, ?_⟩
 rw [nsP_len, show 2 * ks.length + 8 + 2 = 2 * ks.length + 4 + 6 from by omega]
 exact h4
end
end Go.Proofs.YtjnkphhlkoapbaaGreat
