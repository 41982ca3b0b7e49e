/-
  Contract of deal.Sound where all deals are of one channel.
-/
import Derived.Test.YtninfnpecgpfhaaDlD
import Derived.Test.YtninfnpecgpfhaaMapI
import Derived.Test.YtninfnpecgpfhaaQ
namespace Go.Proofs.Ytninfnpecgpfhaa
open Go.RowKit
set_option linter.unusedVariables false
set_option linter.unusedSimpArgs false

/-- One deal more, through a queue of that room. -/
def soundStep (cap : Int) (q : List Int) (d : DealT) : Option (List Int) :=
  if d.got = false then (if cap < (q.length : Int) then none else some (q ++ [d.value]))
  else match q with
    | [] => none
    | x :: l => if x ≠ d.value ∨ cap < (l.length : Int) then none else some l
def soundQ (cap : Int) (ds : List DealT) : Option (List Int) := ds.foldl (fun s d => s.bind fun q => soundStep cap q d) (some [])
theorem soundQ_snoc (cap : Int) (ds : List DealT) (d : DealT) : soundQ cap (ds ++ [d]) = (soundQ cap ds).bind fun q => soundStep cap q d := by unfold soundQ; simp [List.foldl_append]
theorem soundQ_none (cap : Int) (ds es : List DealT) (h : soundQ cap ds = none) : soundQ cap (ds ++ es) = none := by
  induction es generalizing ds with
  | nil => simpa using h
  | cons d es ih =>
    have := ih (ds ++ [d]) (by rw [soundQ_snoc, h]; rfl)
    simpa using this
theorem soundQ_fails {cap : Int} {ds : List DealT} {k : Nat} {q : List Int} {d : DealT} (h : soundQ cap (ds.take k) = some q) (hd : ds[k]? = some d) (hs : soundStep cap q d = none) : soundQ cap ds = none := by
  have h1 : soundQ cap (ds.take (k + 1)) = none := by rw [take_snoc hd, soundQ_snoc, h]; exact hs
  have h2 := soundQ_none cap _ (ds.drop (k + 1)) h1
  rwa [List.take_append_drop] at h2
theorem soundQ_goes {cap : Int} {ds : List DealT} {k : Nat} {q q' : List Int} {d : DealT} (h : soundQ cap (ds.take k) = some q) (hd : ds[k]? = some d) (hs : soundStep cap q d = some q') : soundQ cap (ds.take (k + 1)) = some q' := by
  rw [take_snoc hd, soundQ_snoc, h]; exact hs
theorem soundQ_len {cap : Int} {ds : List DealT} {q : List Int} (h : soundQ cap ds = some q) : q.length ≤ ds.length := by
  suffices H : ∀ (n : Nat) (ds : List DealT) (q : List Int), ds.length = n → soundQ cap ds = some q → q.length ≤ n by exact H _ ds q rfl h
  clear h q ds
  intro n
  induction n with
  | zero =>
    intro ds q hn h
    obtain rfl := List.eq_nil_of_length_eq_zero hn
    simp [soundQ] at h; subst h; simp
  | succ n ih =>
    intro ds q hn h
    rcases List.eq_nil_or_concat ds with rfl | ⟨ds, d, rfl⟩
    · simp at hn
    simp only [List.concat_eq_append, List.length_append, List.length_singleton] at hn
    rw [List.concat_eq_append, soundQ_snoc] at h
    cases hq : soundQ cap ds with
    | none => rw [hq] at h; cases h
    | some q0 =>
      rw [hq] at h
      have := ih ds q0 (by omega) hq
      simp only [Option.bind_some, soundStep] at h
      split at h
      · split at h
        · cases h
        · obtain rfl := Option.some.inj h
          simp; omega
      · split at h
        · cases h
        · split at h
          · cases h
          · obtain rfl := Option.some.inj h
            simp at this; omega
/-- Is a row of deals of one channel sound? -/
def soundF (cap : Int) (ds : List DealT) : Bool := (soundQ cap ds).isSome

/-- The room of channel c that the map 'm' tells, in whatever world that has only new blocks besides. -/
def CapIs (w : World) (m : Value) (c cap : Int) : Prop := ∀ w', Made w w' → (Instr.lookup 28 m (.int .i64 c) false).run Try.prog w' = .ok (.int .i64 cap) w'

theorem Try.zeroQ (w : World) : (zeroValue 25).run Try.prog w = .ok (.slice none 0 0) w := by kernel_rfl
theorem Try.zeroI (w : World) : (zeroValue 3).run Try.prog w = .ok (.int .i64 0) w := by kernel_rfl

theorem capIs_map {w : World} {b : Nat} {f : Int → Option Value} (h : MapI w b f) {c cap : Int} (hf : (f c).getD (.int .i64 0) = .int .i64 cap) : CapIs w (.map (some b)) c cap := by
  intro w' hm
  have := (h.turns hm (fun h => h)).look (P := Try.prog) Try.underlying28 Try.underlying3 (Try.zeroI w') c false
  simp only [Bool.false_eq_true, if_false] at this
  rw [hf] at this
  exact this
theorem capIs_nil (w : World) (c : Int) : CapIs w (.map none) c 0 := by
  intro w' hm
  have := look_nil (P := Try.prog) Try.underlying28 Try.underlying3 (Try.zeroI w') c false
  simpa using this
theorem CapIs.made {w w' : World} {m : Value} {c cap : Int} (h : CapIs w m c cap) (hm : Made w w') : CapIs w' m c cap := fun w2 h2 => h w2 (Turns.trans hm h2)

set_option maxHeartbeats 4000000 in
set_option maxRecDepth 100000 in
theorem sound_c (a : Option Addr) (len cp : Nat) (ds : List DealT) (m : Value) (c cap : Int) (w : World) (ha : RowIn encD 5 w a len ds) (hn : len ≤ 1000) (hall : ∀ d ∈ ds, d.ch = c) (h0 : 0 ≤ cap) (h1 : cap ≤ 1000) (hcap : CapIs w m c cap) :
    Calls Try.prog 7 #[.slice a len cp, m] w fun e w' => e = .returned (.bool (soundF cap ds)) ∧ Made w w' := by
  obtain ⟨r, hr⟩ : ∃ r, soundF cap ds = r := ⟨_, rfl⟩
  rw [hr]
  obtain ⟨i0, hi0, hz0, hz1, hz2⟩ := info_parts Try.infoI
  obtain ⟨hla, ha⟩ := ha
  have HL := Lib.hid hla
  have HR := Lib.hid hr
  have HA := Lib.hid hall
  have HC := Lib.hid hcap
  clear hla hr hall hcap
  have hmm := @run_makeMap Try.prog
  rcases ha with hz | ⟨b, off, rfl, hblt, hlies⟩
  all_goals
    go_enter Try.func7, Try.ntmps7
    go_wp2_with fail
    go_loopw [12] (fun v12 wr => ∃ (k : Nat) (q : List Int) (f : Int → Option Value) (v : Value), k ≤ len ∧ v12 = .int .i64 k ∧ soundQ cap (ds.take k) = some q ∧ MapI wr w.heap.size f ∧ (f c).getD (.slice none 0 0) = v ∧ OwnQ wr (w.heap.size + 1) v q ∧ Made w wr) (fun v12 _ => len - (intOf v12).toNat)
    case atStart => exact ⟨0, [], _, _, Nat.zero_le _, rfl, rfl, MapI.new w, rfl, OwnQ.none_ _ _, (Turns.refl _ _).alloc _⟩
    case round =>
      obtain ⟨k, q, f, v, hk, rfl, hq, hmap, hv, hown, hmade⟩ := hrel
      have HQ := Lib.hid hq
      have HM := Lib.hid hmap
      have HV := Lib.hid hv
      have HO := Lib.hid hown
      have HT := Lib.hid hmade
      clear hq hmap hv hown hmade
      by_cases hlt : k < len
      · first
        | omega
        | (
          obtain ⟨d, hd⟩ := get_of_lt (xs := ds) (k := k) (by rw [HL.out]; exact hlt)
          have hch := HA.out d (List.mem_of_getElem? hd)
          have hl1 : Lies encD 5 wr b off ds := hlies.keep fun o => HT.out.cell (p := ⟨b, o, none⟩) hblt (fun h => h)
          have c0 : wr.cell? ⟨b, off + k * 5, none⟩ = some (.int .i64 c) := by rw [← hch]; exact hl1 k d hd 0 _ rfl
          have c1 : wr.cell? ⟨b, off + k * 5 + 1, none⟩ = some (.int .i64 d.task) := hl1 k d hd 1 _ rfl
          have c2 : wr.cell? ⟨b, off + k * 5 + 2, none⟩ = some (.int .i64 d.value) := hl1 k d hd 2 _ rfl
          have c3 : wr.cell? ⟨b, off + k * 5 + 3, none⟩ = some (.bool d.got) := hl1 k d hd 3 _ rfl
          have c4 : wr.cell? ⟨b, off + k * 5 + 4, none⟩ = some (.int .i64 d.at_) := hl1 k d hd 4 _ rfl
          have HD := Lib.hid hd
          clear hl1 hch hd
          cases hg : d.got with
          | false =>
            rw [hg] at c3
            have HG := Lib.hid hg
            clear hg
            have hql := soundQ_len HQ.out
            rw [List.length_take] at hql
            have hql' : q.length ≤ 1000 := by omega
            clear hql
            have hw1 := HT.out.size
            go_wp2_with (first
              | (at_lookup; refine wpList_look _ rfl _ _ 40 false rfl 3 25 Try.underlying40 Try.underlying3 _ (Try.zeroQ _) w.heap.size f rfl (HM.out.alloc _) c rfl ?_; simp only [Bool.false_eq_true, if_false]; rw [HV.out])
              | (at_builtin; refine wpList_push _ rfl (.tmp 23) (.tmp 26) 25 rfl (w.heap.size + 1) i0 Try.underlying25 hi0 hz0 hz1 hz2 v q rfl ((HO.out.alloc _).alloc _) ⟨wr.heap.size + 1, 0, none⟩ 1 d.value rfl ?c1 ?c2 ?c3 ?_))
            case c1 => simp
            case c2 => omega
            case c3 => have := HM.out.lt; simp; omega
            intro v' w3 hown hgrow hloc
            have hform := hown.form
            have HO3 := Lib.hid hown
            have HG3 := Lib.hid hgrow
            have HL3 := Lib.hid hloc
            clear hown hgrow hloc
            obtain ⟨av, cv, rfl, hlc, hcm, -, -⟩ := hform
            rw [List.length_append, List.length_singleton] at *
            have hm3 : Made w w3 := ((HT.out.alloc _).alloc _).grown HG3.out (fun b' hb' hlt' => by have := (HO.out.lt b' hb').1; omega)
            have hmap3 : MapI w3 w.heap.size f := by
              refine ((HM.out.alloc _).alloc _).turns (S := fun b' => v.ownBlock = some b') ((Turns.refl _ _).grown HG3.out (fun b' hb' _ => hb')) (fun hb' => ?_)
              have := (HO.out.lt _ hb').1
              omega
            have hb0 : w3.cell? ⟨wr.heap.size, 0, none⟩ = some (.int .i64 c) := by
              rw [HG3.out.cell_far ⟨wr.heap.size, 0, none⟩ (by simp; omega) (fun e => by have := (HO.out.lt _ e.symm).2; simp at this)]
              exact ((Blk.new wr 27 _).alloc _).cell 0
            have HM3 := Lib.hid hm3
            have HP3 := Lib.hid hmap3
            clear hm3 hmap3
            by_cases hf : cap < (q.length : Int)
            · have hst : soundStep cap q d = none := by unfold soundStep; rw [if_pos HG.out, if_pos hf]
              have hrf : r = false := by rw [← HR.out]; unfold soundF; rw [soundQ_fails HQ.out HD.out hst]; rfl
              subst hrf
              clear hst
              go_wp2_with (at_lookup; refine wpList_lookrun _ rfl _ _ 28 false rfl m (.int .i64 c) (.int .i64 cap) rfl rfl (HC.out _ HM3.out) ?_)
              go_ret
              exact ⟨rfl, HM3.out⟩
            · have hst : soundStep cap q d = some (q ++ [d.value]) := by unfold soundStep; rw [if_pos HG.out, if_neg hf]
              have HS := Lib.hid (soundQ_goes HQ.out HD.out hst)
              clear hst
              go_wp2_with (first
                | (at_lookup; refine wpList_lookrun _ rfl _ _ 28 false rfl m (.int .i64 c) (.int .i64 cap) rfl rfl (HC.out _ HM3.out) ?_)
                | (at_mapUpdate; refine wpList_store _ rfl _ _ _ 40 rfl 3 25 Try.underlying40 Try.underlying3 w.heap.size f rfl HP3.out c rfl _ rfl ?_))
              intro w4 hmap4 ht4 hsz4
              go_wp2_with fail
              go_roundw
              case rel => exact ⟨k + 1, q ++ [d.value], _, _, by omega, by go_num, HS.out, hmap4, by simp, HO3.out.turns ht4 (fun b' hb' e => by have := (HO3.out.lt b' hb').1; omega), Turns.then HM3.out ht4 (fun b' h1 e => by omega)⟩
              case measure => simp [intOf]; omega
          | true =>
            rw [hg] at c3
            have HG := Lib.hid hg
            clear hg
            have hql := soundQ_len HQ.out
            rw [List.length_take] at hql
            have hql' : q.length ≤ 1000 := by omega
            clear hql
            have hw1 := HT.out.size
            have HLk := Lib.hid (fun (o : Obj) (n : Nat) => HC.out ((wr.alloc o).drewN n) ((HT.out.alloc o).drewN n))
            cases q with
            | nil =>
              have hform := HO.out.form
              obtain ⟨av, cv, rfl, hlc, hcm, -, -⟩ := hform
              have hst : soundStep cap [] d = none := by unfold soundStep; rw [if_neg (by rw [HG.out]; simp)]
              have hrf : r = false := by rw [← HR.out]; unfold soundF; rw [soundQ_fails HQ.out HD.out hst]; rfl
              subst hrf
              clear hst
              simp only [List.length_nil] at *
              go_wp2_with (at_lookup; refine wpList_look _ rfl _ _ 40 false rfl 3 25 Try.underlying40 Try.underlying3 _ (Try.zeroQ _) w.heap.size f rfl (HM.out.alloc _) c rfl ?_; simp only [Bool.false_eq_true, if_false]; rw [HV.out])
              go_quiet (fail)
              go_wp2_with fail
              go_ret
              exact ⟨rfl, (HT.out.alloc _).drewN _⟩
            | cons x l =>
              have hll : l.length ≤ 1000 := by simp only [List.length_cons] at hql'; omega
              obtain ⟨g, off', cv, hve, hlc, hcm, hcell, hglt, hgB⟩ := HO.out.head
              subst hve
              unfold maxLen at hcm
              have hne : ((l.length : Int) + 1 == 0) = false := beq_eq_false_iff_ne.mpr (by omega)
              have hgb : ¬ g = wr.heap.size := by omega
              have hgb' : ¬ wr.heap.size = g := by omega
              by_cases hx : x = d.value
              · subst hx
                have hxb : (d.value != d.value) = false := by simp
                by_cases hf : cap < (l.length : Int)
                · have hst : soundStep cap (d.value :: l) d = none := by unfold soundStep; rw [if_neg (by rw [HG.out]; simp)]; simp only; rw [if_pos (.inr hf)]
                  have hrf : r = false := by rw [← HR.out]; unfold soundF; rw [soundQ_fails HQ.out HD.out hst]; rfl
                  subst hrf
                  clear hst
                  have hlk := fun n => HLk.out (.cells #[.int .i64 c, .int .i64 d.task, .int .i64 d.value, .bool true, .int .i64 d.at_] 27) n
                  go_wp2_with (at_lookup; refine wpList_look _ rfl _ _ 40 false rfl 3 25 Try.underlying40 Try.underlying3 _ (Try.zeroQ _) w.heap.size f rfl (HM.out.alloc _) c rfl ?_; simp only [Bool.false_eq_true, if_false]; rw [HV.out])
                  go_quiet (fail)
                  go_wp2_with fail
                  go_ret
                  exact ⟨rfl, (HT.out.alloc _).drewN _⟩
                · have hst : soundStep cap (d.value :: l) d = some l := by unfold soundStep; rw [if_neg (by rw [HG.out]; simp)]; simp only; rw [if_neg (by simp; omega)]
                  have HS := Lib.hid (soundQ_goes HQ.out HD.out hst)
                  clear hst
                  have hlk := fun n => HLk.out (.cells #[.int .i64 c, .int .i64 d.task, .int .i64 d.value, .bool true, .int .i64 d.at_] 27) n
                  by_cases hcv : cv = 1
                  · obtain rfl : l = [] := List.eq_nil_of_length_eq_zero (by omega)
                    subst hcv
                    simp only [List.length_nil] at *
                    go_wp2_with (at_lookup; refine wpList_look _ rfl _ _ 40 false rfl 3 25 Try.underlying40 Try.underlying3 _ (Try.zeroQ _) w.heap.size f rfl (HM.out.alloc _) c rfl ?_; simp only [Bool.false_eq_true, if_false]; rw [HV.out])
                    go_quiet (fail)
                    rename_i nq
                    have hbx : ((wr.alloc (.cells #[.int .i64 c, .int .i64 d.task, .int .i64 d.value, .bool true, .int .i64 d.at_] 27)).drewN nq).cell? ⟨wr.heap.size, 0, none⟩ = some (.int .i64 c) := (Blk.new wr 27 _).cell 0
                    have hM : MapI ((wr.alloc (.cells #[.int .i64 c, .int .i64 d.task, .int .i64 d.value, .bool true, .int .i64 d.at_] 27)).drewN nq) w.heap.size f := HM.out.alloc _
                    have hO : OwnQ ((wr.alloc (.cells #[.int .i64 c, .int .i64 d.task, .int .i64 d.value, .bool true, .int .i64 d.at_] 27)).drewN nq) (w.heap.size + 1) _ _ := HO.out.alloc _
                    have hT : Made w ((wr.alloc (.cells #[.int .i64 c, .int .i64 d.task, .int .i64 d.value, .bool true, .int .i64 d.at_] 27)).drewN nq) := (HT.out.alloc _).drewN _
                    generalize (wr.alloc (.cells #[.int .i64 c, .int .i64 d.task, .int .i64 d.value, .bool true, .int .i64 d.at_] 27)).drewN nq = W at *
                    obtain ⟨w5, hrun, hm5, ht5, hsz5⟩ := MapI.store (P := Try.prog) (w := W.drew) (b := w.heap.size) (f := f) hM Try.underlying40 Try.underlying3 c (.slice (some ⟨g, off', none⟩) 0 0)
                    have HM5 := Lib.hid hm5
                    have HT5 := Lib.hid ht5
                    have HO5 := Lib.hid hO
                    have HTT := Lib.hid hT
                    clear hlk hM hO hT hm5 ht5 hsz5
                    go_wp2_with fail
                    go_region
                    go_wp2_with fail
                    go_roundw
                    case rel => exact ⟨k + 1, [], _, _, by omega, by go_num, HS.out, HM5.out, by simp, OwnQ.turns (OwnQ.drew ((OwnQ.tail_end (l := []) HO5.out rfl))) HT5.out (fun b' hb' e => by simp [Value.ownBlock] at hb'; omega), Turns.then HTT.out.drew HT5.out (fun b' h1 e => by omega)⟩
                    case measure => simp [intOf]; omega
                  · go_wp2_with (at_lookup; refine wpList_look _ rfl _ _ 40 false rfl 3 25 Try.underlying40 Try.underlying3 _ (Try.zeroQ _) w.heap.size f rfl (HM.out.alloc _) c rfl ?_; simp only [Bool.false_eq_true, if_false]; rw [HV.out])
                    go_quiet (fail)
                    rename_i nq
                    have hbx : ((wr.alloc (.cells #[.int .i64 c, .int .i64 d.task, .int .i64 d.value, .bool true, .int .i64 d.at_] 27)).drewN nq).cell? ⟨wr.heap.size, 0, none⟩ = some (.int .i64 c) := (Blk.new wr 27 _).cell 0
                    have hM : MapI ((wr.alloc (.cells #[.int .i64 c, .int .i64 d.task, .int .i64 d.value, .bool true, .int .i64 d.at_] 27)).drewN nq) w.heap.size f := HM.out.alloc _
                    have hO : OwnQ ((wr.alloc (.cells #[.int .i64 c, .int .i64 d.task, .int .i64 d.value, .bool true, .int .i64 d.at_] 27)).drewN nq) (w.heap.size + 1) _ _ := HO.out.alloc _
                    have hT : Made w ((wr.alloc (.cells #[.int .i64 c, .int .i64 d.task, .int .i64 d.value, .bool true, .int .i64 d.at_] 27)).drewN nq) := (HT.out.alloc _).drewN _
                    generalize (wr.alloc (.cells #[.int .i64 c, .int .i64 d.task, .int .i64 d.value, .bool true, .int .i64 d.at_] 27)).drewN nq = W at *
                    obtain ⟨w5, hrun, hm5, ht5, hsz5⟩ := MapI.store (P := Try.prog) (w := W.drew) (b := w.heap.size) (f := f) hM Try.underlying40 Try.underlying3 c (.slice (some ⟨g, off' + 1, none⟩) l.length (cv - 1))
                    have HM5 := Lib.hid hm5
                    have HT5 := Lib.hid ht5
                    have HO5 := Lib.hid hO
                    have HTT := Lib.hid hT
                    clear hlk hM hO hT hm5 ht5 hsz5
                    go_wp2_with fail
                    go_region
                    go_wp2_with fail
                    go_roundw
                    case rel => exact ⟨k + 1, l, _, _, by omega, by go_num, HS.out, HM5.out, by simp, OwnQ.turns (OwnQ.drew (HO5.out.tail)) HT5.out (fun b' hb' e => by simp [Value.ownBlock] at hb'; omega), Turns.then HTT.out.drew HT5.out (fun b' h1 e => by omega)⟩
                    case measure => simp [intOf]; omega
              · have hxb : (x != d.value) = true := by simp [hx]
                have hst : soundStep cap (x :: l) d = none := by unfold soundStep; rw [if_neg (by rw [HG.out]; simp)]; simp only; rw [if_pos (.inl hx)]
                have hrf : r = false := by rw [← HR.out]; unfold soundF; rw [soundQ_fails HQ.out HD.out hst]; rfl
                subst hrf
                clear hst
                go_wp2_with (at_lookup; refine wpList_look _ rfl _ _ 40 false rfl 3 25 Try.underlying40 Try.underlying3 _ (Try.zeroQ _) w.heap.size f rfl (HM.out.alloc _) c rfl ?_; simp only [Bool.false_eq_true, if_false]; rw [HV.out])
                go_quiet (fail)
                go_wp2_with fail
                go_ret
                exact ⟨rfl, (HT.out.alloc _).drewN _⟩)
      · have hke : k = len := by omega
        have hrt : r = true := by
          rw [← HR.out]
          unfold soundF
          have := HQ.out
          rw [hke, ← HL.out, List.take_length] at this
          rw [this]
          rfl
        subst hrt
        clear hke
        go_wp2_with fail
        go_ret
        exact ⟨rfl, HT.out⟩
end Go.Proofs.Ytninfnpecgpfhaa
