/- Contract: homomorphism.Check, no variable fixed. -/
import Derived.Test.YtiahaofjmcjdiaaDoorHm
namespace Go.Proofs.YtiahaofjmcjdiaaDoor
open Go.RowKit Go.Maps

def keyS (ng : Bool) (rl : ByteArray) (ts : List Tm) : ByteArray := ⟨(keyB ng rl ts).toArray⟩
def At.keyS (a : At) : ByteArray := Go.Proofs.YtiahaofjmcjdiaaDoor.keyS a.neg a.rel a.terms
def repA (im : ByteArray → Option Tm) (a : At) : At := ⟨a.neg, a.rel, a.terms.map (repT im)⟩
def SeenI (ps : List (ByteArray × Tm)) (vs : List ByteArray) (i : Nat) : Prop := ∀ v ∈ vs.take i, (firstP ps v).isSome = true
theorem SeenI.step {ps : List (ByteArray × Tm)} {vs : List ByteArray} {i : Nat} (h : SeenI ps vs i) (hi : i < vs.length) (h1 : (firstP ps vs[i]).isSome = true) : SeenI ps vs (i + 1) := by
  intro v hv
  rw [List.take_succ_eq_append_getElem hi, List.mem_append] at hv
  rcases hv with hv | hv
  · exact h v hv
  · simp at hv; rw [hv]; exact h1
def HitI (ps : List (ByteArray × Tm)) (xs ys : List At) (i : Nat) : Prop := ∀ a ∈ xs.take i, (repA (firstP ps) a).keyS ∈ ys.map At.keyS
theorem HitI.step {ps : List (ByteArray × Tm)} {xs ys : List At} {i : Nat} (h : HitI ps xs ys i) (hi : i < xs.length) (h1 : (repA (firstP ps) xs[i]).keyS ∈ ys.map At.keyS) : HitI ps xs ys (i + 1) := by
  intro v hv
  rw [List.take_succ_eq_append_getElem hi, List.mem_append] at hv
  rcases hv with hv | hv
  · exact h v hv
  · simp at hv; rw [hv]; exact h1
/-- What the contracts below want of atoms. -/
structure AOk (xs : List At) : Prop where
  bd : Bd xs
  small : ∀ a ∈ xs, a.terms.length ≤ 1000
  terms : ∀ a ∈ xs, ∀ t ∈ a.terms, TOk t
theorem keyS_size {ng : Bool} {rl : ByteArray} {ts : List Tm} (hl : ts.length ≤ 1000) (hr : rl.size ≤ 1048576) (ht : ∀ t ∈ ts, TOk t) : (keyS ng rl ts).size ≤ maxLen := by
  have h1 := textB_len hr
  have h2 := terms_len ht
  have h3 : (boolT ng).length ≤ 5 := by cases ng <;> decide
  have e : (keyS ng rl ts).size = (keyB ng rl ts).length := by show (keyB ng rl ts).toArray.size = _; simp
  rw [e, keyB]
  simp only [List.length_append, maxLen]
  omega
theorem repT_ok {im : ByteArray → Option Tm} (him : ∀ s t, im s = some t → TOk t) {t : Tm} (h : TOk t) : TOk (repT im t) := by
  unfold repT
  split
  · exact h
  · rcases hi : im t.var with _ | u
    · exact h
    · exact him _ _ hi
def checkB (xs ys : List At) (ps : List (ByteArray × Tm)) : Bool :=
  decide (ps.length = (varsT (allT xs)).length) && (varsT (allT xs)).all (fun v => (firstP ps v).isSome) && xs.all (fun a => decide ((repA (firstP ps) a).keyS ∈ ys.map At.keyS))
theorem checkB_len {xs ys : List At} {ps : List (ByteArray × Tm)} (h : ps.length ≠ (varsT (allT xs)).length) : checkB xs ys ps = false := by simp [checkB, h]
theorem checkB_var {xs ys : List At} {ps : List (ByteArray × Tm)} {v : ByteArray} (hv : v ∈ varsT (allT xs)) (h : firstP ps v = none) : checkB xs ys ps = false := by
  have : (varsT (allT xs)).all (fun v => (firstP ps v).isSome) = false := List.all_eq_false.2 ⟨v, hv, by simp [h]⟩
  unfold checkB; rw [this]; simp
theorem checkB_atom {xs ys : List At} {ps : List (ByteArray × Tm)} {a : At} (ha : a ∈ xs) (h : (repA (firstP ps) a).keyS ∉ ys.map At.keyS) : checkB xs ys ps = false := by
  have : xs.all (fun a => decide ((repA (firstP ps) a).keyS ∈ ys.map At.keyS)) = false := List.all_eq_false.2 ⟨a, ha, by simp only [decide_eq_true_eq]; exact h⟩
  unfold checkB; rw [this]; simp
theorem checkB_all {xs ys : List At} {ps : List (ByteArray × Tm)} (h1 : ps.length = (varsT (allT xs)).length) (h2 : ∀ v ∈ varsT (allT xs), (firstP ps v).isSome = true) (h3 : ∀ a ∈ xs, (repA (firstP ps) a).keyS ∈ ys.map At.keyS) : checkB xs ys ps = true := by
  have e2 : (varsT (allT xs)).all (fun v => (firstP ps v).isSome) = true := List.all_eq_true.2 h2
  have e3 : xs.all (fun a => decide ((repA (firstP ps) a).keyS ∈ ys.map At.keyS)) = true := List.all_eq_true.2 (fun a ha => decide_eq_true (h3 a ha))
  unfold checkB; rw [decide_eq_true h1, e2, e3]; rfl

set_option maxRecDepth 100000 in
set_option maxHeartbeats 3200000 in
theorem check_good {F G H : Nat → Prop} {w : World} {svF svT vm : Value} {AF AT : Option Addr} {ccF ccT : Nat} {xs ys : List At} {ps : List (ByteArray × Tm)} (hF : Ats F w svF xs) (hT : Ats G w svT ys) (hM : Prs H w vm ps) (hax : AOk xs) (hay : AOk ys) (hpx : Hid (hpureB xs 0 = true)) (hpy : Hid (hpureB ys 0 = true))
    (hps : Hid (∀ p ∈ ps, p.1.size ≤ maxLen)) (hpl : ps.length ≤ 1000000) (htab : TabE w) (hvs : Hid (∀ v ∈ varsT (allT xs), v.size ≤ maxLen)) (him : Hid (∀ s t, firstP ps s = some t → TOk t)) :
    Calls Tryd.prog 18 #[.agg #[svF, .slice AF 0 ccF], .agg #[svT, .slice AT 0 ccT], .slice none 0 0, vm] w (Ret (fun x _ => x = .bool (checkB xs ys ps)) w) := by
  have HF := Lib.hid hF; have HT := Lib.hid hT; have HM := Lib.hid hM; have HAX := Lib.hid hax; have HAY := Lib.hid hay; have HTAB := Lib.hid htab
  obtain ⟨A1, c1, n1, h1, hn1⟩ : ∃ A c n, svF = .slice A n c ∧ n = xs.length := by obtain ⟨A, c, vs, hv, _⟩ := hF; exact ⟨A, c, _, hv, rfl⟩
  obtain ⟨A2, c2, n2, h2, hn2⟩ : ∃ A c n, svT = .slice A n c ∧ n = ys.length := by obtain ⟨A, c, vs, hv, _⟩ := hT; exact ⟨A, c, _, hv, rfl⟩
  obtain ⟨A3, c3, n3, h3, hn3⟩ : ∃ A c n, vm = .slice A n c ∧ n = ps.length := by obtain ⟨A, c, hv, _⟩ := hM; exact ⟨A, c, _, hv, rfl⟩
  subst h1 h2 h3
  rw [← hn3] at hpl
  have hl1 : n1 ≤ 1048576 := by rw [hn1]; exact hax.bd.len
  have hl2 : n2 ≤ 1048576 := by rw [hn2]; exact hay.bd.len
  have HN1 := Lib.hid hn1; have HN2 := Lib.hid hn2; have HN3 := Lib.hid hn3
  clear hF hT hM hax hay htab hn1 hn2 hn3
  have hmk := @run_makeMap Tryd.prog
  go_enter Tryd.func18, Tryd.ntmps18
  go_wp2_with fail
  have hx : Ext w ((w.alloc (.cells #[.slice A1 n1 c1, .slice AF 0 ccF] 25)).alloc (.cells #[.slice A2 n2 c2, .slice AT 0 ccT] 25)) := ((Ext.refl w).alloc _).alloc _
  have kf : Bk ((w.alloc (.cells #[.slice A1 n1 c1, .slice AF 0 ccF] 25)).alloc (.cells #[.slice A2 n2 c2, .slice AT 0 ccT] 25)) w.heap.size 25 [.slice A1 n1 c1, .slice AF 0 ccF] := (Bk.new w _ [.slice A1 n1 c1, .slice AF 0 ccF]).alloc _
  have kt : Bk ((w.alloc (.cells #[.slice A1 n1 c1, .slice AF 0 ccF] 25)).alloc (.cells #[.slice A2 n2 c2, .slice AT 0 ccT] 25)) (w.heap.size + 1) 25 [.slice A2 n2 c2, .slice AT 0 ccT] := by
    have h := Bk.new (w.alloc (.cells #[.slice A1 n1 c1, .slice AF 0 ccF] 25)) 25 [.slice A2 n2 c2, .slice AT 0 ccT]
    rw [show (w.alloc (.cells #[.slice A1 n1 c1, .slice AF 0 ccF] 25)).heap.size = w.heap.size + 1 by simp] at h
    exact h
  generalize ((w.alloc (.cells #[.slice A1 n1 c1, .slice AF 0 ccF] 25)).alloc (.cells #[.slice A2 n2 c2, .slice AT 0 ccT] 25)) = w1 at *
  refine (hpure_any (HF.out.ext hx) HAX.out.bd.len HAX.out.bd.all).mono ?_
  rintro e w2 ⟨y, rfl, he2, rfl⟩
  rw [hpx.out]
  replace hx := hx.trans he2
  replace kf := kf.ext he2
  replace kt := kt.ext he2
  have b0 := kt.cell (i := 0) (by simp)
  have b1 := kt.cell (i := 1) (by simp)
  simp only [List.getElem_cons_zero, List.getElem_cons_succ] at b0 b1
  clear he2
  go_wp2_with fail
  refine (hpure_any (HT.out.ext hx) HAY.out.bd.len HAY.out.bd.all).mono ?_
  rintro e w3 ⟨y, rfl, he3, rfl⟩
  rw [hpy.out]
  replace hx := hx.trans he3
  replace kf := kf.ext he3
  replace kt := kt.ext he3
  clear he3 b0 b1
  go_wp2_with fail
  refine (first_any (HM.out.ext hx) (by rw [← HN3.out]; omega) hps.out).mono ?_
  rintro e w4 ⟨rfl, he4, n4, hn4, hm4⟩
  have hw3 := hx.size
  obtain ⟨bi, hbi⟩ : ∃ bi, bi = w3.heap.size := ⟨_, rfl⟩
  rw [← hbi] at hm4 hw3 ⊢
  replace hx := hx.trans he4
  replace kf := kf.ext he4
  replace kt := kt.ext he4
  have a0 := kf.cell (i := 0) (by simp)
  have a1 := kf.cell (i := 1) (by simp)
  simp only [List.getElem_cons_zero, List.getElem_cons_succ] at a0 a1
  have HM4 := Lib.hid hm4
  clear he4 hm4 hbi
  go_wp2_with fail
  refine (vars_any (HF.out.ext hx) HAX.out.bd).mono ?_
  rintro e w5 ⟨v5, rfl, he5, hr5⟩
  obtain ⟨A5, c5, rfl⟩ := own_slice hr5
  replace hx := hx.trans he5
  replace kf := kf.ext he5
  replace kt := kt.ext he5
  have HM5 := Lib.hid (HM4.out.ext he5)
  obtain ⟨vs, hvs0⟩ : ∃ vs, vs = varsT (allT xs) := ⟨_, rfl⟩
  rw [← hvs0] at hr5 hvs ⊢
  obtain ⟨nv, hnv⟩ : ∃ nv, nv = vs.length := ⟨_, rfl⟩
  rw [← hnv] at hr5 ⊢
  have hvl : nv ≤ 1048576 := by rw [hnv, hvs0]; exact Nat.le_trans (varsT_length _) HAX.out.bd.all
  have HVS0 := Lib.hid hvs0; have HNV := Lib.hid hnv
  have HCLV := Lib.hid ((Cl.own hr5 (fun _ => True) (fun _ _ => trivial)).2.2)
  have hcv : nv ≤ c5 := (Cl.own hr5 (fun _ => True) (fun _ _ => trivial)).1
  have HX := Lib.hid hx; have HKF := Lib.hid kf; have HKT := Lib.hid kt
  clear he5 a0 a1 hvs0 hnv hx kf kt hr5 hn4
  by_cases hlen : n3 = nv
  · have hlenI : ((n3 : Int) == (nv : Int)) = true := by rw [hlen]; simp
    have HLEN : Hid (ps.length = (varsT (allT xs)).length) := Lib.hid (by rw [← HN3.out, ← HVS0.out, ← HNV.out]; exact hlen)
    subst hlen
    go_wp2_with fail
    clear hmk
    go_loopw [43] (fun q wr => ∃ i : Nat, i ≤ n3 ∧ q = .int .i64 (i : Int) ∧ Ext w5 wr ∧ SeenI ps vs i) (fun q _ => n3 - (intOf q).toNat)
    case atStart => exact ⟨0, Nat.zero_le _, rfl, Ext.refl _, fun v hv => by simp at hv⟩
    case round =>
      obtain ⟨i, hi, rfl, hxi, hse⟩ := hrel
      by_cases hlt : i < n3
      · have i1 : (0 : Int) ≤ (i : Int) := by omega
        have i2 : (i : Int) < (n3 : Int) := by omega
        have hix : i < vs.length := by have := HNV.out; omega
        obtain ⟨ad, rfl, hHa, d0⟩ := HCLV.out.at' (j := i) (x := .string vs[i]) (by simp [hix, Sv])
        replace d0 := hxi.cell d0
        have hsv := hvs.out _ (List.getElem_mem hix)
        have hmem : vs[i] ∈ varsT (allT xs) := by rw [← HVS0.out]; exact List.getElem_mem hix
        have hst := hse.step hix
        obtain ⟨u, hu⟩ : ∃ u, u = vs[i] := ⟨_, rfl⟩
        rw [← hu] at d0 hsv hmem hst
        have HXI := Lib.hid hxi; have HST := Lib.hid hst; have HMEM := Lib.hid hmem
        clear hxi hse hst hmem hu hHa
        rcases hfp : firstP ps u with _ | z
        · have HFP := Lib.hid hfp
          clear hfp
          go_wp2_with (first | (at_lookup; refine wpList_lookup_okV rfl _ _ 68 47 rfl Tryd.underlying68 (.agg #[.string ⟨#[]⟩, .int .i64 0, .int .i64 0, .string ⟨#[]⟩]) (zero_term _) bi n4 (imF (firstP ps)) rfl (HM5.out.ext HXI.out) u rfl hsv (.agg #[.string ⟨#[]⟩, .int .i64 0, .int .i64 0, .string ⟨#[]⟩]) (by rw [imF, HFP.out]; rfl) false (by rw [imF, HFP.out]; rfl) ?_))
          go_ret
          refine Ret.mk ?_ ?_
          · exact HX.out.trans (HXI.out.alloc _)
          · rw [checkB_var HMEM.out HFP.out]
            rfl
        · have HFP := Lib.hid hfp
          clear hfp
          go_wp2_with (first | (at_lookup; refine wpList_lookup_okV rfl _ _ 68 47 rfl Tryd.underlying68 (.agg #[.string ⟨#[]⟩, .int .i64 0, .int .i64 0, .string ⟨#[]⟩]) (zero_term _) bi n4 (imF (firstP ps)) rfl (HM5.out.ext HXI.out) u rfl hsv (.agg #[.string z.var, .int .i64 z.kind, .int .i64 z.int, .string z.str]) (by rw [imF, HFP.out]; rfl) true (by rw [imF, HFP.out]; rfl) ?_))
          go_roundw
          case rel => exact ⟨i + 1, by omega, by go_num, HXI.out.alloc _, HST.out (by rw [HFP.out]; rfl)⟩
          case measure => simp [intOf]; omega
      · obtain rfl : i = n3 := by omega
        have hdn : ¬ (i : Int) < (i : Int) := by omega
        have HSE : Hid (SeenI ps vs i) := Lib.hid hse
        have hx6 := HX.out.trans hxi
        have kf6 := HKF.out.ext hxi
        have kt6 := HKT.out.ext hxi
        have hm6 := HM5.out.ext hxi
        have hbi6 := hm6.lt
        obtain ⟨w6, rfl⟩ : ∃ w6 : World, w6 = wr := ⟨_, rfl⟩
        clear hxi hse HM4 HM5 HX HKF HKT HCLV hi hlt
        go_wp2_with fail
        refine wp_loop_rounds 1 ?_
        rw [rounds_succ]
        have hmk := @run_makeMap Tryd.prog
        have b0 := (kt6.alloc (.map #[] 0)).cell (i := 0) (by simp)
        simp only [List.getElem_cons_zero] at b0
        go_wp2_with fail
        have hx7 : Ext w6 (w6.alloc (.map #[] 0)) := (Ext.refl w6).alloc _
        have hp7 := MapV.made w6
        generalize w6.alloc (.map #[] 0) = w7 at *
        obtain ⟨bp, hbp⟩ : ∃ bp, bp = w6.heap.size := ⟨_, rfl⟩
        have hbl : w.heap.size + 1 < bp := by have := kt6.lt; omega
        have hbw : w.heap.size ≤ bp := by omega
        have hbb : bi < bp := by omega
        rw [← hbp] at hp7 ⊢
        have HX7 := Lib.hid (hx6.trans hx7); have HKF7 := Lib.hid (kf6.ext hx7); have HM7 := Lib.hid (hm6.ext hx7); have HP7 := Lib.hid hp7
        clear hx7 hx6 kf6 kt6 hm6 hbi6 hp7 hbp b0 hmk
        have hpin0 : pinF (fun t => decide (t ∈ (ys.take 0).map At.keyS)) = fun _ => none := by funext t; simp [pinF]
        have HPIN0 := Lib.hid hpin0
        clear hpin0
        obtain ⟨AT2, ct2, eAT, hct, hAT⟩ := HT.out.at'
        injection eAT with e1 e2 e3
        subst e1 e3
        have HATT := Lib.hid hAT
        clear hAT e2 hct
        go_loopw [80] (fun q wr => ∃ j : Nat, j ≤ n2 ∧ q = .int .i64 (j : Int) ∧ MapV wr bp j (pinF (fun t => decide (t ∈ (ys.take j).map At.keyS))) ∧ Fr (fun b => b = bp) w7 wr) (fun q _ => n2 - (intOf q).toNat)
        case atStart => exact ⟨0, Nat.zero_le _, rfl, by rw [HPIN0.out]; exact HP7.out, Fr.refl _ _⟩
        case round =>
          obtain ⟨j, hj, rfl, hmj, hfj⟩ := hrel
          by_cases hlt : j < n2
          · have j1 : (0 : Int) ≤ (j : Int) := by omega
            have j2 : (j : Int) < (n2 : Int) := by omega
            have hjx : j < ys.length := by have := HN2.out; omega
            obtain ⟨ad, B, d, rfl, hGa, c0, c1, c2, hd, htc⟩ := HATT.out j hjx
            have hxj : Ext w wr := hfj.new HX7.out (fun k hk => by omega)
            replace c0 := hxj.cell c0
            replace c1 := hxj.cell c1
            replace c2 := hxj.cell c2
            have hts := HAY.out.small _ (List.getElem_mem hjx)
            have htr := HAY.out.bd.rel _ (List.getElem_mem hjx)
            have hto := HAY.out.terms _ (List.getElem_mem hjx)
            have hpadd := pinF_snoc ((ys.take j).map At.keyS) ys[j].keyS
            rw [show (ys.take j).map At.keyS ++ [ys[j].keyS] = (ys.take (j + 1)).map At.keyS by rw [List.take_succ_eq_append_getElem hjx, List.map_append]; rfl] at hpadd
            obtain ⟨a, ha⟩ : ∃ a, a = ys[j] := ⟨_, rfl⟩
            rw [← ha] at c0 c1 c2 hd htc hts htr hto hpadd
            obtain ⟨nt, hnt⟩ : ∃ nt, nt = a.terms.length := ⟨_, rfl⟩
            rw [← hnt] at c2
            have HNT := Lib.hid hnt; have HTC := Lib.hid htc; have HD := Lib.hid hd; have HTS := Lib.hid hts; have HTR := Lib.hid htr; have HTO := Lib.hid hto; have HPA := Lib.hid hpadd; have HXJ := Lib.hid hxj; have HMJ := Lib.hid hmj; have HFJ := Lib.hid hfj
            have hks : a.keyS.size ≤ maxLen := keyS_size hts htr hto
            clear hnt htc hd hts htr hto hpadd hxj hmj hfj ha hGa
            go_wp2_with fail
            have hx8 : Ext wr (wr.alloc (.cells #[.bool a.neg, .string a.rel, .slice B nt d] 61)) := (Ext.refl wr).alloc _
            generalize (wr.alloc (.cells #[.bool a.neg, .string a.rel, .slice B nt d] 61)) = w8 at *
            have HX8 := Lib.hid hx8
            clear hx8 c0 c1 c2
            rw [HNT.out]
            refine (key_any (HTC.out.ext (HXJ.out.trans HX8.out)) HD.out HTS.out HTR.out HTO.out (HTAB.out.fore (HXJ.out.trans HX8.out))).mono ?_
            rintro e w9 ⟨y, rfl, he9, rfl⟩
            have HX9 := Lib.hid (HX8.out.trans he9)
            clear he9
            go_wp2_with (first
              | (at_mapUpdate; refine wpList_update_V rfl _ _ _ 66 4 rfl Tryd.underlying66 bp j (pinF (fun t => decide (t ∈ (ys.take j).map At.keyS))) rfl (HMJ.out.ext HX9.out) (by simp only [maxLen]; omega) a.keyS (.bool true) rfl hks rfl ?_; intro wq hmq hgq; have HMQ := Lib.hid hmq; have HGQ := Lib.hid ((HFJ.out.ext HX9.out).grown hgq (fun b e => .inl (by injection e with e; exact e.symm))); clear hmq hgq))
            go_roundw
            case rel => exact ⟨j + 1, by omega, by go_num, by rw [← HPA.out]; exact HMQ.out, HGQ.out⟩
            case measure => simp [intOf]; omega
          · obtain rfl : j = n2 := by omega
            have hdj : ¬ (j : Int) < (j : Int) := by omega
            have et : ys.take j = ys := by rw [HN2.out]; exact List.take_length
            rw [et] at hmj
            obtain ⟨w8, rfl⟩ : ∃ w8 : World, w8 = wr := ⟨_, rfl⟩
            have HX8 := Lib.hid (hfj.new HX7.out (fun k hk => by omega))
            have kf8 := HKF7.out.fr hfj (by omega)
            have HM8 := Lib.hid (HM7.out.fr hfj (by omega))
            have HP8 := Lib.hid hmj
            have b0 := kf8.cell (i := 0) (by simp)
            simp only [List.getElem_cons_zero] at b0
            obtain ⟨AF2, cf2, eAF, hcf, hAF⟩ := HF.out.at'
            injection eAF with e1 e2 e3
            subst e1 e3
            have HAFF := Lib.hid hAF
            clear hAF e2 hcf hfj hmj et kf8 HX7 HKF7 HM7 HP7 HATT HPIN0 hj hlt
            go_wp2_with fail
            clear b0
            go_loopw [91] (fun q wr => ∃ k : Nat, k ≤ n1 ∧ q = .int .i64 (k : Int) ∧ Ext w8 wr ∧ HitI ps xs ys k) (fun q _ => n1 - (intOf q).toNat)
            case atStart => exact ⟨0, Nat.zero_le _, rfl, Ext.refl _, fun v hv => by simp at hv⟩
            case round =>
              obtain ⟨k, hk, rfl, hxk, hhit⟩ := hrel
              by_cases hlt : k < n1
              · have k1 : (0 : Int) ≤ (k : Int) := by omega
                have k2 : (k : Int) < (n1 : Int) := by omega
                have hkx : k < xs.length := by have := HN1.out; omega
                obtain ⟨ad, B, d, rfl, hGa, c0, c1, c2, hd, htc⟩ := HAFF.out k hkx
                have hxj : Ext w wr := HX8.out.trans hxk
                replace c0 := hxj.cell c0
                replace c1 := hxj.cell c1
                replace c2 := hxj.cell c2
                have hts := HAX.out.small _ (List.getElem_mem hkx)
                have htr := HAX.out.bd.rel _ (List.getElem_mem hkx)
                have hto := HAX.out.terms _ (List.getElem_mem hkx)
                have hmem := List.getElem_mem hkx
                have hst := hhit.step hkx
                obtain ⟨a, ha⟩ : ∃ a, a = xs[k] := ⟨_, rfl⟩
                rw [← ha] at c0 c1 c2 hd htc hts htr hto hst hmem
                obtain ⟨nt, hnt⟩ : ∃ nt, nt = a.terms.length := ⟨_, rfl⟩
                rw [← hnt] at c2
                have HNT := Lib.hid hnt; have HTC := Lib.hid htc; have HD := Lib.hid hd; have HTS := Lib.hid hts; have HTR := Lib.hid htr; have HTO := Lib.hid hto; have HST := Lib.hid hst; have HXJ := Lib.hid hxj; have HXK := Lib.hid hxk; have HMEM := Lib.hid hmem
                clear hnt htc hd hts htr hto hst hxj hxk ha hGa hhit hmem
                go_wp2_with fail
                have hx8 : Ext wr (wr.alloc (.cells #[.bool a.neg, .string a.rel, .slice B nt d] 61)) := (Ext.refl wr).alloc _
                generalize (wr.alloc (.cells #[.bool a.neg, .string a.rel, .slice B nt d] 61)) = w9 at *
                have HX9 := Lib.hid (HXJ.out.trans hx8)
                have HXK9 := Lib.hid (HXK.out.trans hx8)
                clear hx8 c0 c1 c2
                rw [HNT.out]
                refine (replaced_any (HTC.out.ext HX9.out) HD.out (Nat.le_trans HTS.out (by omega)) (fun t ht => Nat.le_trans (HTO.out t ht).var (by simp [maxLen])) (HM8.out.ext HXK9.out)).mono ?_
                rintro e w10 ⟨he10, v10, rfl, hr10⟩
                obtain ⟨A10, c10, rfl⟩ := own_slice hr10
                obtain ⟨g1, g2, g3⟩ := Cl.own hr10 (fun _ => True) (fun _ _ => trivial)
                have HX10 := Lib.hid (HX9.out.trans he10)
                have HXK10 := Lib.hid (HXK9.out.trans he10)
                clear hr10 he10
                go_wp2_with fail
                have hrl : (a.terms.map (repT (firstP ps))).length = a.terms.length := by simp
                rw [← hrl] at g1 ⊢
                refine (key_any (ts := a.terms.map (repT (firstP ps))) g3 g1 (by rw [hrl]; exact HTS.out) HTR.out (fun t ht => by obtain ⟨t0, h0, rfl⟩ := List.mem_map.1 ht; exact repT_ok him.out (HTO.out t0 h0)) (HTAB.out.fore HX10.out)).mono ?_
                rintro e w11 ⟨y, rfl, he11, rfl⟩
                have hks : (repA (firstP ps) a).keyS.size ≤ maxLen := keyS_size (Nat.le_trans (Nat.le_of_eq hrl) HTS.out) HTR.out (fun t ht => by obtain ⟨t0, h0, rfl⟩ := List.mem_map.1 ht; exact repT_ok him.out (HTO.out t0 h0))
                have HX11 := Lib.hid (HX10.out.trans he11)
                have HXK11 := Lib.hid (HXK10.out.trans he11)
                clear he11 g1 g3 hrl
                by_cases hin : (repA (firstP ps) a).keyS ∈ ys.map At.keyS
                · have HIN := Lib.hid hin
                  have HPV : Hid ((pinF (fun t => decide (t ∈ ys.map At.keyS)) (repA (firstP ps) a).keyS).getD (.bool false) = .bool true) := Lib.hid (by rw [pinF, if_pos (decide_eq_true hin)]; rfl)
                  clear hin
                  go_wp2_with (first | (at_lookup; refine wpList_lookup_V rfl _ _ 66 4 rfl Tryd.underlying66 (.bool false) (zero_bool _) bp j (pinF (fun t => decide (t ∈ ys.map At.keyS))) rfl (HP8.out.ext HXK11.out) (repA (firstP ps) a).keyS rfl hks (.bool true) HPV.out ?_))
                  go_roundw
                  case rel => exact ⟨k + 1, by omega, by go_num, HXK11.out, HST.out HIN.out⟩
                  case measure => simp [intOf]; omega
                · have HIN := Lib.hid hin
                  have HPV : Hid ((pinF (fun t => decide (t ∈ ys.map At.keyS)) (repA (firstP ps) a).keyS).getD (.bool false) = .bool false) := Lib.hid (by rw [pinF, if_neg (by simp only [decide_eq_true_eq]; exact hin)]; rfl)
                  clear hin
                  go_wp2_with (first | (at_lookup; refine wpList_lookup_V rfl _ _ 66 4 rfl Tryd.underlying66 (.bool false) (zero_bool _) bp j (pinF (fun t => decide (t ∈ ys.map At.keyS))) rfl (HP8.out.ext HXK11.out) (repA (firstP ps) a).keyS rfl hks (.bool false) HPV.out ?_))
                  go_ret
                  refine Ret.mk HX11.out ?_
                  rw [checkB_atom HMEM.out HIN.out]
                  rfl
              · obtain rfl : k = n1 := by omega
                have hdk : ¬ (k : Int) < (k : Int) := by omega
                have HXK := Lib.hid hxk; have HHIT := Lib.hid hhit
                clear hxk hhit
                go_wp2_with fail
                go_ret
                refine Ret.mk (HX8.out.trans HXK.out) ?_
                have e2 : SeenI ps vs vs.length := by rw [← HNV.out]; exact HSE.out
                have e3 : HitI ps xs ys xs.length := by rw [← HN1.out]; exact HHIT.out
                rw [checkB_all HLEN.out (fun v hv => e2 v (by rw [List.take_length, HVS0.out]; exact hv)) (fun a ha => e3 a (by rw [List.take_length]; exact ha))]
                rfl
  · have hlenI : ¬ (n3 : Int) = (nv : Int) := by omega
    have HLEN : Hid (ps.length ≠ (varsT (allT xs)).length) := Lib.hid (by rw [← HN3.out, ← HVS0.out, ← HNV.out]; exact hlen)
    clear hlen
    go_wp2_with fail
    all_goals first
      | contradiction
      | (go_ret
         refine Ret.mk HX.out ?_
         rw [checkB_len HLEN.out]
         rfl)
end Go.Proofs.YtiahaofjmcjdiaaDoor
