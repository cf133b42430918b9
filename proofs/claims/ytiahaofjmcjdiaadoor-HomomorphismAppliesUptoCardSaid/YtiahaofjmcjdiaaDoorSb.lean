/- Contract: homomorphism.Apply. -/
import Derived.Test.YtiahaofjmcjdiaaDoorSa
namespace Go.Proofs.YtiahaofjmcjdiaaDoor
open Go.RowKit

set_option maxRecDepth 100000 in
set_option maxHeartbeats 3200000 in
theorem happly_any {F G H : Nat → Prop} {w : World} {sv vc vm : Value} {nc : Nat} {xs : List At} {ps : List (ByteArray × Tm)} (hX : Ats F w sv xs) (hC : Cns G w vc nc) (hM : Prs H w vm ps) (hax : AOk xs) (hnc : nc ≤ 1048576)
    (hps : Hid (∀ p ∈ ps, p.1.size ≤ maxLen)) (hpl : ps.length ≤ 1000000) (htab : TabE w) (him : Hid (∀ s t, firstP ps s = some t → TOk t)) :
    Calls Tryd.prog 20 #[.agg #[sv, vc], vm] w (fun e w' => Ext w w' ∧ ∃ A' n' c' B' d', e = .returned (.agg #[.slice A' n' c', .slice B' nc d']) ∧ Ats (fun k => w.heap.size ≤ k) w' (.slice A' n' c') (appL (firstP ps) xs) ∧ Cns (fun k => w.heap.size ≤ k) w' (.slice B' nc d') nc) := by
  have HX := Lib.hid hX; have HC := Lib.hid hC; have HM := Lib.hid hM; have HAX := Lib.hid hax; have HTAB := Lib.hid htab
  obtain ⟨A1, c1, n1, h1, hn1⟩ : ∃ A c n, sv = .slice A n c ∧ n = xs.length := by obtain ⟨A, c, vs, hv, _⟩ := hX; exact ⟨A, c, _, hv, rfl⟩
  obtain ⟨A2, c2, h2⟩ : ∃ A c, vc = .slice A nc c := by obtain ⟨A, c, _, hv, _⟩ := hC; exact ⟨A, c, hv⟩
  obtain ⟨A3, c3, n3, h3, hn3⟩ : ∃ A c n, vm = .slice A n c ∧ n = ps.length := by obtain ⟨A, c, hv, _⟩ := hM; exact ⟨A, c, _, hv, rfl⟩
  subst h1 h2 h3
  rw [← hn3] at hpl
  have hl1 : n1 ≤ 1048576 := by rw [hn1]; exact hax.bd.len
  have HN1 := Lib.hid hn1; have HN3 := Lib.hid hn3
  clear hX hC hM hax htab hn1 hn3
  have hmk := @run_makeMap Tryd.prog
  go_enter Tryd.func20, Tryd.ntmps20
  go_wp2_with fail
  have h3 := two_new w [.slice A1 n1 c1, .slice A2 nc c2] [.slice none 0 0, .slice none 0 0] 25 25 _ rfl
  change Bk ((w.alloc (.cells #[.slice A1 n1 c1, .slice A2 nc c2] 25)).alloc (.cells #[.slice none 0 0, .slice none 0 0] 25)) _ _ _ ∧ Bk ((w.alloc (.cells #[.slice A1 n1 c1, .slice A2 nc c2] 25)).alloc (.cells #[.slice none 0 0, .slice none 0 0] 25)) _ _ _ ∧ Ext w ((w.alloc (.cells #[.slice A1 n1 c1, .slice A2 nc c2] 25)).alloc (.cells #[.slice none 0 0, .slice none 0 0] 25)) at h3
  generalize ((w.alloc (.cells #[.slice A1 n1 c1, .slice A2 nc c2] 25)).alloc (.cells #[.slice none 0 0, .slice none 0 0] 25)) = w1 at *
  obtain ⟨kr, kz, hx⟩ := h3
  refine (first_any (HM.out.ext hx) (by rw [← HN3.out]; omega) hps.out).mono ?_
  rintro e w4 ⟨rfl, he4, n4, hn4, hm4⟩
  obtain ⟨bi, hbi⟩ : ∃ bi, bi = w1.heap.size := ⟨_, rfl⟩
  rw [← hbi] at hm4 ⊢
  replace hx := hx.trans he4
  replace kr := kr.ext he4
  replace kz := kz.ext he4
  have HM4 := Lib.hid hm4; have HX4 := Lib.hid hx; have HKR := Lib.hid kr; have HKZ := Lib.hid kz
  have hw4 : w.heap.size ≤ w4.heap.size := hx.size
  have r0 := ((kr.alloc (.cells #[.slice none 0 0, .slice none 0 0] 25)).alloc (.map #[] 0)).cell (i := 0) (by simp)
  simp only [List.getElem_cons_zero] at r0
  clear he4 hm4 hbi hx kr kz hn4
  go_wp2_with fail
  clear r0 hmk
  have k5 : Bk ((w4.alloc (.cells #[.slice none 0 0, .slice none 0 0] 25)).alloc (.map #[] 0)) w4.heap.size 25 [.slice none 0 0, .slice none 0 0] := (Bk.new w4 25 [.slice none 0 0, .slice none 0 0]).alloc _
  have m5 : MapV ((w4.alloc (.cells #[.slice none 0 0, .slice none 0 0] 25)).alloc (.map #[] 0)) (w4.heap.size + 1) 0 (fun _ => none) := by
    have h := MapV.made (w4.alloc (.cells #[.slice none 0 0, .slice none 0 0] 25))
    rw [show (w4.alloc (.cells #[.slice none 0 0, .slice none 0 0] 25)).heap.size = w4.heap.size + 1 by simp] at h
    exact h
  have hx5 : Ext w4 ((w4.alloc (.cells #[.slice none 0 0, .slice none 0 0] 25)).alloc (.map #[] 0)) := ((Ext.refl w4).alloc _).alloc _
  generalize ((w4.alloc (.cells #[.slice none 0 0, .slice none 0 0] 25)).alloc (.map #[] 0)) = w5 at *
  have hpin0 : pinF (fun t => decide (t ∈ ([] : List At).map At.keyS)) = fun _ => none := by funext t; simp [pinF]
  have HS : Hid (ApH w4 w5 w4.heap.size (w4.heap.size + 1) 0 [] (.slice none 0 0) []) := Lib.hid ⟨k5, World.ownsRow_nil _ _ _ _, rfl, fun j h => by simp at h, by rw [hpin0]; exact m5, hx5⟩
  clear k5 m5 hx5 hpin0
  obtain ⟨g, hg⟩ : ∃ g, g = w4.heap.size := ⟨_, rfl⟩
  obtain ⟨bS, hbS⟩ : ∃ bS, bS = g + 1 := ⟨_, rfl⟩
  rw [← hg, ← hbS] at HS ⊢
  have hgw : w4.heap.size ≤ g := by omega
  have hbw : w4.heap.size ≤ bS := by omega
  obtain ⟨AT2, ct2, eAT, hct, hAT⟩ := HX.out.at'
  injection eAT with e1 e2 e3
  subst e1 e3
  have HATT := Lib.hid hAT
  clear hAT e2 hct
  obtain ⟨i0, hi0, hz0, hz1, hz2⟩ := info_parts info_atom
  have HI0 := Lib.hid (And.intro hi0 (And.intro hz0 (And.intro hz1 hz2)))
  clear hi0 hz0 hz1 hz2
  clear hg hbS
  go_loopw [18] (fun q wr => ∃ (i n : Nat) (v : Value) (ws : List Value), i ≤ n1 ∧ q = .int .i64 (i : Int) ∧ n ≤ i ∧ ApH w4 wr g bS n (appL (firstP ps) (xs.take i)) v ws) (fun q _ => n1 - (intOf q).toNat)
  case atStart => exact ⟨0, 0, _, _, Nat.zero_le _, rfl, Nat.le_refl _, HS.out⟩
  case round =>
    obtain ⟨i, n, v, ws, hi, rfl, hn, hI⟩ := hrel
    obtain ⟨l, hl⟩ : ∃ l, l = appL (firstP ps) (xs.take i) := ⟨_, rfl⟩
    rw [← hl] at hI
    have HL := Lib.hid hl
    obtain ⟨Av, cv, rfl⟩ := own_slice hI.row
    obtain ⟨m, hm⟩ : ∃ m, m = l.length := ⟨_, rfl⟩
    have hmb : m ≤ 1048576 := by rw [hm, hl]; exact Nat.le_trans (appL_length _ _) (by simp; omega)
    rw [← hm] at hI
    have HM0 := Lib.hid hm
    have HI := Lib.hid hI
    have hxw : Ext w wr := HX4.out.trans hI.ext
    clear hl hm
    by_cases hlt : i < n1
    · have i1 : (0 : Int) ≤ (i : Int) := by omega
      have i2 : (i : Int) < (n1 : Int) := by omega
      have hix : i < xs.length := by have := HN1.out; omega
      obtain ⟨ad, B, d, rfl, hGa, c0, c1, c2, hd, htc⟩ := HATT.out i hix
      replace c0 := hxw.cell c0
      replace c1 := hxw.cell c1
      replace c2 := hxw.cell c2
      have hts := HAX.out.small _ (List.getElem_mem hix)
      have htr := HAX.out.bd.rel _ (List.getElem_mem hix)
      have hto := HAX.out.terms _ (List.getElem_mem hix)
      have hsn : appL (firstP ps) (xs.take (i + 1)) = addA l (repA (firstP ps) xs[i]) := by rw [List.take_succ_eq_append_getElem hix, appL_snoc, HL.out]
      obtain ⟨a, ha⟩ : ∃ a, a = xs[i] := ⟨_, rfl⟩
      rw [← ha] at c0 c1 c2 hd htc hts htr hto hsn
      obtain ⟨nt, hnt⟩ : ∃ nt, nt = a.terms.length := ⟨_, rfl⟩
      rw [← hnt] at c2
      have HNT := Lib.hid hnt; have HTC := Lib.hid htc; have HD := Lib.hid hd; have HTS := Lib.hid hts; have HTR := Lib.hid htr; have HTO := Lib.hid hto; have HSN := Lib.hid hsn; have HXW := Lib.hid hxw
      clear hnt htc hd hts htr hto hsn hxw ha hGa hI
      go_wp2_with fail
      have hx8 : Ext wr (wr.alloc (.cells #[.bool a.neg, .string a.rel, .slice B nt d] 61)) := (Ext.refl wr).alloc _
      generalize (wr.alloc (.cells #[.bool a.neg, .string a.rel, .slice B nt d] 61)) = w9 at *
      have HI9 := Lib.hid (HI.out.fore hx8); have HX9 := Lib.hid (HXW.out.trans hx8)
      clear hx8 c0 c1 c2
      rw [HNT.out]
      refine (replaced_any (HTC.out.ext HX9.out) HD.out (Nat.le_trans HTS.out (by omega)) (fun t ht => Nat.le_trans (HTO.out t ht).var (by simp [maxLen])) (HM4.out.ext HI9.out.ext)).mono ?_
      rintro e w10 ⟨he10, v10, rfl, hr10⟩
      rw [← HNT.out] at hr10
      obtain ⟨A10, c10, rfl⟩ := own_slice hr10
      have HX10 := Lib.hid (HX9.out.trans he10); have HI10 := Lib.hid (HI9.out.fore he10)
      have hvr := HI9.out.row.lt; have hg9 := HI9.out.bk.lt; have hb9 := HI9.out.map.lt; have hw49 := HI9.out.ext.size
      have hT10 : Ts (fun k => w4.heap.size ≤ k ∧ (Value.slice Av m cv).ownBlock ≠ some k ∧ k ≠ g ∧ k ≠ bS) w10 (.slice A10 nt c10) (repA (firstP ps) a).terms := by
        obtain ⟨A', c', e, hc', hcl'⟩ := Cl.of_own hr10
        injection e with e1 _ e3
        subst e1 e3
        refine ⟨A10, c10, by simp [repA, HNT.out], by simp only [repA, List.length_map, ← HNT.out]; exact hc', hcl'.mono (fun k _ hk => ⟨by omega, fun e => by have := (hvr k e).2; omega, by omega, by omega⟩)⟩
      have HT10 := Lib.hid hT10
      clear hr10 he10 hT10 hvr hg9 hb9 hw49
      go_wp2_with fail
      have kx := Bk.new w10 61 [.bool a.neg, .string a.rel, .slice A10 nt c10]
      change Bk (w10.alloc (.cells #[.bool a.neg, .string a.rel, .slice A10 nt c10] 61)) _ _ _ at kx
      have hxx : Ext w10 (w10.alloc (.cells #[.bool a.neg, .string a.rel, .slice A10 nt c10] 61)) := (Ext.refl w10).alloc _
      generalize (w10.alloc (.cells #[.bool a.neg, .string a.rel, .slice A10 nt c10] 61)) = w11 at *
      have HX11 := Lib.hid (HX10.out.trans hxx); have HI11 := Lib.hid (HI10.out.fore hxx); have HT11 := Lib.hid (HT10.out.ext hxx); have HKX := Lib.hid kx
      clear hxx kx
      have hrl : (a.terms.map (repT (firstP ps))).length = nt := by rw [HNT.out]; simp
      have hkc := key_any (ng := a.neg) (rl := a.rel) (ts := a.terms.map (repT (firstP ps))) (B := A10) (d := c10) (F := fun _ => True) (w := w11) (by
        obtain ⟨A', c', e, hc', hcl'⟩ := HT11.out
        injection e with e1 _ e3
        subst e1 e3
        exact hcl'.mono (fun _ _ _ => trivial)) (by
        obtain ⟨A', c', e, hc', hcl'⟩ := HT11.out
        injection e with e1 _ e3
        subst e1 e3
        exact hc') (by rw [hrl, HNT.out]; exact HTS.out) HTR.out (fun t ht => by obtain ⟨t0, h0, rfl⟩ := List.mem_map.1 ht; exact repT_ok him.out (HTO.out t0 h0)) (HTAB.out.fore HX11.out)
      rw [hrl] at hkc
      refine hkc.mono ?_
      rintro e w12 ⟨y, rfl, he12, rfl⟩
      have hks : (repA (firstP ps) a).keyS.size ≤ maxLen := keyS_size (by simp only [repA, hrl]; rw [HNT.out]; exact HTS.out) HTR.out (fun t ht => by obtain ⟨t0, h0, rfl⟩ := List.mem_map.1 ht; exact repT_ok him.out (HTO.out t0 h0))
      have HX12 := Lib.hid (HX11.out.trans he12); have HI12 := Lib.hid (HI11.out.fore he12); have HT12 := Lib.hid (HT11.out.ext he12); have HKX12 := Lib.hid (HKX.out.ext he12)
      clear he12 hkc hrl
      by_cases hin : (repA (firstP ps) a).keyS ∈ l.map At.keyS
      · have HADD : Hid (addA l (repA (firstP ps) a) = l) := Lib.hid (by rw [addA, if_pos hin])
        have HPV : Hid ((pinF (fun t => decide (t ∈ l.map At.keyS)) (repA (firstP ps) a).keyS).getD (.bool false) = .bool true) := Lib.hid (by rw [pinF, if_pos (decide_eq_true hin)]; rfl)
        clear hin
        go_wp2_with (first | (at_lookup; refine wpList_lookup_V rfl _ _ 66 4 rfl Tryd.underlying66 (.bool false) (zero_bool _) bS n (pinF (fun t => decide (t ∈ l.map At.keyS))) rfl HI12.out.map (repA (firstP ps) a).keyS rfl hks (.bool true) HPV.out ?_))
        go_roundw
        case rel => exact ⟨i + 1, n, _, ws, by omega, by go_num, by omega, by rw [HSN.out, HADD.out]; exact HI12.out⟩
        case measure => simp [intOf]; omega
      · have HIN := Lib.hid hin
        have HPV : Hid ((pinF (fun t => decide (t ∈ l.map At.keyS)) (repA (firstP ps) a).keyS).getD (.bool false) = .bool false) := Lib.hid (by rw [pinF, if_neg (by simp only [decide_eq_true_eq]; exact hin)]; rfl)
        clear hin
        go_wp2_with (first
          | (at_lookup; refine wpList_lookup_V rfl _ _ 66 4 rfl Tryd.underlying66 (.bool false) (zero_bool _) bS n (pinF (fun t => decide (t ∈ l.map At.keyS))) rfl HI12.out.map (repA (firstP ps) a).keyS rfl hks (.bool false) HPV.out ?_)
          | (at_mapUpdate; refine wpList_update_V rfl _ _ _ 66 4 rfl Tryd.underlying66 bS n (pinF (fun t => decide (t ∈ l.map At.keyS))) rfl HI12.out.map (by simp only [maxLen]; omega) (repA (firstP ps) a).keyS (.bool true) rfl hks rfl ?_; intro wq hmq hgq; have hfq : Fr (fun k => k = bS) w12 wq := (grown_fr hgq).mono (fun k _ e => by injection e with e; exact e.symm); have kg := HI12.out.bk.fr hfq (HI12.out.map.ne HI12.out.bk); have q0 := kg.cell (i := 0) (by simp); have kx := HKX12.out.fr hfq (HI12.out.map.ne HKX12.out); have x0 := kx.cell (i := 0) (by simp); have x1 := kx.cell (i := 1) (by simp); have x2 := kx.cell (i := 2) (by simp); simp only [List.getElem_cons_zero, List.getElem_cons_succ] at q0 x0 x1 x2; have HKG := Lib.hid kg; have hrq := own_fr HI12.out.row hfq (fun k hk e => HI12.out.map.ne_own HI12.out.row hk e); rw [← HM0.out] at hrq; have HRQ := Lib.hid hrq; have hwq : w4.heap.size ≤ wq.heap.size := Nat.le_trans HI12.out.ext.size hfq.size; have hgq2 : g < wq.heap.size := kg.lt; have HMQ := Lib.hid hmq; have HGQ := Lib.hid hgq; clear hmq hgq hfq kg kx hrq)
          | (at_builtin; refine wpList_append_at rfl _ _ 22 rfl w4.heap.size 61 i0 (.agg #[.bool false, .string ⟨#[]⟩, .slice none 0 0]) 3 48 Tryd.underlying22 HI0.out.1 HI0.out.2.1 HI0.out.2.2.1 HI0.out.2.2.2 rfl (by omega) (.slice Av m cv) m (acells l ws) rfl (HRQ.out.alloc _) ⟨wq.heap.size, 0, none⟩ 1 1 [.bool a.neg, .string a.rel, .slice A10 nt c10] rfl rfl (laid_news wq _ _) (by simp [Value.oneCell']) (by simp only [maxLen]; omega) (by omega) (by simp; omega) ?_; intro v9 wf hr9 hgr9 hld9; obtain ⟨A9, c9, rfl⟩ := own_slice hr9; have hb9 := (HKG.out.alloc _).fr (grown_fr hgr9) (fun e => own_bk HRQ.out HKG.out (by decide) e rfl); have q9 := hb9.cell (i := 0) (by simp); have f9 := hb9.free 0; simp only [List.getElem_cons_zero] at q9; have hg9' : g < wf.heap.size := hb9.lt; have HR9 := Lib.hid hr9; have HG9 := Lib.hid hgr9; have HL9 := Lib.hid hld9; clear hr9 hgr9 hld9 hb9))
        go_roundw
        case rel =>
          refine ⟨i + 1, n + 1, .slice A9 (m + 1) c9, ws ++ [.slice A10 nt c10], by omega, by go_num, by omega, ?_⟩
          rw [HSN.out]
          exact ApH.step HI12.out hgw hbw HT12.out HIN.out HMQ.out HGQ.out ((Ext.refl wq).alloc _) (by rw [← HM0.out]; exact HR9.out) HG9.out HL9.out
        case measure => simp [intOf]; omega
    · obtain rfl : i = n1 := by omega
      have hdn : ¬ (i : Int) < (i : Int) := by omega
      have et : xs.take i = xs := by rw [HN1.out]; exact List.take_length
      have HLX : Hid (l = appL (firstP ps) xs) := Lib.hid (by rw [HL.out, et])
      have r1 := (HKR.out.ext hI.ext).cell (i := 1) (by simp)
      simp only [List.getElem_cons_zero, List.getElem_cons_succ] at r1
      have HXW := Lib.hid hxw
      clear hI et hxw
      go_wp2_with fail
      refine (clone_cond (HC.out.ext HXW.out) hnc).mono ?_
      rintro e wf ⟨hef, A', c', rfl, hcn⟩
      have HIF := Lib.hid (HI.out.fore hef)
      have g0 := HIF.out.bk.cell (i := 0) (by simp); have g1 := HIF.out.bk.cell (i := 1) (by simp); have gf1 := HIF.out.bk.free 1; have gf0 := HIF.out.bk.free 0
      have z0 := ((HKZ.out.ext HIF.out.ext)).cell (i := 0) (by simp); have z1 := ((HKZ.out.ext HIF.out.ext)).cell (i := 1) (by simp); have zf0 := ((HKZ.out.ext HIF.out.ext)).free 0; have zf1 := ((HKZ.out.ext HIF.out.ext)).free 1
      simp only [List.getElem_cons_zero, List.getElem_cons_succ] at g0 g1 z0 z1
      have HCN := Lib.hid hcn
      have hgz : g ≠ w.heap.size + 1 := by have := HKZ.out.lt; omega
      have hgl := HIF.out.bk.lt
      have hzl := (HKZ.out.ext HIF.out.ext).lt
      clear hef hcn r1
      go_wp2_with fail
      have hfz : Fr (fun k => k = g ∨ k = w.heap.size + 1) wf (((wf.setCell ⟨g, 1, none⟩ (.slice A' nc c')).setCell ⟨w.heap.size + 1, 0, none⟩ (.slice Av m cv)).setCell ⟨w.heap.size + 1, 1, none⟩ (.slice A' nc c')) := (((Fr.refl (fun k => k = g ∨ k = w.heap.size + 1) wf).setCell (p := ⟨g, 1, none⟩) (.inl (.inl rfl)) _).setCell (p := ⟨w.heap.size + 1, 0, none⟩) (.inl (.inr rfl)) _).setCell (p := ⟨w.heap.size + 1, 1, none⟩) (.inl (.inr rfl)) _
      have kz := ((((HKZ.out.ext HIF.out.ext).far (p := ⟨g, 1, none⟩) (fun e => hgz e.symm) (.slice A' nc c')).set 0 (.slice Av m cv)).set 1 (.slice A' nc c'))
      have s0 := kz.cell (i := 0) (by simp)
      have s1 := kz.cell (i := 1) (by simp)
      simp only [List.set_cons_zero, List.set_cons_succ, List.getElem_cons_zero, List.getElem_cons_succ] at s0 s1
      have hzk : w.heap.size + 1 < w4.heap.size := HKZ.out.lt
      have hgr : g < wr.heap.size := HI.out.bk.lt
      have hw4r := HI.out.ext.size
      have hez := hfz.new (HX4.out.trans HIF.out.ext) (fun k hk => by omega)
      have hrz := own_fr HIF.out.row hfz (fun k hk e => by
        rcases e with e | e
        · exact own_bk HIF.out.row HIF.out.bk (by decide) hk e
        · have := own_ge HIF.out.row hk; omega)
      have hcz := HCN.out.fr hfz (fun k hk e => by omega)
      have htz : ∀ j (h : j < l.length) (h' : j < ws.length), Ts (fun k => w.heap.size ≤ k) (((wf.setCell ⟨g, 1, none⟩ (.slice A' nc c')).setCell ⟨w.heap.size + 1, 0, none⟩ (.slice Av m cv)).setCell ⟨w.heap.size + 1, 1, none⟩ (.slice A' nc c')) ws[j] l[j].terms := fun j h h' => ((HIF.out.ts j h h').fr hfz (fun k hk e => by
        rcases e with e | e
        · exact hk.2.2.1 e
        · omega)).mono (fun k _ hk => by omega)
      generalize (((wf.setCell ⟨g, 1, none⟩ (.slice A' nc c')).setCell ⟨w.heap.size + 1, 0, none⟩ (.slice Av m cv)).setCell ⟨w.heap.size + 1, 1, none⟩ (.slice A' nc c')) = wz at *
      refine bodyPost_ret (v := .agg #[.slice Av m cv, .slice A' nc c']) ?_ rfl ⟨hez, Av, m, cv, A', c', rfl, ?_, hcz.mono (fun k _ hk => by omega)⟩
      · simp [results, Tryd.results20, go_sem, s0, s1]
      · rw [← HLX.out]
        obtain ⟨A9, c9, e, hc9, hcl9⟩ := Cl.of_own hrz
        injection e with e1 e2 e3
        subst e1 e3
        exact ⟨Av, cv, ws, by rw [HM0.out], hc9, HIF.out.len, hcl9.mono (fun k _ hk => by omega), htz⟩
end Go.Proofs.YtiahaofjmcjdiaaDoor
