/- The walk of HomomorphismApplies. -/
import Derived.Test.YtiahaofjmcjdiaaDoorSd
namespace Go.Proofs.YtiahaofjmcjdiaaDoor
open Go.RowKit

set_option maxRecDepth 100000 in
set_option maxHeartbeats 6400000 in
theorem applies_any {F : Nat → Prop} {w : World} {svA vc vm : Value} {na : Nat} {xa : List At} {ps : List (ByteArray × Tm)} (hA : Ats F w svA xa) (hC : Cns F w vc na) (hM : Prs F w vm ps) (ra : Rg xa) (hna : na ≤ 1048576) (hpl : ps.length ≤ 1048576) (hpz : ∀ q ∈ ps, (-9223372036854775808 ≤ q.2.kind ∧ q.2.kind ≤ 9223372036854775807 ∧ -9223372036854775808 ≤ q.2.int ∧ q.2.int ≤ 9223372036854775807) ∧ q.1.size ≤ 1048576 ∧ q.2.var.size ≤ 1048576 ∧ q.2.str.size ≤ 1048576) (htab : TabE w) :
    Calls Tryd.prog 6 #[.agg #[svA, vc], vm] w (Ret (fun x _ => x = .bool true) w) := by
  have HA := Lib.hid hA; have HCN := Lib.hid hC; have HM := Lib.hid hM; have RA := Lib.hid ra; have HTAB := Lib.hid htab; have HPL := Lib.hid hpl; have HPZ := Lib.hid hpz
  obtain ⟨A1, c1, n1, h1, hn1⟩ : ∃ A c n, svA = .slice A n c ∧ n = xa.length := by obtain ⟨A, c, vs, hv, _⟩ := hA; exact ⟨A, c, _, hv, rfl⟩
  obtain ⟨CA, ca, h2⟩ : ∃ A c, vc = .slice A na c := by obtain ⟨A, c, _, hv, _⟩ := hC; exact ⟨A, c, hv⟩
  obtain ⟨A3, c3, np, h3, hnp⟩ : ∃ A c n, vm = .slice A n c ∧ n = ps.length := by obtain ⟨A, c, hv, _⟩ := hM; exact ⟨A, c, _, hv, rfl⟩
  subst h1 h2 h3
  have HNP := Lib.hid hnp; have HN1 := Lib.hid hn1
  clear hA hC hM ra htab hpl hpz hnp hn1
  go_enter Tryd.func6, Tryd.ntmps6
  go_wp2_with fail
  have kb := Bk.new w 25 [.slice A1 n1 c1, .slice CA na ca]
  change Bk (w.alloc (.cells #[.slice A1 n1 c1, .slice CA na ca] 25)) _ _ _ at kb
  have hx1 : Ext w (w.alloc (.cells #[.slice A1 n1 c1, .slice CA na ca] 25)) := (Ext.refl w).alloc _
  generalize (w.alloc (.cells #[.slice A1 n1 c1, .slice CA na ca] 25)) = w1 at *
  refine (great_any (HA.out.ext hx1) RA.out.bd).mono ?_
  rintro e v2 ⟨y, rfl, hen, bA, rfl, hsA⟩
  have HX := Lib.hid (hx1.trans hen); have HKB := Lib.hid (kb.ext hen)
  clear hen hx1 kb
  rcases bA with _ | _
  case true =>
    clear hsA
    go_wp2_with fail
    refine (awake_any (HTAB.out.fore HX.out)).mono ?_
    rintro e wz ⟨y, rfl, hez, rfl⟩
    have HZ := Lib.hid (Ext.trans HX.out hez)
    clear hez
    go_wp2_with fail
    go_ret
    exact Ret.mk HZ.out rfl
  have SMA := Lib.hid (hsA rfl)
  clear hsA
  go_wp2_with fail
  refine (odd_any (HM.out.ext HX.out) HPL.out (fun p hp => (HPZ.out p hp).2)).mono ?_
  rintro e v3 ⟨y, rfl, hen, bO, rfl, hsO⟩
  replace HX := Lib.hid (HX.out.trans hen)
  replace HKB := Lib.hid (HKB.out.ext hen)
  clear hen
  rcases bO with _ | _
  case true =>
    clear hsO
    go_wp2_with fail
    refine (awake_any (HTAB.out.fore HX.out)).mono ?_
    rintro e wz ⟨y, rfl, hez, rfl⟩
    have HZ := Lib.hid (Ext.trans HX.out hez)
    clear hez
    go_wp2_with fail
    go_ret
    exact Ret.mk HZ.out rfl
  have EV := Lib.hid (hsO rfl)
  clear hsO
  have a0 := (HKB.out.alloc (.cells #[.slice none 0 0] 35)).cell (i := 0) (by simp); have a1 := (HKB.out.alloc (.cells #[.slice none 0 0] 35)).cell (i := 1) (by simp)
  simp only [List.getElem_cons_zero, List.getElem_cons_succ] at a0 a1
  go_wp2_with fail
  clear a0 a1
  have hal : (allT xa).length ≤ 30 := by have h1 := allT_small (fun a ha => (SMA.out.terms a ha).1); have h2 := SMA.out.len; omega
  have hx0 : Ext v3 (v3.alloc (.cells #[.slice none 0 0] 35)) := (Ext.refl _).alloc _
  have HFM : Hid (Prs (Far v3.heap.size (.slice none 0 0) (v3.alloc (.cells #[.slice none 0 0] 35))) (v3.alloc (.cells #[.slice none 0 0] 35)) (.slice A3 np c3) ps) := Lib.hid (((HM.out.ext HX.out).mono (fun k hk _ => far_new _ hk)).ext hx0)
  have HF1 : Hid (Far v3.heap.size (.slice none 0 0) (v3.alloc (.cells #[.slice none 0 0] 35)) w.heap.size) := Lib.hid (far_new _ HKB.out.lt)
  have hwg : w.heap.size ≤ v3.heap.size := HX.out.size
  refine (atoms_any (num_new v3) (((HA.out.ext HX.out).mono (fun k hk _ => far_new (.cells #[.slice none 0 0] 35) hk)).ext hx0) Far.use (by simp; omega) (by have := SMA.out.len; omega) (by simp) Far.below).mono ?_
  intro e wa hp1
  obtain ⟨x1, v1, rfl, hn1, hf1, hl1, hr1⟩ := atoms_far (by simp) hp1
  replace HX := Lib.hid (HX.out.trans hx0)
  replace HKB := Lib.hid (HKB.out.ext hx0)
  clear hp1 hx0
  generalize (v3.alloc (.cells #[.slice none 0 0] 35)) = V0 at *
  obtain ⟨g, hg⟩ : ∃ g, g = v3.heap.size := ⟨_, rfl⟩
  rw [← hg] at HFM HF1 hwg hn1 hf1 hr1 ⊢
  clear hg
  have hwa : Ext w wa := hf1.new HX.out (fun k hk => by
    rcases hk with hk | hk
    · omega
    · simp [Value.ownBlock] at hk)
  obtain ⟨Ar, cr, hrs⟩ : ∃ A c, x1 = .slice A n1 c := by obtain ⟨A, c, vs, hv, _⟩ := hr1; exact ⟨A, c, by rw [hv, List.length_map, HN1.out]⟩
  subst hrs
  have HWA := Lib.hid hwa; have HN := Lib.hid hn1; have HR1 := Lib.hid hr1; have HM1 := Lib.hid (far_prs HFM.out (Ext.refl V0) hf1 hl1); have HG1 := Lib.hid (far_far HF1.out (Ext.refl V0) hf1 hl1); have HB1 := Lib.hid (HKB.out.fr hf1 HF1.out.off)
  clear hn1 hf1 hl1 hr1 hwa HX HKB HFM HF1
  obtain ⟨T0, hT0⟩ : ∃ T0, T0 = tabT [] (allT xa) := ⟨_, rfl⟩
  have HKA : Hid (∀ t ∈ allT xa, Kn T0 t) := Lib.hid (fun t ht => ⟨by rw [hT0]; exact tabT_mem ht, by obtain ⟨a, ha, hta⟩ := allT_iff.1 ht; exact (SMA.out.str a ha t hta).2⟩)
  have hT0l : T0.length ≤ 30 := by rw [hT0]; have := tabT_length [] (allT xa); simp only [List.length_nil] at this; omega
  rw [← hT0] at HN HR1
  clear hT0
  have hnp8 : np ≤ 8 := by have := EV.out.len; have := HNP.out; omega
  obtain ⟨i0, hi0, hz0, hz1, hz2⟩ := info_parts info_int
  have HI0 := Lib.hid (And.intro hi0 (And.intro hz0 (And.intro hz1 hz2))); clear hi0 hz0 hz1 hz2
  go_wp2_with fail
  go_loopw [7, 8, 32] (fun t u q wr => ∃ (i : Nat) (v : Value) (T : List Tm), i ≤ np ∧ q = .int .i64 (i : Int) ∧ T.length ≤ 30 + 2 * i ∧ ApV wa wr g v1 v T0 T ((vps (ps.take i)).map (fun p => varT p.1)) ((vps (ps.take i)).map (·.2)) t u) (fun _ _ q _ => np - (intOf q).toNat)
  case atStart => exact ⟨0, v1, T0, Nat.zero_le _, rfl, by omega, HN.out, List.prefix_refl _, by simp [vps], by simp [vps], World.ownsRow_nil _ _ _ _, World.ownsRow_nil _ _ _ _, by simp [Value.ownBlock], Fr.refl _ _, .inl rfl⟩
  case round =>
    obtain ⟨i, v, T, hi, rfl, hTl, hV⟩ := hrel
    obtain ⟨qs, hqs⟩ : ∃ qs, qs = vps (ps.take i) := ⟨_, rfl⟩
    have hql : qs.length ≤ 8 := by rw [hqs]; have := vps_length (ps.take i); simp at this; omega
    rw [← hqs] at hV
    obtain ⟨Bv, dv, rfl⟩ := own_slice hV.rv
    obtain ⟨Bi, di, rfl⟩ := own_slice hV.ri
    obtain ⟨mq, hmq⟩ : ∃ mq, mq = qs.length := ⟨_, rfl⟩
    simp only [List.length_map, ← hmq] at hV ⊢
    have HV := Lib.hid hV; have HQS := Lib.hid hqs; have HMQ := Lib.hid hmq
    rw [← hmq] at hql
    clear hqs hmq
    by_cases hlt : i < np
    · have i1 : (0 : Int) ≤ (i : Int) := by omega
      have i2 : (i : Int) < (np : Int) := by omega
      have hip : i < ps.length := by have := HNP.out; omega
      obtain ⟨Bm, dm, em, -, clm⟩ := HM1.out
      injection em with em em1 em2
      subst em
      clear em1 em2
      obtain ⟨adm, rfl, hFm, p0, p1, p2, p3, p4⟩ := clm.pair (i := i) hip
      replace p0 := hV.fr.cell p0 (by rw [block_add]; exact hFm.off)
      replace p1 := hV.fr.cell p1 (by simp only [block_add]; exact hFm.off)
      replace p2 := hV.fr.cell p2 (by simp only [block_add]; exact hFm.off)
      replace p3 := hV.fr.cell p3 (by simp only [block_add]; exact hFm.off)
      replace p4 := hV.fr.cell p4 (by simp only [block_add]; exact hFm.off)
      have htk : ps.take (i + 1) = ps.take i ++ [ps[i]] := List.take_succ_eq_append_getElem hip
      obtain ⟨pr, hpr⟩ : ∃ pr, pr = ps[i] := ⟨_, rfl⟩
      rw [← hpr] at p0 p1 p2 p3 p4 htk
      obtain ⟨s, x⟩ := pr
      simp only at p0 p1 p2 p3 p4
      have HPR := Lib.hid hpr; have HTK := Lib.hid htk
      clear hpr clm hFm hV htk
      go_upto_region 9 with fail
      have kb := Bk.new wr 49 [.string s, .string x.var, .int .i64 x.kind, .int .i64 x.int, .string x.str]
      change Bk (wr.alloc (.cells #[.string s, .string x.var, .int .i64 x.kind, .int .i64 x.int, .string x.str] 49)) _ _ _ at kb
      have hxb : Ext wr (wr.alloc (.cells #[.string s, .string x.var, .int .i64 x.kind, .int .i64 x.int, .string x.str] 49)) := (Ext.refl wr).alloc _
      generalize (wr.alloc (.cells #[.string s, .string x.var, .int .i64 x.kind, .int .i64 x.int, .string x.str] 49)) = wB at *
      have HVB := Lib.hid (HV.out.fore hxb); have HKP := Lib.hid kb
      have hgr : g < wr.heap.size := HV.out.num.cell.lt
      have hwB : wr.heap.size < wB.heap.size := kb.lt
      have HFARB : Hid (Far g v wB wr.heap.size) := Lib.hid ⟨by omega, fun e => by have := (HV.out.num.row.lt _ e).2; omega, hwB⟩
      have hwaB : wa.heap.size ≤ wB.heap.size := HVB.out.fr.size
      have k0 := kb.cell (i := 0) (by simp)
      simp only [List.getElem_cons_zero, List.getElem_cons_succ] at k0
      clear p0 p1 p2 p3 p4 kb hxb HV
      by_cases hse : s = ⟨#[]⟩
      · have hse2 := var_eq hse
        have HSK : Hid (vps (ps.take (i + 1)) = qs) := Lib.hid (by rw [HTK.out, vps_skip _ _ hse]; exact HQS.out.symm)
        clear hse
        go_wp2_with fail
        go_roundw
        case rel => exact ⟨i + 1, v, T, by omega, by go_num, by omega, by rw [HSK.out]; exact HVB.out⟩
        case measure => simp [intOf]; omega
      · have hse2 := var_ne hse
        have HSK : Hid (vps (ps.take (i + 1)) = qs ++ [(s, x)]) := Lib.hid (by rw [HTK.out, vps_snoc _ _ hse]; rw [HQS.out])
        clear hse
        go_wp2_with fail
        refine (of_any (t := varT s) HVB.out.num (by omega) (by omega)).mono ?_
        rintro e wx ⟨z, v', rfl, hz, hn', hf', hl'⟩
        have HVX := Lib.hid (HVB.out.of hn' hf' hl')
        have HKX := Lib.hid (HKP.out.fr hf' HFARB.out.off)
        have HFARX := Lib.hid (HFARB.out.step hf' hl')
        have hTx := addT_length T (varT s)
        have HZ1 : Hid (z = numT (addT T (varT s)) (varT s) ∧ (varT s).key ∈ addT T (varT s)) := Lib.hid ⟨by rw [hz, numT_add], addT_mem _ _⟩
        have hwx : wB.heap.size ≤ wx.heap.size := hf'.size
        obtain ⟨T2, hT2⟩ : ∃ T2, T2 = addT T (varT s) := ⟨_, rfl⟩
        rw [← hT2] at HVX HZ1 hTx
        have hrv := HVX.out.rv
        simp only [List.length_map, ← HMQ.out] at hrv
        have HRV := Lib.hid hrv
        clear hz hn' hf' hl' hT2 k0 HVB HKP HFARB hrv
        go_wp2_with (first | (at_builtin; refine wpList_append_at rfl _ _ 38 rfl wa.heap.size 3 i0 (.int .i64 0) 1 8 Tryd.underlying38 HI0.out.1 HI0.out.2.1 HI0.out.2.2.1 HI0.out.2.2.2 rfl (by omega) (.slice Bv mq dv) mq (((qs.map (fun p => varT p.1)).map (numT T2)).map I64) rfl (HRV.out.alloc _) ⟨wx.heap.size, 0, none⟩ 1 1 [I64 z] rfl rfl (laid_news wx _ _) (by simp [Value.oneCell']) (by simp only [maxLen]; omega) (by omega) (by simp; omega) ?_; intro v9 w9 hr9 hg9 hld9; obtain ⟨Bv2, dv2, rfl⟩ := own_slice hr9; have kx9 := (HKX.out.alloc (.cells #[I64 z] 3)).fr (grown_fr hg9) (fun e => own_bk HRV.out HKX.out (by decide) e rfl); have k1 := kx9.cell (i := 1) (by simp); have k2 := kx9.cell (i := 2) (by simp); have k3 := kx9.cell (i := 3) (by simp); have k4 := kx9.cell (i := 4) (by simp); simp only [List.getElem_cons_zero, List.getElem_cons_succ] at k1 k2 k3 k4; have HR9 := Lib.hid hr9; have HG9 := Lib.hid hg9; have HL9 := Lib.hid hld9; clear hr9 hg9 hld9 kx9))
        have HV9 := Lib.hid (HVX.out.pushV HZ1.out.2 ((Ext.refl wx).alloc (.cells #[I64 z] 3)) (by simp only [List.length_map, ← HMQ.out]; rw [← HZ1.out.1]; exact HR9.out) HG9.out HL9.out)
        clear HR9 HG9 HL9 HVX HRV HKX HZ1
        refine (of_any (t := x) HV9.out.num (by omega) (Nat.le_of_lt HV9.out.num.cell.lt)).mono ?_
        rintro e wy ⟨z2, v'', rfl, hz2, hn2, hf2, hl2⟩
        have HVY := Lib.hid (HV9.out.of hn2 hf2 hl2)
        have hTy := addT_length T2 x
        have HZ2 : Hid (z2 = numT (addT T2 x) x ∧ x.key ∈ addT T2 x) := Lib.hid ⟨by rw [hz2, numT_add], addT_mem _ _⟩
        obtain ⟨T3, hT3⟩ : ∃ T3, T3 = addT T2 x := ⟨_, rfl⟩
        rw [← hT3] at HVY HZ2 hTy
        have hri := HVY.out.ri
        simp only [List.length_map, ← HMQ.out] at hri
        have HRI := Lib.hid hri
        have hwy : wa.heap.size ≤ wy.heap.size := HVY.out.fr.size
        clear hz2 hn2 hf2 hl2 hT3 k1 k2 k3 k4 hri HV9
        go_wp2_with (first | (at_builtin; refine wpList_append_at rfl _ _ 38 rfl wa.heap.size 3 i0 (.int .i64 0) 1 8 Tryd.underlying38 HI0.out.1 HI0.out.2.1 HI0.out.2.2.1 HI0.out.2.2.2 rfl (by omega) (.slice Bi mq di) mq (((qs.map (·.2)).map (numT T3)).map I64) rfl (HRI.out.alloc _) ⟨wy.heap.size, 0, none⟩ 1 1 [I64 z2] rfl rfl (laid_news wy _ _) (by simp [Value.oneCell']) (by simp only [maxLen]; omega) (by omega) (by simp; omega) ?_; intro v8 w8 hr8 hg8 hld8; obtain ⟨Bi2, di2, rfl⟩ := own_slice hr8; have HR8 := Lib.hid hr8; have HG8 := Lib.hid hg8; have HL8 := Lib.hid hld8; clear hr8 hg8 hld8))
        go_roundw
        case rel =>
          refine ⟨i + 1, v'', T3, by omega, by go_num, by omega, ?_⟩
          rw [HSK.out, List.map_append, List.map_append]
          exact HVY.out.pushI HZ2.out.2 ((Ext.refl wy).alloc (.cells #[I64 z2] 3)) (by simp only [List.length_map, ← HMQ.out]; rw [← HZ2.out.1]; exact HR8.out) HG8.out HL8.out
        case measure => simp [intOf]; omega
    · obtain rfl : i = np := by omega
      have hdn : ¬ (i : Int) < (i : Int) := by omega
      have HQA : Hid (qs = vps ps) := Lib.hid (by rw [HQS.out, HNP.out, List.take_length])
      have HW2 : Hid (Ext w wr) := Lib.hid (hV.fr.new HWA.out (fun k hk => by
        rcases hk with rfl | hk
        · exact hwg
        · exact Nat.le_trans hwg (own_ge HN.out.row hk)))
      obtain ⟨W2, rfl⟩ : ∃ W2 : World, W2 = wr := ⟨_, rfl⟩
      have HKT : Hid (∀ t ∈ allT xa, Kn T t) := Lib.hid (fun t ht => ⟨hV.pre.subset (HKA.out t ht).1, (HKA.out t ht).2⟩)
      have HKP : Hid (KnP T (vps ps)) := Lib.hid (by
        rw [← HQA.out]
        exact fun p hp => ⟨hV.kv _ (List.mem_map.2 ⟨p, hp, rfl⟩), hV.ki _ (List.mem_map.2 ⟨p, hp, rfl⟩)⟩)
      have HRA : Hid (Ras (Far g v W2) W2 (.slice Ar n1 cr) (xa.map (rat T))) := Lib.hid (by
        have h := far_ras HR1.out (Ext.refl wa) hV.fr hV.land
        rwa [rats_pre (fun t ht => (HKA.out t ht).1) hV.pre] at h)
      have HBX : Hid (Bk W2 w.heap.size 25 [.slice A1 n1 c1, .slice CA na ca]) := Lib.hid (HB1.out.fr hV.fr HG1.out.off)
      have HFB : Hid (Far g v W2 w.heap.size) := Lib.hid (far_far HG1.out (Ext.refl wa) hV.fr hV.land)
      have HRV : Hid (Ins (fun _ => True) W2 (.slice Bv mq dv) (nvZ T (vps ps))) := Lib.hid (by
        have h := (Ins.of_own hV.rv).mono (G := fun _ => True) (fun _ _ _ => trivial)
        rw [List.map_map, HQA.out] at h
        exact h)
      have HRI : Hid (Ins (fun _ => True) W2 (.slice Bi mq di) (niZ T (vps ps))) := Lib.hid (by
        have h := (Ins.of_own hV.ri).mono (G := fun _ => True) (fun _ _ _ => trivial)
        rw [List.map_map, HQA.out] at h
        exact h)
      have HNUM := Lib.hid hV.num
      clear hV HV HWA HN HR1 HM1 HG1 HB1
      obtain ⟨np, rfl⟩ : ∃ np : Nat, np = i := ⟨_, rfl⟩
      have hn15 : n1 ≤ 5 := by rw [HN1.out]; exact SMA.out.len
      obtain ⟨j0, hj0, hy0, hy1, hy2⟩ := info_parts info_ratom
      have HJ0 := Lib.hid (And.intro hj0 (And.intro hy0 (And.intro hy1 hy2))); clear hj0 hy0 hy1 hy2
      obtain ⟨b0, hb0, hc0, hc1, hc2⟩ := info_parts info_bool
      have HB0 := Lib.hid (And.intro hb0 (And.intro hc0 (And.intro hc1 hc2))); clear hb0 hc0 hc1 hc2
      have HOKP : Hid (∀ p ∈ ps, p.2.Ok) := Lib.hid (fun p hp => (EV.out.ok p hp).2)
      have HKAX : Hid (KnA T xa) := Lib.hid (fun a ha t ht => HKT.out t (allT_iff.2 ⟨a, ha, ht⟩))
      go_wp2_with fail
      go_loopw [11, 12, 55] (fun t u q wr => ∃ (i : Nat) (ws : List Value), i ≤ n1 ∧ q = .int .i64 (i : Int) ∧ ApW W2 wr T (appL (firstP ps) (xa.take i)) t u ws) (fun _ _ q _ => n1 - (intOf q).toNat)
      case atStart => exact ⟨0, [], Nat.zero_le _, rfl, World.ownsRow_nil _ _ _ _, rfl, fun j h => by simp [appL] at h, World.ownsRow_nil _ _ _ _, Ext.refl _⟩
      case round =>
        obtain ⟨i, ws, hi2, rfl, hW⟩ := hrel
        obtain ⟨L, hL⟩ : ∃ L, L = appL (firstP ps) (xa.take i) := ⟨_, rfl⟩
        rw [← hL] at hW
        have hLl : L.length ≤ 5 := by rw [hL]; have := appL_length (firstP ps) (xa.take i); simp at this; omega
        have HKL : Hid (KnA T L) := Lib.hid (by rw [hL]; exact KnA.app HKP.out HOKP.out (fun a ha => HKAX.out a (List.mem_of_mem_take ha)))
        obtain ⟨Aw, cw, rfl⟩ := own_slice hW.rw
        obtain ⟨An, cn, rfl⟩ := own_slice hW.rn
        obtain ⟨m, hm⟩ : ∃ m, m = L.length := ⟨_, rfl⟩
        rw [← hm] at hW hLl ⊢
        have HWW := Lib.hid hW; have HL := Lib.hid hL; have HM0 := Lib.hid hm
        clear hL hm
        by_cases hlt2 : i < n1
        · have i1 : (0 : Int) ≤ (i : Int) := by omega
          have i2 : (i : Int) < (n1 : Int) := by omega
          have hix : i < xa.length := by have := HN1.out; omega
          obtain ⟨Ax, cx, vx, ex, hcx, hlx, hclx, hinx⟩ := HRA.out
          injection ex with ex ex1 ex2
          subst ex
          clear ex1
          have hiv : i < vx.length := by rw [hlx, List.length_map]; exact hix
          have hir : i < (xa.map (rat T)).length := by rw [List.length_map]; exact hix
          obtain ⟨adr, rfl, hFr, d0, d1⟩ := hclx.ratom (i := i) hir hiv
          obtain ⟨Bt, dt, et, hdt, htt⟩ := hinx i hir hiv
          rw [et] at d1
          replace d0 := hW.ext.cell d0
          replace d1 := hW.ext.cell d1
          have hnl := (SMA.out.terms _ (List.getElem_mem hix)).1
          have hsn : appL (firstP ps) (xa.take (i + 1)) = addA L (repA (firstP ps) xa[i]) := by rw [List.take_succ_eq_append_getElem hix, appL_snoc, HL.out]
          have hka := HKAX.out _ (List.getElem_mem hix)
          simp only [List.getElem_map] at d0 d1 hdt htt
          obtain ⟨a, ha⟩ : ∃ a, a = xa[i] := ⟨_, rfl⟩
          rw [← ha] at d0 d1 hdt htt hnl hsn hka
          obtain ⟨nt, hnt⟩ : ∃ nt, nt = a.terms.length := ⟨_, rfl⟩
          have hrt : (rat T a).terms.length = nt := by simp [rat, hnt]
          rw [hrt] at d1 hdt
          rw [← hnt] at hnl
          have HA0 := Lib.hid ha; have HNT := Lib.hid hnt; have HSN := Lib.hid hsn; have HKA0 := Lib.hid hka; have HTT := Lib.hid htt; have HRT := Lib.hid hrt
          clear ha hnt hsn hka htt hrt et hclx hinx hFr ex2 hcx hlx hW
          change wr.cell? (adr.add (i * 2)) = some (.string a.rel) at d0
          go_wp2_with fail
          have hxa : Ext wr (wr.alloc (.cells #[.string a.rel, .slice Bt nt dt] 58)) := (Ext.refl wr).alloc _
          generalize (wr.alloc (.cells #[.string a.rel, .slice Bt nt dt] 58)) = wB at *
          have HWB := Lib.hid (HWW.out.fore hxa)
          clear hxa d0 d1
          have hac := apply_any (rl := a.rel) (B := Bt) (d := dt) (HRV.out.ext HWB.out.ext) (HRI.out.ext HWB.out.ext) (HTT.out.ext HWB.out.ext) (by rw [HRT.out]; exact hdt) (by rw [HRT.out]; omega) (by have h1 := vps_length ps; have h2 := HNP.out; simp [nvZ]; omega)
          rw [HRT.out] at hac
          refine hac.mono ?_
          rintro e wC ⟨heC, vy, rfl, hry⟩
          obtain ⟨Ay, cy, rfl⟩ := own_slice hry
          have hap := apR_rat HKP.out HKA0.out
          unfold apR at hap
          have hapt := congrArg RAt.terms hap
          simp only at hapt
          rw [hapt] at hry
          have HWC := Lib.hid (HWB.out.fore heC)
          have hsB := HWB.out.ext.size
          have HINY : Hid (Ins (fun k => W2.heap.size ≤ k ∧ (Value.slice Aw m cw).ownBlock ≠ some k ∧ (Value.slice An m cn).ownBlock ≠ some k) wC (.slice Ay nt cy) ((repA (firstP ps) a).terms.map (numT T))) := Lib.hid ((Ins.of_own (zs := (rat T (repA (firstP ps) a)).terms) hry).mono (fun k _ hk => ⟨by omega, fun e => by have := (HWB.out.rw.lt k e).2; omega, fun e => by have := (HWB.out.rn.lt k e).2; omega⟩))
          clear hac heC hap hapt hry
          go_wp2_with fail
          have kD := Bk.new wC 58 [.string a.rel, .slice Ay nt cy]
          change Bk (wC.alloc (.cells #[.string a.rel, .slice Ay nt cy] 58)) _ _ _ at kD
          have hxD : Ext wC (wC.alloc (.cells #[.string a.rel, .slice Ay nt cy] 58)) := (Ext.refl wC).alloc _
          generalize (wC.alloc (.cells #[.string a.rel, .slice Ay nt cy] 58)) = wD at *
          have HWD := Lib.hid (HWC.out.fore hxD); have HKD := Lib.hid kD; have HIND := Lib.hid (HINY.out.ext hxD)
          obtain ⟨gy, hgy⟩ : ∃ gy, gy = wC.heap.size := ⟨_, rfl⟩
          rw [← hgy] at HKD ⊢
          clear hgy hxD kD HWC HINY hsB
          obtain ⟨ap, hap⟩ : ∃ ap, ap = repA (firstP ps) a := ⟨_, rfl⟩
          have HKAP : Hid (∀ t ∈ ap.terms, Kn T t) := Lib.hid (by rw [hap]; intro t ht; obtain ⟨u, hu, rfl⟩ := List.mem_map.1 ht; exact repT_kn HKP.out HOKP.out (HKA0.out u hu))
          have hapn : a.neg = ap.neg := by rw [hap]; rfl
          have hapr : a.rel = ap.rel := by rw [hap]; rfl
          rw [← hap] at HSN HIND
          rw [hapr] at HKD ⊢
          obtain ⟨AA, cA, eA, hcA, hAt⟩ := HA.out.at'
          injection eA with eA eA1 eA2
          subst eA
          clear eA1 eA2 hcA
          obtain ⟨ada, Ba, da, rfl, -, e0, -⟩ := hAt i hix
          replace e0 := HW2.out.cell e0
          rw [← HA0.out, hapn] at e0
          have r0 := HBX.out.cell (i := 0) (by simp)
          simp only [List.getElem_cons_zero] at r0
          obtain ⟨pn0, hpn0⟩ : ∃ pn0, pn0 = ap.neg := ⟨_, rfl⟩
          have HE00 : Hid (W2.cell? (ada.add (i * 3)) = some (.bool pn0)) := Lib.hid (by rw [hpn0]; exact e0)
          have HR00 := Lib.hid r0; have HPN0 := Lib.hid hpn0
          clear hpn0
          replace e0 := HWD.out.ext.cell e0
          replace r0 := HWD.out.ext.cell r0
          have HE0 := Lib.hid e0; have HR0 := Lib.hid r0; have HAP := Lib.hid hap; have HAPN := Lib.hid hapn; have HAPR := Lib.hid hapr
          have HNTA : Hid (ap.terms.length = nt ∧ nt ≤ 6) := Lib.hid ⟨by rw [hap, HNT.out]; simp [repA], hnl⟩
          clear hap hapn hapr hAt e0 r0
          have hDbl : dblB T (L.take 0) ap = false := by simp [dblB]
          have HDBL := Lib.hid hDbl
          clear hDbl
          go_loopw [16, 66] (fun t q wr => ∃ k : Nat, k ≤ m ∧ q = .int .i64 (k : Int) ∧ t = .bool (dblB T (L.take k) ap) ∧ Ext wD wr) (fun _ q _ => m - (intOf q).toNat)
          case atStart => exact ⟨0, Nat.zero_le _, rfl, by rw [HDBL.out], Ext.refl _⟩
          case round =>
            obtain ⟨k, hk, rfl, rfl, hext⟩ := hrel
            have HEX := Lib.hid hext
            by_cases hkt : k < m
            · have k1 : (0 : Int) ≤ (k : Int) := by omega
              have k2 : (k : Int) < (m : Int) := by omega
              have hkl : k < L.length := by have := HM0.out; omega
              have HSNK := Lib.hid (dbl_snoc T L ap hkl)
              rcases hb : dblB T (L.take k) ap with _ | _
              · rw [hb] at HSNK
                obtain ⟨Bn, dn, en, -, cln⟩ := Cl.of_own HWD.out.rn
                injection en with en en1 en2
                subst en
                clear en1 en2
                obtain ⟨adn, rfl, -, t0⟩ := cln.at' (j := k) (x := .bool L[k].neg) (by simp [hkl, NbV])
                replace t0 := hext.cell t0
                have e0 := hext.cell HE0.out
                have r0 := hext.cell HR0.out
                clear cln hb
                by_cases hnn : L[k].neg = ap.neg
                · rw [hnn] at t0
                  obtain ⟨bn, hbn⟩ : ∃ bn, bn = ap.neg := ⟨_, rfl⟩
                  rw [← hbn] at t0 e0
                  have HNN := Lib.hid hnn
                  clear hnn hbn
                  obtain ⟨Aq, cq, vq, eq, -, hlq, hclq, hinq⟩ := HWD.out.ras
                  injection eq with eq eq1 eq2
                  subst eq
                  clear eq1 eq2
                  have hkr : k < (L.map (rat T)).length := by rw [List.length_map]; exact hkl
                  have hkv : k < vq.length := by omega
                  obtain ⟨adq, rfl, -, q0, q1⟩ := hclq.ratom (i := k) hkr hkv
                  obtain ⟨Bq, dq, e1, hdq, htq⟩ := hinq k hkr hkv
                  rw [e1] at q1
                  simp only [List.getElem_map] at q0 q1 hdq htq
                  replace q0 := hext.cell q0
                  replace q1 := hext.cell q1
                  obtain ⟨nq, hnq⟩ : ∃ nq, nq = (rat T L[k]).terms.length := ⟨_, rfl⟩
                  rw [← hnq] at q1 hdq
                  change wr.cell? (adq.add (k * 2)) = some (.string L[k].rel) at q0
                  obtain ⟨lr, hlr⟩ : ∃ lr, lr = L[k].rel := ⟨_, rfl⟩
                  rw [← hlr] at q0
                  have y0 := (HKD.out.ext hext).cell (i := 0) (by simp); have y1 := (HKD.out.ext hext).cell (i := 1) (by simp)
                  simp only [List.getElem_cons_zero, List.getElem_cons_succ] at y0 y1
                  have HTQ : Hid (Ins (fun _ => True) wr (.slice Bq nq dq) (rat T L[k]).terms) := Lib.hid ⟨Bq, dq, by rw [hnq], by rw [← hnq]; exact hdq, (htq.mono (fun _ _ _ => trivial)).ext hext⟩
                  have HTY : Hid (Ins (fun _ => True) wr (.slice Ay nt cy) (ap.terms.map (numT T))) := Lib.hid ((HIND.out.mono (fun _ _ _ => trivial)).ext hext)
                  have HLR := Lib.hid hlr
                  have h2n := two_new wr [.string ap.rel, .slice Ay nt cy] [.string lr, .slice Bq nq dq] 58 58 _ rfl
                  change Bk ((wr.alloc (.cells #[.string ap.rel, .slice Ay nt cy] 58)).alloc (.cells #[.string lr, .slice Bq nq dq] 58)) _ _ _ ∧ Bk ((wr.alloc (.cells #[.string ap.rel, .slice Ay nt cy] 58)).alloc (.cells #[.string lr, .slice Bq nq dq] 58)) _ _ _ ∧ Ext wr ((wr.alloc (.cells #[.string ap.rel, .slice Ay nt cy] 58)).alloc (.cells #[.string lr, .slice Bq nq dq] 58)) at h2n
                  obtain ⟨kb1, kb2, hx12⟩ := h2n
                  have hxd := hx12.drew
                  have hnil : ∀ V : World, Ins (fun _ => True) V (.slice none 0 0) [] := fun V => ⟨none, 0, rfl, by simp, .inl rfl⟩
                  have hIs := is_any (w := ((wr.alloc (.cells #[.string ap.rel, .slice Ay nt cy] 58)).alloc (.cells #[.string lr, .slice Bq nq dq] 58)).drew) (vs := []) (is := []) (fx := []) (ras_one (kb1.ext (Ext.refl _).drew) (HTY.out.ext hxd)) (ras_one (kb2.ext (Ext.refl _).drew) (HTQ.out.ext hxd)) (hnil _) (hnil _) (hnil _) (by simp) (by simp) (by simp) (by simp) (by simp) (fun b hb => by rw [List.mem_singleton.1 hb]; simp; have := HNTA.out; omega)
                  rw [is_pair] at hIs
                  obtain ⟨bq, hbq⟩ : ∃ bq, bq = decide ((⟨ap.rel, ap.terms.map (numT T)⟩ : RAt) = ⟨lr, (rat T L[k]).terms⟩) := ⟨_, rfl⟩
                  rw [← hbq] at hIs
                  have HBQ : Hid (dblB T (L.take (k + 1)) ap = bq) := Lib.hid (by
                    rw [HSNK.out, hbq, hlr, HNN.out, Bool.false_or]
                    simp only [true_and]
                    rfl)
                  have h2m := two_new wr [.string lr, .slice Bq nq dq] [.string ap.rel, .slice Ay nt cy] 58 58 _ rfl
                  change Bk ((wr.alloc (.cells #[.string lr, .slice Bq nq dq] 58)).alloc (.cells #[.string ap.rel, .slice Ay nt cy] 58)) _ _ _ ∧ Bk ((wr.alloc (.cells #[.string lr, .slice Bq nq dq] 58)).alloc (.cells #[.string ap.rel, .slice Ay nt cy] 58)) _ _ _ ∧ Ext wr ((wr.alloc (.cells #[.string lr, .slice Bq nq dq] 58)).alloc (.cells #[.string ap.rel, .slice Ay nt cy] 58)) at h2m
                  obtain ⟨km1, km2, hm12⟩ := h2m
                  have hIs2 := is_any (w := ((wr.alloc (.cells #[.string lr, .slice Bq nq dq] 58)).alloc (.cells #[.string ap.rel, .slice Ay nt cy] 58)).drew) (vs := []) (is := []) (fx := []) (ras_one (km2.ext (Ext.refl _).drew) (HTY.out.ext hm12.drew)) (ras_one (km1.ext (Ext.refl _).drew) (HTQ.out.ext hm12.drew)) (hnil _) (hnil _) (hnil _) (by simp) (by simp) (by simp) (by simp) (by simp) (fun b hb => by rw [List.mem_singleton.1 hb]; simp; have := HNTA.out; omega)
                  rw [is_pair, ← hbq] at hIs2
                  have HIS := Lib.hid hIs; have HIS2 := Lib.hid hIs2
                  clear km1 km2 hm12 hIs2
                  clear hnq hlr htq hinq hclq e1 hlq hext kb1 kb2 hx12 hxd hnil hIs hbq
                  go_upto_region 23 with fail
                  go_region_held3 (fun V => Ext wr V ∧ V.cell? (adn.add k) = some (.bool bn) ∧ V.cell? ⟨w.heap.size, 0, none⟩ = some (.slice (some ada) n1 c1) ∧ V.cell? (ada.add (i * 3)) = some (.bool bn) ∧ V.cell? ⟨gy, 0, none⟩ = some (.string ap.rel) ∧ V.cell? ⟨gy, 1, none⟩ = some (.slice Ay nt cy) ∧ V.cell? (adq.add (k * 2)) = some (.string lr) ∧ V.cell? ⟨(adq.add (k * 2)).block, (adq.add (k * 2)).off + 1, none⟩ = some (.slice Bq nq dq))
                    ((refine (fun he => ⟨he, Ext.cell he t0, Ext.cell he r0, Ext.cell he e0, Ext.cell he y0, Ext.cell he y1, Ext.cell he q0, Ext.cell he q1⟩) ?_; repeat (first | exact Ext.refl _ | exact (Ext.refl _).drew | refine Ext.drew ?_ | refine Ext.trans ?_ (by assumption) | (with_reducible refine Ext.alloc ?_ _))))
                    (first
                      | (go_at_call 17; (with_reducible show Calls _ _ _ (World.drew (World.alloc (World.alloc _ (Obj.cells #[Value.string ap.rel, _] _ _)) _)) _); refine HIS.out.mono ?_; rintro e wi ⟨y, rfl, hei, rfl⟩)
                      | (go_at_call 17; (with_reducible show Calls _ _ _ (World.drew (World.alloc (World.alloc _ (Obj.cells #[Value.string lr, _] _ _)) _)) _); refine HIS2.out.mono ?_; rintro e wi ⟨y, rfl, hei, rfl⟩))
                  all_goals
                    have HFIN := Lib.hid (And.left (b := _ ∧ _) (by assumption))
                    clear t0 r0 e0 y0 y1 q0 q1
                    go_wp2_with fail
                    go_roundw
                    case rel => exact ⟨k + 1, by omega, by go_num, by rw [HBQ.out], HEX.out.trans HFIN.out⟩
                    case measure => simp [intOf]; omega
                · obtain ⟨bk, hbk⟩ : ∃ bk, bk = L[k].neg := ⟨_, rfl⟩
                  obtain ⟨bn, hbn⟩ : ∃ bn, bn = ap.neg := ⟨_, rfl⟩
                  rw [← hbk] at t0
                  rw [← hbn] at e0
                  have hne : (bk == bn) = false := by rw [hbk, hbn]; simp [hnn]
                  have HBQ : Hid (dblB T (L.take (k + 1)) ap = false) := Lib.hid (by rw [HSNK.out]; simp [hnn])
                  clear hnn hbk hbn hext
                  go_upto_region 23 with fail
                  go_quiet (fail)
                  go_wp2_with fail
                  go_roundw
                  case rel => exact ⟨k + 1, by omega, by go_num, by rw [HBQ.out], HEX.out.drewN _⟩
                  case measure => simp [intOf]; omega
              · have HBQ : Hid (dblB T (L.take (k + 1)) ap = true) := Lib.hid (by rw [HSNK.out, hb, Bool.true_or])
                clear hb hext
                go_upto_region 23 with fail
                go_quiet (fail)
                go_wp2_with fail
                go_roundw
                case rel => exact ⟨k + 1, by omega, by go_num, by rw [HBQ.out], HEX.out.drewN _⟩
                case measure => simp [intOf]; omega
            · obtain rfl : k = m := by omega
              have hdk : ¬ (k : Int) < (k : Int) := by omega
              have htk2 : L.take k = L := by rw [HM0.out]; exact List.take_length
              rw [htk2]
              clear htk2
              have HWE := Lib.hid (HWD.out.fore hext); have HIE := Lib.hid (HIND.out.ext hext)
              have e0 := hext.cell HE0.out
              have r0 := hext.cell HR0.out
              have y0 := (HKD.out.ext hext).cell (i := 0) (by simp); have y1 := (HKD.out.ext hext).cell (i := 1) (by simp)
              simp only [List.getElem_cons_zero, List.getElem_cons_succ] at y0 y1
              have HKE := Lib.hid (HKD.out.ext hext)
              have HADD := Lib.hid (addA_dbl HKL.out HKAP.out)
              clear hext
              rcases hb : dblB T L ap with _ | _
              · rw [hb] at HADD
                have HAD2 : Hid (appL (firstP ps) (xa.take (i + 1)) = L ++ [ap]) := Lib.hid (by rw [HSN.out, HADD.out]; simp)
                have hrw := HWE.out.rw
                rw [← HM0.out] at hrw
                have hrn := HWE.out.rn
                rw [← HM0.out] at hrn
                have HRW := Lib.hid hrw; have HRN := Lib.hid hrn
                have hwe : W2.heap.size ≤ wr.heap.size := HWE.out.ext.size
                clear hb hrw hrn e0 r0 HADD
                go_wp2_with (first
                  | (at_builtin; refine wpList_append_at rfl _ _ 36 rfl W2.heap.size 58 j0 (.agg #[.string ⟨#[]⟩, .slice none 0 0]) 2 40 Tryd.underlying36 HJ0.out.1 HJ0.out.2.1 HJ0.out.2.2.1 HJ0.out.2.2.2 rfl (by omega) (.slice Aw k cw) k (rcells (L.map (rat T)) ws) rfl (HRW.out.alloc _) ⟨wr.heap.size, 0, none⟩ 1 1 [.string ap.rel, .slice Ay nt cy] rfl rfl (laid_news wr _ _) (by simp [Value.oneCell']) (by simp only [maxLen]; omega) (by omega) (by simp; omega) ?_; intro v9 w9 hr9 hg9 hld9; obtain ⟨Aw2, cw2, rfl⟩ := own_slice hr9; have hxw9 : Ext W2 w9 := (HWE.out.ext.alloc _).grown hg9 (fun q hq => own_ge HRW.out hq); have e0 := hxw9.cell HE00.out; have r0 := hxw9.cell HR00.out; have hsz9 : W2.heap.size ≤ w9.heap.size := hxw9.size; have hrn9 := own_fr (HRN.out.alloc (.cells #[.string ap.rel, .slice Ay nt cy] 58)) (grown_fr hg9) (fun q hq e => own_ne HRN.out HRW.out (by decide) hq e); have HRN9 := Lib.hid hrn9; have HR9 := Lib.hid hr9; have HG9 := Lib.hid hg9; have HL9 := Lib.hid hld9; clear hr9 hg9 hld9 hxw9 hrn9)
                  | (at_builtin; refine wpList_append_at rfl _ _ 56 rfl W2.heap.size 4 b0 (.bool false) 1 1 Tryd.underlying56 HB0.out.1 HB0.out.2.1 HB0.out.2.2.1 HB0.out.2.2.2 rfl (by omega) (.slice An k cn) k (L.map NbV) rfl (HRN9.out.alloc _) ⟨w9.heap.size, 0, none⟩ 1 1 [.bool pn0] rfl rfl (laid_news w9 _ _) (by simp [Value.oneCell']) (by simp only [maxLen]; omega) (by omega) (by simp; omega) ?_; intro v8 w8 hr8 hg8 hld8; obtain ⟨An2, cn2, rfl⟩ := own_slice hr8; have HR8 := Lib.hid hr8; have HG8 := Lib.hid hg8; have HL8 := Lib.hid hld8; clear hr8 hg8 hld8))
                go_roundw
                case rel =>
                  refine ⟨i + 1, ws ++ [.slice Ay nt cy], by omega, by go_num, ?_⟩
                  rw [HAD2.out]
                  exact ApW.push HWE.out HIE.out ((Ext.refl wr).alloc _) (by rw [← HM0.out]; exact HR9.out) HG9.out HL9.out ((Ext.refl w9).alloc _) (by rw [← HM0.out, ← HPN0.out]; exact HR8.out) HG8.out HL8.out
                case measure => simp [intOf]; omega
              · rw [hb] at HADD
                have HAD2 : Hid (appL (firstP ps) (xa.take (i + 1)) = L) := Lib.hid (by rw [HSN.out, HADD.out]; simp)
                clear hb e0 r0 y0 y1 HADD
                go_wp2_with fail
                go_roundw
                case rel => exact ⟨i + 1, ws, by omega, by go_num, by rw [HAD2.out]; exact HWE.out⟩
                case measure => simp [intOf]; omega
        · obtain rfl : i = n1 := by omega
          have hdi : ¬ (i : Int) < (i : Int) := by omega
          have HLX : Hid (L = appL (firstP ps) xa) := Lib.hid (by rw [HL.out, HN1.out, List.take_length])
          have HAOK : Hid (AOk xa) := Lib.hid ⟨RA.out.bd, fun a ha => by have := (SMA.out.terms a ha).1; omega, fun a ha t ht => by
            have h1 := (SMA.out.str a ha t ht).1
            obtain ⟨r1, r2, r3, r4⟩ := RA.out.rng a ha t ht
            exact ⟨by omega, by omega, r1, r2, r3, r4⟩⟩
          obtain ⟨wE, rfl⟩ : ∃ wE : World, wE = wr := ⟨_, rfl⟩
          have a0 := (HBX.out.ext hW.ext).cell (i := 0) (by simp); have a1 := (HBX.out.ext hW.ext).cell (i := 1) (by simp)
          simp only [List.getElem_cons_zero, List.getElem_cons_succ] at a0 a1
          have HXE := Lib.hid (HW2.out.trans hW.ext)
          clear hW
          go_wp2_with fail
          clear a0 a1
          refine (happly_any (HA.out.ext HXE.out) (HCN.out.ext HXE.out) (HM.out.ext HXE.out) HAOK.out hna (Lib.hid (fun q hq => Nat.le_trans (HPZ.out q hq).2.1 (by simp [maxLen]))) (by have := HNP.out; omega) (HTAB.out.fore HXE.out) (Lib.hid (fun s t hs => by
            obtain ⟨hr, -, h1, h2⟩ := HPZ.out _ (firstP_mem hs)
            exact ⟨h1, h2, hr.1, hr.2.1, hr.2.2.1, hr.2.2.2⟩))).mono ?_
          rintro e wG ⟨heG, AG, nG, cG, BG, dG, rfl, hAG, hCG⟩
          rw [← HLX.out] at hAG
          obtain ⟨hnG⟩ : nG = m ∧ True := ⟨by obtain ⟨A, c, vs, hv, _⟩ := hAG; injection hv with _ hv _; rw [hv, HM0.out], trivial⟩
          subst hnG
          have HAG := Lib.hid hAG; have HWG := Lib.hid (HWW.out.fore heG); have hEs := HWW.out.ext.size
          clear hAG hCG heG
          go_wp2_with fail
          have kG := Bk.new wG 25 [.slice AG nG cG, .slice BG na dG]
          change Bk (wG.alloc (.cells #[.slice AG nG cG, .slice BG na dG] 25)) _ _ _ at kG
          have hxH : Ext wG (wG.alloc (.cells #[.slice AG nG cG, .slice BG na dG] 25)) := (Ext.refl wG).alloc _
          generalize (wG.alloc (.cells #[.slice AG nG cG, .slice BG na dG] 25)) = wH at *
          have hWH := HWG.out.ext.trans hxH
          have hnum := HNUM.out.ext hWH
          have hgW : g < W2.heap.size := HNUM.out.cell.lt
          have hvW : ∀ k, v.ownBlock = some k → k < W2.heap.size := fun k hk => (HNUM.out.row.lt k hk).2
          have hGs := HWG.out.ext.size; have hHs := hxH.size
          have hfar : ∀ k, W2.heap.size ≤ k → k < wG.heap.size → Far g v wH k := fun k h1 h2 => ⟨by omega, fun e => by have := hvW k e; omega, by omega⟩
          have hatG : Ats (Far g v wH) wH (.slice AG nG cG) L := (HAG.out.mono (fun k hk h => hfar k (by omega) hk)).ext hxH
          have hrasG : Ras (Far g v wH) wH (.slice Aw nG cw) (L.map (rat T)) := (HWG.out.ras.mono (fun k hk h => hfar k h hk)).ext hxH
          obtain ⟨An', cn', en, hcn, hcln⟩ := Cl.of_own HWG.out.rn
          injection en with en1 en2 en3
          subst en1 en3
          have hclN : Cl (Far g v wH) wH An (L.map NbV) := (hcln.mono (fun k hk h => hfar k h.2 hk)).ext hxH
          have hLt : (allT L).length ≤ 30 := by
            have h1 := allT_small (xs := L) (m := 6) (fun a ha => by
              rw [HLX.out] at ha
              obtain ⟨b, hb, rfl⟩ := appL_mem ha
              have := (SMA.out.terms b hb).1
              simpa [repA] using this)
            have := HM0.out
            omega
          have hTT : T.length ≤ 50 := by omega
          have hfG : Far g v wH wG.heap.size := ⟨by omega, fun e => by have := hvW _ e; omega, kG.lt⟩
          have hfw : Far g v wH w.heap.size := HFB.out.ext hWH
          refine (atoms_any (Ac := BG) (nc := na) (cc := dG) hnum hatG Far.use (by omega) (by have := HM0.out; omega) (by omega) Far.below).mono ?_
          intro e wI hp2
          obtain ⟨x2, v2, rfl, hn2, hf2, hl2, hr2⟩ := atoms_far (by omega) hp2
          have hkL : ∀ t ∈ allT L, t.key ∈ T := fun t ht => by obtain ⟨a, ha, hta⟩ := allT_iff.1 ht; exact (HKL.out a ha t hta).1
          rw [← rats_pre hkL (tabT_pre T (allT L))] at hr2
          obtain ⟨Al, cl, hx2⟩ : ∃ A c, x2 = .slice A nG c := by obtain ⟨A, c, vs, hv, _⟩ := hr2; exact ⟨A, c, by rw [hv, List.length_map, HM0.out]⟩
          subst hx2
          have HRL := Lib.hid (hr2.mono (G := fun _ => True) (fun _ _ _ => trivial))
          have HRW := Lib.hid ((hrasG.fr hf2 (fun _ h => h.off)).mono (G := fun _ => True) (fun _ _ _ => trivial))
          have HCN2 := Lib.hid ((hclN.fr hf2 (fun _ h => h.off)).mono (G := fun _ => True) (fun _ _ _ => trivial))
          have HATI := Lib.hid ((hatG.fr hf2 (fun _ h => h.off)).mono (G := fun _ => True) (fun _ _ _ => trivial))
          have HKG := Lib.hid (kG.fr hf2 hfG.off)
          have HKW := Lib.hid ((HBX.out.ext hWH).fr hf2 hfw.off)
          have HXI : Hid (Ext w wI) := Lib.hid (hf2.new (HW2.out.trans hWH) (fun k hk => by
            rcases hk with rfl | hk
            · exact hwg
            · exact Nat.le_trans hwg (own_ge HNUM.out.row hk)))
          obtain ⟨gG, hgG⟩ : ∃ gG, gG = wG.heap.size := ⟨_, rfl⟩
          rw [← hgG] at HKG ⊢
          clear hgG hp2 hn2 hf2 hl2 hr2 hkL hfG hfw hTT hLt hclN hcln hcn hrasG hatG hfar hHs hGs hvW hgW hnum hWH hxH kG hEs
          have g1 := HKG.out.cell (i := 1) (by simp); have k1 := HKW.out.cell (i := 1) (by simp)
          simp only [List.getElem_cons_zero, List.getElem_cons_succ] at g1 k1
          clear en2
          go_wp2_with fail
          clear g1 k1
          go_loopw [131] (fun q wr => ∃ j : Nat, j ≤ nG ∧ q = .int .i64 (j : Int) ∧ Ext wI wr) (fun q _ => nG - (intOf q).toNat)
          case atStart => exact ⟨0, Nat.zero_le _, rfl, Ext.refl _⟩
          case round =>
            obtain ⟨j, hj, rfl, hext⟩ := hrel
            have HEX := Lib.hid hext
            by_cases hjt : j < nG
            · have j1 : (0 : Int) ≤ (j : Int) := by omega
              have j2 : (j : Int) < (nG : Int) := by omega
              have hjL : j < L.length := by have := HM0.out; omega
              have hjr : j < (L.map (rat T)).length := by rw [List.length_map]; exact hjL
              obtain ⟨AA, cA, eA, -, hAt⟩ := HATI.out.at'
              injection eA with eA eA1 eA2
              subst eA
              clear eA1 eA2
              obtain ⟨adg, Bg, dg, rfl, -, e0, -⟩ := hAt j hjL
              obtain ⟨adn, rfl, -, t0⟩ := HCN2.out.at' (j := j) (x := .bool L[j].neg) (by simp [hjL, NbV])
              obtain ⟨Aq, cq, vq, eq, hcq, hlq, hclq, -⟩ := HRL.out
              injection eq with eq eq1 eq2
              subst eq
              obtain ⟨adl, rfl, -, -, -⟩ := hclq.ratom (i := j) hjr (by omega)
              obtain ⟨Ap, cp, vp, ep, hcp, hlp, hclp, -⟩ := HRW.out
              injection ep with ep ep1 ep2
              subst ep
              obtain ⟨adw, rfl, -, -, -⟩ := hclp.ratom (i := j) hjr (by omega)
              have hncl : nG ≤ cl := by rw [eq2, eq1]; exact hcq
              have hncw : nG ≤ cw := by rw [ep2, ep1]; exact hcp
              have g0 := (HKG.out.ext hext).cell (i := 0) (by simp)
              simp only [List.getElem_cons_zero] at g0
              replace e0 := hext.cell e0
              replace t0 := hext.cell t0
              obtain ⟨bj, hbj⟩ : ∃ bj, bj = L[j].neg := ⟨_, rfl⟩
              rw [← hbj] at e0 t0
              have hnil : ∀ V : World, Ins (fun _ => True) V (.slice none 0 0) [] := fun V => ⟨none, 0, rfl, by simp, .inl rfl⟩
              have HTL : Hid ((L[j].terms).length ≤ 6) := Lib.hid (by
                have hm : L[j] ∈ appL (firstP ps) xa := by rw [← HLX.out]; exact List.getElem_mem hjL
                obtain ⟨b, hb, e⟩ := appL_mem hm
                rw [e]
                have := (SMA.out.terms b hb).1
                simpa [repA] using this)
              have HIS : Hid (∀ V : World, Ext wr V → Calls Tryd.prog 17 #[.slice (some (adl.add (j * 2))) 1 (cl - j), .slice (some (adw.add (j * 2))) 1 (cw - j), .slice none 0 0, .slice none 0 0, .slice none 0 0] V (Ret (fun x _ => x = .bool true) V)) := Lib.hid (fun V hV => by
                have h := is_any (vs := []) (is := []) (fx := []) (ras_at (HRL.out.ext (hext.trans hV)) hjr) (ras_at (HRW.out.ext (hext.trans hV)) hjr) (hnil V) (hnil V) (hnil V) (by simp) (by simp) (by simp) (by simp) (by simp) (fun b hb => by rw [List.mem_singleton.1 hb, List.getElem_map]; have := HTL.out; simp [rat]; omega)
                rwa [is_self] at h)
              clear hbj hnil hAt hclq hclp hlq hlp eq1 eq2 ep1 ep2 hcq hcp hext
              have j3 : (j : Int) + 1 ≤ (cl : Int) := by omega
              have j4 : (j : Int) + 1 ≤ (cw : Int) := by omega
              have j5 : (j : Int) ≤ (j : Int) + 1 := by omega
              have j6 : (0 : Int) ≤ (j : Int) + 1 := by omega
              have j8 : ¬ cl = j := by omega
              have j9 : ¬ cw = j := by omega
              have j7 : IntKind.i64.wrap ((j : Int) + 1) = (j : Int) + 1 := IntWalk.i64_in _ (by omega)
              go_upto_region 36 with fail
              go_region_held3 (fun V => Ext wr V ∧ V.cell? ⟨gG, 0, none⟩ = some (.slice (some adg) nG cG) ∧ V.cell? (adg.add (j * 3)) = some (.bool bj) ∧ V.cell? (adn.add j) = some (.bool bj))
                ((refine (fun he => ⟨he, Ext.cell he g0, Ext.cell he e0, Ext.cell he t0⟩) ?_; repeat (first | exact Ext.refl _ | exact (Ext.refl _).drew | refine Ext.drew ?_ | refine Ext.trans ?_ (by assumption))))
                (first
                  | (go_at_call 17; (with_reducible refine (HIS.out _ (And.left (by assumption))).mono ?_); rintro e wi ⟨y, rfl, hei, rfl⟩))
              have HFIN := Lib.hid (And.left (b := _ ∧ _) (by assumption))
              clear g0 e0 t0
              go_wp2_with fail
              go_roundw
              case rel => exact ⟨j + 1, by omega, by go_num, HEX.out.trans HFIN.out⟩
              case measure => simp [intOf]; omega
            · obtain rfl : j = nG := by omega
              have hdj : ¬ (j : Int) < (j : Int) := by omega
              have HXZ := Lib.hid (HXI.out.trans hext)
              clear hext
              go_wp2_with fail
              refine (awake_any (HTAB.out.fore HXZ.out)).mono ?_
              rintro e wz ⟨y, rfl, hez, rfl⟩
              have HZ := Lib.hid (HXZ.out.trans hez)
              clear hez
              go_wp2_with fail
              go_ret
              exact Ret.mk HZ.out rfl
end Go.Proofs.YtiahaofjmcjdiaaDoor
