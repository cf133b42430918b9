/- The walk of NormalizeMeans. -/
import Derived.Test.YtmmmdinncmbjkaaGreatMf46
import Derived.Test.YtmmmdinncmbjkaaGreatMf48
namespace Go.Proofs.YtmmmdinncmbjkaaGreat
open Go.RowKit Go.Maps
set_option maxRecDepth 20000 in
set_option maxHeartbeats 6400000 in
theorem law_means {F G H : Nat → Prop} {w : World} {A B O S U : Option Addr} {ca cb co nS cs nU cU : Nat} {q : Qy} {ss : List Sc} {us : List Up} (h : QyR F w A ca B cb O co q) (hS : Sl rdSc G w (.slice S nS cs) ss) (hU : Sl rdUp H w (.slice U nU cU) us) (hz : QyZ q) (hla : ∀ r ∈ q.rs, r.ats.length ≤ maxLen) (hls : ss.length ≤ maxLen) (hlu : nU ≤ maxLen) (hzs : ∀ x ∈ ss, x.name.size ≤ maxLen ∧ x.kinds.length ≤ maxLen) (hus : ∀ u ∈ us, u.rel.size ≤ maxLen ∧ u.row.length ≤ maxLen ∧ ∀ v ∈ u.row, v.str.size ≤ maxLen) :
    Calls Tryz.prog 5 #[.slice S nS cs, .slice U nU cU, .agg #[.slice A q.hd.length ca, .int .i64 q.ag, .string q.av, .slice B q.rs.length cb, .slice O q.od.length co]] w (Ret (fun x _ => x = .bool true) w) := by
  have hnS := hS.cap.1
  obtain ⟨i0, hi0, hz0, hz1, hz2⟩ := info_parts info_val
  have HV0 := Lib.hid (And.intro hi0 (And.intro hz0 (And.intro hz1 hz2))); clear hi0 hz0 hz1 hz2
  have HFEW := Lib.hid (fun (V : World) (hV : Ext w V) => few_any (S := S) (nS := nS) (cs := cs) (A := A) (nh := q.hd.length) (ca := ca) (ag := q.ag) (av := q.av) (O := O) (no := q.od.length) (co := co) (h.rs.ext hV) (hU.ext hV) hlu hla)
  have HMADE := Lib.hid (fun (h1 : nS ≤ 16) (h2 : nU ≤ 1000) (V : World) (hV : Ext w V) => made_any (hS.ext hV) (hU.ext hV) h1 h2 hzs hus)
  have HNO := Lib.hid (fun (hb : q.od.length ≤ 20) (hc : checkE ss q ≠ 0) (ri : Int) (V : World) (hV : Ext w V) => rule_no (ri := ri) (h.ext hV) (hS.ext hV) hz (by omega) hls hc)
  have HYES := Lib.hid (fun (hb : q.od.length ≤ 20) (rn : Nat) (r : Rl) (hr : q.rs[rn]? = some r) (hc : checkE ss q = 0) (V : World) (hV : Ext w V) => by
    obtain ⟨hrn, e⟩ := List.getElem?_eq_some_iff.1 hr
    have t := rule_good (ri := rn) (h.ext hV) (hS.ext hV) hz (by omega) hls hc hrn
    rw [norm_srcs hc (List.getElem_mem hrn), order_free hc, e] at t
    exact t)
  have HRL := Lib.hid (fun (rn : Nat) (r : Rl) (hr : q.rs[rn]? = some r) => by
    obtain ⟨hrn, e⟩ := List.getElem?_eq_some_iff.1 hr
    have t := h.rs.rl hrn
    rw [e] at t
    exact t)
  obtain ⟨nh, hnh⟩ : ∃ n, n = q.hd.length := ⟨_, rfl⟩
  obtain ⟨nr, hnr⟩ : ∃ n, n = q.rs.length := ⟨_, rfl⟩
  obtain ⟨no, hno⟩ : ∃ n, n = q.od.length := ⟨_, rfl⟩
  have HNR := Lib.hid hnr; have HNOO := Lib.hid hno; have HNS := Lib.hid hnS
  rw [← hnh, ← hnr, ← hno] at HFEW HNO HYES
  rw [← hnh, ← hnr, ← hno]
  obtain ⟨ag, hag⟩ : ∃ x, x = q.ag := ⟨_, rfl⟩
  obtain ⟨av, hav⟩ : ∃ x, x = q.av := ⟨_, rfl⟩
  rw [← hag, ← hav] at HFEW HNO HYES
  rw [← hag, ← hav]
  clear h hS hU hz hla hls hlu hzs hus hnh hnr hno hag hav hnS
  go_enter Tryz.func5, Tryz.ntmps5
  go_upto_region 1 with fail
  have kq := Bk.new w 61 [.slice A nh ca, .int .i64 ag, .string av, .slice B nr cb, .slice O no co]
  change Bk (w.alloc (.cells #[.slice A nh ca, .int .i64 ag, .string av, .slice B nr cb, .slice O no co] 61)) _ _ _ at kq
  have hx1 : Ext w (w.alloc (.cells #[.slice A nh ca, .int .i64 ag, .string av, .slice B nr cb, .slice O no co] 61)) := (Ext.refl w).alloc _
  generalize (w.alloc (.cells #[.slice A nh ca, .int .i64 ag, .string av, .slice B nr cb, .slice O no co] 61)) = w1 at *
  have HKQ := Lib.hid kq; have HX1 := Lib.hid hx1
  clear kq hx1
  go_wp2_with fail
  refine (awake_true _).mono ?_
  rintro e w2 ⟨x, rfl, he, rfl⟩
  replace HKQ := Lib.hid (HKQ.out.ext he); replace HX1 := Lib.hid (HX1.out.trans he)
  have q0 := HKQ.out.cell (i := 0) (by simp); have q1 := HKQ.out.cell (i := 1) (by simp); have q2 := HKQ.out.cell (i := 2) (by simp); have q3 := HKQ.out.cell (i := 3) (by simp); have q4 := HKQ.out.cell (i := 4) (by simp)
  simp only [List.getElem_cons_zero, List.getElem_cons_succ] at q0 q1 q2 q3 q4
  clear he
  go_wp2_with fail
  refine (HFEW.out _ HX1.out).mono ?_
  rintro e w3 ⟨x, rfl, he, b, rfl, hfew⟩
  replace HKQ := Lib.hid (HKQ.out.ext he); replace HX1 := Lib.hid (HX1.out.trans he)
  clear he q0 q1 q2 q3 q4
  rcases b with _ | _
  · clear hfew
    go_wp2_with fail
    go_ret
    exact Ret.mk HX1.out rfl
  obtain ⟨hnS6, hnU40, hnh20, hnr4, hno20⟩ := hfew rfl
  clear hfew
  go_wp2_with fail
  refine (HMADE.out (by omega) (by omega) _ HX1.out).mono ?_
  rintro e w4 ⟨he4, ⟨mb, rfl⟩ | ⟨b, nn, Af, nf, cf, rfl, hD, -, hO, -, hF⟩⟩
  · have HX4 := Lib.hid (HX1.out.trans he4)
    clear he4
    go_upto_region 6 with fail
    have hx5 : Ext w4 (w4.alloc (.cells #[.map mb] 26)) := (Ext.refl w4).alloc _
    generalize (w4.alloc (.cells #[.map mb] 26)) = w5 at *
    have HX5 := Lib.hid (HX4.out.trans hx5)
    clear hx5
    go_wp2_with fail
    refine (values22 (f := []) (Sl.nil _ (fun _ => True) _) (by omega) (fun x hx => by simp at hx)).mono ?_
    rintro e w6 ⟨x, rfl, he6, Av, mv, cv, lv, rfl, hmv, hv⟩
    have HX6 := Lib.hid (HX5.out.trans he6)
    clear he6 hv
    go_wp2_with fail
    go_ret
    exact Ret.mk HX6.out rfl
  have HLW := Lib.hid (fun (r : Rl) (hr : r ∈ q.rs) (hc : checkE ss q = 0) (s : Src) (hs : s ∈ srcsL q r) => lw_ok (us := us) (by have := HNS.out; omega) hO hc hr hs)
  have HMN := Lib.hid (fun (r : Rl) (hr : r ∈ q.rs) (hc : checkE ss q = 0) (a : List Vl) => means_plain (a := a) hO hc hr)
  have hfl := facts_len hO ss
  have hfr : ∀ x ∈ factsL (madeD ss us) ss, x.row.length ≤ 32 := fun x hx => by
    have h1 := (mem_facts (fun s e h => madeD_key h)).1 hx
    unfold rowsOf at h1
    split at h1
    · rename_i e he
      have h2 := (accE_zero (hO.row _ _ he _ h1).1).1
      have h3 := hO.ar _ _ he
      omega
    · simp at h1
  obtain ⟨M, hM⟩ : ∃ M, M = madeD ss us := ⟨_, rfl⟩
  rw [← hM] at hD hO hF HLW HMN hfl hfr
  obtain ⟨f, hf⟩ : ∃ f, f = factsL M ss := ⟨_, rfl⟩
  rw [← hf] at hF HLW HMN hfl hfr
  have hnf := hF.cap.1
  have hnf2 : nf ≤ 32768 := by have := HNS.out; omega
  have HX4 := Lib.hid (HX1.out.trans he4); have HKQ4 := Lib.hid (HKQ.out.ext he4); have HD4 := Lib.hid hD; have HO := Lib.hid hO; have HF4 := Lib.hid hF; have HFR := Lib.hid hfr
  clear he4 hM hf hD hO hF hnf hfl hfr
  go_upto_region 6 with fail
  have hx5 : Ext w4 (w4.alloc (.cells #[.map (some b)] 26)) := (Ext.refl w4).alloc _
  have kd := Bk.new w4 26 [.map (some b)]
  change Bk (w4.alloc (.cells #[.map (some b)] 26)) _ _ _ at kd
  generalize (w4.alloc (.cells #[.map (some b)] 26)) = w45 at *
  have HX45 := Lib.hid (HX4.out.trans hx5); have HKQ45 := Lib.hid (HKQ4.out.ext hx5); have HD45 := Lib.hid (HD4.out.ext hx5); have HF45 := Lib.hid (HF4.out.ext hx5); have HKD45 := Lib.hid kd
  clear hx5 kd
  go_wp2_with fail
  refine (values22 HF45.out hnf2 HFR.out).mono ?_
  rintro e w5 ⟨x, rfl, he5, Av, mv, cv, lv, rfl, hmv, hvs⟩
  have HX5 := Lib.hid (HX45.out.trans he5); have HKQ5 := Lib.hid (HKQ45.out.ext he5); have HD5 := Lib.hid (HD45.out.ext he5); have HF5 := Lib.hid (HF45.out.ext he5); have HKD := Lib.hid (HKD45.out.ext he5)
  have HVS := Lib.hid hvs; have HMV := Lib.hid hvs.cap.1
  clear he5 hvs
  by_cases hv5 : (mv : Int) ≤ 5
  rotate_left 1
  · have hv6 : (5 : Int) < (mv : Int) := by omega
    go_wp2_with fail
    go_ret
    exact Ret.mk HX5.out rfl
  by_cases hv0 : mv = 0
  · subst hv0
    go_wp2_with fail
    go_ret
    exact Ret.mk HX5.out rfl
  have hv1 : ¬ (5 : Int) < (mv : Int) := by omega
  have hv2 : ((mv : Int) == 0) = false := by rw [beq_eq_false_iff_ne]; omega
  go_wp2_with fail
  clear hv1 hv2
  go_loopw [11] (fun t wr => ∃ i : Nat, i ≤ nr ∧ t = .int .i64 (i : Int) ∧ Ext w5 wr) (fun t _ => nr - (intOf t).toNat)
  case atStart => exact ⟨0, Nat.zero_le _, rfl, Ext.refl _⟩
  case round =>
    obtain ⟨i, hi, rfl, hx⟩ := hrel
    obtain ⟨W, rfl⟩ : ∃ W : World, W = wr := ⟨_, rfl⟩
    have HXW := Lib.hid hx; have HX := Lib.hid (HX5.out.trans hx); have HKQW := Lib.hid (HKQ5.out.ext hx)
    have q0 := HKQW.out.cell (i := 0) (by simp); have q1 := HKQW.out.cell (i := 1) (by simp); have q2 := HKQW.out.cell (i := 2) (by simp); have q3 := HKQW.out.cell (i := 3) (by simp); have q4 := HKQW.out.cell (i := 4) (by simp)
    simp only [List.getElem_cons_zero, List.getElem_cons_succ] at q0 q1 q2 q3 q4
    clear hx
    by_cases hlt : i < nr
    · have i1 : (0 : Int) ≤ (i : Int) := by omega
      have i2 : (i : Int) < (nr : Int) := by omega
      by_cases hc : checkE ss q = 0
      · have hrq : i < q.rs.length := by have := HNR.out; omega
        obtain ⟨r, hr⟩ : ∃ r, q.rs[i]? = some r := ⟨_, List.getElem?_eq_getElem hrq⟩
        have hmem : r ∈ q.rs := List.mem_of_getElem? hr
        have hY := HYES.out hno20 i r hr hc
        have hRL := HRL.out i r hr
        have hLW := HLW.out r hmem hc
        have hMN := HMN.out r hmem hc
        have hsv : ∀ s ∈ srcsL q r, ∀ v ∈ s.vars, 0 ≤ v ∧ v < ((namesL q r).length : Int) := fun s hs v hv => by
          obtain ⟨k, hk, rfl⟩ := (srcs_asc hs).2.1 v hv
          exact ⟨by omega, by omega⟩
        have hlen := names_14 hc hmem
        have hsln := srcs_len hc hmem
        have hcv := cond_var hc hmem
        have htz := term_zero hc hmem
        have hcov : ∀ a ∈ r.ats, ∀ t ∈ a.terms, t.var ≠ ⟨#[]⟩ → t.var ∈ namesL q r := fun a ha => names_cov ha
        obtain ⟨h8, h8', -, -⟩ := rule_parts hc hmem
        have hcin : ∀ d ∈ r.cds, d.var ∈ namesL q r := fun d hd => mem_addNs.2 (.inr (by
          rw [varsC_eq]
          exact varsT_iff.2 ⟨cdT d, List.mem_append_right _ (List.mem_map.2 ⟨d, hd, rfl⟩), rfl, hcv d hd⟩))
        have hcop : ∀ d ∈ r.cds, 0 ≤ d.op ∧ d.op ≤ 5 := fun d hd => by
          have h1 := (rule_parts hc hmem).2.2.2 d hd
          unfold condE at h1
          split at h1
          · split at h1
            · assumption
            · cases h1
          · cases h1
        obtain ⟨srcs, hsrcs⟩ : ∃ l, l = srcsL q r := ⟨_, rfl⟩
        obtain ⟨names, hnames⟩ : ∃ l, l = namesL q r := ⟨_, rfl⟩
        obtain ⟨od, hod⟩ : ∃ l, l = orderL q.hd q.od := ⟨_, rfl⟩
        rw [← hsrcs] at hY hsln hLW hMN hsv
        rw [← hnames] at hY hlen hcov hMN hsv hcin
        rw [← hod] at hY
        obtain ⟨adr, Ba, da, Bc, dc, rfl, -, ra, rc, hat, hcd⟩ := hRL
        obtain ⟨na, hna⟩ : ∃ n, n = r.ats.length := ⟨_, rfl⟩
        obtain ⟨nc, hnc⟩ : ∃ n, n = r.cds.length := ⟨_, rfl⟩
        rw [← hna] at ra hat h8
        rw [← hnc] at rc hcd h8'
        have HSAT := Lib.hid (fun (V : World) (hV : Ext w V) (hV5 : Ext w5 V) (An : Option Addr) (nn cn : Nat) (hnn : nn = names.length) (hN : Strs (fun _ => True) V (.slice An nn cn) names) (H9 : Nat → Prop) (R : Option Addr) (n9 c9 : Nat) (a : List Vl) (hal : a.length = names.length) (ha : Sl rdVl H9 V (.slice R n9 c9) a) =>
          sat22 hN (hat.ext hV) (hcd.ext hV) (HF5.out.ext hV5) ha (by omega) (by omega) (by omega) (by omega) (fun a ha => by have := (htz a ha).1; omega) (fun x hx => by have := HFR.out x hx; omega) (by omega) (by have := ha.cap.1; omega) hcov hcin hcop)
        have HSV := Lib.hid hsv; have HMN2 := Lib.hid hMN
        have HY := Lib.hid hY; have HLS := Lib.hid hLW
        replace ra := HX.out.cell ra; replace rc := HX.out.cell rc
        clear hc hmem hY hcv htz hcov hr hsrcs hnames hod hat hcd hna hnc HNO HYES HRL HFEW HMADE HNR HNOO hrq HLW hLW hMN HMN hsv hcin hcop
        go_wp2_with fail
        refine (HY.out _ HX.out).mono ?_
        rintro e w6 ⟨he6, V, D, S2, rfl, hn⟩
        simp only at hn ⊢
        obtain ⟨hvs, hds, hsrc⟩ := hn
        simp only at hsrc hvs hds ⊢
        have hvs' := hvs
        obtain ⟨A1, c1, rfl, -, -⟩ := hvs'
        obtain ⟨A2, c2, rfl, -, -⟩ := hds
        obtain ⟨A3, c3, rfl⟩ := hsrc.sl
        have HNM := Lib.hid (hvs.mono (G := fun _ => True) (fun _ _ _ => trivial))
        obtain ⟨nn, hnn⟩ : ∃ n, n = names.length := ⟨_, rfl⟩
        obtain ⟨m, hm⟩ : ∃ n, n = srcs.length := ⟨_, rfl⟩
        obtain ⟨nd, hnd⟩ : ∃ n, n = (od.map Ky.desc).length := ⟨_, rfl⟩
        rw [← hm] at hsrc hsln
        rw [← hnn] at hlen HNM
        rw [← hm, ← hnn, ← hnd]
        have HX6 := Lib.hid (HX.out.trans he6); have HXW6 := Lib.hid (HXW.out.trans he6); have HSRC := Lib.hid hsrc; have HM := Lib.hid hm; have HNN := Lib.hid hnn
        replace q3 := he6.cell q3; replace ra := he6.cell ra; replace rc := he6.cell rc
        clear hsrc he6 hm hnn hnd hvs q0 q1 q2 q4
        go_upto_region 13 with fail
        have k7 := Bk.new w6 40 [.slice A1 nn c1, .int .i64 (nh : Int), .slice A2 nd c2, .slice A3 m c3]
        change Bk (w6.alloc (.cells #[.slice A1 nn c1, .int .i64 (nh : Int), .slice A2 nd c2, .slice A3 m c3] 40)) _ _ _ at k7
        have hx7 : Ext w6 (w6.alloc (.cells #[.slice A1 nn c1, .int .i64 (nh : Int), .slice A2 nd c2, .slice A3 m c3] 40)) := (Ext.refl w6).alloc _
        generalize (w6.alloc (.cells #[.slice A1 nn c1, .int .i64 (nh : Int), .slice A2 nd c2, .slice A3 m c3] 40)) = w7 at *
        have HX7 := Lib.hid (HX6.out.trans hx7); have HXW7 := Lib.hid (HXW6.out.trans hx7); have HK7 := Lib.hid k7; have HSRC7 := Lib.hid (HSRC.out.ext hx7); have HNM7 := Lib.hid (HNM.out.ext hx7)
        replace q3 := hx7.cell q3; replace ra := hx7.cell ra; replace rc := hx7.cell rc
        have d0 := (HKD.out.ext HXW7.out).cell (i := 0) (by simp)
        have k0 := k7.cell (i := 0) (by simp); have k1 := k7.cell (i := 1) (by simp); have k2 := k7.cell (i := 2) (by simp); have k3 := k7.cell (i := 3) (by simp)
        simp only [List.getElem_cons_zero, List.getElem_cons_succ] at d0 k0 k1 k2 k3
        by_cases hn4 : (4 : Int) < (nn : Int)
        · go_wp2_with fail
          go_ret
          exact Ret.mk HX7.out rfl
        have hn5 : nn ≤ 4 := by omega
        have hld := loads_any (f := (nh : Int)) (res := fun s => .ok (loadR M s)) (V := .slice A1 nn c1) (D := .slice A2 nd c2) ⟨_, _, _, rfl⟩ ⟨_, _, _, rfl⟩ HSRC7.out (by omega) (fun W' hW' s hs v hv => load_yes (HD5.out.ext (HXW7.out.trans hW')) HO.out hv (HLS.out s hs).ld)
        have HLD := Lib.hid hld
        clear hld hx7 k7
        go_wp2_with fail
        refine HLD.out.mono ?_
        rintro e w8 ⟨he8, ⟨c, i', hi', hcon, -⟩ | ⟨l, A7, n7, c7, hl, rfl, hsl⟩⟩
        · cases hcon
        obtain rfl := ok_map hl
        obtain rfl : n7 = m := by
          have h1 := hsl.cap.1
          rw [List.length_map] at h1
          have := HM.out
          omega
        have HX8 := Lib.hid (HX7.out.trans he8); have HXW8 := Lib.hid (HXW7.out.trans he8); have HK8 := Lib.hid (HK7.out.ext he8); have HNM8 := Lib.hid (HNM7.out.ext he8); have HSL := Lib.hid hsl
        have HRA8 := Lib.hid (he8.cell ra); have HRC8 := Lib.hid (he8.cell rc)
        replace k0 := he8.cell k0
        have HSAT8 := Lib.hid (fun (V : World) (hV : Ext w8 V) => HSAT.out V (HX8.out.trans hV) (HXW8.out.trans hV) _ _ _ HNN.out (HNM8.out.ext hV))
        have HIN8 := Lib.hid (fun (V : World) (hV : Ext w8 V) (H9 : Nat → Prop) (R : Option Addr) (n9 c9 : Nat) (a : List Vl) (hal : a.length = names.length) (ha : Sl rdVl H9 V (.slice R n9 c9) a) => inall_any (V := .slice A1 nn c1) (D := .slice A2 nd c2) (fr := (nh : Int)) ⟨_, _, _, rfl⟩ ⟨_, _, _, rfl⟩ (HSRC7.out.ext (he8.trans hV)) (HSL.out.ext hV) ha (by omega) (fun s hs => ⟨by rw [hal]; exact HSV.out s hs, by have := (HLS.out s hs).ld.b1; omega, (HLS.out s hs).bd, (HLS.out s hs).row⟩))
        clear he8 hl hsl HLD HSAT k1 k2 k3 d0 q3 ra rc
        go_wp2_with fail
        clear k0
        go_loopw [16, 17] (fun u t wr => ∃ k z : Nat, k ≤ nn ∧ t = .int .i64 (k : Int) ∧ u = .int .i64 (z : Int) ∧ z ≤ 5 ^ k ∧ Ext w8 wr) (fun _ t _ => nn - (intOf t).toNat)
        case atStart => exact ⟨0, 1, Nat.zero_le _, rfl, rfl, by simp, Ext.refl _⟩
        case round =>
          obtain ⟨k, z, hk, rfl, rfl, hz, hxk⟩ := hrel
          obtain ⟨W2, rfl⟩ : ∃ W : World, W = wr := ⟨_, rfl⟩
          have HXK := Lib.hid hxk
          have k0 := (HK8.out.ext hxk).cell (i := 0) (by simp)
          simp only [List.getElem_cons_zero] at k0
          clear hxk
          by_cases hkn : k < nn
          · have k1 : (0 : Int) ≤ (k : Int) := by omega
            have k2 : (k : Int) < (nn : Int) := by omega
            have hz3 : z ≤ 125 := Nat.le_trans hz (Nat.le_trans (Nat.pow_le_pow_right (by omega) (show k ≤ 3 by omega)) (by decide))
            have hzm : z * mv ≤ 625 := Nat.le_trans (Nat.mul_le_mul hz3 (show mv ≤ 5 by omega)) (by decide)
            have HZ : Hid (z * mv ≤ 5 ^ (k + 1)) := Lib.hid (by rw [Nat.pow_succ]; exact Nat.mul_le_mul hz (show mv ≤ 5 by omega))
            have HWZ : Hid (Value.int .i64 (wrap64 ((z : Int) * (mv : Int))) = .int .i64 ((z * mv : Nat) : Int)) := Lib.hid (by rw [IntWalk.wrap64_in _ (by rw [← Int.natCast_mul]; omega), Int.natCast_mul])
            clear hz hz3 hzm
            go_wp2_with fail
            go_roundw
            case rel => exact ⟨k + 1, z * mv, by omega, by go_num, HWZ.out, HZ.out, HXK.out⟩
            case measure => simp [intOf]; omega
          · obtain rfl : k = nn := by omega
            have hdk : ¬ (k : Int) < (k : Int) := by omega
            have hz3 : z ≤ 625 := Nat.le_trans hz (Nat.le_trans (Nat.pow_le_pow_right (by omega) (show k ≤ 4 by omega)) (by decide))
            clear hz
            go_wp2_with fail
            clear k0
            go_loopw [18] (fun t wr => ∃ x : Nat, x ≤ z ∧ t = .int .i64 (x : Int) ∧ Ext W2 wr) (fun t _ => z - (intOf t).toNat)
            case atStart => exact ⟨0, Nat.zero_le _, rfl, Ext.refl _⟩
            case round =>
              obtain ⟨x, hx, rfl, hxx⟩ := hrel
              obtain ⟨W3, rfl⟩ : ∃ W : World, W = wr := ⟨_, rfl⟩
              have HXX := Lib.hid hxx; have HX3 := Lib.hid (HXK.out.trans hxx)
              clear hxx
              by_cases hxz : x < z
              · have x1 : (0 : Int) ≤ (x : Int) := by omega
                have x2 : (x : Int) < (z : Int) := by omega
                go_upto_region 27 with fail
                have hro := World.ownsRow_made (base := W3.heap.size) (e := 83) (size := 3) W3 #[] 0 (Nat.le_refl _) (Nat.zero_le _) rfl
                have hx6 : Ext W3 (W3.alloc (.cells #[] 83)) := (Ext.refl W3).alloc _
                generalize (W3.alloc (.cells #[] 83)) = W4 at *
                have HRO := Lib.hid hro; have HX6 := Lib.hid hx6
                clear hro hx6
                go_wp2_with fail
                go_loopw [19, 20, 21] (fun u s t wr => ∃ (j y : Nat) (a : List Vl), j ≤ k ∧ t = .int .i64 (j : Int) ∧ s = .int .i64 (y : Int) ∧ y ≤ 625 ∧ a.length = j ∧ wr.ownsRow W3.heap.size 83 3 u j (vcells a) ∧ Ext W3 wr) (fun _ _ t _ => k - (intOf t).toNat)
                case atStart => exact ⟨0, x, [], Nat.zero_le _, rfl, rfl, by omega, rfl, HRO.out, HX6.out⟩
                case round =>
                  obtain ⟨j, y, a, hj, rfl, rfl, hy, haj, how, hx7⟩ := hrel
                  obtain ⟨Au, cu, rfl⟩ := own_slice how
                  obtain ⟨W6, rfl⟩ : ∃ W : World, W = wr := ⟨_, rfl⟩
                  have HOW := Lib.hid how; have HXE := Lib.hid hx7; have HX7' := Lib.hid (HX3.out.trans hx7); have HAJ := Lib.hid haj
                  have k0 := (HK8.out.ext HX7'.out).cell (i := 0) (by simp); have k1 := (HK8.out.ext HX7'.out).cell (i := 1) (by simp); have k2 := (HK8.out.ext HX7'.out).cell (i := 2) (by simp); have k3 := (HK8.out.ext HX7'.out).cell (i := 3) (by simp)
                  simp only [List.getElem_cons_zero, List.getElem_cons_succ] at k0 k1 k2 k3
                  have hsz6 : W3.heap.size ≤ W6.heap.size := hx7.size
                  clear haj hx7
                  by_cases hjl : j < k
                  · have j1 : (0 : Int) ≤ (j : Int) := by omega
                    have j2 : (j : Int) < (k : Int) := by omega
                    have hpm : y % mv < mv := Nat.mod_lt _ (by omega)
                    have hpd : y / mv ≤ 625 := Nat.le_trans (Nat.div_le_self _ _) hy
                    obtain ⟨p, hp⟩ : ∃ p, p = y % mv := ⟨_, rfl⟩
                    obtain ⟨d9, hd9⟩ : ∃ p, p = y / mv := ⟨_, rfl⟩
                    have hrem : (y : Int) % (mv : Int) = (p : Int) := by rw [hp, Int.natCast_emod]
                    have hquo : (y : Int) / (mv : Int) = (d9 : Int) := by rw [hd9, Int.natCast_ediv]
                    rw [← hp] at hpm
                    rw [← hd9] at hpd
                    clear hp hd9
                    obtain ⟨av, rfl, -, f0, f1, f2⟩ := HVS.out.vl (i := p) (by have := HMV.out; omega)
                    obtain ⟨v, hv⟩ : ∃ y, y = lv[p]'(by have := HMV.out; omega) := ⟨_, rfl⟩
                    rw [← hv] at f0 f1 f2
                    obtain ⟨yk, yi, yst⟩ := v
                    simp only at f0 f1 f2
                    clear hv
                    have hex := HXW8.out.trans HX7'.out
                    replace f0 := hex.cell f0; replace f1 := hex.cell f1; replace f2 := hex.cell f2
                    have HTK4 : Hid (vcells (a ++ [⟨yk, yi, yst⟩]) = vcells a ++ [.int .i64 yk, .int .i64 yi, .string yst]) := Lib.hid (vcells_app1 _ _)
                    have HAL : Hid ((a ++ [(⟨yk, yi, yst⟩ : Vl)]).length = j + 1) := Lib.hid (by rw [List.length_append, HAJ.out]; rfl)
                    have HOWB : Hid (∀ b, (Value.slice Au j cu).ownBlock = some b → W3.heap.size ≤ b) := Lib.hid (fun b hb => own_ge HOW.out hb)
                    have hc1 : (0 : Int) ≤ (p : Int) := by omega
                    have hc2 : (p : Int) < (mv : Int) := by omega
                    have hm0 : ¬ (mv : Int) = 0 := by omega
                    have hm1 : ((mv : Int) == 0) = false := by rw [beq_eq_false_iff_ne]; exact hm0
                    clear hex how
                    go_wp2_with (first
                      | (at_builtin; refine wpList_append_at rfl _ _ 81 rfl W3.heap.size 83 i0 (.agg #[.int .i64 0, .int .i64 0, .string ⟨#[]⟩]) 3 32 Tryz.underlying81 HV0.out.1 HV0.out.2.1 HV0.out.2.2.1 HV0.out.2.2.2 rfl (by omega) (.slice Au j cu) j (vcells a) rfl (HOW.out.alloc _) ⟨W6.heap.size, 0, none⟩ 1 1 [.int .i64 yk, .int .i64 yi, .string yst] rfl rfl (laid_news W6 _ _) (by simp [Value.oneCell']) (by simp only [maxLen]; omega) (by omega) (by simp; omega) ?_; intro v8 w8 hr8 hg8 hl8; obtain ⟨A8, c8, e8⟩ := own_slice hr8; subst e8; have HR8 := Lib.hid hr8; have HX8' := Lib.hid ((HXE.out.trans ((Ext.refl W6).alloc (.cells #[.int .i64 yk, .int .i64 yi, .string yst] 83))).grown hg8 (fun b hb => HOWB.out b hb)); clear hr8 hg8 hl8))
                    go_roundw
                    case rel => exact ⟨j + 1, d9, a ++ [⟨yk, yi, yst⟩], by omega, by go_num, rfl, hpd, HAL.out, by rw [HTK4.out]; exact HR8.out, HX8'.out⟩
                    case measure => simp [intOf]; omega
                  · obtain rfl : j = k := by omega
                    have hdj : ¬ (j : Int) < (j : Int) := by omega
                    have hU := (Rw.of_flat (cells := Vl.cells) (sz := 3) (hl := fun _ => rfl) how).sl (by decide)
                    have HC1 := Lib.hid (fun (V : World) (hV : Ext W6 V) => HIN8.out V (HX7'.out.trans hV) _ _ _ _ a (HAJ.out.trans HNN.out) (hU.ext hV))
                    have HC2 := Lib.hid (fun (V : World) (hV : Ext W6 V) => HSAT8.out V (HX7'.out.trans hV) _ _ _ _ a (HAJ.out.trans HNN.out) (hU.ext hV))
                    have hin := HMN2.out a
                    obtain ⟨g1, hg1⟩ : ∃ b, b = satB names r f a := ⟨_, rfl⟩
                    rw [hin, ← hg1] at HC1
                    rw [← hg1] at HC2
                    have q3 := (HKQ5.out.ext (HXW8.out.trans HX7'.out)).cell (i := 3) (by simp)
                    simp only [List.getElem_cons_zero, List.getElem_cons_succ] at q3
                    have ra := HX7'.out.cell HRA8.out; have rc := HX7'.out.cell HRC8.out
                    have hb1 : (g1 != g1) = false := by cases g1 <;> rfl
                    clear hin hg1 hU how
                    go_upto_region 33 with fail
                    go_region_held3 (fun V => Ext W6 V ∧ V.cell? ⟨w6.heap.size, 0, none⟩ = some (.slice A1 j c1) ∧ V.cell? ⟨w6.heap.size, 1, none⟩ = some (.int .i64 (nh : Int)) ∧ V.cell? ⟨w6.heap.size, 2, none⟩ = some (.slice A2 nd c2) ∧ V.cell? ⟨w6.heap.size, 3, none⟩ = some (.slice A3 n7 c3) ∧ V.cell? ⟨w.heap.size, 3, none⟩ = some (.slice (some adr) nr cb) ∧ V.cell? (adr.add (i * 2)) = some (.slice Ba na da) ∧ V.cell? ⟨(adr.add (i * 2)).block, (adr.add (i * 2)).off + 1, none⟩ = some (.slice Bc nc dc))
                      ((refine (fun he => ⟨he, Ext.cell he k0, Ext.cell he k1, Ext.cell he k2, Ext.cell he k3, Ext.cell he q3, Ext.cell he ra, Ext.cell he rc⟩) ?_; repeat (first | exact Ext.refl _ | exact (Ext.refl _).drew | refine Ext.drew ?_ | refine Ext.trans ?_ (by assumption))))
                      (first
                        | (go_at_call 19; (with_reducible refine (HC1.out _ (And.left (by assumption))).mono ?_); rintro e wa ⟨yv, rfl, hea, rfl⟩)
                        | (go_at_call 20; (with_reducible refine (HC2.out _ (And.left (by assumption))).mono ?_); rintro e wb ⟨yw, rfl, heb, rfl⟩))
                    have hfin : Ext W6 wb := And.left (b := _ ∧ _) (by assumption)
                    have HXF := Lib.hid (HXE.out.trans hfin)
                    have HXG := Lib.hid (HXX.out.trans HXF.out)
                    clear hfin hea heb k0 k1 k2 k3 q3 ra rc
                    go_wp2_with fail
                    go_roundw
                    case rel => exact ⟨x + 1, by omega, by go_num, HXG.out⟩
                    case measure => simp [intOf]; omega
              · obtain rfl : x = z := by omega
                have hdx : ¬ (x : Int) < (x : Int) := by omega
                go_wp2_with fail
                go_roundw
                case rel => exact ⟨i + 1, by omega, by go_num, HXW8.out.trans HX3.out⟩
                case measure => simp [intOf]; omega
      · have HN := Lib.hid (HNO.out hno20 hc (i : Int))
        obtain ⟨ev, hev⟩ : ∃ e, e = checkE ss q := ⟨_, rfl⟩
        rw [← hev] at HN hc
        have hb : (ev != 0) = true := by rw [bne_iff_ne]; exact hc
        clear hc hev HNO HYES HRL HFEW HMADE HNR HNOO HLW
        go_wp2_with fail
        refine (HN.out _ HX.out).mono ?_
        rintro e w6 ⟨rfl, he6⟩
        have HX6 := Lib.hid (HX.out.trans he6)
        clear he6 q0 q1 q2 q3 q4
        go_upto_region 13 with fail
        have hx7 : Ext w6 (w6.alloc (.cells #[.slice none 0 0, .int .i64 0, .slice none 0 0, .slice none 0 0] 40)) := (Ext.refl w6).alloc _
        generalize (w6.alloc (.cells #[.slice none 0 0, .int .i64 0, .slice none 0 0, .slice none 0 0] 40)) = w7 at *
        have HX7 := Lib.hid (HX6.out.trans hx7)
        clear hx7
        go_wp2_with fail
        go_ret
        exact Ret.mk HX7.out rfl
    · obtain rfl : i = nr := by omega
      have hdi : ¬ (i : Int) < (i : Int) := by omega
      go_wp2_with fail
      go_ret
      exact Ret.mk HX.out rfl
end Go.Proofs.YtmmmdinncmbjkaaGreat
