/- The walk of NormalizeRules. -/
import Derived.Test.YtmmmdinncmbjkaaOv
import Derived.Test.YtmmmdinncmbjkaaOu
import Derived.Test.YtmmmdinncmbjkaaOt
namespace Go.Proofs.Ytmmmdinncmbjkaa
open Go.RowKit Go.Maps

set_option maxRecDepth 20000 in
set_option maxHeartbeats 6400000 in
theorem law_rules {F G : Nat → Prop} {w : World} {A B O S : Option Addr} {ca cb co nS cs : Nat} {q : Qy} {ss : List Sc} {ri : Int} (h : QyR F w A ca B cb O co q) (hS : Sl rdSc G w (.slice S nS cs) ss) (hz : QyZ q) (hla : ∀ r ∈ q.rs, r.ats.length ≤ maxLen) (hls : ss.length ≤ maxLen) :
    Calls Try.prog 3 #[.slice S nS cs, .agg #[.slice A q.hd.length ca, .int .i64 q.ag, .string q.av, .slice B q.rs.length cb, .slice O q.od.length co], .int .i64 ri] w (Ret (fun x _ => x = .bool true) w) := by
  have HFEW := Lib.hid (fun (V : World) (hV : Ext w V) => few_nil (S := S) (nS := nS) (cs := cs) (A := A) (nh := q.hd.length) (ca := ca) (ag := q.ag) (av := q.av) (O := O) (no := q.od.length) (co := co) (h.rs.ext hV) hla)
  have HCK := Lib.hid (fun (hb : q.od.length ≤ 20) (V : World) (hV : Ext w V) => check_any (h.ext hV) (hS.ext hV) hz (by omega) hls)
  have HNO := Lib.hid (fun (hb : q.od.length ≤ 20) (hc : checkE ss q ≠ 0) (V : World) (hV : Ext w V) => rule_no (ri := ri) (h.ext hV) (hS.ext hV) hz (by omega) hls hc)
  have HRG := Lib.hid (fun (hb : q.od.length ≤ 20) (hc : checkE ss q = 0) (hr : ri < 0 ∨ (q.rs.length : Int) ≤ ri) (V : World) (hV : Ext w V) => rule_range (ri := ri) (h.ext hV) (hS.ext hV) hz (by omega) hls hc hr)
  have HYES := Lib.hid (fun (hb : q.od.length ≤ 20) (rn : Nat) (r : Rl) (hr : q.rs[rn]? = some r) (hc : checkE ss q = 0) (V : World) (hV : Ext w V) => by
    obtain ⟨hrn, e⟩ := List.getElem?_eq_some_iff.1 hr
    have t := rule_good (ri := rn) (h.ext hV) (hS.ext hV) hz (by omega) hls hc hrn
    rw [norm_srcs hc (List.getElem_mem hrn), order_free hc, e] at t
    exact t)
  have HORD := Lib.hid (fun (hb : q.od.length ≤ 20) (hh : q.hd.length ≤ 20) (V : World) (hV : Ext w V) => order_any (nb := q.rs.length) (B := B) (cb := cb) (ag := q.ag) (av := q.av) (h.hd.ext hV) (h.od.ext hV) hz.hd hz.od (by omega) (by omega))
  have HRL := Lib.hid (fun (rn : Nat) (r : Rl) (hr : q.rs[rn]? = some r) => by
    obtain ⟨hrn, e⟩ := List.getElem?_eq_some_iff.1 hr
    have t := h.rs.rl hrn
    rw [e] at t
    exact t)
  have HRZ := Lib.hid (fun (r : Rl) (hr : r ∈ q.rs) => (hz.rs _ hr).tms)
  obtain ⟨nh, hnh⟩ : ∃ n, n = q.hd.length := ⟨_, rfl⟩
  obtain ⟨nr, hnr⟩ : ∃ n, n = q.rs.length := ⟨_, rfl⟩
  obtain ⟨no, hno⟩ : ∃ n, n = q.od.length := ⟨_, rfl⟩
  have HNR := Lib.hid hnr; have HNOO := Lib.hid hno; have HNH := Lib.hid hnh
  rw [← hnh, ← hnr, ← hno] at HFEW HNO HYES HCK HRG HORD
  rw [← hnh, ← hnr, ← hno]
  obtain ⟨ag, hag⟩ : ∃ x, x = q.ag := ⟨_, rfl⟩
  obtain ⟨av, hav⟩ : ∃ x, x = q.av := ⟨_, rfl⟩
  rw [← hag, ← hav] at HFEW HNO HYES HCK HRG HORD
  rw [← hag, ← hav]
  clear h hS hz hla hls hnh hnr hno hag hav
  go_enter Try.func3, Try.ntmps3
  go_upto_region 1 with fail
  have kq := Bk.new w 27 [.slice A nh ca, .int .i64 ag, .string av, .slice B nr cb, .slice O no co]
  change Bk (w.alloc (.cells #[.slice A nh ca, .int .i64 ag, .string av, .slice B nr cb, .slice O no co] 27)) _ _ _ at kq
  have hx1 : Ext w (w.alloc (.cells #[.slice A nh ca, .int .i64 ag, .string av, .slice B nr cb, .slice O no co] 27)) := (Ext.refl w).alloc _
  generalize (w.alloc (.cells #[.slice A nh ca, .int .i64 ag, .string av, .slice B nr cb, .slice O no co] 27)) = w1 at *
  have HKQ := Lib.hid kq; have HX1 := Lib.hid hx1
  clear kq hx1
  go_wp2_with fail
  refine (awake_true _).mono ?_
  rintro e w2 ⟨x, rfl, he, rfl⟩
  replace HKQ := Lib.hid (HKQ.out.ext he); replace HX1 := Lib.hid (HX1.out.trans he)
  have q0 := HKQ.out.cell (i := 0) (by simp); have q1 := HKQ.out.cell (i := 1) (by simp); have q2 := HKQ.out.cell (i := 2) (by simp); have q3 := HKQ.out.cell (i := 3) (by simp); have q4 := HKQ.out.cell (i := 4) (by simp)
  simp only [List.getElem_cons_zero, List.getElem_cons_succ] at q0 q1 q2 q3 q4
  clear he
  go_wp2_with fail
  refine (HFEW.out _ HX1.out).mono ?_
  rintro e w3 ⟨x, rfl, he, b, rfl, hfew⟩
  replace HKQ := Lib.hid (HKQ.out.ext he); replace HX1 := Lib.hid (HX1.out.trans he)
  replace q0 := he.cell q0; replace q1 := he.cell q1; replace q2 := he.cell q2; replace q3 := he.cell q3; replace q4 := he.cell q4
  clear he
  rcases b with _ | _
  · clear hfew
    go_wp2_with fail
    go_ret
    exact Ret.mk HX1.out rfl
  obtain ⟨-, hnh20, -, hno20⟩ := hfew rfl
  clear hfew
  have HCK2 := Lib.hid (HCK.out hno20)
  by_cases hc : checkE ss q = 0
  · by_cases hri : 0 ≤ ri ∧ ri < (nr : Int)
    · obtain ⟨rn, rfl⟩ : ∃ n : Nat, ri = (n : Int) := ⟨ri.toNat, by omega⟩
      have hrn : rn < nr := by omega
      have hrq : rn < q.rs.length := by have := HNR.out; omega
      obtain ⟨r, hr⟩ : ∃ r, q.rs[rn]? = some r := ⟨_, List.getElem?_eq_getElem hrq⟩
      have hmem : r ∈ q.rs := List.mem_of_getElem? hr
      have hY := HYES.out hno20 rn r hr hc
      have hORD := HORD.out hno20 hnh20
      have hRL := HRL.out rn r hr
      have hRZ := HRZ.out r hmem
      have hlen := names_len hc hmem
      have hsln := srcs_len hc hmem
      have hbd := fun s hs => srcs_bd hc hmem (s := s) hs
      have hnr' := names_ref hc hmem
      have hof := order_free hc
      have hcv := cond_var hc hmem
      have htz := term_zero hc hmem
      have hcov : ∀ a ∈ r.ats, ∀ t ∈ a.terms, t.var ≠ ⟨#[]⟩ → t.var ∈ namesL q r := fun a ha => names_cov ha
      obtain ⟨-, h8, h8', -, -⟩ := items_ok (rule_ok ((ast_ok (check_ast hc)).2.2.2.2.2.1 _ hmem)).1
      have hall : (allT r.ats).length ≤ 48 := by
        have h4 := allT_small (fun a ha => (htz a ha).1)
        omega
      have hsrd : srcsL q r = upL (srcR (namesL q r) r) r.ats.length := rfl
      rw [hc] at HCK2
      rw [← HNOO.out] at hlen
      rw [← HNH.out] at hof
      obtain ⟨srcs, hsrcs⟩ : ∃ l, l = srcsL q r := ⟨_, rfl⟩
      obtain ⟨names, hnames⟩ : ∃ l, l = namesL q r := ⟨_, rfl⟩
      obtain ⟨od, hod⟩ : ∃ l, l = orderL q.hd q.od := ⟨_, rfl⟩
      rw [← hsrcs] at hY hsln hbd hsrd
      rw [← hnames] at hY hlen hbd hnr' hcov hsrd
      rw [← hod] at hY hORD hnr' hof
      obtain ⟨adr, Ba, da, Bc, dc, rfl, -, ra, rc, hat, hcd⟩ := hRL
      obtain ⟨na, hna⟩ : ∃ n, n = r.ats.length := ⟨_, rfl⟩
      obtain ⟨nc, hnc⟩ : ∃ n, n = r.cds.length := ⟨_, rfl⟩
      rw [← hna] at ra hat h8
      rw [← hnc] at rc hcd h8'
      rw [hof] at hORD
      have HV := Lib.hid (fun (V : World) (hV : Ext w V) (Ak : Option Addr) (ck : Nat) (hK : Sl rdKy (fun _ => True) V (.slice Ak nh ck) od) => by
        have t := vars_refC (C := Bc) (nc := nc) (cc := dc) hK (hat.ext hV) hRZ (by omega) (by omega) (fun a ha => by have := (htz a ha).1; omega) (by omega)
        rw [hnr'] at t
        exact t)
      have HSR := Lib.hid (fun (V : World) (hV : Ext w V) (An : Option Addr) (nn cn : Nat) (hnn : nn = names.length) (hN : Strs (fun _ => True) V (.slice An nn cn) names) => by
        have t := sources_ref hN (hat.ext hV) (hcd.ext hV) (fun a ha => by have := (htz a ha).1; omega) (by omega) (by omega) (by omega) hcov (fun a ha => (htz a ha).2) hcv
        rw [← hsrd] at t
        exact t)
      have HRA := Lib.hid ra; have HRC := Lib.hid rc; have HBD := Lib.hid hbd; have HY := Lib.hid hY; have HORD2 := Lib.hid hORD; have HOF := Lib.hid hof
      have r1 : (0 : Int) ≤ (rn : Int) := by omega
      have r2 : (rn : Int) < (nr : Int) := by omega
      have r3 : ¬ (rn : Int) < 0 := by omega
      have r4 : ¬ (nr : Int) ≤ (rn : Int) := by omega
      clear hc hri hmem hY hORD hRZ hbd hnr' hof hcv htz hcov hall hsrd hr hsrcs hnames hod ra rc hat hcd hna hnc HNO HRG HYES HORD HRL HRZ HCK HFEW HNR HNOO HNH hrq
      go_wp2_with fail
      refine (HY.out _ HX1.out).mono ?_
      rintro e w4 ⟨he4, V, D, S2, rfl, hn⟩
      simp only at hn ⊢
      obtain ⟨⟨A1, c1, rfl, -, hv1⟩, ⟨A2, c2, rfl, -, hd1⟩, hsrc⟩ := hn
      simp only at hsrc hv1 hd1 ⊢
      obtain ⟨A3, c3, rfl⟩ := hsrc.sl
      obtain ⟨nn, hnn⟩ : ∃ n, n = names.length := ⟨_, rfl⟩
      obtain ⟨m, hm⟩ : ∃ n, n = srcs.length := ⟨_, rfl⟩
      have hnd : (od.map Ky.desc).length = nh := by rw [List.length_map]; exact HOF.out
      rw [← hm] at hsrc hsln
      rw [← hnn] at hlen
      rw [← hm, ← hnn, hnd]
      have HX4 := Lib.hid (HX1.out.trans he4); have HSRC := Lib.hid hsrc; have HM := Lib.hid hm; have HNN := Lib.hid hnn; have HV1 := Lib.hid hv1; have HD1 := Lib.hid hd1
      have HKQ4 := Lib.hid (HKQ.out.ext he4)
      replace q0 := he4.cell q0; replace q1 := he4.cell q1; replace q2 := he4.cell q2; replace q3 := he4.cell q3; replace q4 := he4.cell q4
      clear hsrc he4 hm hnn hnd hv1 hd1 HX1 HKQ
      go_upto_region 6 with fail
      have k5 := Bk.new w4 33 [.slice A1 nn c1, .int .i64 (nh : Int), .slice A2 nh c2, .slice A3 m c3]
      change Bk (w4.alloc (.cells #[.slice A1 nn c1, .int .i64 (nh : Int), .slice A2 nh c2, .slice A3 m c3] 33)) _ _ _ at k5
      have hx5 : Ext w4 (w4.alloc (.cells #[.slice A1 nn c1, .int .i64 (nh : Int), .slice A2 nh c2, .slice A3 m c3] 33)) := (Ext.refl w4).alloc _
      generalize (w4.alloc (.cells #[.slice A1 nn c1, .int .i64 (nh : Int), .slice A2 nh c2, .slice A3 m c3] 33)) = w5 at *
      have HX5 := Lib.hid (HX4.out.trans hx5); have HX45 := Lib.hid hx5; have HK5 := Lib.hid k5; have HKQ5 := Lib.hid (HKQ4.out.ext hx5)
      replace q0 := hx5.cell q0; replace q1 := hx5.cell q1; replace q2 := hx5.cell q2; replace q3 := hx5.cell q3; replace q4 := hx5.cell q4
      clear k5 hx5 HX4 HKQ4
      go_wp2_with fail
      refine (HCK2.out _ HX5.out).mono ?_
      rintro e w6 ⟨he6, P1, n1, g1, P2, n2, g2, rfl⟩
      replace q0 := he6.cell q0; replace q1 := he6.cell q1; replace q2 := he6.cell q2; replace q3 := he6.cell q3; replace q4 := he6.cell q4
      have HX6 := Lib.hid (HX5.out.trans he6); have HX46 := Lib.hid (HX45.out.trans he6); have HK6 := Lib.hid (HK5.out.ext he6); have HKQ6 := Lib.hid (HKQ5.out.ext he6)
      clear he6 HX5 HX45 HK5 HKQ5 HCK2
      go_upto_region 7 with fail
      have hx7 : Ext w6 (w6.alloc (.cells #[.slice P1 n1 g1, .slice P2 n2 g2] 40)) := (Ext.refl w6).alloc _
      generalize (w6.alloc (.cells #[.slice P1 n1 g1, .slice P2 n2 g2] 40)) = w7 at *
      replace q0 := hx7.cell q0; replace q1 := hx7.cell q1; replace q2 := hx7.cell q2; replace q3 := hx7.cell q3; replace q4 := hx7.cell q4
      have HX7 := Lib.hid (HX6.out.trans hx7); have HX47 := Lib.hid (HX46.out.trans hx7); have HK7 := Lib.hid (HK6.out.ext hx7); have HKQ7 := Lib.hid (HKQ6.out.ext hx7)
      clear hx7 HX6 HX46 HK6 HKQ6
      go_wp2_with fail
      refine (HORD2.out _ HX7.out).mono ?_
      rintro e w8 ⟨v, rfl, he8, hown⟩
      obtain ⟨Ak, ck, rfl⟩ := own_slice hown
      have hsk : Sl rdKy (fun _ => True) w8 (.slice Ak nh ck) od := ((Rw.of_flat (cells := Ky.cells) (sz := 2) (hl := fun _ => rfl) hown).sl (by decide)).mono (G := fun _ => True) (by decide) (fun _ _ _ => trivial)
      have HSK := Lib.hid hsk
      have HX8 := Lib.hid (HX7.out.trans he8); have HX48 := Lib.hid (HX47.out.trans he8); have HK8 := Lib.hid (HK7.out.ext he8); have HKQ8 := Lib.hid (HKQ7.out.ext he8)
      replace q3 := he8.cell q3
      replace q0 := he8.cell q0
      have ra := HX8.out.cell HRA.out; have rc := HX8.out.cell HRC.out
      clear hown hsk he8 q1 q2 q4 HX7 HX47 HK7 HKQ7 HORD2
      go_wp2_with fail
      refine (HV.out _ HX8.out _ _ HSK.out).mono ?_
      rintro e w9 ⟨v, rfl, he9, hown⟩
      obtain ⟨An, cn, rfl⟩ := own_slice hown
      rw [← HNN.out] at hown ⊢
      have hsn : Strs (fun _ => True) w9 (.slice An nn cn) names := (Strs.of_own hown).mono (fun _ _ _ => trivial)
      have HSN := Lib.hid hsn
      have HX9 := Lib.hid (HX8.out.trans he9); have HX49 := Lib.hid (HX48.out.trans he9); have HK9 := Lib.hid (HK8.out.ext he9); have HSK9 := Lib.hid (HSK.out.ext he9)
      replace q0 := he9.cell q0; replace q3 := he9.cell q3; replace ra := he9.cell ra; replace rc := he9.cell rc
      clear hown hsn he9 HX8 HX48 HK8 HSK HKQ8 HV
      go_wp2_with fail
      refine (HSR.out _ HX9.out _ _ _ HNN.out HSN.out).mono ?_
      rintro e w10 ⟨v, rfl, he10, hsl⟩
      obtain ⟨Ar, cr, rfl⟩ := hsl.sl
      rw [← HM.out] at hsl ⊢
      have HSL := Lib.hid hsl
      have HXA := Lib.hid (HX9.out.trans he10); have HX4A := Lib.hid (HX49.out.trans he10); have HKA := Lib.hid (HK9.out.ext he10); have HSKA := Lib.hid (HSK9.out.ext he10); have HSNA := Lib.hid (HSN.out.ext he10)
      have HV1A := Lib.hid (HV1.out.ext HX4A.out); have HD1A := Lib.hid (HD1.out.ext HX4A.out); have HS1A := Lib.hid (HSRC.out.ext HX4A.out)
      replace q0 := he10.cell q0
      have d0 := HKA.out.cell (i := 0) (by simp); have d1 := HKA.out.cell (i := 1) (by simp); have d2 := HKA.out.cell (i := 2) (by simp); have d3 := HKA.out.cell (i := 3) (by simp)
      simp only [List.getElem_cons_zero, List.getElem_cons_succ] at d0 d1 d2 d3
      have m1 : ((nh : Int) != (nh : Int)) = false := by simp
      have m2 : ((nn : Int) != (nn : Int)) = false := by simp
      have m3 : ((m : Int) != (m : Int)) = false := by simp
      clear hsl he10 ra rc q3 HX9 HX49 HK9 HSK9 HSN HSR HV1 HD1 HSRC HRA HRC
      go_wp2_with fail
      clear d0 d1 d2 d3 q0 m1 m2 m3
      go_loopw [14] (fun t wr => ∃ j : Nat, j ≤ nn ∧ t = .int .i64 (j : Int) ∧ Ext w10 wr) (fun t _ => nn - (intOf t).toNat)
      case atStart => exact ⟨0, Nat.zero_le _, rfl, Ext.refl _⟩
      case round =>
        obtain ⟨j, hj, rfl, hxj⟩ := hrel
        obtain ⟨U, rfl⟩ : ∃ U : World, U = wr := ⟨_, rfl⟩
        have HXJ := Lib.hid hxj
        have d0 := (HKA.out.ext hxj).cell (i := 0) (by simp); have d1 := (HKA.out.ext hxj).cell (i := 1) (by simp); have d2 := (HKA.out.ext hxj).cell (i := 2) (by simp); have d3 := (HKA.out.ext hxj).cell (i := 3) (by simp)
        simp only [List.getElem_cons_zero, List.getElem_cons_succ] at d0 d1 d2 d3
        by_cases hjl : j < nn
        · have j1 : (0 : Int) ≤ (j : Int) := by omega
          have j2 : (j : Int) < (nn : Int) := by omega
          have hjn : j < names.length := by have := HNN.out; omega
          obtain ⟨A8, c8, e8, -, hv8⟩ := HSNA.out
          injection e8 with e8 e8b e8c
          subst e8
          clear e8b e8c
          obtain ⟨ad1, rfl, -, x1⟩ := HV1A.out.str hjn
          obtain ⟨bd1, rfl, -, x2⟩ := hv8.str hjn
          replace x1 := hxj.cell x1; replace x2 := hxj.cell x2
          obtain ⟨sn, hsn⟩ : ∃ s, s = names[j] := ⟨_, rfl⟩
          rw [← hsn] at x1 x2
          clear hsn hv8 d3
          by_cases hji : j < nh
          · have j3 : (j : Int) < (nh : Int) := by omega
            have hjo : j < od.length := by have := HOF.out; omega
            obtain ⟨ad2, rfl, -, b1⟩ := HD1A.out.at' (j := j) (x := .bool od[j].desc) (by simp [hjo])
            obtain ⟨bd2, rfl, -, -, b2⟩ := HSKA.out.ky hjo
            replace b1 := hxj.cell b1; replace b2 := hxj.cell b2
            obtain ⟨dd, hdd⟩ : ∃ b, b = od[j].desc := ⟨_, rfl⟩
            rw [← hdd] at b1 b2
            clear hdd hxj
            go_upto_region 21 with fail
            go_quiet (fail)
            have HXQ := Lib.hid (HXJ.out.drewN nq)
            generalize (U.drewN nq) = Y at *
            clear d0 d1 d2 x1 x2 b1 b2
            go_wp2_with fail
            go_roundw
            case rel => exact ⟨j + 1, by omega, by go_num, HXQ.out⟩
            case measure => simp [intOf]; omega
          · have j3 : ¬ (j : Int) < (nh : Int) := by omega
            clear hji hxj
            go_upto_region 21 with fail
            go_quiet (fail)
            have HXQ := Lib.hid (HXJ.out.drewN nq)
            generalize (U.drewN nq) = Y at *
            clear d0 d1 d2 x1 x2
            go_wp2_with fail
            go_roundw
            case rel => exact ⟨j + 1, by omega, by go_num, HXQ.out⟩
            case measure => simp [intOf]; omega
        · obtain rfl : j = nn := by omega
          have hdj : ¬ (j : Int) < (j : Int) := by omega
          clear hxj d0 d1 d2 d3
          go_wp2_with fail
          go_loopw [15] (fun t wr => ∃ k : Nat, k ≤ m ∧ t = .int .i64 (k : Int) ∧ Ext U wr) (fun t _ => m - (intOf t).toNat)
          case atStart => exact ⟨0, Nat.zero_le _, rfl, Ext.refl _⟩
          case round =>
            obtain ⟨k, hk, rfl, hxk⟩ := hrel
            have HXK := Lib.hid (HXJ.out.trans hxk); have HXK1 := Lib.hid hxk
            by_cases hkm : k < m
            · have k1 : (0 : Int) ≤ (k : Int) := by omega
              have k2 : (k : Int) < (m : Int) := by omega
              have hks : k < srcs.length := by have := HM.out; omega
              have d3 := (HKA.out.ext HXK.out).cell (i := 3) (by simp)
              simp only [List.getElem_cons_zero, List.getElem_cons_succ] at d3
              obtain ⟨ads, P1, x1, P2, x2, P3, x3, P4, x4, P5, x5, rfl, -, s0, s1, s2, s3, s4, s5, i1, i2, i3, i4, i5⟩ := (HS1A.out.ext HXK.out).src hks
              obtain ⟨bds, R1, y1, R2, y2, R3, y3, R4, y4, R5, y5, rfl, -, t0, t1, t2, t3, t4, t5, j1', j2', j3', j4', j5'⟩ := (HSL.out.ext HXK.out).src hks
              obtain ⟨b1, b2, b3, b4, b5, b6⟩ := HBD.out _ (List.getElem_mem hks)
              have hsame := fun (V : World) (hV : Ext wr V) => same_true (rl := srcs[k].rel) (x := srcs[k]) (i1.ext hV) (j1'.ext hV) (i2.ext hV) (j2'.ext hV) (i3.ext hV) (j3'.ext hV) (i4.ext hV) (j4'.ext hV) (i5.ext hV) (j5'.ext hV) (by have := HNN.out; omega) (by have := HNN.out; omega) (by omega) (by omega) (by omega) (fun y hy => by have := b6 y hy; omega)
              obtain ⟨l1, hl1⟩ : ∃ n, n = srcs[k].vars.length := ⟨_, rfl⟩
              obtain ⟨l2, hl2⟩ : ∃ n, n = srcs[k].cols.length := ⟨_, rfl⟩
              obtain ⟨l3, hl3⟩ : ∃ n, n = srcs[k].same.length := ⟨_, rfl⟩
              obtain ⟨l4, hl4⟩ : ∃ n, n = srcs[k].fs.length := ⟨_, rfl⟩
              obtain ⟨l5, hl5⟩ : ∃ n, n = srcs[k].nots.length := ⟨_, rfl⟩
              obtain ⟨rl, hrl⟩ : ∃ n, n = srcs[k].rel := ⟨_, rfl⟩
              rw [← hl1] at s1 t1 hsame
              rw [← hl2] at s2 t2 hsame
              rw [← hl3] at s3 t3 hsame
              rw [← hl4] at s4 t4 hsame
              rw [← hl5] at s5 t5 hsame
              rw [← hrl] at s0 t0 hsame
              have HSM := Lib.hid hsame
              clear hsame i1 i2 i3 i4 i5 j1' j2' j3' j4' j5' hl1 hl2 hl3 hl4 hl5 hrl b1 b2 b3 b4 b5 b6 hxk
              go_upto_region 26 with fail
              go_region_held3 (fun V => Ext wr V ∧ V.cell? ⟨w4.heap.size, 3, none⟩ = some (.slice (some ads) m c3) ∧ V.cell? (ads.add (k * 6)) = some (.string rl) ∧ V.cell? (bds.add (k * 6)) = some (.string rl) ∧ V.cell? ⟨(ads.add (k * 6)).block, (ads.add (k * 6)).off + 1, none⟩ = some (.slice P1 l1 x1) ∧ V.cell? ⟨(bds.add (k * 6)).block, (bds.add (k * 6)).off + 1, none⟩ = some (.slice R1 l1 y1) ∧ V.cell? ⟨(ads.add (k * 6)).block, (ads.add (k * 6)).off + 2, none⟩ = some (.slice P2 l2 x2) ∧ V.cell? ⟨(bds.add (k * 6)).block, (bds.add (k * 6)).off + 2, none⟩ = some (.slice R2 l2 y2) ∧ V.cell? ⟨(ads.add (k * 6)).block, (ads.add (k * 6)).off + 3, none⟩ = some (.slice P3 l3 x3) ∧ V.cell? ⟨(bds.add (k * 6)).block, (bds.add (k * 6)).off + 3, none⟩ = some (.slice R3 l3 y3) ∧ V.cell? ⟨(ads.add (k * 6)).block, (ads.add (k * 6)).off + 4, none⟩ = some (.slice P4 l4 x4) ∧ V.cell? ⟨(bds.add (k * 6)).block, (bds.add (k * 6)).off + 4, none⟩ = some (.slice R4 l4 y4) ∧ V.cell? ⟨(ads.add (k * 6)).block, (ads.add (k * 6)).off + 5, none⟩ = some (.slice P5 l5 x5) ∧ V.cell? ⟨(bds.add (k * 6)).block, (bds.add (k * 6)).off + 5, none⟩ = some (.slice R5 l5 y5))
                ((refine (fun he => ⟨he, Ext.cell he d3, Ext.cell he s0, Ext.cell he t0, Ext.cell he s1, Ext.cell he t1, Ext.cell he s2, Ext.cell he t2, Ext.cell he s3, Ext.cell he t3, Ext.cell he s4, Ext.cell he t4, Ext.cell he s5, Ext.cell he t5⟩) ?_; repeat (first | exact Ext.refl _ | exact (Ext.refl _).drew | refine Ext.drew ?_ | refine Ext.trans ?_ (by assumption))))
                (first
                  | (go_at_call 13; (with_reducible refine (HSM.out _ (And.left (by assumption))).mono ?_); rintro e wi ⟨yv, rfl, hei, rfl⟩))
              have hfin := And.left (b := _ ∧ _) (by assumption)
              have HXF := Lib.hid (HXK1.out.trans hfin)
              clear d3 s0 t0 s1 t1 s2 t2 s3 t3 s4 t4 s5 t5 hfin
              go_wp2_with fail
              go_roundw
              case rel => exact ⟨k + 1, by omega, by go_num, HXF.out⟩
              case measure => simp [intOf]; omega
            · obtain rfl : k = m := by omega
              have hdk : ¬ (k : Int) < (k : Int) := by omega
              clear hxk
              go_wp2_with fail
              go_ret
              exact Ret.mk (HXA.out.trans HXK.out) rfl
    · have hor : ri < 0 ∨ (nr : Int) ≤ ri := by omega
      have HN := Lib.hid (HRG.out hno20 hc hor)
      rw [hc] at HCK2
      clear hc hri HNO HRG HYES HORD HRL HRZ HCK HFEW HNR HNOO HNH
      go_wp2_with fail
      refine (HN.out _ HX1.out).mono ?_
      rintro e w4 ⟨rfl, he4⟩
      have hx5 : Ext w4 (w4.alloc (.cells #[.slice none 0 0, .int .i64 0, .slice none 0 0, .slice none 0 0] 33)) := (Ext.refl w4).alloc _
      have k5 := Bk.new w4 33 [.slice none 0 0, .int .i64 0, .slice none 0 0, .slice none 0 0]
      change Bk (w4.alloc (.cells #[.slice none 0 0, .int .i64 0, .slice none 0 0, .slice none 0 0] 33)) _ _ _ at k5
      replace q0 := he4.cell q0; replace q1 := he4.cell q1; replace q2 := he4.cell q2; replace q3 := he4.cell q3; replace q4 := he4.cell q4
      have HX4 := Lib.hid (HX1.out.trans he4)
      clear he4
      go_upto_region 6 with fail
      generalize (w4.alloc (.cells #[.slice none 0 0, .int .i64 0, .slice none 0 0, .slice none 0 0] 33)) = w5 at *
      replace q0 := hx5.cell q0; replace q1 := hx5.cell q1; replace q2 := hx5.cell q2; replace q3 := hx5.cell q3; replace q4 := hx5.cell q4
      have HX5 := Lib.hid (HX4.out.trans hx5); have HK5 := Lib.hid k5
      clear hx5 k5
      go_wp2_with fail
      refine (HCK2.out _ HX5.out).mono ?_
      rintro e w6 ⟨he6, P1, n1, g1, P2, n2, g2, rfl⟩
      replace q3 := he6.cell q3
      have HX6 := Lib.hid (HX5.out.trans he6); have HK6 := Lib.hid (HK5.out.ext he6)
      have d0 := HK6.out.cell (i := 0) (by simp); have d1 := HK6.out.cell (i := 1) (by simp); have d3 := HK6.out.cell (i := 3) (by simp)
      simp only [List.getElem_cons_zero, List.getElem_cons_succ] at d0 d1 d3
      clear he6 q0 q1 q2 q4
      go_upto_region 7 with fail
      have hx7 : Ext w6 (w6.alloc (.cells #[.slice P1 n1 g1, .slice P2 n2 g2] 40)) := (Ext.refl w6).alloc _
      generalize (w6.alloc (.cells #[.slice P1 n1 g1, .slice P2 n2 g2] 40)) = w7 at *
      replace q3 := hx7.cell q3; replace d0 := hx7.cell d0; replace d1 := hx7.cell d1; replace d3 := hx7.cell d3
      have HX7 := Lib.hid (HX6.out.trans hx7)
      clear hx7
      by_cases hr0 : ri < 0
      · clear hor
        go_wp2_with fail
        go_ret
        exact Ret.mk HX7.out rfl
      · have hr1 : (nr : Int) ≤ ri := by omega
        clear hor
        go_wp2_with fail
        go_ret
        exact Ret.mk HX7.out rfl
  · have HN := Lib.hid (HNO.out hno20 hc)
    obtain ⟨ev, hev⟩ : ∃ e, e = checkE ss q := ⟨_, rfl⟩
    rw [← hev] at HN hc HCK2
    have hb : (ev != 0) = true := by rw [bne_iff_ne]; exact hc
    have hb0 : (ev == 0) = false := by simpa using hc
    have hb1 : (ev != ev) = false := by simp
    clear hc hev HNO HRG HYES HORD HRL HRZ HCK HFEW HNR HNOO HNH
    go_wp2_with fail
    refine (HN.out _ HX1.out).mono ?_
    rintro e w4 ⟨rfl, he4⟩
    have hx5 : Ext w4 (w4.alloc (.cells #[.slice none 0 0, .int .i64 0, .slice none 0 0, .slice none 0 0] 33)) := (Ext.refl w4).alloc _
    have k5 := Bk.new w4 33 [.slice none 0 0, .int .i64 0, .slice none 0 0, .slice none 0 0]
    change Bk (w4.alloc (.cells #[.slice none 0 0, .int .i64 0, .slice none 0 0, .slice none 0 0] 33)) _ _ _ at k5
    replace q0 := he4.cell q0; replace q1 := he4.cell q1; replace q2 := he4.cell q2; replace q3 := he4.cell q3; replace q4 := he4.cell q4
    have HX4 := Lib.hid (HX1.out.trans he4)
    clear he4
    go_upto_region 6 with fail
    generalize (w4.alloc (.cells #[.slice none 0 0, .int .i64 0, .slice none 0 0, .slice none 0 0] 33)) = w5 at *
    replace q0 := hx5.cell q0; replace q1 := hx5.cell q1; replace q2 := hx5.cell q2; replace q3 := hx5.cell q3; replace q4 := hx5.cell q4
    have HX5 := Lib.hid (HX4.out.trans hx5); have HK5 := Lib.hid k5
    clear hx5 k5
    go_wp2_with fail
    refine (HCK2.out _ HX5.out).mono ?_
    rintro e w6 ⟨he6, P1, n1, g1, P2, n2, g2, rfl⟩
    have HX6 := Lib.hid (HX5.out.trans he6); have HK6 := Lib.hid (HK5.out.ext he6)
    have d0 := HK6.out.cell (i := 0) (by simp); have d1 := HK6.out.cell (i := 1) (by simp); have d3 := HK6.out.cell (i := 3) (by simp)
    simp only [List.getElem_cons_zero, List.getElem_cons_succ] at d0 d1 d3
    clear he6 q0 q1 q2 q3 q4
    go_upto_region 7 with fail
    have hx7 : Ext w6 (w6.alloc (.cells #[.slice P1 n1 g1, .slice P2 n2 g2] 40)) := (Ext.refl w6).alloc _
    generalize (w6.alloc (.cells #[.slice P1 n1 g1, .slice P2 n2 g2] 40)) = w7 at *
    replace d0 := hx7.cell d0; replace d1 := hx7.cell d1; replace d3 := hx7.cell d3
    have HX7 := Lib.hid (HX6.out.trans hx7)
    clear hx7
    go_wp2_with fail
    go_ret
    exact Ret.mk HX7.out rfl
end Go.Proofs.Ytmmmdinncmbjkaa
