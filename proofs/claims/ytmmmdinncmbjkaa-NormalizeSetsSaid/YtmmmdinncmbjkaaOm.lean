/- The walk of NormalizeSets. -/
import Derived.Test.YtmmmdinncmbjkaaOl
namespace Go.Proofs.Ytmmmdinncmbjkaa
open Go.RowKit Go.Maps

set_option maxRecDepth 20000 in
set_option maxHeartbeats 3200000 in
theorem law_sets {F G : Nat → Prop} {w : World} {A B O S : Option Addr} {ca cb co nS cs : Nat} {q : Qy} {ss : List Sc} (h : QyR F w A ca B cb O co q) (hS : Sl rdSc G w (.slice S nS cs) ss) (hz : QyZ q) (hla : ∀ r ∈ q.rs, r.ats.length ≤ maxLen) (hls : ss.length ≤ maxLen) :
    Calls Try.prog 5 #[.slice S nS cs, .agg #[.slice A q.hd.length ca, .int .i64 q.ag, .string q.av, .slice B q.rs.length cb, .slice O q.od.length co]] w (Ret (fun x _ => x = .bool true) w) := by
  have HFEW := Lib.hid (fun (V : World) (hV : Ext w V) => few_nil (S := S) (nS := nS) (cs := cs) (A := A) (nh := q.hd.length) (ca := ca) (ag := q.ag) (av := q.av) (O := O) (no := q.od.length) (co := co) (h.rs.ext hV) hla)
  have HNO := Lib.hid (fun (hb : q.od.length ≤ 20) (hc : checkE ss q ≠ 0) (V : World) (hV : Ext w V) => rule_no (ri := 0) (h.ext hV) (hS.ext hV) hz (by omega) hls hc)
  obtain ⟨r, hr⟩ : ∃ r, ∀ h : 0 < q.rs.length, q.rs[0] = r := if h : 0 < q.rs.length then ⟨q.rs[0], fun _ => rfl⟩ else ⟨⟨[], []⟩, fun h' => absurd h' h⟩
  have hrm : 0 < q.rs.length → r ∈ q.rs := fun hp => hr hp ▸ List.getElem_mem hp
  have HYES := Lib.hid (fun (hb : q.od.length ≤ 20) (hp : 0 < q.rs.length) (hc : checkE ss q = 0) (V : World) (hV : Ext w V) => by
    have t := rule_good (ri := 0) (h.ext hV) (hS.ext hV) hz (by omega) hls hc hp
    rw [hr hp, norm_srcs hc (hrm hp)] at t
    exact t)
  have HASC := Lib.hid (fun (s : Src) (hs : s ∈ srcsL q r) => srcs_asc hs)
  have HALL := Lib.hid (fun (hp : 0 < q.rs.length) (hc : checkE ss q = 0) (j : Nat) (hj : j < (namesL q r).length) => srcs_all hc (hrm hp) hj)
  have HLEN := Lib.hid (fun (hp : 0 < q.rs.length) (hc : checkE ss q = 0) => names_len hc (hrm hp))
  have HSL := Lib.hid (fun (hp : 0 < q.rs.length) (hc : checkE ss q = 0) => srcs_len hc (hrm hp))
  obtain ⟨nh, hnh⟩ : ∃ n, n = q.hd.length := ⟨_, rfl⟩
  obtain ⟨nr, hnr⟩ : ∃ n, n = q.rs.length := ⟨_, rfl⟩
  obtain ⟨no, hno⟩ : ∃ n, n = q.od.length := ⟨_, rfl⟩
  have HNR := Lib.hid hnr; have HNOO := Lib.hid hno
  rw [← hnh, ← hnr, ← hno] at HFEW HNO HYES
  rw [← hno] at HLEN
  rw [← hnr] at HSL HALL HLEN
  rw [← hnh, ← hnr, ← hno]
  obtain ⟨ag, hag⟩ : ∃ x, x = q.ag := ⟨_, rfl⟩
  obtain ⟨av, hav⟩ : ∃ x, x = q.av := ⟨_, rfl⟩
  rw [← hag, ← hav] at HFEW HNO HYES
  rw [← hag, ← hav]
  clear h hS hz hla hls hnh hnr hno hag hav hr hrm
  go_enter Try.func5, Try.ntmps5
  go_upto_region 1 with fail
  have kq := Bk.new w 27 [.slice A nh ca, .int .i64 ag, .string av, .slice B nr cb, .slice O no co]
  change Bk (w.alloc (.cells #[.slice A nh ca, .int .i64 ag, .string av, .slice B nr cb, .slice O no co] 27)) _ _ _ at kq
  have hx1 : Ext w (w.alloc (.cells #[.slice A nh ca, .int .i64 ag, .string av, .slice B nr cb, .slice O no co] 27)) := (Ext.refl w).alloc _
  generalize (w.alloc (.cells #[.slice A nh ca, .int .i64 ag, .string av, .slice B nr cb, .slice O no co] 27)) = w1 at *
  have HKQ := Lib.hid kq; have HX1 := Lib.hid hx1
  clear kq hx1
  go_wp2_with fail
  refine (awake_true _).mono ?_
  rintro e w2 ⟨x, rfl, he, rfl⟩
  replace HKQ := Lib.hid (HKQ.out.ext he); replace HX1 := Lib.hid (HX1.out.trans he)
  have q0 := HKQ.out.cell (i := 0) (by simp); have q1 := HKQ.out.cell (i := 1) (by simp); have q2 := HKQ.out.cell (i := 2) (by simp); have q3 := HKQ.out.cell (i := 3) (by simp); have q4 := HKQ.out.cell (i := 4) (by simp)
  simp only [List.getElem_cons_zero, List.getElem_cons_succ] at q0 q1 q2 q3 q4
  clear he
  go_wp2_with fail
  refine (HFEW.out _ HX1.out).mono ?_
  rintro e w3 ⟨x, rfl, he, b, rfl, hfew⟩
  replace HKQ := Lib.hid (HKQ.out.ext he); replace HX1 := Lib.hid (HX1.out.trans he)
  replace q0 := he.cell q0; replace q1 := he.cell q1; replace q2 := he.cell q2; replace q3 := he.cell q3; replace q4 := he.cell q4
  clear he
  rcases b with _ | _
  · clear hfew
    go_wp2_with fail
    go_ret
    exact Ret.mk HX1.out rfl
  obtain ⟨-, -, -, hno20⟩ := hfew rfl
  clear hfew
  by_cases hr0 : nr = 0
  · subst hr0
    go_wp2_with fail
    go_ret
    exact Ret.mk HX1.out rfl
  have hr1 : 0 < nr := by omega
  have hrb : ((nr : Int) == 0) = false := by simpa using hr0
  have hr2 : 0 < q.rs.length := by have := HNR.out; omega
  clear hr0
  by_cases hc : checkE ss q = 0
  · have hlen := HLEN.out hr1 hc
    have hY := HYES.out hno20 hr1 hc
    have hasc := HASC.out
    have hsln := HSL.out hr1 hc
    have hall := HALL.out hr1 hc
    obtain ⟨srcs, hsrcs⟩ : ∃ l, l = srcsL q r := ⟨_, rfl⟩
    obtain ⟨names, hnames⟩ : ∃ l, l = namesL q r := ⟨_, rfl⟩
    rw [← hsrcs] at hasc hall hY hsln
    rw [← hnames] at hasc hall hlen hY
    have HY := Lib.hid hY; have HASC2 := Lib.hid hasc; have HALL2 := Lib.hid hall
    obtain ⟨fr, hfr⟩ : ∃ x : Int, x = ((orderL q.hd q.od).length : Int) := ⟨_, rfl⟩
    rw [← hfr] at HY
    clear hc hY hasc hall hsrcs hnames hfr HNO HYES HASC HALL HLEN HSL
    go_wp2_with fail
    refine (HY.out _ HX1.out).mono ?_
    rintro e w4 ⟨he4, V, D, S2, rfl, hn⟩
    simp only at hn ⊢
    obtain ⟨⟨A1, c1, rfl, -, -⟩, ⟨A2, c2, rfl, -, -⟩, hsrc⟩ := hn
    simp only at hsrc ⊢
    obtain ⟨A3, c3, rfl⟩ := hsrc.sl
    obtain ⟨nn, hnn⟩ : ∃ n, n = names.length := ⟨_, rfl⟩
    obtain ⟨nd, hnd⟩ : ∃ n, n = ((orderL q.hd q.od).map Ky.desc).length := ⟨_, rfl⟩
    obtain ⟨m, hm⟩ : ∃ n, n = srcs.length := ⟨_, rfl⟩
    rw [← hm] at hsrc hsln
    rw [← hnn] at hlen
    rw [← hm, ← hnn, ← hnd]
    have HX4 := Lib.hid (HX1.out.trans he4); have HSRC := Lib.hid hsrc; have HM := Lib.hid hm; have HNN := Lib.hid hnn
    have HVL : Hid (∀ s ∈ srcs, s.vars.length ≤ 1048576) := Lib.hid (fun s hs => by have h1 := (HASC2.out s hs).2.2; have h2 := HNN.out; omega)
    clear hsrc he4 hm hnn hnd q0 q1 q2 q3 q4 HX1 HKQ
    go_upto_region 8 with fail
    have k5 := Bk.new w4 33 [.slice A1 nn c1, .int .i64 fr, .slice A2 nd c2, .slice A3 m c3]
    change Bk (w4.alloc (.cells #[.slice A1 nn c1, .int .i64 fr, .slice A2 nd c2, .slice A3 m c3] 33)) _ _ _ at k5
    have hx5 : Ext w4 (w4.alloc (.cells #[.slice A1 nn c1, .int .i64 fr, .slice A2 nd c2, .slice A3 m c3] 33)) := (Ext.refl w4).alloc _
    generalize (w4.alloc (.cells #[.slice A1 nn c1, .int .i64 fr, .slice A2 nd c2, .slice A3 m c3] 33)) = w5 at *
    have d0 := k5.cell (i := 0) (by simp); have d1 := k5.cell (i := 1) (by simp); have d2 := k5.cell (i := 2) (by simp); have d3 := k5.cell (i := 3) (by simp)
    simp only [List.getElem_cons_zero, List.getElem_cons_succ] at d0 d1 d2 d3
    have HX5 := Lib.hid (HX4.out.trans hx5); have HS5 := Lib.hid (HSRC.out.ext hx5); have HK5 := Lib.hid k5
    clear k5 hx5
    go_wp2_with fail
    refine (sets_any ⟨_, _, _, rfl⟩ ⟨_, _, _, rfl⟩ HS5.out (by omega) HVL.out).mono ?_
    rintro e w6 ⟨x, rfl, he6, hsl⟩
    obtain ⟨A6, c6, rfl⟩ := hsl.sl
    have hml : (srcs.map Src.vars).length = m := by rw [List.length_map]; exact HM.out.symm
    rw [hml] at hsl ⊢
    replace d0 := he6.cell d0; replace d3 := he6.cell d3
    have HX6 := Lib.hid (HX5.out.trans he6)
    have HL6 : Hid (Sl rdIn (fun k => k < w6.heap.size) w6 (.slice A6 m c6) (srcs.map Src.vars)) := Lib.hid (hsl.mono (by decide) (fun k hk _ => hk))
    have HS6 : Hid (Sl rdSrc (fun k => k < w6.heap.size) w6 (.slice A3 m c3) srcs) := Lib.hid ((HS5.out.ext he6).mono (by decide) (fun k hk _ => hk))
    have HK6 := Lib.hid (HK5.out.ext he6)
    have hmk := fun W => make_row (P := Try.prog) 30 4 (.bool false) 1 Try.underlying30 info_bl rfl nn (by omega) (by omega) W
    clear hsl hml he6 d1 d2 HS5 HK5 HSRC
    go_upto_region 10 with fail
    clear hmk
    have k7 := Bk.new w6 4 (List.replicate nn (.bool false))
    simp only [List.toArray_replicate] at k7
    have hx7 : Ext w6 (w6.alloc (.cells (Array.replicate nn (.bool false)) 4)) := (Ext.refl w6).alloc _
    generalize (w6.alloc (.cells (Array.replicate nn (.bool false)) 4)) = w7 at *
    rw [← sv_nil] at k7
    replace d0 := hx7.cell d0; replace d3 := hx7.cell d3
    obtain ⟨gs, hgs⟩ : ∃ g, g = w6.heap.size := ⟨_, rfl⟩
    rw [← hgs] at k7 HL6 HS6 ⊢
    have hg5 : w4.heap.size < gs := by rw [hgs]; exact HK6.out.lt
    have HX7 := Lib.hid (HX6.out.trans hx7); have HL7 := Lib.hid (HL6.out.ext hx7); have HS7 := Lib.hid (HS6.out.ext hx7); have HK7 := Lib.hid (HK6.out.ext hx7); have HB7 := Lib.hid k7
    have hwgs : w.heap.size ≤ gs := by rw [hgs]; exact HX6.out.size
    clear hx7 k7 hgs HL6 HS6 HK6
    have hmm : ((m : Int) != (m : Int)) = false := by simp
    go_wp2_with fail
    clear d0 d3 hmm
    go_loopw [9] (fun t wr => ∃ i : Nat, i ≤ m ∧ t = .int .i64 (i : Int) ∧ Bk wr gs 4 (sv nn ((srcs.take i).flatMap Src.vars)) ∧ Fr (fun b => b = gs) w7 wr) (fun t _ => m - (intOf t).toNat)
    case atStart => exact ⟨0, Nat.zero_le _, rfl, HB7.out, Fr.refl _ _⟩
    case round =>
      obtain ⟨i, hi, rfl, hbk, hfr⟩ := hrel
      obtain ⟨W, rfl⟩ : ∃ W : World, W = wr := ⟨_, rfl⟩
      have HB := Lib.hid hbk; have HF := Lib.hid hfr
      have HXW := Lib.hid (hfr.new HX7.out (fun b hb => by omega))
      have hk := HK7.out.fr hfr (by omega)
      have hl := HL7.out.fr hfr (fun k hk e => by omega)
      have hs := HS7.out.fr hfr (fun k hk e => by omega)
      by_cases hlt : i < m
      · have i1 : (0 : Int) ≤ (i : Int) := by omega
        have i2 : (i : Int) < (m : Int) := by omega
        have him : i < srcs.length := by have := HM.out; omega
        have hil : i < (srcs.map Src.vars).length := by rw [List.length_map]; exact him
        obtain ⟨adl, Bl, dl, rfl, hFl, l0, lins⟩ := hl.ins hil
        obtain ⟨ads, A1', e1, A2', e2, A3', e3, A4', e4, A5', e5, rfl, hFs, -, s1, -, -, -, -, g1, -, -, -, -⟩ := hs.src him
        have d3 := hk.cell (i := 3) (by simp)
        simp only [List.getElem_cons_zero, List.getElem_cons_succ] at d3
        have hasc := HASC2.out _ (List.getElem_mem him)
        have htk : (srcs.take (i + 1)).flatMap Src.vars = (srcs.take i).flatMap Src.vars ++ srcs[i].vars := by rw [List.take_succ_eq_append_getElem him, List.flatMap_append]; simp
        rw [show (srcs.map Src.vars)[i] = srcs[i].vars by simp] at l0 lins
        obtain ⟨vs, hvs⟩ : ∃ v, v = srcs[i].vars := ⟨_, rfl⟩
        rw [← hvs] at l0 lins s1 g1 hasc htk
        obtain ⟨nv, hnv⟩ : ∃ v, v = vs.length := ⟨_, rfl⟩
        rw [← hnv] at l0 lins s1 g1 hasc
        have HTK := Lib.hid htk; have HASC3 := Lib.hid hasc; have HNV := Lib.hid hnv; have HLI := Lib.hid lins
        have hnvn : nv ≤ names.length := hasc.2.2
        have hnvb : nv ≤ 1048576 := by have := HNN.out; omega
        have HINTS := Lib.hid (fun (V : World) (hV : Ext W V) => ints_any (lins.ext hV) (g1.ext hV) (by have := HNN.out; omega))
        rw [decide_eq_true rfl] at HINTS
        have HL0 := Lib.hid l0
        clear hbk hfr hk hl hs hvs hnv hasc htk lins g1 hil
        go_upto_region 15 with fail
        go_region_held3 (fun V => Ext W V ∧ V.cell? (adl.add i) = some (.slice Bl nv dl) ∧ V.cell? ⟨w4.heap.size, 3, none⟩ = some (.slice (some ads) m c3) ∧ V.cell? ⟨(ads.add (i * 6)).block, (ads.add (i * 6)).off + 1, none⟩ = some (.slice A1' nv e1))
          ((refine (fun he => ⟨he, Ext.cell he l0, Ext.cell he d3, Ext.cell he s1⟩) ?_; repeat (first | exact Ext.refl _ | exact (Ext.refl _).drew | refine Ext.drew ?_ | refine Ext.trans ?_ (by assumption))))
          (first
            | (go_at_call 14; (with_reducible refine (HINTS.out _ (And.left (by assumption))).mono ?_); rintro e wi ⟨yv, rfl, hei, rfl⟩))
        have hfin := And.left (b := _ ∧ _) (by assumption)
        obtain ⟨X, rfl⟩ : ∃ X : World, X = wi := ⟨_, rfl⟩
        have HFX := Lib.hid (HF.out.ext hfin); have HBX := Lib.hid (HB.out.ext hfin); have HLX := Lib.hid (HLI.out.ext hfin); have HL0X := Lib.hid (hfin.cell HL0.out)
        have HXX := Lib.hid (HXW.out.trans hfin)
        have hadl : (adl.add i).block ≠ gs := by rw [block_add]; omega
        have HADL := Lib.hid hadl
        clear hfin hei l0 d3 s1 hadl HF HB HL0 HLI HXW
        go_wp2_with fail
        go_loopw [10] (fun t wr => ∃ k : Nat, k ≤ nv ∧ t = .int .i64 (k : Int) ∧ Bk wr gs 4 (sv nn ((srcs.take i).flatMap Src.vars ++ vs.take k)) ∧ Fr (fun b => b = gs) X wr) (fun t _ => nv - (intOf t).toNat)
        case atStart => exact ⟨0, Nat.zero_le _, rfl, by simpa using HBX.out, Fr.refl _ _⟩
        case round =>
          obtain ⟨k, hk, rfl, hbk, hfr⟩ := hrel
          have HB2 := Lib.hid hbk; have HF2 := Lib.hid hfr
          have l0 := hfr.cell HL0X.out HADL.out
          by_cases hkl : k < nv
          · have k1 : (0 : Int) ≤ (k : Int) := by omega
            have k2 : (k : Int) < (nv : Int) := by omega
            have hkv : k < vs.length := by have := HNV.out; omega
            obtain ⟨A9, c9, e9, -, hcl⟩ := HLX.out.fr hfr (fun b hb e => by omega)
            injection e9 with e9 e9b e9c
            subst e9
            clear e9b e9c
            obtain ⟨adv, rfl, -, v0⟩ := hcl.int hkv
            obtain ⟨y, hy, hye⟩ := HASC3.out.2.1 _ (List.getElem_mem hkv)
            have hpr : 0 < k → ∃ p : Int, p < (y : Int) ∧ wr.cell? (adv.add (k - 1)) = some (.int .i64 p) := fun h0 => by
              obtain ⟨adv', e', -, v1⟩ := hcl.int (i := k - 1) (by omega)
              injection e' with e'
              subst e'
              have h1 := List.pairwise_iff_getElem.1 HASC3.out.1 (k - 1) k (by omega) hkv (by omega)
              exact ⟨_, by rw [← hye]; exact h1, v1⟩
            have htk : vs.take (k + 1) = vs.take k ++ [vs[k]] := List.take_succ_eq_append_getElem hkv
            rw [hye] at v0 htk
            have hyn : y < nn := by have := HNN.out; omega
            have HST : Hid ((sv nn ((srcs.take i).flatMap Src.vars ++ vs.take k)).set y (.bool true) = sv nn ((srcs.take i).flatMap Src.vars ++ vs.take (k + 1))) := Lib.hid (by rw [sv_set hyn, htk, List.append_assoc])
            have g0 := hbk.cell (i := y) (by rw [sv_len]; exact hyn); have gf := hbk.free y
            obtain ⟨go, hgo⟩ : ∃ v, v = (sv nn ((srcs.take i).flatMap Src.vars ++ vs.take k))[y]'(by rw [sv_len]; exact hyn) := ⟨_, rfl⟩
            rw [← hgo] at g0
            have y1 : (0 : Int) ≤ (y : Int) := by omega
            have y2 : (y : Int) < (nn : Int) := by omega
            have y3 : ¬ (y : Int) < 0 := by omega
            have y4 : ¬ (nn : Int) ≤ (y : Int) := by omega
            clear hye hcl htk hgo hbk hfr
            by_cases hk0 : 0 < k
            · obtain ⟨p, hp, v1⟩ := hpr hk0
              obtain ⟨k', hk'⟩ : ∃ k', k' = k - 1 := ⟨_, rfl⟩
              rw [← hk'] at v1
              have p1 : (0 : Int) ≤ (k' : Int) := by omega
              have p2 : (k' : Int) < (nv : Int) := by omega
              have p3 : IntKind.i64.wrap ((k : Int) - 1) = (k' : Int) := by rw [IntWalk.i64_in _ (by have := HASC3.out.2.2; have := HNN.out; omega)]; omega
              have p4 : ¬ (y : Int) ≤ p := by omega
              have p5 : (0 : Int) < (k : Int) := by omega
              clear hk'
              clear hpr
              go_upto_region 20 with fail
              go_region_held3 (fun V => Ext wr V ∧ V.cell? (adl.add i) = some (.slice (some adv) nv dl) ∧ V.cell? (adv.add k) = some (.int .i64 (y : Int)) ∧ V.cell? (adv.add k') = some (.int .i64 p))
                ((refine (fun he => ⟨he, Ext.cell he l0, Ext.cell he v0, Ext.cell he v1⟩) ?_; repeat (first | exact Ext.refl _ | exact (Ext.refl _).drew | refine Ext.drew ?_ | refine Ext.trans ?_ (by assumption))))
                (fail)
              have hY : Ext wr wr.drew := (Ext.refl wr).drew
              generalize wr.drew = Y at *
              have HB3 := Lib.hid (HB2.out.ext hY); have HF3 := Lib.hid (HF2.out.ext hY)
              have gf3 := HB3.out.free y
              replace l0 := hY.cell l0; replace v0 := hY.cell v0; replace g0 := hY.cell g0
              clear hY gf
              go_wp2_with fail
              go_roundw
              case rel => exact ⟨k + 1, by omega, by go_num, by rw [← HST.out]; exact HB3.out.set y (.bool true), HF3.out.setCell (p := ⟨gs, y, none⟩) (.inl rfl) _⟩
              case measure => simp [intOf]; omega
            · clear hpr
              have p5 : decide ((0 : Int) < (k : Int)) = false := decide_eq_false (by omega)
              have p6 : decide (0 < k) = false := decide_eq_false hk0
              have p7 : ¬ (0 : Int) < (k : Int) := by omega
              clear hk0
              go_upto_region 20 with fail
              go_quiet (fail)
              have hY : Ext wr (wr.drewN nq) := (Ext.refl wr).drewN nq
              generalize (wr.drewN nq) = Y at *
              have HB3 := Lib.hid (HB2.out.ext hY); have HF3 := Lib.hid (HF2.out.ext hY)
              have gf3 := HB3.out.free y
              replace l0 := hY.cell l0; replace v0 := hY.cell v0; replace g0 := hY.cell g0
              clear hY gf
              go_wp2_with fail
              go_roundw
              case rel => exact ⟨k + 1, by omega, by go_num, by rw [← HST.out]; exact HB3.out.set y (.bool true), HF3.out.setCell (p := ⟨gs, y, none⟩) (.inl rfl) _⟩
              case measure => simp [intOf]; omega
          · obtain rfl : k = nv := by omega
            have hdk : ¬ (k : Int) < (k : Int) := by omega
            have et : vs.take k = vs := List.take_of_length_le (by have := HNV.out; omega)
            rw [et] at HB2
            have HFF := Lib.hid (HFX.out.trans HF2.out)
            clear et hbk hfr
            go_wp2_with fail
            go_roundw
            case rel => exact ⟨i + 1, by omega, by go_num, by rw [HTK.out]; exact HB2.out, HFF.out⟩
            case measure => simp [intOf]; omega
      · obtain rfl : i = m := by omega
        have hdi : ¬ (i : Int) < (i : Int) := by omega
        have et : srcs.take i = srcs := List.take_of_length_le (by have := HM.out; omega)
        rw [et] at HB
        clear et hbk hfr hk hl hs
        go_wp2_with fail
        go_loopw [11] (fun t wr => ∃ j : Nat, j ≤ nn ∧ t = .int .i64 (j : Int) ∧ Ext W wr) (fun t _ => nn - (intOf t).toNat)
        case atStart => exact ⟨0, Nat.zero_le _, rfl, Ext.refl _⟩
        case round =>
          obtain ⟨j, hj, rfl, hxj⟩ := hrel
          have HXJ := Lib.hid hxj
          by_cases hjl : j < nn
          · have j1 : (0 : Int) ≤ (j : Int) := by omega
            have j2 : (j : Int) < (nn : Int) := by omega
            have b0 := (HB.out.ext hxj).cell (i := j) (by rw [sv_len]; exact hjl)
            rw [sv_all (fun k hk => HALL2.out k (by have := HNN.out; omega))] at b0
            clear hxj
            go_wp2_with fail
            go_roundw
            case rel => exact ⟨j + 1, by omega, by go_num, HXJ.out⟩
            case measure => simp [intOf]; omega
          · obtain rfl : j = nn := by omega
            have hdj : ¬ (j : Int) < (j : Int) := by omega
            clear hxj
            go_wp2_with fail
            go_ret
            exact Ret.mk (HXW.out.trans HXJ.out) rfl
  · have HN := Lib.hid (HNO.out hno20 hc)
    obtain ⟨ev, hev⟩ : ∃ e, e = checkE ss q := ⟨_, rfl⟩
    rw [← hev] at HN hc
    have hb : (ev != 0) = true := by rw [bne_iff_ne]; exact hc
    clear hc hev HNO HYES HASC HALL HLEN HSL
    go_wp2_with fail
    refine (HN.out _ HX1.out).mono ?_
    rintro e w4 ⟨rfl, he4⟩
    have hx5 : Ext w (w4.alloc (.cells #[.slice none 0 0, .int .i64 0, .slice none 0 0, .slice none 0 0] 33)) := (HX1.out.trans he4).alloc _
    have HX5 := Lib.hid hx5
    clear hx5 he4
    go_wp2_with fail
    refine (sets_any (F := fun _ => True) (srcs := []) ⟨_, _, _, rfl⟩ ⟨_, _, _, rfl⟩ (Sl.nil _ _ _) (by omega) (fun s hs => by cases hs)).mono ?_
    rintro e w6 ⟨x, rfl, he6, hsl⟩
    obtain ⟨A6, c6, rfl⟩ := hsl.sl
    have HX6 := Lib.hid (HX5.out.trans he6)
    clear hsl he6
    go_wp2_with fail
    go_ret
    exact Ret.mk HX6.out rfl
end Go.Proofs.Ytmmmdinncmbjkaa
