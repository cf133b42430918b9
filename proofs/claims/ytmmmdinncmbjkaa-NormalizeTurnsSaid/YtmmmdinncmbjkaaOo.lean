/- The walk of NormalizeTurns. -/
import Derived.Test.YtmmmdinncmbjkaaOn
namespace Go.Proofs.Ytmmmdinncmbjkaa
open Go.RowKit Go.Maps

set_option maxRecDepth 20000 in
set_option maxHeartbeats 3200000 in
theorem law_turns {F G : Nat → Prop} {w : World} {A B O S : Option Addr} {ca cb co nS cs : Nat} {q : Qy} {ss : List Sc} (h : QyR F w A ca B cb O co q) (hS : Sl rdSc G w (.slice S nS cs) ss) (hz : QyZ q) (hla : ∀ r ∈ q.rs, r.ats.length ≤ maxLen) (hls : ss.length ≤ maxLen) :
    Calls Try.prog 4 #[.slice S nS cs, .agg #[.slice A q.hd.length ca, .int .i64 q.ag, .string q.av, .slice B q.rs.length cb, .slice O q.od.length co]] w (Ret (fun x _ => x = .bool true) w) := by
  have HFEW := Lib.hid (fun (V : World) (hV : Ext w V) => few_nil (S := S) (nS := nS) (cs := cs) (A := A) (nh := q.hd.length) (ca := ca) (ag := q.ag) (av := q.av) (O := O) (no := q.od.length) (co := co) (h.rs.ext hV) hla)
  have HNO := Lib.hid (fun (hb : q.od.length ≤ 20) (hc : checkE ss q ≠ 0) (V : World) (hV : Ext w V) => rule_no (ri := 0) (h.ext hV) (hS.ext hV) hz (by omega) hls hc)
  obtain ⟨r, hr⟩ : ∃ r, ∀ h : 0 < q.rs.length, q.rs[0] = r := if h : 0 < q.rs.length then ⟨q.rs[0], fun _ => rfl⟩ else ⟨⟨[], []⟩, fun h' => absurd h' h⟩
  have hrm : 0 < q.rs.length → r ∈ q.rs := fun hp => hr hp ▸ List.getElem_mem hp
  have HYES := Lib.hid (fun (hb : q.od.length ≤ 20) (hp : 0 < q.rs.length) (hc : checkE ss q = 0) (V : World) (hV : Ext w V) => by
    have t := rule_good (ri := 0) (h.ext hV) (hS.ext hV) hz (by omega) hls hc hp
    rw [hr hp, norm_srcs hc (hrm hp)] at t
    exact t)
  have HSL := Lib.hid (fun (hp : 0 < q.rs.length) (hc : checkE ss q = 0) => srcs_len hc (hrm hp))
  have HLEN := Lib.hid (fun (hp : 0 < q.rs.length) (hc : checkE ss q = 0) => names_len hc (hrm hp))
  have HVL := Lib.hid (fun (s : Src) (hs : s ∈ srcsL q r) => srcs_lens hs)
  have HHD := Lib.hid (fun (hc : checkE ss q = 0) => head_len (ast_ok (check_ast hc)).2.2.2.1)
  have HORD := Lib.hid (fun (hh : q.hd.length ≤ 6) (hb : q.od.length ≤ 20) (V : World) (hV : Ext w V) => order_any (nb := q.rs.length) (B := B) (cb := cb) (ag := q.ag) (av := q.av) (h.hd.ext hV) (h.od.ext hV) hz.hd hz.od (by omega) (by omega))
  have HTURN := Lib.hid (fun (hb : (orderL q.hd q.od).length ≤ 26) (hp : 0 < q.rs.length) (hc : checkE ss q = 0) (V : World) (hV : Ext w V) (Ao : Option Addr) (no' co' : Nat) (hno' : no' = ((orderL q.hd q.od).map turnK).length) (hO : Sl rdKy (fun _ => True) V (.slice Ao no' co') ((orderL q.hd q.od).map turnK)) => by
    have hO' := hO
    rw [hno'] at hO'
    have hq : QyR (fun _ => True) V A ca B cb Ao co' (turnQ q) := ⟨(h.hd.ext hV).mono (fun _ _ _ => trivial), (h.rs.ext hV).mono (by decide) (fun _ _ _ => trivial), hO'⟩
    have t := rule_good (ri := 0) hq (hS.ext hV) (turn_z hz) (by show ((orderL q.hd q.od).map turnK).length ≤ _; rw [List.length_map]; omega) hls (turn_check hc) hp
    have e0 : (turnQ q).rs[0] = q.rs[0] := rfl
    rw [e0, hr hp, norm_srcs (turn_check hc) (hrm hp), turn_names, turn_srcs, show (turnQ q).hd = q.hd from rfl, turn_order, show (turnQ q).od.length = no' from hno'.symm, ← hno', show (turnQ q).ag = q.ag from rfl, show (turnQ q).av = q.av from rfl, show (turnQ q).rs = q.rs from rfl] at t
    exact t)
  have HORL := Lib.hid (orderL_len q.hd q.od)
  obtain ⟨nh, hnh⟩ : ∃ n, n = q.hd.length := ⟨_, rfl⟩
  obtain ⟨nr, hnr⟩ : ∃ n, n = q.rs.length := ⟨_, rfl⟩
  obtain ⟨no, hno⟩ : ∃ n, n = q.od.length := ⟨_, rfl⟩
  have HNR := Lib.hid hnr; have HNOO := Lib.hid hno
  rw [← hnh, ← hnr, ← hno] at HFEW HNO HYES
  rw [← hno] at HLEN
  rw [← hnr] at HSL HLEN HTURN
  rw [← hnh] at HHD HORD HORL
  rw [← hno] at HORD HORL
  rw [← hnh] at HTURN
  rw [← hnr] at HORD
  rw [← hnh, ← hnr, ← hno]
  obtain ⟨ag, hag⟩ : ∃ x, x = q.ag := ⟨_, rfl⟩
  obtain ⟨av, hav⟩ : ∃ x, x = q.av := ⟨_, rfl⟩
  rw [← hag, ← hav] at HFEW HNO HYES HORD HTURN
  rw [← hag, ← hav]
  clear h hS hz hla hls hnh hnr hno hag hav hr hrm
  go_enter Try.func4, Try.ntmps4
  go_upto_region 1 with fail
  have kq := Bk.new w 27 [.slice A nh ca, .int .i64 ag, .string av, .slice B nr cb, .slice O no co]
  change Bk (w.alloc (.cells #[.slice A nh ca, .int .i64 ag, .string av, .slice B nr cb, .slice O no co] 27)) _ _ _ at kq
  have hx1 : Ext w (w.alloc (.cells #[.slice A nh ca, .int .i64 ag, .string av, .slice B nr cb, .slice O no co] 27)) := (Ext.refl w).alloc _
  generalize (w.alloc (.cells #[.slice A nh ca, .int .i64 ag, .string av, .slice B nr cb, .slice O no co] 27)) = w1 at *
  have HKQ := Lib.hid kq; have HX1 := Lib.hid hx1
  clear kq hx1
  go_wp2_with fail
  refine (awake_true _).mono ?_
  rintro e w2 ⟨x, rfl, he, rfl⟩
  replace HKQ := Lib.hid (HKQ.out.ext he); replace HX1 := Lib.hid (HX1.out.trans he)
  have q0 := HKQ.out.cell (i := 0) (by simp); have q1 := HKQ.out.cell (i := 1) (by simp); have q2 := HKQ.out.cell (i := 2) (by simp); have q3 := HKQ.out.cell (i := 3) (by simp); have q4 := HKQ.out.cell (i := 4) (by simp)
  simp only [List.getElem_cons_zero, List.getElem_cons_succ] at q0 q1 q2 q3 q4
  clear he
  go_wp2_with fail
  refine (HFEW.out _ HX1.out).mono ?_
  rintro e w3 ⟨x, rfl, he, b, rfl, hfew⟩
  replace HKQ := Lib.hid (HKQ.out.ext he); replace HX1 := Lib.hid (HX1.out.trans he)
  replace q0 := he.cell q0; replace q1 := he.cell q1; replace q2 := he.cell q2; replace q3 := he.cell q3; replace q4 := he.cell q4
  clear he
  rcases b with _ | _
  · clear hfew
    go_wp2_with fail
    go_ret
    exact Ret.mk HX1.out rfl
  obtain ⟨-, -, -, hno20⟩ := hfew rfl
  clear hfew
  by_cases hr0 : nr = 0
  · subst hr0
    go_wp2_with fail
    go_ret
    exact Ret.mk HX1.out rfl
  have hr1 : 0 < nr := by omega
  have hrb : ((nr : Int) == 0) = false := by simpa using hr0
  have hr2 : 0 < q.rs.length := by have := HNR.out; omega
  clear hr0
  by_cases hc : checkE ss q = 0
  · have hlen := HLEN.out hr1 hc
    have hY := HYES.out hno20 hr1 hc
    have hsln := HSL.out hr1 hc
    have hh6 := HHD.out hc
    have horl := HORL.out
    have hORD := HORD.out hh6 hno20
    have hvl := HVL.out
    have hT := HTURN.out (by omega) hr1 hc
    obtain ⟨srcs, hsrcs⟩ : ∃ l, l = srcsL q r := ⟨_, rfl⟩
    obtain ⟨names, hnames⟩ : ∃ l, l = namesL q r := ⟨_, rfl⟩
    obtain ⟨od, hod⟩ : ∃ l, l = orderL q.hd q.od := ⟨_, rfl⟩
    rw [← hsrcs] at hY hsln hT hvl
    rw [← hnames] at hlen hY hT hvl
    have HVL2 := Lib.hid hvl
    rw [← hod] at hY hORD hT horl
    obtain ⟨nk, hnk⟩ : ∃ n, n = od.length := ⟨_, rfl⟩
    rw [← hnk] at hY hORD horl
    rw [List.length_map, ← hnk] at hT
    have hdt : (od.map turnK).map Ky.desc = od.map (fun k => !k.desc) := by rw [List.map_map]; rfl
    rw [hdt] at hT
    have HY := Lib.hid hY; have HORD2 := Lib.hid hORD; have HT := Lib.hid hT; have HNK := Lib.hid hnk
    clear hc hY hsrcs hnames hod hORD hT hnk hdt hvl HVL HNO HYES HLEN HSL HHD HORD HTURN HORL
    go_wp2_with fail
    refine (HY.out _ HX1.out).mono ?_
    rintro e w4 ⟨he4, V, D, S2, rfl, hn⟩
    simp only at hn ⊢
    obtain ⟨⟨A1, c1, rfl, -, hv1⟩, ⟨A2, c2, rfl, -, hd1⟩, hsrc⟩ := hn
    simp only at hsrc hv1 hd1 ⊢
    obtain ⟨A3, c3, rfl⟩ := hsrc.sl
    obtain ⟨nn, hnn⟩ : ∃ n, n = names.length := ⟨_, rfl⟩
    obtain ⟨m, hm⟩ : ∃ n, n = srcs.length := ⟨_, rfl⟩
    have hnd : (od.map Ky.desc).length = nk := by rw [List.length_map]; exact HNK.out.symm
    rw [← hm] at hsrc hsln
    rw [← hnn] at hlen
    rw [← hm, ← hnn, hnd]
    have HX4 := Lib.hid (HX1.out.trans he4); have HSRC := Lib.hid hsrc; have HM := Lib.hid hm; have HNN := Lib.hid hnn; have HV1 := Lib.hid hv1; have HD1 := Lib.hid hd1
    have HKQ4 := Lib.hid (HKQ.out.ext he4)
    replace q0 := he4.cell q0; replace q1 := he4.cell q1; replace q2 := he4.cell q2; replace q3 := he4.cell q3; replace q4 := he4.cell q4
    clear hsrc he4 hm hnn hnd hv1 hd1 HX1 HKQ
    go_upto_region 8 with fail
    have k5 := Bk.new w4 33 [.slice A1 nn c1, .int .i64 (nk : Int), .slice A2 nk c2, .slice A3 m c3]
    change Bk (w4.alloc (.cells #[.slice A1 nn c1, .int .i64 (nk : Int), .slice A2 nk c2, .slice A3 m c3] 33)) _ _ _ at k5
    have hx5 : Ext w4 (w4.alloc (.cells #[.slice A1 nn c1, .int .i64 (nk : Int), .slice A2 nk c2, .slice A3 m c3] 33)) := (Ext.refl w4).alloc _
    generalize (w4.alloc (.cells #[.slice A1 nn c1, .int .i64 (nk : Int), .slice A2 nk c2, .slice A3 m c3] 33)) = w5 at *
    have HX5 := Lib.hid (HX4.out.trans hx5); have HX45 := Lib.hid hx5; have HK5 := Lib.hid k5; have HKQ5 := Lib.hid (HKQ4.out.ext hx5)
    replace q0 := hx5.cell q0; replace q1 := hx5.cell q1; replace q2 := hx5.cell q2; replace q3 := hx5.cell q3; replace q4 := hx5.cell q4
    have hsz5 : w4.heap.size < w5.heap.size := k5.lt
    clear k5 hx5 HX4 HKQ4
    go_upto_region 9 with fail
    have k6 := Bk.new w5 27 [.slice A nh ca, .int .i64 ag, .string av, .slice B nr cb, .slice O no co]
    change Bk (w5.alloc (.cells #[.slice A nh ca, .int .i64 ag, .string av, .slice B nr cb, .slice O no co] 27)) _ _ _ at k6
    have hx6 : Ext w5 (w5.alloc (.cells #[.slice A nh ca, .int .i64 ag, .string av, .slice B nr cb, .slice O no co] 27)) := (Ext.refl w5).alloc _
    generalize (w5.alloc (.cells #[.slice A nh ca, .int .i64 ag, .string av, .slice B nr cb, .slice O no co] 27)) = w6 at *
    have g4 := k6.cell (i := 4) (by simp); have gf := k6.free 4
    simp only [List.getElem_cons_zero, List.getElem_cons_succ] at g4
    have HX6 := Lib.hid (HX5.out.trans hx6); have HX46 := Lib.hid (HX45.out.trans hx6); have HK6 := Lib.hid k6; have HKN6 := Lib.hid (HK5.out.ext hx6)
    replace q0 := hx6.cell q0; replace q1 := hx6.cell q1; replace q2 := hx6.cell q2; replace q3 := hx6.cell q3; replace q4 := hx6.cell q4
    have hsz6 : w5.heap.size < w6.heap.size := k6.lt
    have hwq : w.heap.size < w5.heap.size := HKQ5.out.lt
    have hw5w : w.heap.size ≤ w5.heap.size := by omega
    clear k6 hx6 HX5 HK5 HX45 HKQ5
    go_upto_region 10 with fail
    have hs7 : Fr (fun b => b = w5.heap.size) w6 (w6.setCell ⟨w5.heap.size, 4, none⟩ (.slice none 0 0)) := (Fr.refl (fun b => b = w5.heap.size) w6).setCell (p := ⟨w5.heap.size, 4, none⟩) (.inl rfl) _
    have k7 : Bk (w6.setCell ⟨w5.heap.size, 4, none⟩ (.slice none 0 0)) w5.heap.size 27 [.slice A nh ca, .int .i64 ag, .string av, .slice B nr cb, .slice none 0 0] := HK6.out.set 4 _
    generalize (w6.setCell ⟨w5.heap.size, 4, none⟩ (.slice none 0 0)) = w7 at *
    have HX7 := Lib.hid (hs7.new HX6.out (fun b hb => by omega)); have HK7 := Lib.hid k7; have HKN7 := Lib.hid (HKN6.out.fr hs7 (by omega))
    have hx47 : Ext w4 w7 := hs7.new HX46.out (fun b hb => by omega)
    have HX47 := Lib.hid hx47
    replace q0 := hs7.cell q0 (by show ¬ w.heap.size = w5.heap.size; omega); replace q1 := hs7.cell q1 (by show ¬ w.heap.size = w5.heap.size; omega); replace q2 := hs7.cell q2 (by show ¬ w.heap.size = w5.heap.size; omega); replace q3 := hs7.cell q3 (by show ¬ w.heap.size = w5.heap.size; omega); replace q4 := hs7.cell q4 (by show ¬ w.heap.size = w5.heap.size; omega)
    clear k7 hs7 hx47 g4 gf HX6 HX46 HK6 HKN6
    go_wp2_with fail
    refine (HORD2.out _ HX7.out).mono ?_
    rintro e w8 ⟨v, rfl, he8, hown⟩
    obtain ⟨Ak, ck, rfl⟩ := own_slice hown
    have HX8 := Lib.hid (HX7.out.trans he8); have HX48 := Lib.hid (HX47.out.trans he8); have HK8 := Lib.hid (HK7.out.ext he8); have HKN8 := Lib.hid (HKN7.out.ext he8); have HOWN := Lib.hid hown
    have hsz8 : w7.heap.size ≤ w8.heap.size := he8.size
    have hsz7 : w5.heap.size < w8.heap.size := HK8.out.lt
    clear hown he8 q0 q1 q2 q3 q4 HK7 HKN7 HX7 HX47
    obtain ⟨i0, hi0, hz0, hz1, hz2⟩ := info_parts info_key
    have HI0 := Lib.hid (And.intro hi0 (And.intro hz0 (And.intro hz1 hz2))); clear hi0 hz0 hz1 hz2
    go_wp2_with fail
    go_loopw [9] (fun t wr => ∃ (i : Nat) (v : Value), i ≤ nk ∧ t = .int .i64 (i : Int) ∧ Bk wr w5.heap.size 27 [.slice A nh ca, .int .i64 ag, .string av, .slice B nr cb, v] ∧ wr.ownsRow w8.heap.size 52 2 v i (kcells ((od.take i).map turnK)) ∧ Fr (fun b => b = w5.heap.size) w8 wr) (fun t _ => nk - (intOf t).toNat)
    case atStart => exact ⟨0, _, Nat.zero_le _, rfl, HK8.out, World.ownsRow_nil _ _ _ _, Fr.refl _ _⟩
    case round =>
      obtain ⟨i, v, hi, rfl, hbk, hrow, hfr⟩ := hrel
      obtain ⟨Au, cu, rfl⟩ := own_slice hrow
      obtain ⟨W, rfl⟩ : ∃ W : World, W = wr := ⟨_, rfl⟩
      have HB := Lib.hid hbk; have HR := Lib.hid hrow; have HF := Lib.hid hfr
      have hwr8 : w8.heap.size ≤ W.heap.size := hfr.size
      by_cases hik : i < nk
      · have i1 : (0 : Int) ≤ (i : Int) := by omega
        have i2 : (i : Int) < (nk : Int) := by omega
        have hio : i < od.length := by have := HNK.out; omega
        have hko := own_fr HOWN.out hfr (fun k hk e => own_bk HOWN.out HK8.out (by decide) hk e)
        have hsl : Sl rdKy (fun k => w7.heap.size ≤ k) W (.slice Ak nk ck) od := (Rw.of_flat (cells := Ky.cells) (sz := 2) (hl := fun _ => rfl) hko).sl (by decide)
        obtain ⟨adk, rfl, -, c0, c1⟩ := hsl.ky hio
        have b4 := hbk.cell (i := 4) (by simp)
        simp only [List.getElem_cons_zero, List.getElem_cons_succ] at b4
        have htk : (od.take (i + 1)).map turnK = (od.take i).map turnK ++ [turnK od[i]] := by rw [List.take_succ_eq_append_getElem hio, List.map_append]; rfl
        obtain ⟨⟨xv, xd⟩, hx'⟩ : ∃ x, x = od[i] := ⟨_, rfl⟩
        rw [← hx'] at c0 c1 htk
        simp only at c0 c1
        have HTK : Hid (kcells ((od.take (i + 1)).map turnK) = kcells ((od.take i).map turnK) ++ [.string xv, .bool (!xd)]) := Lib.hid (by rw [htk]; unfold kcells; rw [List.flatMap_append]; rfl)
        have b4a := ((Ext.refl W).alloc (.cells #[.string xv, .bool (!xd)] 52)).cell b4
        clear hbk hrow hfr hko hsl htk hx'
        go_upto_region 14 with fail
        go_region_law (first
          | (refine step_append_at (by rfl) _ _ _ (by rfl) w8.heap.size 52 i0 (.agg #[.string ⟨#[]⟩, .bool false]) 2 24 Try.underlying25 HI0.out.1 HI0.out.2.1 HI0.out.2.2.1 HI0.out.2.2.2 rfl (by omega) (.slice Au i cu) i (kcells ((od.take i).map turnK)) (by rfl) (by exact own_ext' HR.out ((Ext.refl W).drew.alloc _)) ⟨W.heap.size, 0, none⟩ 1 1 [.string xv, .bool (!xd)] (by rfl) (by rfl) (by exact laid_news W.drew _ _) (by simp [Value.oneCell']) (by simp only [maxLen]; omega) (by omega) (by simp; omega) ?_; intro v9 w9 hr9 hg9 hl9; obtain ⟨A9, c9, e9⟩ := own_slice hr9; subst e9; have hxg := (Ext.refl W).drew.alloc (.cells #[.string xv, .bool (!xd)] 52); have hb9 := Bk.fr (HB.out.ext hxg) (grown_fr hg9) (fun e => own_bk HR.out HB.out (by decide) e rfl); have q9 := hb9.cell (i := 4) (by simp); have f9 := hb9.free 4; simp at q9; have HB9 := Lib.hid hb9; have HR9 := Lib.hid hr9; have HF9 := Lib.hid ((HF.out.ext hxg).grown hg9 (fun b hb => .inr (own_ge HR.out hb))); clear hb9 hr9 hg9 hl9 hxg))
        all_goals
          have hs9 : Fr (fun b => b = w5.heap.size) w9 (w9.setCell ⟨w5.heap.size, 4, none⟩ (.slice A9 (i + 1) c9)) := (Fr.refl (fun b => b = w5.heap.size) w9).setCell (p := ⟨w5.heap.size, 4, none⟩) (.inl rfl) _
          have HBZ := Lib.hid (HB9.out.set 4 (.slice A9 (i + 1) c9))
          have HRZ := Lib.hid (own_fr HR9.out hs9 (fun b hb e => by have := own_ge HR9.out hb; omega))
          have HFZ := Lib.hid (HF9.out.trans hs9)
          clear hs9 q9 f9 b4 b4a c0 c1
          go_wp2_with fail
          go_roundw
          case rel => exact ⟨i + 1, .slice A9 (i + 1) c9, by omega, by go_num, HBZ.out, by rw [HTK.out]; exact HRZ.out, HFZ.out⟩
          case measure => simp [intOf]; omega
      · obtain rfl : i = nk := by omega
        have hdi : ¬ (i : Int) < (i : Int) := by omega
        have et : (od.take i).map turnK = od.map turnK := by rw [List.take_of_length_le (by have := HNK.out; omega)]
        have HXW := Lib.hid (hfr.new HX8.out (fun b hb => by omega)); have HX4W := Lib.hid (hfr.new HX48.out (fun b hb => by omega))
        have hkn := HKN8.out.fr hfr (by omega)
        have hsl : Sl rdKy (fun _ => True) W (.slice Au i cu) (od.map turnK) := by
          have h := ((Rw.of_flat (cells := Ky.cells) (sz := 2) (hl := fun _ => rfl) hrow).sl (by decide)).mono (G := fun _ => True) (by decide) (fun _ _ _ => trivial)
          rw [et] at h
          exact h
        have q0 := hbk.cell (i := 0) (by simp); have q1 := hbk.cell (i := 1) (by simp); have q2 := hbk.cell (i := 2) (by simp); have q3 := hbk.cell (i := 3) (by simp); have q4 := hbk.cell (i := 4) (by simp)
        simp only [List.getElem_cons_zero, List.getElem_cons_succ] at q0 q1 q2 q3 q4
        have HKN := Lib.hid hkn; have HSL := Lib.hid hsl
        clear et hfr hbk hrow hkn hsl HF HB HR HX8 HX48 HK8 HKN8 HOWN HORD2 HI0
        go_wp2_with fail
        refine (HT.out _ HXW.out Au i cu rfl HSL.out).mono ?_
        rintro e w9 ⟨he9, V, D, S2, rfl, hn⟩
        simp only at hn ⊢
        obtain ⟨⟨B1, e1, rfl, -, hv2⟩, ⟨B2, e2, rfl, -, hd2⟩, hsrc⟩ := hn
        simp only at hsrc hv2 hd2 ⊢
        obtain ⟨B3, e3, rfl⟩ := hsrc.sl
        have hnd : (od.map (fun k => !k.desc)).length = i := by rw [List.length_map]; exact HNK.out.symm
        rw [← HM.out] at hsrc
        rw [← HM.out, ← HNN.out, hnd]
        have HX9 := Lib.hid (HXW.out.trans he9); have HX49 := Lib.hid (HX4W.out.trans he9); have HSRC2 := Lib.hid hsrc; have HV2 := Lib.hid hv2; have HD2 := Lib.hid hd2; have HKN9 := Lib.hid (HKN.out.ext he9)
        clear hsrc hv2 hd2 hnd he9 q0 q1 q2 q3 q4 HXW HX4W HKN HSL
        go_upto_region 16 with fail
        have kz := Bk.new w9 33 [.slice B1 nn e1, .int .i64 (i : Int), .slice B2 i e2, .slice B3 m e3]
        change Bk (w9.alloc (.cells #[.slice B1 nn e1, .int .i64 (i : Int), .slice B2 i e2, .slice B3 m e3] 33)) _ _ _ at kz
        have hxz : Ext w9 (w9.alloc (.cells #[.slice B1 nn e1, .int .i64 (i : Int), .slice B2 i e2, .slice B3 m e3] 33)) := (Ext.refl w9).alloc _
        generalize (w9.alloc (.cells #[.slice B1 nn e1, .int .i64 (i : Int), .slice B2 i e2, .slice B3 m e3] 33)) = wz at *
        have HXZ := Lib.hid (HX9.out.trans hxz); have HX4Z := Lib.hid (HX49.out.trans hxz)
        have HK1 := Lib.hid (HKN9.out.ext hxz); have HK2 := Lib.hid kz
        have HV1Z := Lib.hid (HV1.out.ext HX4Z.out); have HD1Z := Lib.hid (HD1.out.ext HX4Z.out); have HS1Z := Lib.hid (HSRC.out.ext HX4Z.out)
        have HV2Z := Lib.hid (HV2.out.ext hxz); have HD2Z := Lib.hid (HD2.out.ext hxz); have HS2Z := Lib.hid (HSRC2.out.ext hxz)
        clear kz hxz HX9 HX49 HKN9 HV1 HD1 HSRC HV2 HD2 HSRC2
        have d0 := HK1.out.cell (i := 0) (by simp); have d1 := HK1.out.cell (i := 1) (by simp); have d2 := HK1.out.cell (i := 2) (by simp); have d3 := HK1.out.cell (i := 3) (by simp)
        have g0 := HK2.out.cell (i := 0) (by simp); have g1 := HK2.out.cell (i := 1) (by simp); have g2 := HK2.out.cell (i := 2) (by simp); have g3 := HK2.out.cell (i := 3) (by simp)
        simp only [List.getElem_cons_zero, List.getElem_cons_succ] at d0 d1 d2 d3 g0 g1 g2 g3
        go_wp2_with fail
        clear d0 d1 d2 d3 g0 g1 g2 g3
        go_loopw [12] (fun t wr => ∃ j : Nat, j ≤ nn ∧ t = .int .i64 (j : Int) ∧ Ext wz wr) (fun t _ => nn - (intOf t).toNat)
        case atStart => exact ⟨0, Nat.zero_le _, rfl, Ext.refl _⟩
        case round =>
          obtain ⟨j, hj, rfl, hxj⟩ := hrel
          obtain ⟨U, rfl⟩ : ∃ U : World, U = wr := ⟨_, rfl⟩
          have HXJ := Lib.hid hxj
          have d0 := (HK1.out.ext hxj).cell (i := 0) (by simp); have d1 := (HK1.out.ext hxj).cell (i := 1) (by simp); have d2 := (HK1.out.ext hxj).cell (i := 2) (by simp); have d3 := (HK1.out.ext hxj).cell (i := 3) (by simp)
          have g0 := (HK2.out.ext hxj).cell (i := 0) (by simp); have g2 := (HK2.out.ext hxj).cell (i := 2) (by simp); have g3 := (HK2.out.ext hxj).cell (i := 3) (by simp)
          simp only [List.getElem_cons_zero, List.getElem_cons_succ] at d0 d1 d2 d3 g0 g2 g3
          by_cases hjl : j < nn
          · have j1 : (0 : Int) ≤ (j : Int) := by omega
            have j2 : (j : Int) < (nn : Int) := by omega
            have hjn : j < names.length := by have := HNN.out; omega
            obtain ⟨ad1, rfl, -, n1⟩ := HV1Z.out.str hjn
            obtain ⟨bd1, rfl, -, n2⟩ := HV2Z.out.str hjn
            replace n1 := hxj.cell n1; replace n2 := hxj.cell n2
            obtain ⟨sn, hsn⟩ : ∃ s, s = names[j] := ⟨_, rfl⟩
            rw [← hsn] at n1 n2
            clear hsn d3 g3
            by_cases hji : j < i
            · have j3 : (j : Int) < (i : Int) := by omega
              have hjo : j < od.length := by have := HNK.out; omega
              obtain ⟨ad2, rfl, -, b1⟩ := HD1Z.out.at' (j := j) (x := .bool od[j].desc) (by simp [hjo])
              obtain ⟨bd2, rfl, -, b2⟩ := HD2Z.out.at' (j := j) (x := .bool (!od[j].desc)) (by simp [hjo])
              replace b1 := hxj.cell b1; replace b2 := hxj.cell b2
              obtain ⟨dd, hdd⟩ : ∃ b, b = od[j].desc := ⟨_, rfl⟩
              rw [← hdd] at b1 b2
              have hbb : (dd == !dd) = false := by cases dd <;> rfl
              clear hdd hxj
              go_upto_region 21 with fail
              go_quiet (fail)
              have HXQ := Lib.hid (HXJ.out.drewN nq)
              generalize (U.drewN nq) = Y at *
              clear d0 d1 d2 g0 g2 n1 n2 b1 b2
              go_wp2_with fail
              go_roundw
              case rel => exact ⟨j + 1, by omega, by go_num, HXQ.out⟩
              case measure => simp [intOf]; omega
            · have j3 : ¬ (j : Int) < (i : Int) := by omega
              clear hji hxj
              go_upto_region 21 with fail
              go_quiet (fail)
              have HXQ := Lib.hid (HXJ.out.drewN nq)
              generalize (U.drewN nq) = Y at *
              clear d0 d1 d2 g0 g2 n1 n2
              go_wp2_with fail
              go_roundw
              case rel => exact ⟨j + 1, by omega, by go_num, HXQ.out⟩
              case measure => simp [intOf]; omega
          · obtain rfl : j = nn := by omega
            have hdj : ¬ (j : Int) < (j : Int) := by omega
            clear hxj d1 d2 g0 g2 g3
            go_wp2_with fail
            clear d0 d3
            go_loopw [13] (fun t wr => ∃ k : Nat, k ≤ m ∧ t = .int .i64 (k : Int) ∧ Ext U wr) (fun t _ => m - (intOf t).toNat)
            case atStart => exact ⟨0, Nat.zero_le _, rfl, Ext.refl _⟩
            case round =>
              obtain ⟨k, hk, rfl, hxk⟩ := hrel
              have HXK := Lib.hid (HXJ.out.trans hxk)
              have d3 := (HK1.out.ext HXK.out).cell (i := 3) (by simp); have g3 := (HK2.out.ext HXK.out).cell (i := 3) (by simp)
              simp only [List.getElem_cons_zero, List.getElem_cons_succ] at d3 g3
              have HXK1 := Lib.hid hxk
              by_cases hkm : k < m
              · have k1 : (0 : Int) ≤ (k : Int) := by omega
                have k2 : (k : Int) < (m : Int) := by omega
                have hks : k < srcs.length := by have := HM.out; omega
                obtain ⟨ads, P1, x1, P2, x2, P3, x3, P4, x4, P5, x5, rfl, -, s0, s1, s2, -, -, s5, i1, i2, -, -, -⟩ := (HS1Z.out.ext HXK.out).src hks
                obtain ⟨bds, R1, y1, R2, y2, R3, y3, R4, y4, R5, y5, rfl, -, t0, t1, t2, -, -, t5, j1, j2', -, -, -⟩ := (HS2Z.out.ext HXK.out).src hks
                obtain ⟨hv1, hv2⟩ := HVL2.out _ (List.getElem_mem hks)
                have hi1 := fun (V : World) (hV : Ext wr V) => ints_any (i1.ext hV) (j1.ext hV) (by have := HNN.out; omega)
                have hi2 := fun (V : World) (hV : Ext wr V) => ints_any (i2.ext hV) (j2'.ext hV) (by have := HNN.out; omega)
                rw [decide_eq_true rfl] at hi1 hi2
                obtain ⟨nv, hnv⟩ : ∃ n, n = srcs[k].vars.length := ⟨_, rfl⟩
                obtain ⟨nc, hnc⟩ : ∃ n, n = srcs[k].cols.length := ⟨_, rfl⟩
                obtain ⟨nt, hnt⟩ : ∃ n, n = srcs[k].nots.length := ⟨_, rfl⟩
                obtain ⟨rl, hrl⟩ : ∃ n, n = srcs[k].rel := ⟨_, rfl⟩
                rw [← hnv] at s1 t1 hi1
                rw [← hnc] at s2 t2 hi2
                rw [← hnt] at s5 t5
                rw [← hrl] at s0 t0
                have HI1 := Lib.hid hi1; have HI2 := Lib.hid hi2
                have hnn5 : ((nt : Int) != (nt : Int)) = false := by simp
                clear hi1 hi2 i1 i2 j1 j2' hnv hnc hnt hrl hv1 hv2 hxk
                go_upto_region 26 with fail
                go_region_held3 (fun V => Ext wr V ∧ V.cell? ⟨w4.heap.size, 3, none⟩ = some (.slice (some ads) m c3) ∧ V.cell? ⟨w9.heap.size, 3, none⟩ = some (.slice (some bds) m e3) ∧ V.cell? (ads.add (k * 6)) = some (.string rl) ∧ V.cell? (bds.add (k * 6)) = some (.string rl) ∧ V.cell? ⟨(ads.add (k * 6)).block, (ads.add (k * 6)).off + 1, none⟩ = some (.slice P1 nv x1) ∧ V.cell? ⟨(bds.add (k * 6)).block, (bds.add (k * 6)).off + 1, none⟩ = some (.slice R1 nv y1) ∧ V.cell? ⟨(ads.add (k * 6)).block, (ads.add (k * 6)).off + 2, none⟩ = some (.slice P2 nc x2) ∧ V.cell? ⟨(bds.add (k * 6)).block, (bds.add (k * 6)).off + 2, none⟩ = some (.slice R2 nc y2) ∧ V.cell? ⟨(ads.add (k * 6)).block, (ads.add (k * 6)).off + 5, none⟩ = some (.slice P5 nt x5) ∧ V.cell? ⟨(bds.add (k * 6)).block, (bds.add (k * 6)).off + 5, none⟩ = some (.slice R5 nt y5))
                  ((refine (fun he => ⟨he, Ext.cell he d3, Ext.cell he g3, Ext.cell he s0, Ext.cell he t0, Ext.cell he s1, Ext.cell he t1, Ext.cell he s2, Ext.cell he t2, Ext.cell he s5, Ext.cell he t5⟩) ?_; repeat (first | exact Ext.refl _ | exact (Ext.refl _).drew | refine Ext.drew ?_ | refine Ext.trans ?_ (by assumption))))
                  (first
                    | (go_at_call 14; (with_reducible refine (HI1.out _ (And.left (by assumption))).mono ?_); rintro e wi ⟨yv, rfl, hei, rfl⟩)
                    | (go_at_call 14; (with_reducible refine (HI2.out _ (And.left (by assumption))).mono ?_); rintro e wi2 ⟨yv, rfl, hei2, rfl⟩))
                have hfin := And.left (b := _ ∧ _) (by assumption)
                have HXF := Lib.hid (HXK1.out.trans hfin)
                clear d3 g3 s0 t0 s1 t1 s2 t2 s5 t5 hfin
                go_wp2_with fail
                go_roundw
                case rel => exact ⟨k + 1, by omega, by go_num, HXF.out⟩
                case measure => simp [intOf]; omega
              · obtain rfl : k = m := by omega
                have hdk : ¬ (k : Int) < (k : Int) := by omega
                clear g3 hxk
                go_wp2_with fail
                go_ret
                exact Ret.mk (HXZ.out.trans HXK.out) rfl
  · have HN := Lib.hid (HNO.out hno20 hc)
    obtain ⟨ev, hev⟩ : ∃ e, e = checkE ss q := ⟨_, rfl⟩
    rw [← hev] at HN hc
    have hb : (ev != 0) = true := by rw [bne_iff_ne]; exact hc
    clear hc hev HVL HNO HYES HLEN HSL HHD HORD HTURN HORL
    go_wp2_with fail
    refine (HN.out _ HX1.out).mono ?_
    rintro e w4 ⟨rfl, he4⟩
    have hx5 : Ext w (w4.alloc (.cells #[.slice none 0 0, .int .i64 0, .slice none 0 0, .slice none 0 0] 33)) := (HX1.out.trans he4).alloc _
    have HX5 := Lib.hid hx5
    clear hx5 he4
    go_wp2_with fail
    go_ret
    exact Ret.mk HX5.out rfl
end Go.Proofs.Ytmmmdinncmbjkaa
