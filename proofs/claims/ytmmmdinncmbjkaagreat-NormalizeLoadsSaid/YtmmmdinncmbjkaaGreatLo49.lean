/- The walk of NormalizeLoads. -/
import Derived.Test.YtmmmdinncmbjkaaGreatLo35
import Derived.Test.YtmmmdinncmbjkaaGreatLo46
import Derived.Test.YtmmmdinncmbjkaaGreatLo42
import Derived.Test.YtmmmdinncmbjkaaGreatLo44
import Derived.Test.YtmmmdinncmbjkaaGreatLo48
namespace Go.Proofs.YtmmmdinncmbjkaaGreat
open Go.RowKit Go.Maps
theorem Sl.re {F : Nat → Prop} {w : World} {A : Option Addr} {n c : Nat} {xs : List Re} (h : Sl rdRe F w (.slice A n c) xs) {i : Nat} (hi : i < xs.length) : ∃ ad B d, A = some ad ∧ w.cell? (ad.add (i * 2)) = some (.int .i64 xs[i].ar) ∧ w.cell? ⟨(ad.add (i * 2)).block, (ad.add (i * 2)).off + 1, none⟩ = some (.slice B xs[i].rows.length d) ∧ Sl rdRow F w (.slice B xs[i].rows.length d) xs[i].rows := by
  obtain ⟨ad, cs, h1, -, ⟨u, rfl, hu⟩, c0, cr⟩ := h.at hi
  obtain ⟨B, d, rfl⟩ := hu.sl
  exact ⟨ad, B, d, h1, c0 (by simp), cr 0 (by simp), hu⟩
theorem ok_map {α β : Type} {f : α → β} : ∀ {l : List α} {m : List β}, l.map (fun s => (Except.ok (f s) : Except Int β)) = m.map Except.ok → m = l.map f
  | [], [], _ => rfl
  | [], b :: m, h => by simp at h
  | a :: l, [], h => by simp at h
  | a :: l, b :: m, h => by
    simp only [List.map_cons, List.cons.injEq, Except.ok.injEq] at h
    rw [List.map_cons, h.1, ok_map h.2]
theorem derive_len {f : List Fc} {s : Src} {l : List Fc} : (deriveL f s l).length ≤ l.length := by
  have h : ∀ (l : List Fc) (out : List (List Vl)), (l.foldl (derOne f s) out).length ≤ out.length + l.length := by
    intro l
    induction l with
    | nil => exact fun out => by simp
    | cons a l ih =>
      intro out
      rw [List.foldl_cons]
      have h1 := ih (derOne f s out a)
      have h2 : (derOne f s out a).length ≤ out.length + 1 := by
        unfold derOne addR
        split
        · split
          · omega
          · simp
        · omega
      rw [List.length_cons]
      omega
  have := h l []
  simpa [deriveL] using this
/-- What the law wants of a source. -/
structure LwOk (M : Dm) (f : List Fc) (s : Src) : Prop where
  ld : LdOk M s
  der : DerOk s f
  len : (deriveL f s f).length = (loadL M s).length
  mem : ∀ x ∈ deriveL f s f, x ∈ loadL M s
  bd : (loadL M s).length ≤ 1048576
  row : ∀ x ∈ loadL M s, x.length ≤ 1048576
  vc : s.cols.length = s.vars.length
theorem lw_ok {ss : List Sc} {us : List Up} {q : Qy} {r : Rl} {s : Src} (hl : ss.length ≤ 6) (hO : DmOk (madeD ss us)) (hc : checkE ss q = 0) (hr : r ∈ q.rs) (hs : s ∈ srcsL q r) : LwOk (madeD ss us) (factsL (madeD ss us) ss) s := by
  obtain ⟨hk, hok⟩ := src_fits hO hc hr hs
  have hkey : ∀ s e, madeD ss us s = some e → ∃ x ∈ ss, x.name = s := fun s e h => madeD_key h
  have h1 := load_len hkey hok
  refine ⟨hk, src_der hl hO hc hr hs, h1, fun x hx => (load_mem hkey hok).2 hx, ?_, fun x hx => ?_, hok.len.symm⟩
  · have h2 := derive_len (f := factsL (madeD ss us) ss) (s := s) (l := factsL (madeD ss us) ss)
    have h3 := facts_len hO ss
    omega
  · obtain ⟨y, -, -, rfl⟩ := derive_mem.1 ((load_mem hkey hok).1 hx)
    have := hk.b1; have := hok.len
    show (s.cols.map _).length ≤ 1048576
    rw [List.length_map]
    omega
set_option maxRecDepth 20000 in
set_option maxHeartbeats 6400000 in
theorem law_loads {F G H : Nat → Prop} {w : World} {A B O S U : Option Addr} {ca cb co nS cs nU cU : Nat} {q : Qy} {ss : List Sc} {us : List Up} (h : QyR F w A ca B cb O co q) (hS : Sl rdSc G w (.slice S nS cs) ss) (hU : Sl rdUp H w (.slice U nU cU) us) (hz : QyZ q) (hla : ∀ r ∈ q.rs, r.ats.length ≤ maxLen) (hls : ss.length ≤ maxLen) (hlu : nU ≤ maxLen) (hzs : ∀ x ∈ ss, x.name.size ≤ maxLen ∧ x.kinds.length ≤ maxLen) (hus : ∀ u ∈ us, u.rel.size ≤ maxLen ∧ u.row.length ≤ maxLen ∧ ∀ v ∈ u.row, v.str.size ≤ maxLen) :
    Calls Tryz.prog 4 #[.slice S nS cs, .slice U nU cU, .agg #[.slice A q.hd.length ca, .int .i64 q.ag, .string q.av, .slice B q.rs.length cb, .slice O q.od.length co]] w (Ret (fun x _ => x = .bool true) w) := by
  have hnS := hS.cap.1
  have HFEW := Lib.hid (fun (V : World) (hV : Ext w V) => few_any (S := S) (nS := nS) (cs := cs) (A := A) (nh := q.hd.length) (ca := ca) (ag := q.ag) (av := q.av) (O := O) (no := q.od.length) (co := co) (h.rs.ext hV) (hU.ext hV) hlu hla)
  have HMADE := Lib.hid (fun (h1 : nS ≤ 16) (h2 : nU ≤ 1000) (V : World) (hV : Ext w V) => made_any (hS.ext hV) (hU.ext hV) h1 h2 hzs hus)
  have HNO := Lib.hid (fun (hb : q.od.length ≤ 20) (hc : checkE ss q ≠ 0) (ri : Int) (V : World) (hV : Ext w V) => rule_no (ri := ri) (h.ext hV) (hS.ext hV) hz (by omega) hls hc)
  have HYES := Lib.hid (fun (hb : q.od.length ≤ 20) (rn : Nat) (r : Rl) (hr : q.rs[rn]? = some r) (hc : checkE ss q = 0) (V : World) (hV : Ext w V) => by
    obtain ⟨hrn, e⟩ := List.getElem?_eq_some_iff.1 hr
    have t := rule_good (ri := rn) (h.ext hV) (hS.ext hV) hz (by omega) hls hc hrn
    rw [norm_srcs hc (List.getElem_mem hrn), order_free hc, e] at t
    exact t)
  have HRL := Lib.hid (fun (rn : Nat) (r : Rl) (hr : q.rs[rn]? = some r) => by
    obtain ⟨hrn, e⟩ := List.getElem?_eq_some_iff.1 hr
    have t := h.rs.rl hrn
    rw [e] at t
    exact t)
  obtain ⟨nh, hnh⟩ : ∃ n, n = q.hd.length := ⟨_, rfl⟩
  obtain ⟨nr, hnr⟩ : ∃ n, n = q.rs.length := ⟨_, rfl⟩
  obtain ⟨no, hno⟩ : ∃ n, n = q.od.length := ⟨_, rfl⟩
  have HNR := Lib.hid hnr; have HNOO := Lib.hid hno; have HNS := Lib.hid hnS
  rw [← hnh, ← hnr, ← hno] at HFEW HNO HYES
  rw [← hnh, ← hnr, ← hno]
  obtain ⟨ag, hag⟩ : ∃ x, x = q.ag := ⟨_, rfl⟩
  obtain ⟨av, hav⟩ : ∃ x, x = q.av := ⟨_, rfl⟩
  rw [← hag, ← hav] at HFEW HNO HYES
  rw [← hag, ← hav]
  clear h hS hU hz hla hls hlu hzs hus hnh hnr hno hag hav hnS
  go_enter Tryz.func4, Tryz.ntmps4
  go_upto_region 1 with fail
  have kq := Bk.new w 61 [.slice A nh ca, .int .i64 ag, .string av, .slice B nr cb, .slice O no co]
  change Bk (w.alloc (.cells #[.slice A nh ca, .int .i64 ag, .string av, .slice B nr cb, .slice O no co] 61)) _ _ _ at kq
  have hx1 : Ext w (w.alloc (.cells #[.slice A nh ca, .int .i64 ag, .string av, .slice B nr cb, .slice O no co] 61)) := (Ext.refl w).alloc _
  generalize (w.alloc (.cells #[.slice A nh ca, .int .i64 ag, .string av, .slice B nr cb, .slice O no co] 61)) = w1 at *
  have HKQ := Lib.hid kq; have HX1 := Lib.hid hx1
  clear kq hx1
  go_wp2_with fail
  refine (awake_true _).mono ?_
  rintro e w2 ⟨x, rfl, he, rfl⟩
  replace HKQ := Lib.hid (HKQ.out.ext he); replace HX1 := Lib.hid (HX1.out.trans he)
  have q0 := HKQ.out.cell (i := 0) (by simp); have q1 := HKQ.out.cell (i := 1) (by simp); have q2 := HKQ.out.cell (i := 2) (by simp); have q3 := HKQ.out.cell (i := 3) (by simp); have q4 := HKQ.out.cell (i := 4) (by simp)
  simp only [List.getElem_cons_zero, List.getElem_cons_succ] at q0 q1 q2 q3 q4
  clear he
  go_wp2_with fail
  refine (HFEW.out _ HX1.out).mono ?_
  rintro e w3 ⟨x, rfl, he, b, rfl, hfew⟩
  replace HKQ := Lib.hid (HKQ.out.ext he); replace HX1 := Lib.hid (HX1.out.trans he)
  clear he q0 q1 q2 q3 q4
  rcases b with _ | _
  · clear hfew
    go_wp2_with fail
    go_ret
    exact Ret.mk HX1.out rfl
  obtain ⟨hnS6, hnU40, hnh20, hnr4, hno20⟩ := hfew rfl
  clear hfew
  go_wp2_with fail
  refine (HMADE.out (by omega) (by omega) _ HX1.out).mono ?_
  rintro e w4 ⟨he4, ⟨mb, rfl⟩ | ⟨b, nn, Af, nf, cf, rfl, hD, -, hO, -, hF⟩⟩
  · have HX4 := Lib.hid (HX1.out.trans he4)
    clear he4
    go_upto_region 6 with fail
    have hx5 : Ext w4 (w4.alloc (.cells #[.map mb] 26)) := (Ext.refl w4).alloc _
    generalize (w4.alloc (.cells #[.map mb] 26)) = w5 at *
    have HX5 := Lib.hid (HX4.out.trans hx5)
    clear hx5
    go_wp2_with fail
    go_ret
    exact Ret.mk HX5.out rfl
  have HLW := Lib.hid (fun (r : Rl) (hr : r ∈ q.rs) (hc : checkE ss q = 0) (s : Src) (hs : s ∈ srcsL q r) => lw_ok (us := us) (by have := HNS.out; omega) hO hc hr hs)
  obtain ⟨M, hM⟩ : ∃ M, M = madeD ss us := ⟨_, rfl⟩
  rw [← hM] at hD hO hF HLW
  obtain ⟨f, hf⟩ : ∃ f, f = factsL M ss := ⟨_, rfl⟩
  rw [← hf] at hF HLW
  have hnf := hF.cap.1
  have HX4 := Lib.hid (HX1.out.trans he4); have HKQ4 := Lib.hid (HKQ.out.ext he4); have HD4 := Lib.hid hD; have HO := Lib.hid hO; have HF4 := Lib.hid hF; have HNF := Lib.hid hnf
  clear he4 hM hf hD hO hF hnf
  go_upto_region 6 with fail
  have hx5 : Ext w4 (w4.alloc (.cells #[.map (some b)] 26)) := (Ext.refl w4).alloc _
  have kd := Bk.new w4 26 [.map (some b)]
  change Bk (w4.alloc (.cells #[.map (some b)] 26)) _ _ _ at kd
  generalize (w4.alloc (.cells #[.map (some b)] 26)) = w5 at *
  have HX5 := Lib.hid (HX4.out.trans hx5); have HKQ5 := Lib.hid (HKQ4.out.ext hx5); have HD5 := Lib.hid (HD4.out.ext hx5); have HF5 := Lib.hid (HF4.out.ext hx5); have HKD := Lib.hid kd
  clear hx5 kd
  go_wp2_with fail
  go_loopw [10] (fun t wr => ∃ i : Nat, i ≤ nr ∧ t = .int .i64 (i : Int) ∧ Ext w5 wr) (fun t _ => nr - (intOf t).toNat)
  case atStart => exact ⟨0, Nat.zero_le _, rfl, Ext.refl _⟩
  case round =>
    obtain ⟨i, hi, rfl, hx⟩ := hrel
    obtain ⟨W, rfl⟩ : ∃ W : World, W = wr := ⟨_, rfl⟩
    have HXW := Lib.hid hx; have HX := Lib.hid (HX5.out.trans hx); have HKQW := Lib.hid (HKQ5.out.ext hx)
    have q0 := HKQW.out.cell (i := 0) (by simp); have q1 := HKQW.out.cell (i := 1) (by simp); have q2 := HKQW.out.cell (i := 2) (by simp); have q3 := HKQW.out.cell (i := 3) (by simp); have q4 := HKQW.out.cell (i := 4) (by simp)
    simp only [List.getElem_cons_zero, List.getElem_cons_succ] at q0 q1 q2 q3 q4
    clear hx
    by_cases hlt : i < nr
    · have i1 : (0 : Int) ≤ (i : Int) := by omega
      have i2 : (i : Int) < (nr : Int) := by omega
      by_cases hc : checkE ss q = 0
      · have hrq : i < q.rs.length := by have := HNR.out; omega
        obtain ⟨r, hr⟩ : ∃ r, q.rs[i]? = some r := ⟨_, List.getElem?_eq_getElem hrq⟩
        have hmem : r ∈ q.rs := List.mem_of_getElem? hr
        have hY := HYES.out hno20 i r hr hc
        have hRL := HRL.out i r hr
        have hLW := HLW.out r hmem hc
        have hlen := names_14 hc hmem
        have hsln := srcs_len hc hmem
        have hcv := cond_var hc hmem
        have htz := term_zero hc hmem
        have hcov : ∀ a ∈ r.ats, ∀ t ∈ a.terms, t.var ≠ ⟨#[]⟩ → t.var ∈ namesL q r := fun a ha => names_cov ha
        obtain ⟨h8, h8', -, -⟩ := rule_parts hc hmem
        have hsrd : srcsL q r = upL (srcR (namesL q r) r) r.ats.length := rfl
        obtain ⟨srcs, hsrcs⟩ : ∃ l, l = srcsL q r := ⟨_, rfl⟩
        obtain ⟨names, hnames⟩ : ∃ l, l = namesL q r := ⟨_, rfl⟩
        obtain ⟨od, hod⟩ : ∃ l, l = orderL q.hd q.od := ⟨_, rfl⟩
        rw [← hsrcs] at hY hsln hsrd hLW
        rw [← hnames] at hY hlen hcov hsrd
        rw [← hod] at hY
        obtain ⟨adr, Ba, da, Bc, dc, rfl, -, ra, rc, hat, hcd⟩ := hRL
        obtain ⟨na, hna⟩ : ∃ n, n = r.ats.length := ⟨_, rfl⟩
        obtain ⟨nc, hnc⟩ : ∃ n, n = r.cds.length := ⟨_, rfl⟩
        rw [← hna] at ra hat h8
        rw [← hnc] at rc hcd h8'
        have HSR := Lib.hid (fun (V : World) (hV : Ext w V) (An : Option Addr) (nn cn : Nat) (hnn : nn = names.length) (hN : Strs (fun _ => True) V (.slice An nn cn) names) => by
          have t := sources_ref hN (hat.ext hV) (hcd.ext hV) (fun a ha => by have := (htz a ha).1; omega) (by omega) (by omega) (by omega) hcov (fun a ha => (htz a ha).2) hcv
          rw [← hsrd] at t
          exact t)
        have HY := Lib.hid hY; have HLS := Lib.hid hLW
        replace ra := HX.out.cell ra; replace rc := HX.out.cell rc
        clear hc hmem hY hcv htz hcov hsrd hr hsrcs hnames hod hat hcd hna hnc HNO HYES HRL HFEW HMADE HNR HNOO hrq HLW hLW
        go_wp2_with fail
        refine (HY.out _ HX.out).mono ?_
        rintro e w6 ⟨he6, V, D, S2, rfl, hn⟩
        simp only at hn ⊢
        obtain ⟨hvs, hds, hsrc⟩ := hn
        simp only at hsrc hvs hds ⊢
        have hvs' := hvs
        obtain ⟨A1, c1, rfl, -, -⟩ := hvs'
        obtain ⟨A2, c2, rfl, -, -⟩ := hds
        obtain ⟨A3, c3, rfl⟩ := hsrc.sl
        have HNM := Lib.hid (hvs.mono (G := fun _ => True) (fun _ _ _ => trivial))
        obtain ⟨nn, hnn⟩ : ∃ n, n = names.length := ⟨_, rfl⟩
        obtain ⟨m, hm⟩ : ∃ n, n = srcs.length := ⟨_, rfl⟩
        obtain ⟨nd, hnd⟩ : ∃ n, n = (od.map Ky.desc).length := ⟨_, rfl⟩
        rw [← hm] at hsrc hsln
        rw [← hnn] at hlen HNM
        rw [← hm, ← hnn, ← hnd]
        have HX6 := Lib.hid (HX.out.trans he6); have HXW6 := Lib.hid (HXW.out.trans he6); have HSRC := Lib.hid hsrc; have HM := Lib.hid hm; have HNN := Lib.hid hnn
        replace q3 := he6.cell q3; replace ra := he6.cell ra; replace rc := he6.cell rc
        clear hsrc he6 hm hnn hnd hvs q0 q1 q2 q4
        go_upto_region 12 with fail
        have k7 := Bk.new w6 40 [.slice A1 nn c1, .int .i64 (nh : Int), .slice A2 nd c2, .slice A3 m c3]
        change Bk (w6.alloc (.cells #[.slice A1 nn c1, .int .i64 (nh : Int), .slice A2 nd c2, .slice A3 m c3] 40)) _ _ _ at k7
        have hx7 : Ext w6 (w6.alloc (.cells #[.slice A1 nn c1, .int .i64 (nh : Int), .slice A2 nd c2, .slice A3 m c3] 40)) := (Ext.refl w6).alloc _
        generalize (w6.alloc (.cells #[.slice A1 nn c1, .int .i64 (nh : Int), .slice A2 nd c2, .slice A3 m c3] 40)) = w7 at *
        have HX7 := Lib.hid (HX6.out.trans hx7); have HXW7 := Lib.hid (HXW6.out.trans hx7); have HK7 := Lib.hid k7; have HSRC7 := Lib.hid (HSRC.out.ext hx7); have HNM7 := Lib.hid (HNM.out.ext hx7)
        replace q3 := hx7.cell q3; replace ra := hx7.cell ra; replace rc := hx7.cell rc
        have d0 := (HKD.out.ext HXW7.out).cell (i := 0) (by simp)
        have k0 := k7.cell (i := 0) (by simp); have k1 := k7.cell (i := 1) (by simp); have k2 := k7.cell (i := 2) (by simp); have k3 := k7.cell (i := 3) (by simp)
        simp only [List.getElem_cons_zero, List.getElem_cons_succ] at d0 k0 k1 k2 k3
        have hld := loads_any (f := (nh : Int)) (res := fun s => .ok (loadR M s)) (V := .slice A1 nn c1) (D := .slice A2 nd c2) ⟨_, _, _, rfl⟩ ⟨_, _, _, rfl⟩ HSRC7.out (by omega) (fun W' hW' s hs v hv => load_yes (HD5.out.ext (HXW7.out.trans hW')) HO.out hv (HLS.out s hs).ld)
        have HLD := Lib.hid hld
        clear hld hx7 k7
        go_wp2_with fail
        refine HLD.out.mono ?_
        rintro e w8 ⟨he8, ⟨c, i', hi', hcon, -⟩ | ⟨l, A7, n7, c7, hl, rfl, hsl⟩⟩
        · cases hcon
        obtain rfl := ok_map hl
        obtain rfl : n7 = m := by
          have h1 := hsl.cap.1
          rw [List.length_map] at h1
          have := HM.out
          omega
        have HX8 := Lib.hid (HX7.out.trans he8); have HXW8 := Lib.hid (HXW7.out.trans he8); have HK8 := Lib.hid (HK7.out.ext he8); have HNM8 := Lib.hid (HNM7.out.ext he8); have HSL := Lib.hid hsl
        replace q3 := he8.cell q3; replace ra := he8.cell ra; replace rc := he8.cell rc
        replace k0 := he8.cell k0
        have HSR8 := Lib.hid (fun (V : World) (hV : Ext w8 V) => HSR.out V (HX8.out.trans hV) _ _ _ HNN.out (HNM8.out.ext hV))
        clear he8 hl hsl HLD k1 k2 k3 d0 HSR
        go_upto_region 15 with fail
        go_region_held3 (fun V => Ext w8 V ∧ V.cell? ⟨w6.heap.size, 0, none⟩ = some (.slice A1 nn c1) ∧ V.cell? ⟨w.heap.size, 3, none⟩ = some (.slice (some adr) nr cb) ∧ V.cell? (adr.add (i * 2)) = some (.slice Ba na da) ∧ V.cell? ⟨(adr.add (i * 2)).block, (adr.add (i * 2)).off + 1, none⟩ = some (.slice Bc nc dc))
          ((refine (fun he => ⟨he, Ext.cell he k0, Ext.cell he q3, Ext.cell he ra, Ext.cell he rc⟩) ?_; repeat (first | exact Ext.refl _ | exact (Ext.refl _).drew | refine Ext.drew ?_ | refine Ext.trans ?_ (by assumption))))
          (first
            | (go_at_call 15; (with_reducible refine (HSR8.out _ (And.left (by assumption))).mono ?_); rintro e wi ⟨v, rfl, hei, hsr⟩))
        have hfin := And.left (b := _ ∧ _) (by assumption)
        obtain ⟨X, rfl⟩ : ∃ X : World, X = wi := ⟨_, rfl⟩
        obtain ⟨A8, c8, rfl⟩ := hsr.sl
        rw [← HM.out] at hsr ⊢
        have HX9 := Lib.hid (HX8.out.trans hfin); have HXW9 := Lib.hid (HXW8.out.trans hfin); have HSL9 := Lib.hid (HSL.out.ext hfin); have HSR9 := Lib.hid hsr
        have m2 : ((n7 : Int) != (n7 : Int)) = false := by simp
        clear hfin hei hsr k0 q3 ra rc HSL HSR8
        go_wp2_with fail
        clear m2
        go_loopw [16] (fun t wr => ∃ k : Nat, k ≤ n7 ∧ t = .int .i64 (k : Int) ∧ Ext X wr) (fun t _ => n7 - (intOf t).toNat)
        case atStart => exact ⟨0, Nat.zero_le _, rfl, Ext.refl _⟩
        case round =>
          obtain ⟨k, hk, rfl, hxk⟩ := hrel
          obtain ⟨Y, rfl⟩ : ∃ Y : World, Y = wr := ⟨_, rfl⟩
          have HXK := Lib.hid hxk; have HXY := Lib.hid (HX9.out.trans hxk); have HXWY := Lib.hid (HXW9.out.trans hxk)
          by_cases hkm : k < n7
          · have k1 : (0 : Int) ≤ (k : Int) := by omega
            have k2 : (k : Int) < (n7 : Int) := by omega
            have hks : k < srcs.length := by have := HM.out; omega
            obtain ⟨ads, Bs, ds, rfl, r0, r1, hrw⟩ := (HSL9.out.ext hxk).re (i := k) (by rw [List.length_map]; exact hks)
            rw [List.getElem_map] at r0 r1 hrw
            obtain ⟨bds, R1, y1, R2, y2, R3, y3, R4, y4, R5, y5, rfl, -, t0, t1, t2, t3, t4, t5, j1, j2, j3, j4, j5⟩ := (HSR9.out.ext hxk).src hks
            have hok := HLS.out _ (List.getElem_mem hks)
            obtain ⟨s, hs⟩ : ∃ s, s = srcs[k] := ⟨_, rfl⟩
            rw [← hs] at r0 r1 hrw t0 t1 t2 t3 t4 t5 j1 j2 j3 j4 j5 hok
            have hder := fun (V : World) (hV : Ext Y V) => derive22 (v := .agg #[.string s.rel, .slice R1 s.vars.length y1, .slice R2 s.cols.length y2, .slice R3 s.same.length y3, .slice R4 s.fs.length y4, .slice R5 s.nots.length y5]) ⟨R1, y1, R2, y2, R3, y3, R4, y4, R5, y5, rfl, j1.ext hV, j2.ext hV, j3.ext hV, j4.ext hV, j5.ext hV⟩ (HF5.out.ext (HXWY.out.trans hV)) hok.der
            have hrows := fun (V : World) (hV : Ext Y V) (G5 : Nat → Prop) (A5 : Option Addr) (n5 c5 : Nat) (h5 : Sl rdRow G5 V (.slice A5 n5 c5) (deriveL f s f)) => rows_true (a := (s.cols.length : Int)) (setR_so _) (hrw.ext hV) h5 hok.bd hok.row hok.len hok.mem
            have hra : (loadR M s).ar = (s.vars.length : Int) := by
              show (s.cols.length : Int) = _
              rw [hok.vc]
            rw [hra] at r0
            rw [hok.vc] at t2 hder hrows
            obtain ⟨l0, hl0⟩ : ∃ n, n = (loadR M s).rows.length := ⟨_, rfl⟩
            obtain ⟨l1, hl1⟩ : ∃ n, n = s.vars.length := ⟨_, rfl⟩
            obtain ⟨l3, hl3⟩ : ∃ n, n = s.same.length := ⟨_, rfl⟩
            obtain ⟨l4, hl4⟩ : ∃ n, n = s.fs.length := ⟨_, rfl⟩
            obtain ⟨l5, hl5⟩ : ∃ n, n = s.nots.length := ⟨_, rfl⟩
            obtain ⟨rl, hrl⟩ : ∃ n, n = s.rel := ⟨_, rfl⟩
            rw [← hl0] at r1 hrows
            rw [← hl1] at r0 t1 t2 hder hrows
            rw [← hl3] at t3 hder
            rw [← hl4] at t4 hder
            rw [← hl5] at t5 hder
            rw [← hrl] at t0 hder
            have c1 : ((l1 : Int) != (l1 : Int)) = false := by simp
            have HDER := Lib.hid hder; have HROW := Lib.hid hrows
            clear hder hrows hra hok hs hl0 hl1 hl3 hl4 hl5 hrl hrw j1 j2 j3 j4 j5 hxk hks
            go_upto_region 21 with fail
            go_region_held3 (fun V => Ext Y V ∧ V.cell? (ads.add (k * 2)) = some (.int .i64 (l1 : Int)) ∧ V.cell? ⟨(ads.add (k * 2)).block, (ads.add (k * 2)).off + 1, none⟩ = some (.slice Bs l0 ds) ∧ V.cell? (bds.add (k * 6)) = some (.string rl) ∧ V.cell? ⟨(bds.add (k * 6)).block, (bds.add (k * 6)).off + 1, none⟩ = some (.slice R1 l1 y1) ∧ V.cell? ⟨(bds.add (k * 6)).block, (bds.add (k * 6)).off + 2, none⟩ = some (.slice R2 l1 y2) ∧ V.cell? ⟨(bds.add (k * 6)).block, (bds.add (k * 6)).off + 3, none⟩ = some (.slice R3 l3 y3) ∧ V.cell? ⟨(bds.add (k * 6)).block, (bds.add (k * 6)).off + 4, none⟩ = some (.slice R4 l4 y4) ∧ V.cell? ⟨(bds.add (k * 6)).block, (bds.add (k * 6)).off + 5, none⟩ = some (.slice R5 l5 y5))
              ((refine (fun he => ⟨he, Ext.cell he r0, Ext.cell he r1, Ext.cell he t0, Ext.cell he t1, Ext.cell he t2, Ext.cell he t3, Ext.cell he t4, Ext.cell he t5⟩) ?_; repeat (first | exact Ext.refl _ | exact (Ext.refl _).drew | refine Ext.drew ?_ | refine Ext.trans ?_ (by assumption))))
              (first
                | (go_at_call 11; (with_reducible refine arity_any.mono ?_); rintro e wa ⟨yv, rfl, hea, rfl⟩)
                | (go_at_call 17; (with_reducible refine (HDER.out _ (And.left (by assumption))).mono ?_); rintro e wb ⟨v, rfl, heb, hsd⟩; obtain ⟨A5, n5, c5, rfl⟩ : ∃ A n c, v = .slice A n c := (let ⟨A, c, e⟩ := hsd.sl; ⟨A, _, c, e⟩))
                | (go_at_call 16; refine (HROW.out _ (And.left (by assumption)) _ _ _ _ (hsd.ext (by first | exact Ext.refl _ | exact (Ext.refl _).drew | assumption))).mono ?_; rintro e wd ⟨yw, rfl, hed, rfl⟩))
            have hfin : Ext Y wd := And.left (b := _ ∧ _) (by assumption)
            have HXF := Lib.hid (HXK.out.trans hfin)
            clear hfin hea heb hsd hed r0 r1 t0 t1 t2 t3 t4 t5 c1
            go_wp2_with fail
            go_roundw
            case rel => exact ⟨k + 1, by omega, by go_num, HXF.out⟩
            case measure => simp [intOf]; omega
          · obtain rfl : k = n7 := by omega
            have hdk : ¬ (k : Int) < (k : Int) := by omega
            clear hxk
            go_wp2_with fail
            go_roundw
            case rel => exact ⟨i + 1, by omega, by go_num, HXWY.out⟩
            case measure => simp [intOf]; omega
      · have HN := Lib.hid (HNO.out hno20 hc (i : Int))
        obtain ⟨ev, hev⟩ : ∃ e, e = checkE ss q := ⟨_, rfl⟩
        rw [← hev] at HN hc
        have hb : (ev != 0) = true := by rw [bne_iff_ne]; exact hc
        clear hc hev HNO HYES HRL HFEW HMADE HNR HNOO HLW
        go_wp2_with fail
        refine (HN.out _ HX.out).mono ?_
        rintro e w6 ⟨rfl, he6⟩
        have HX6 := Lib.hid (HX.out.trans he6)
        clear he6 q0 q1 q2 q3 q4
        go_upto_region 12 with fail
        have hx7 : Ext w6 (w6.alloc (.cells #[.slice none 0 0, .int .i64 0, .slice none 0 0, .slice none 0 0] 40)) := (Ext.refl w6).alloc _
        generalize (w6.alloc (.cells #[.slice none 0 0, .int .i64 0, .slice none 0 0, .slice none 0 0] 40)) = w7 at *
        have HX7 := Lib.hid (HX6.out.trans hx7)
        clear hx7
        go_wp2_with fail
        go_ret
        exact Ret.mk HX7.out rfl
    · obtain rfl : i = nr := by omega
      have hdi : ¬ (i : Int) < (i : Int) := by omega
      go_wp2_with fail
      go_ret
      exact Ret.mk HX.out rfl
end Go.Proofs.YtmmmdinncmbjkaaGreat
