/- The walk of NormalizeFilters. -/
import Derived.Test.YtmmmdinncmbjkaaGreatMf46
import Derived.Test.YtmmmdinncmbjkaaGreatMf50
namespace Go.Proofs.YtmmmdinncmbjkaaGreat
open Go.RowKit Go.Maps
/-- What Rule answers of a query of one rule, in one form. -/
def RuleG (ss : List Sc) (q : Qy) (r : Rl) (w : World) (e : Ending) (w' : World) : Prop :=
  Ext w w' ∧ ∃ (A1 : Option Addr) (n1 c1 : Nat) (fr : Int) (A2 : Option Addr) (n2 c2 : Nat) (A3 : Option Addr) (n3 c3 : Nat) (er : Int), e = .returned (.tuple #[.agg #[.slice A1 n1 c1, .int .i64 fr, .slice A2 n2 c2, .slice A3 n3 c3], .int .i64 er]) ∧ (er ≠ 0 ∨ (er = 0 ∧ checkE ss q = 0 ∧ n1 = (namesL q r).length ∧ n3 = (srcsL q r).length ∧ Strs (fun _ => True) w' (.slice A1 n1 c1) (namesL q r) ∧ Sl rdSrc (fun _ => True) w' (.slice A3 n3 c3) (srcsL q r)))
theorem rule_one {F G : Nat → Prop} {w : World} {A B O S : Option Addr} {ca cb co nS cs : Nat} {q : Qy} {r : Rl} {ss : List Sc} (h : QyR F w A ca B cb O co q) (hS : Sl rdSc G w (.slice S nS cs) ss) (hz : QyZ q) (hlo : q.od.length ≤ 20) (hls : ss.length ≤ maxLen) (hq : q.rs = [r]) :
    Calls Tryz.prog 14 #[.agg #[.slice A q.hd.length ca, .int .i64 q.ag, .string q.av, .slice B 1 cb, .slice O q.od.length co], .int .i64 0, .slice S nS cs] w (RuleG ss q r w) := by
  have e1 : q.rs.length = 1 := by rw [hq]; rfl
  by_cases hc : checkE ss q = 0
  · have hmem : r ∈ q.rs := by rw [hq]; simp
    have t := rule_good (ri := 0) h hS hz (by omega) hls hc (by omega)
    have e2 : q.rs[0]'(by omega) = r := by simp [hq]
    rw [e2, norm_srcs hc hmem, e1] at t
    refine t.mono ?_
    rintro e w' ⟨he, V, D, S2, rfl, hv, hd, hs⟩
    simp only at hv hd hs ⊢
    have hv' := hv
    obtain ⟨A1, c1, rfl, -, -⟩ := hv'
    obtain ⟨A2, c2, rfl, -, -⟩ := hd
    obtain ⟨A3, c3, rfl⟩ := hs.sl
    exact ⟨he, A1, _, c1, _, A2, _, c2, A3, _, c3, 0, rfl, .inr ⟨rfl, hc, rfl, rfl, hv.mono (fun _ _ _ => trivial), hs.mono (by decide) (fun _ _ _ => trivial)⟩⟩
  · have t := rule_no (ri := 0) h hS hz (by omega) hls hc
    rw [e1] at t
    refine t.mono ?_
    rintro e w' ⟨rfl, he⟩
    exact ⟨he, none, 0, 0, 0, none, 0, 0, none, 0, 0, _, rfl, .inl hc⟩
/-- The lesser query. -/
def lessQ (q : Qy) (ats : List At) (cs : List Cd) : Qy := ⟨q.hd, q.ag, q.av, [⟨ats, cs⟩], q.od⟩
theorem Sl.head {α : Type} {r : Rdg α} {F : Nat → Prop} {w : World} {A : Option Addr} {n m c : Nat} {xs ys : List α} (h : Sl r F w (.slice A n c) (xs ++ ys)) (hm : m = xs.length) : Sl r F w (.slice A m c) xs := by
  obtain ⟨A', c', e, hc, hh⟩ := h
  injection e with e1 e2 e3
  subst e1 e3
  rw [List.length_append] at hc
  refine ⟨A, c, by rw [hm], by omega, fun i hi => ?_⟩
  obtain ⟨ad, cs, h1, h2, h3, h4⟩ := hh i (by rw [List.length_append]; omega)
  rw [List.getElem_append_left hi] at h3
  exact ⟨ad, cs, h1, h2, h3, h4⟩
theorem load_row_len {M : Dm} {s : Src} {x : List Vl} (h : x ∈ loadL M s) : x.length = s.cols.length := by
  unfold loadL at h
  rw [setR_mem, List.mem_filter] at h
  obtain ⟨y, -, rfl⟩ := List.mem_map.1 h.1
  simp [projR]
/-- The last place of a number among the first k. -/
def ColK (vars : List Int) (pv : Int) (k : Nat) (col : Int) : Prop := (∃ p, ∃ hp : p < vars.length, p < k ∧ vars[p] = pv ∧ col = (p : Int)) ∨ ((∀ p (hp : p < vars.length), p < k → vars[p] ≠ pv) ∧ col = -1)
theorem ColK.yes {vars : List Int} {pv col : Int} {k : Nat} (hk : k < vars.length) (h : vars[k] = pv) : ColK vars pv (k + 1) (k : Int) := .inl ⟨k, hk, by omega, h, rfl⟩
theorem ColK.no {vars : List Int} {pv col : Int} {k : Nat} (hk : k < vars.length) (h : vars[k] ≠ pv) (hc : ColK vars pv k col) : ColK vars pv (k + 1) col := by
  rcases hc with ⟨p, hp, h1, h2, h3⟩ | ⟨h1, h2⟩
  · exact .inl ⟨p, hp, by omega, h2, h3⟩
  · refine .inr ⟨fun p hp hpk => ?_, h2⟩
    rcases Nat.lt_or_ge p k with h3 | h3
    · exact h1 p hp h3
    · obtain rfl : p = k := by omega
      exact h
theorem ColK.ok {names : List ByteArray} {vars : List Int} {d : Cd} {col : Int} (h : ColK vars (posN names d.var : Int) vars.length col) : ColOk names vars d col := by
  rcases h with ⟨p, hp, -, h2, h3⟩ | ⟨h1, h2⟩
  · exact .inl ⟨p, hp, h2, h3⟩
  · refine .inr ⟨fun hm => ?_, h2⟩
    obtain ⟨p, hp, e⟩ := List.getElem_of_mem hm
    exact h1 p hp hp e
theorem less_qy {F : Nat → Prop} {w : World} {A O : Option Addr} {ca co g : Nat} {q : Qy} {ats : List At} {cs : List Cd} {u v : Value} (hd : Strs F w (.slice A q.hd.length ca) q.hd) (ho : Sl rdKy F w (.slice O q.od.length co) q.od) (hb : Bk w g 73 [u, v]) (ha : Ats F w u ats) (hc : Sl rdCd F w v cs) : QyR (fun _ => True) w A ca (some ⟨g, 0, none⟩) 1 O co (lessQ q ats cs) := by
  refine ⟨hd.mono (fun _ _ _ => trivial), ⟨some ⟨g, 0, none⟩, 1, rfl, Nat.le_refl _, fun i hi => ?_⟩, ho.mono (by decide) (fun _ _ _ => trivial)⟩
  obtain rfl : i = 0 := by simp [lessQ] at hi; omega
  refine ⟨⟨g, 0, none⟩, [u, v], rfl, trivial, ⟨u, v, rfl, ha.mono (fun _ _ _ => trivial), hc.mono (by decide) (fun _ _ _ => trivial)⟩, fun j hj => ?_⟩
  have h := hb.cell (i := j) hj
  rw [Nat.zero_mul, Nat.zero_add, add_own]
  exact h
theorem less_z {q : Qy} {ats : List At} {cs : List Cd} {d : Cd} (hz : QyZ q) (h : (⟨ats, cs ++ [d]⟩ : Rl) ∈ q.rs) : QyZ (lessQ q ats cs) := by
  have h1 := hz.rs _ h
  refine ⟨hz.hd, hz.av, fun r hr => ?_, hz.od⟩
  obtain rfl : r = ⟨ats, cs⟩ := List.mem_singleton.1 hr
  exact ⟨h1.rel, h1.tms, fun c hc => h1.var c (List.mem_append_left _ hc), fun c hc => h1.str c (List.mem_append_left _ hc)⟩
set_option maxRecDepth 20000 in
set_option maxHeartbeats 6400000 in
theorem law_filters {F G H : Nat → Prop} {w : World} {A B O S U : Option Addr} {ca cb co nS cs nU cU : Nat} {q : Qy} {ss : List Sc} {us : List Up} (h : QyR F w A ca B cb O co q) (hS : Sl rdSc G w (.slice S nS cs) ss) (hU : Sl rdUp H w (.slice U nU cU) us) (hz : QyZ q) (hla : ∀ r ∈ q.rs, r.ats.length ≤ maxLen) (hlc : ∀ r ∈ q.rs, r.cds.length ≤ maxLen) (hls : ss.length ≤ maxLen) (hlu : nU ≤ maxLen) (hzs : ∀ x ∈ ss, x.name.size ≤ maxLen ∧ x.kinds.length ≤ maxLen) (hus : ∀ u ∈ us, u.rel.size ≤ maxLen ∧ u.row.length ≤ maxLen ∧ ∀ v ∈ u.row, v.str.size ≤ maxLen) :
    Calls Tryz.prog 6 #[.slice S nS cs, .slice U nU cU, .agg #[.slice A q.hd.length ca, .int .i64 q.ag, .string q.av, .slice B q.rs.length cb, .slice O q.od.length co]] w (Ret (fun x _ => x = .bool true) w) := by
  have hnS := hS.cap.1
  have HFEW := Lib.hid (fun (V : World) (hV : Ext w V) => few_any (S := S) (nS := nS) (cs := cs) (A := A) (nh := q.hd.length) (ca := ca) (ag := q.ag) (av := q.av) (O := O) (no := q.od.length) (co := co) (h.rs.ext hV) (hU.ext hV) hlu hla)
  have HMADE := Lib.hid (fun (h1 : nS ≤ 16) (h2 : nU ≤ 1000) (V : World) (hV : Ext w V) => made_any (hS.ext hV) (hU.ext hV) h1 h2 hzs hus)
  obtain ⟨nh, hnh⟩ : ∃ n, n = q.hd.length := ⟨_, rfl⟩
  obtain ⟨nr, hnr⟩ : ∃ n, n = q.rs.length := ⟨_, rfl⟩
  obtain ⟨no, hno⟩ : ∃ n, n = q.od.length := ⟨_, rfl⟩
  have HNR := Lib.hid hnr; have HNOO := Lib.hid hno; have HNS := Lib.hid hnS; have HNH := Lib.hid hnh
  have HQ := Lib.hid h; have HS := Lib.hid hS; have HQZ := Lib.hid hz; have HLS := Lib.hid hls; have HLC := Lib.hid hlc
  rw [← hnh, ← hnr, ← hno] at HFEW
  rw [← hnh, ← hnr, ← hno]
  obtain ⟨ag, hag⟩ : ∃ x, x = q.ag := ⟨_, rfl⟩
  obtain ⟨av, hav⟩ : ∃ x, x = q.av := ⟨_, rfl⟩
  rw [← hag, ← hav] at HFEW
  rw [← hag, ← hav]
  have HAG := Lib.hid hag; have HAV := Lib.hid hav
  clear h hS hU hz hla hlc hls hlu hzs hus hnh hnr hno hag hav hnS
  go_enter Tryz.func6, Tryz.ntmps6
  go_upto_region 1 with fail
  have kq := Bk.new w 61 [.slice A nh ca, .int .i64 ag, .string av, .slice B nr cb, .slice O no co]
  change Bk (w.alloc (.cells #[.slice A nh ca, .int .i64 ag, .string av, .slice B nr cb, .slice O no co] 61)) _ _ _ at kq
  have hx1 : Ext w (w.alloc (.cells #[.slice A nh ca, .int .i64 ag, .string av, .slice B nr cb, .slice O no co] 61)) := (Ext.refl w).alloc _
  generalize (w.alloc (.cells #[.slice A nh ca, .int .i64 ag, .string av, .slice B nr cb, .slice O no co] 61)) = w1 at *
  have HKQ := Lib.hid kq; have HX1 := Lib.hid hx1
  clear kq hx1
  go_wp2_with fail
  refine (awake_true _).mono ?_
  rintro e w2 ⟨x, rfl, he, rfl⟩
  replace HKQ := Lib.hid (HKQ.out.ext he); replace HX1 := Lib.hid (HX1.out.trans he)
  have q0 := HKQ.out.cell (i := 0) (by simp); have q1 := HKQ.out.cell (i := 1) (by simp); have q2 := HKQ.out.cell (i := 2) (by simp); have q3 := HKQ.out.cell (i := 3) (by simp); have q4 := HKQ.out.cell (i := 4) (by simp)
  simp only [List.getElem_cons_zero, List.getElem_cons_succ] at q0 q1 q2 q3 q4
  clear he
  go_wp2_with fail
  refine (HFEW.out _ HX1.out).mono ?_
  rintro e w3 ⟨x, rfl, he, b, rfl, hfew⟩
  replace HKQ := Lib.hid (HKQ.out.ext he); replace HX1 := Lib.hid (HX1.out.trans he)
  replace q0 := he.cell q0; replace q1 := he.cell q1; replace q2 := he.cell q2; replace q3 := he.cell q3; replace q4 := he.cell q4
  clear he
  rcases b with _ | _
  · clear hfew
    go_wp2_with fail
    go_ret
    exact Ret.mk HX1.out rfl
  obtain ⟨hnS6, hnU40, hnh20, hnr4, hno20⟩ := hfew rfl
  clear hfew HFEW
  by_cases hr1 : nr = 1
  rotate_left 1
  · have hb : ((nr : Int) != 1) = true := by rw [bne_iff_ne]; omega
    clear hr1
    go_wp2_with fail
    go_ret
    exact Ret.mk HX1.out rfl
  subst hr1
  have hb1 : ((1 : Int) != 1) = false := by simp
  obtain ⟨r, hqr⟩ : ∃ r, q.rs = [r] := by
    have := HNR.out
    match hq : q.rs, this with
    | [r], _ => exact ⟨r, rfl⟩
  have HQR := Lib.hid hqr
  obtain ⟨adr, Ba, da, Bc, dc, rfl, -, ra, rc, hat, hcd⟩ := HQ.out.rs.rl (i := 0) (by rw [hqr]; simp)
  simp only [hqr, List.getElem_cons_zero, Nat.zero_mul, add_own] at ra rc hat hcd
  clear hqr
  obtain ⟨na, hna⟩ : ∃ n, n = r.ats.length := ⟨_, rfl⟩
  obtain ⟨nc, hnc⟩ : ∃ n, n = r.cds.length := ⟨_, rfl⟩
  rw [← hna] at ra hat
  rw [← hnc] at rc hcd
  have HAT := Lib.hid hat; have HCD := Lib.hid hcd; have HNA := Lib.hid hna; have HNC := Lib.hid hnc
  replace ra := HX1.out.cell ra; replace rc := HX1.out.cell rc
  have ea0 : adr.add 0 = adr := by simp [Addr.add]
  rw [ea0] at ra rc
  have hncl : nc ≤ 9223372036854775807 := by have := HLC.out r (by rw [HQR.out]; simp); rw [HNC.out]; simpa [maxLen] using this
  clear hat hcd hna hnc ea0
  by_cases hnc0 : nc = 0
  · subst hnc0
    go_wp2_with fail
    go_ret
    exact Ret.mk HX1.out rfl
  have hnb : ((nc : Int) == 0) = false := by rw [beq_eq_false_iff_ne]; omega
  obtain ⟨cds, d, hcds⟩ : ∃ cds d, r.cds = cds ++ [d] := by
    rcases List.eq_nil_or_concat r.cds with h | ⟨l, x, h⟩
    · have := HNC.out
      rw [h] at this
      exact absurd this hnc0
    · exact ⟨l, x, by rw [h, List.concat_eq_append]⟩
  obtain ⟨m, hm⟩ : ∃ m, m = cds.length := ⟨_, rfl⟩
  have hncm : nc = m + 1 := by rw [HNC.out, hcds, List.length_append, hm]; rfl
  obtain ⟨adc, rfl, -, c0, c1, c2, c3, c4⟩ := HCD.out.cd (i := m) (by rw [hcds, List.length_append, ← hm]; simp)
  have hdm : r.cds[m]'(by rw [hcds, List.length_append, ← hm]; simp) = d := by simp [hcds, hm]
  rw [hdm] at c0 c1 c2 c3 c4
  have HD := Lib.hid hcds; have HM := Lib.hid hm; have HNCM := Lib.hid hncm
  obtain ⟨dv, hdv⟩ : ∃ x, x = d.var := ⟨_, rfl⟩
  obtain ⟨dop, hdop⟩ : ∃ x, x = d.op := ⟨_, rfl⟩
  obtain ⟨dk, hdk⟩ : ∃ x, x = d.kind := ⟨_, rfl⟩
  obtain ⟨di, hdi⟩ : ∃ x, x = d.int := ⟨_, rfl⟩
  obtain ⟨dst, hds⟩ : ∃ x, x = d.str := ⟨_, rfl⟩
  have HDD : Hid (d = ⟨dv, dop, dk, di, dst⟩) := Lib.hid (by rw [hdv, hdop, hdk, hdi, hds])
  rw [← hdv] at c0
  rw [← hdop] at c1
  rw [← hdk] at c2
  rw [← hdi] at c3
  rw [← hds] at c4
  have HC0 := Lib.hid c0; have HC1 := Lib.hid c1; have HC2 := Lib.hid c2; have HC3 := Lib.hid c3; have HC4 := Lib.hid c4
  have HRA := Lib.hid ra; have HRC := Lib.hid rc
  clear hcds hm hdm hncm hdv hdop hdk hdi hds c0 c1 c2 c3 c4
  go_wp2_with fail
  refine (HMADE.out (by omega) (by omega) _ HX1.out).mono ?_
  clear q0 q1 q2 q3 q4 ra rc hb1 hnb
  rintro e w4 ⟨he4, hmd0⟩
  obtain ⟨mb, Af, nf, cf, ok, rfl, hmd⟩ : ∃ (mb : Option Nat) (Af : Option Addr) (nf cf : Nat) (ok : Bool), e = .returned (.tuple #[.agg #[.map mb], .slice Af nf cf, .bool ok]) ∧ (ok = true → ∃ b nn, mb = some b ∧ DbB (fun _ => True) w4 b nn (madeD ss us) ∧ DmOk (madeD ss us)) := by
    rcases hmd0 with ⟨mb, rfl⟩ | ⟨b, nn, Af, nf, cf, rfl, hD, -, hO, -, -⟩
    · exact ⟨mb, none, 0, 0, false, rfl, fun h => by cases h⟩
    · exact ⟨some b, Af, nf, cf, true, rfl, fun _ => ⟨b, nn, rfl, hD, hO⟩⟩
  have HX4 := Lib.hid (HX1.out.trans he4); have HKQ4 := Lib.hid (HKQ.out.ext he4); have HMD := Lib.hid hmd
  have HE13 := Lib.hid he4
  clear he4 hmd hmd0
  go_upto_region 6 with fail
  have hx5 : Ext w4 (w4.alloc (.cells #[.map mb] 26)) := (Ext.refl w4).alloc _
  have kd := Bk.new w4 26 [.map mb]
  change Bk (w4.alloc (.cells #[.map mb] 26)) _ _ _ at kd
  generalize (w4.alloc (.cells #[.map mb] 26)) = w5 at *
  have HX5 := Lib.hid (HX4.out.trans hx5); have HKQ5 := Lib.hid (HKQ4.out.ext hx5); have HKD := Lib.hid kd
  have q3 := HKQ5.out.cell (i := 3) (by simp)
  simp only [List.getElem_cons_zero, List.getElem_cons_succ] at q3
  have ra := (HE13.out.trans hx5).cell HRA.out; have rc := (HE13.out.trans hx5).cell HRC.out
  have HX45 := Lib.hid hx5
  clear hx5 kd
  go_upto_region 7 with fail
  have hx6 : Ext w5 (w5.alloc (.cells #[.slice Ba na da, .slice (some adc) nc dc] 73)) := (Ext.refl w5).alloc _
  have kr := Bk.new w5 73 [.slice Ba na da, .slice (some adc) nc dc]
  change Bk (w5.alloc (.cells #[.slice Ba na da, .slice (some adc) nc dc] 73)) _ _ _ at kr
  generalize (w5.alloc (.cells #[.slice Ba na da, .slice (some adc) nc dc] 73)) = w6 at *
  have HX6 := Lib.hid (HX5.out.trans hx6); have HX56 := Lib.hid hx6; have HKR := Lib.hid kr; have HKQ6 := Lib.hid (HKQ5.out.ext hx6)
  have r1 := kr.cell (i := 1) (by simp)
  simp only [List.getElem_cons_zero, List.getElem_cons_succ] at r1
  have c0 := HX6.out.cell HC0.out; have c1 := HX6.out.cell HC1.out; have c2 := HX6.out.cell HC2.out; have c3 := HX6.out.cell HC3.out; have c4 := HX6.out.cell HC4.out
  have hm1 : (nc : Int) - 1 = (m : Int) := by have := HNCM.out; omega
  have hm2 : (0 : Int) ≤ (m : Int) := by omega
  have hm3 : (m : Int) < (nc : Int) := by have := HNCM.out; omega
  clear hx6 kr q3 ra rc
  go_upto_region 8 with fail
  have hx7 : Ext w6 (w6.alloc (.cells #[.string dv, .int .i64 dop, .int .i64 dk, .int .i64 di, .string dst] 87)) := (Ext.refl w6).alloc _
  have kl := Bk.new w6 87 [.string dv, .int .i64 dop, .int .i64 dk, .int .i64 di, .string dst]
  change Bk (w6.alloc (.cells #[.string dv, .int .i64 dop, .int .i64 dk, .int .i64 di, .string dst] 87)) _ _ _ at kl
  generalize (w6.alloc (.cells #[.string dv, .int .i64 dop, .int .i64 dk, .int .i64 di, .string dst] 87)) = w7 at *
  have HX7 := Lib.hid (HX6.out.trans hx7); have HX67 := Lib.hid hx7; have HKL := Lib.hid kl; have HKR7 := Lib.hid (HKR.out.ext hx7); have HKQ7 := Lib.hid (HKQ6.out.ext hx7)
  have q0 := HKQ7.out.cell (i := 0) (by simp); have q1 := HKQ7.out.cell (i := 1) (by simp); have q2 := HKQ7.out.cell (i := 2) (by simp); have q3 := HKQ7.out.cell (i := 3) (by simp); have q4 := HKQ7.out.cell (i := 4) (by simp)
  simp only [List.getElem_cons_zero, List.getElem_cons_succ] at q0 q1 q2 q3 q4
  clear hx7 kl r1 c0 c1 c2 c3 c4
  go_upto_region 9 with fail
  have hx8 : Ext w7 (w7.alloc (.cells #[.slice A nh ca, .int .i64 ag, .string av, .slice (some adr) 1 cb, .slice O no co] 61)) := (Ext.refl w7).alloc _
  have kg := Bk.new w7 61 [.slice A nh ca, .int .i64 ag, .string av, .slice (some adr) 1 cb, .slice O no co]
  change Bk (w7.alloc (.cells #[.slice A nh ca, .int .i64 ag, .string av, .slice (some adr) 1 cb, .slice O no co] 61)) _ _ _ at kg
  generalize (w7.alloc (.cells #[.slice A nh ca, .int .i64 ag, .string av, .slice (some adr) 1 cb, .slice O no co] 61)) = w8 at *
  have HX8 := Lib.hid (HX7.out.trans hx8); have HX78 := Lib.hid hx8; have HKG := Lib.hid kg; have HKR8 := Lib.hid (HKR7.out.ext hx8); have HKQ8 := Lib.hid (HKQ7.out.ext hx8)
  have r0 := HKR7.out.cell (i := 0) (by simp); have r1 := HKR7.out.cell (i := 1) (by simp)
  simp only [List.getElem_cons_zero, List.getElem_cons_succ] at r0 r1
  have s0 := HKR8.out.cell (i := 0) (by simp); have s1 := HKR8.out.cell (i := 1) (by simp); have s3 := kg.cell (i := 3) (by simp)
  simp only [List.getElem_cons_zero, List.getElem_cons_succ] at s0 s1 s3
  have g3 := kg.free 3
  have hmd : m ≤ dc := by have := HCD.out.cap.2; have := HNCM.out; have := HNC.out; omega
  have hmd2 : (m : Int) ≤ (dc : Int) := by omega
  have hlt8 : w7.heap.size < w8.heap.size := kg.lt
  have hdc0 : ¬ dc = 0 := by have := HNCM.out; have := HCD.out.cap.2; have := HNC.out; omega
  have hm5 : IntKind.i64.wrap (m : Int) = (m : Int) := IntWalk.i64_in _ (by omega)
  have hm4 : IntKind.i64.wrap ((nc : Int) - 1) = (m : Int) := by rw [IntWalk.i64_in _ (by omega)]; exact hm1
  clear hx8 kg q0 q1 q2 q3 q4
  go_region_held3 (fun V => Ext w7 V ∧ V.cell? ⟨w5.heap.size, 0, none⟩ = some (.slice Ba na da) ∧ V.cell? ⟨w5.heap.size, 1, none⟩ = some (.slice (some adc) nc dc))
    ((refine (fun he => ⟨he, Ext.cell he r0, Ext.cell he r1⟩) ?_; repeat (first | exact HX78.out | exact Ext.refl _ | refine Ext.drew ?_ | refine Ext.alloc ?_ _ | refine Ext.setCell ?_ (by first | exact Nat.le_refl _ | omega) _ | assumption | refine Ext.trans ?_ (by assumption))))
    (fail)
  have hs9 : Fr (fun k => k = w7.heap.size) w8 (w8.setCell ⟨w7.heap.size, 3, none⟩ (.slice (some ⟨w8.heap.size, 0, none⟩) 1 1)) := (Fr.refl (fun k => k = w7.heap.size) w8).setCell (p := ⟨w7.heap.size, 3, none⟩) (.inl rfl) _
  have kg9 : Bk (w8.setCell ⟨w7.heap.size, 3, none⟩ (.slice (some ⟨w8.heap.size, 0, none⟩) 1 1)) w7.heap.size 61 [.slice A nh ca, .int .i64 ag, .string av, .slice (some ⟨w8.heap.size, 0, none⟩) 1 1, .slice O no co] := HKG.out.set 3 _
  have hx9 : Ext w7 (w8.setCell ⟨w7.heap.size, 3, none⟩ (.slice (some ⟨w8.heap.size, 0, none⟩) 1 1)) := HX78.out.setCell (p := ⟨w7.heap.size, 3, none⟩) (Nat.le_refl _) _
  have k29 := Bk.new (w8.setCell ⟨w7.heap.size, 3, none⟩ (.slice (some ⟨w8.heap.size, 0, none⟩) 1 1)) 73 [.slice Ba na da, .slice (some adc) m dc]
  change Bk ((w8.setCell ⟨w7.heap.size, 3, none⟩ (.slice (some ⟨w8.heap.size, 0, none⟩) 1 1)).alloc (.cells #[.slice Ba na da, .slice (some adc) m dc] 73)) _ _ _ at k29
  have hz9 : (w8.setCell ⟨w7.heap.size, 3, none⟩ (.slice (some ⟨w8.heap.size, 0, none⟩) 1 1)).heap.size = w8.heap.size := by simp
  rw [hz9] at k29
  have hxa9 : Ext (w8.setCell ⟨w7.heap.size, 3, none⟩ (.slice (some ⟨w8.heap.size, 0, none⟩) 1 1)) ((w8.setCell ⟨w7.heap.size, 3, none⟩ (.slice (some ⟨w8.heap.size, 0, none⟩) 1 1)).alloc (.cells #[.slice Ba na da, .slice (some adc) m dc] 73)).drew := ((Ext.refl _).alloc _).drew
  replace k29 := k29.ext ((Ext.refl _).drew)
  replace kg9 := kg9.ext hxa9
  replace hx9 := hx9.trans hxa9
  generalize ((w8.setCell ⟨w7.heap.size, 3, none⟩ (.slice (some ⟨w8.heap.size, 0, none⟩) 1 1)).alloc (.cells #[.slice Ba na da, .slice (some adc) m dc] 73)).drew = w9 at *
  have HKG9 := Lib.hid kg9; have HK29 := Lib.hid k29; have HX79 := Lib.hid hx9; have HX9 := Lib.hid (HX7.out.trans hx9); have HKQ9 := Lib.hid (HKQ7.out.ext hx9); have HKL9 := Lib.hid (HKL.out.ext hx9)
  have HKD9 := Lib.hid (HKD.out.ext (HX56.out.trans (HX67.out.trans hx9)))
  have HX49 := Lib.hid (HX45.out.trans (HX56.out.trans (HX67.out.trans hx9)))
  have HRU1 := Lib.hid (fun (V : World) (hV : Ext w V) => by
    have t := rule_one (HQ.out.ext hV) (HS.out.ext hV) HQZ.out (by have := HNOO.out; omega) HLS.out HQR.out
    rw [← HNH.out, ← HNOO.out, ← HAG.out, ← HAV.out] at t
    exact t)
  have HRU2 := Lib.hid (fun (V : World) (hV : Ext w9 V) => by
    have hcd : Sl rdCd F w (.slice (some adc) m dc) cds := Sl.head (ys := [d]) (by rw [← HD.out]; exact HCD.out) HM.out
    have hqy := less_qy (ats := r.ats) (cs := cds) ((HQ.out.hd.ext HX9.out).mono (G := fun _ => True) (fun _ _ _ => trivial)) ((HQ.out.od.ext HX9.out).mono (G := fun _ => True) (by decide) (fun _ _ _ => trivial)) HK29.out ((HAT.out.ext HX9.out).mono (G := fun _ => True) (fun _ _ _ => trivial)) ((hcd.ext HX9.out).mono (G := fun _ => True) (by decide) (fun _ _ _ => trivial))
    have hmem : (⟨r.ats, cds ++ [d]⟩ : Rl) ∈ q.rs := by
      rw [HQR.out, ← HD.out]
      simp
    have t : Calls Tryz.prog 14 #[.agg #[.slice A q.hd.length ca, .int .i64 q.ag, .string q.av, .slice (some ⟨w8.heap.size, 0, none⟩) 1 1, .slice O q.od.length co], .int .i64 0, .slice S nS cs] V (RuleG ss (lessQ q r.ats cds) ⟨r.ats, cds⟩ V) := rule_one (hqy.ext hV) (HS.out.ext (HX9.out.trans hV)) (less_z HQZ.out hmem) (by show q.od.length ≤ 20; have := HNOO.out; omega) HLS.out rfl
    rw [← HNH.out, ← HNOO.out, ← HAG.out, ← HAV.out] at t
    exact t)
  have q0 := HKQ9.out.cell (i := 0) (by simp); have q1 := HKQ9.out.cell (i := 1) (by simp); have q2 := HKQ9.out.cell (i := 2) (by simp); have q3 := HKQ9.out.cell (i := 3) (by simp); have q4 := HKQ9.out.cell (i := 4) (by simp)
  simp only [List.getElem_cons_zero, List.getElem_cons_succ] at q0 q1 q2 q3 q4
  clear hs9 kg9 hx9 k29 hz9 hxa9 r0 r1 s0 s1 s3 g3 hmd hmd2 hlt8 hdc0 hm5 hm4 hm1 hm2 hm3 HMADE HC0 HC1 HC2 HC3 HC4 HKQ HKQ4 HKQ5 HKQ6 HKQ7 HKQ8 HKR HKR7 HKR8
  go_wp2_with fail
  refine (HRU1.out _ HX9.out).mono ?_
  rintro e wa ⟨hea, A1, n1, d1, f1, A2, n2, d2, A3, n3, d3, er1, rfl, hg1⟩
  have HX10 := Lib.hid (HX9.out.trans hea); have HX910 := Lib.hid hea; have HG1 := Lib.hid hg1
  clear hea hg1 q0 q1 q2 q3 q4
  go_upto_region 11 with fail
  have hx11 : Ext wa (wa.alloc (.cells #[.slice A1 n1 d1, .int .i64 f1, .slice A2 n2 d2, .slice A3 n3 d3] 40)) := (Ext.refl wa).alloc _
  have ka := Bk.new wa 40 [.slice A1 n1 d1, .int .i64 f1, .slice A2 n2 d2, .slice A3 n3 d3]
  change Bk (wa.alloc (.cells #[.slice A1 n1 d1, .int .i64 f1, .slice A2 n2 d2, .slice A3 n3 d3] 40)) _ _ _ at ka
  generalize (wa.alloc (.cells #[.slice A1 n1 d1, .int .i64 f1, .slice A2 n2 d2, .slice A3 n3 d3] 40)) = w11 at *
  have HX911 := Lib.hid (HX910.out.trans hx11); have HXA11 := Lib.hid hx11; have HKA := Lib.hid ka
  have q0 := (HKG9.out.ext HX911.out).cell (i := 0) (by simp); have q1 := (HKG9.out.ext HX911.out).cell (i := 1) (by simp); have q2 := (HKG9.out.ext HX911.out).cell (i := 2) (by simp); have q3 := (HKG9.out.ext HX911.out).cell (i := 3) (by simp); have q4 := (HKG9.out.ext HX911.out).cell (i := 4) (by simp)
  simp only [List.getElem_cons_zero, List.getElem_cons_succ] at q0 q1 q2 q3 q4
  clear hx11 ka
  go_wp2_with fail
  refine (HRU2.out _ HX911.out).mono ?_
  rintro e wb ⟨heb, B1, m1, b1, f2, B2, m2, b2, B3, m3, b3, er2, rfl, hg2⟩
  have HX1112 := Lib.hid heb; have HG2 := Lib.hid hg2
  clear heb hg2 q0 q1 q2 q3 q4
  go_upto_region 12 with fail
  have hx13 : Ext wb (wb.alloc (.cells #[.slice B1 m1 b1, .int .i64 f2, .slice B2 m2 b2, .slice B3 m3 b3] 40)) := (Ext.refl wb).alloc _
  have kb := Bk.new wb 40 [.slice B1 m1 b1, .int .i64 f2, .slice B2 m2 b2, .slice B3 m3 b3]
  change Bk (wb.alloc (.cells #[.slice B1 m1 b1, .int .i64 f2, .slice B2 m2 b2, .slice B3 m3 b3] 40)) _ _ _ at kb
  generalize (wb.alloc (.cells #[.slice B1 m1 b1, .int .i64 f2, .slice B2 m2 b2, .slice B3 m3 b3] 40)) = w13 at *
  have HX913 := Lib.hid (HX911.out.trans (HX1112.out.trans hx13)); have HX13 := Lib.hid (HX9.out.trans HX913.out); have HKB := Lib.hid kb; have HKA13 := Lib.hid (HKA.out.ext (HX1112.out.trans hx13)); have HXA13 := Lib.hid (HXA11.out.trans (HX1112.out.trans hx13)); have HXB13 := Lib.hid hx13
  clear hx13 kb
  rcases ok with _ | _
  · go_wp2_with fail
    go_ret
    exact Ret.mk HX13.out rfl
  by_cases he1 : er1 = 0
  rotate_left 1
  · have hb : (er1 != 0) = true := by rw [bne_iff_ne]; exact he1
    clear he1
    go_wp2_with fail
    go_ret
    exact Ret.mk HX13.out rfl
  subst he1
  by_cases he2 : er2 = 0
  rotate_left 1
  · have hb : (er2 != 0) = true := by rw [bne_iff_ne]; exact he2
    clear he2
    go_wp2_with fail
    go_ret
    exact Ret.mk HX13.out rfl
  subst he2
  rcases HG1.out with h | ⟨-, hc1, hn1, hn3, hN1, hS1⟩
  · exact absurd rfl h
  rcases HG2.out with h | ⟨-, hc2, hm1, hm3, -, hS2⟩
  · exact absurd rfl h
  obtain ⟨bd, nnD, rfl, hD, hO⟩ := HMD.out rfl
  have hmem : r ∈ q.rs := by rw [HQR.out]; simp
  have hmem' : (⟨r.ats, cds⟩ : Rl) ∈ (lessQ q r.ats cds).rs := by simp [lessQ]
  obtain ⟨hsl, hsk⟩ := srcs_less (us := us) hc1 hmem hc2 hmem' rfl rfl rfl HD.out
  have hss6 : ss.length ≤ 6 := by have := HNS.out; omega
  have HL1 := Lib.hid (fun s hs => lw_ok (us := us) (s := s) hss6 hO hc1 hmem hs)
  have HL2 := Lib.hid (fun s hs => lw_ok (us := us) (s := s) hss6 hO hc2 hmem' hs)
  have hn14 := names_14 hc1 hmem
  have hs8 := srcs_len hc1 hmem
  have hdin : dv ∈ namesL q r := mem_addNs.2 (.inr (by
    rw [varsC_eq]
    have h1 := cond_var hc1 hmem d (by rw [HD.out]; simp)
    refine varsT_iff.2 ⟨cdT d, List.mem_append_right _ (List.mem_map.2 ⟨d, by rw [HD.out]; simp, rfl⟩), by rw [HDD.out], by rw [HDD.out] at h1; exact h1⟩))
  have hdop : 0 ≤ dop ∧ dop ≤ 5 := by
    have h1 := (rule_parts hc1 hmem).2.2.2 d (by rw [HD.out]; simp)
    rw [HDD.out] at h1
    unfold condE at h1
    split at h1
    · split at h1
      · assumption
      · cases h1
    · cases h1
  have hdvp : (posN (namesL q r) d.var : Int) = (posN (namesL q r) dv : Int) := by rw [HDD.out]
  obtain ⟨M, hM⟩ : ∃ M, M = madeD ss us := ⟨_, rfl⟩
  rw [← hM] at hD hO hsk HL1 HL2
  obtain ⟨names, hnames⟩ : ∃ l, l = namesL q r := ⟨_, rfl⟩
  obtain ⟨srcs, hsrcs⟩ : ∃ l, l = srcsL q r := ⟨_, rfl⟩
  obtain ⟨srcs', hsrcs'⟩ : ∃ l, l = srcsL (lessQ q r.ats cds) ⟨r.ats, cds⟩ := ⟨_, rfl⟩
  rw [← hnames] at hn1 hN1 hsk hn14 hdin hdvp
  rw [← hsrcs] at hn3 hS1 hsl hsk HL1 hs8
  rw [← hsrcs'] at hm3 hS2 hsl hsk HL2
  obtain rfl : m3 = n3 := by omega
  have HSK := Lib.hid hsk; have HN3 := Lib.hid hn3; have HM3 := Lib.hid hm3
  have HS13 := Lib.hid (hS1.ext HXA13.out); have HT13 := Lib.hid (hS2.ext HXB13.out); have HN13 := Lib.hid (hN1.ext HXA13.out); have HN1 := Lib.hid hn1
  have HD13 := Lib.hid (hD.ext (HX49.out.trans HX913.out)); have HO := Lib.hid hO; have HDIN := Lib.hid hdin; have HDVP := Lib.hid hdvp
  have hm8 : m3 ≤ 8 := by omega
  have hn14' : n1 ≤ 14 := by omega
  have d0 := (HKD9.out.ext HX913.out).cell (i := 0) (by simp)
  have k0 := HKA13.out.cell (i := 0) (by simp); have k1 := HKA13.out.cell (i := 1) (by simp); have k2 := HKA13.out.cell (i := 2) (by simp); have k3 := HKA13.out.cell (i := 3) (by simp)
  simp only [List.getElem_cons_zero, List.getElem_cons_succ] at d0 k0 k1 k2 k3
  have HLD1 := Lib.hid (loads_any (f := f1) (res := fun s => .ok (loadR M s)) (V := .slice A1 n1 d1) (D := .slice A2 n2 d2) ⟨_, _, _, rfl⟩ ⟨_, _, _, rfl⟩ HS13.out (by omega) (fun W' hW' s hs v hv => load_yes (HD13.out.ext hW') HO.out hv (HL1.out s hs).ld))
  have HLD2 := Lib.hid (fun (V : World) (hV : Ext w13 V) => loads_any (f := f2) (res := fun s => .ok (loadR M s)) (V := .slice B1 m1 b1) (D := .slice B2 m2 b2) ⟨_, _, _, rfl⟩ ⟨_, _, _, rfl⟩ (HT13.out.ext hV) (by omega) (fun W' hW' s hs v hv => load_yes (HD13.out.ext (hV.trans hW')) HO.out hv (HL2.out s hs).ld))
  clear hmem hmem' hsl hsk hss6 hn14 hs8 hdin hdvp hM hnames hsrcs hsrcs' hD hO hc1 hc2 hn1 hn3 hN1 hS1 hm1 hm3 hS2 HG1 HG2 HMD HRU1 HRU2 HQ HS HQZ HLS HQR HAG HAV HNOO HNH HLC HNR HAT HCD HNA HNC HD HM HNCM HRA HRC
  go_wp2_with fail
  refine HLD1.out.mono ?_
  rintro e w14 ⟨he14, ⟨c, i', hi', hcon, -⟩ | ⟨l1, L1, p1, g1, hl1, rfl, hls1⟩⟩
  · cases hcon
  obtain rfl := ok_map hl1
  obtain rfl : p1 = m3 := by
    have h1 := hls1.cap.1
    rw [List.length_map] at h1
    have := HN3.out
    omega
  have HX1314 := Lib.hid he14; have HY1 := Lib.hid hls1
  have k4 := (HKB.out.ext he14).cell (i := 0) (by simp); have k5 := (HKB.out.ext he14).cell (i := 1) (by simp); have k6 := (HKB.out.ext he14).cell (i := 2) (by simp); have k7 := (HKB.out.ext he14).cell (i := 3) (by simp)
  simp only [List.getElem_cons_zero, List.getElem_cons_succ] at k4 k5 k6 k7
  replace d0 := he14.cell d0
  clear he14 hl1 hls1 HLD1 k1 k2 k3
  go_wp2_with fail
  refine (HLD2.out _ HX1314.out).mono ?_
  rintro e w15 ⟨he15, ⟨c, i', hi', hcon, -⟩ | ⟨l2, L2, p2, g2, hl2, rfl, hls2⟩⟩
  · cases hcon
  obtain rfl := ok_map hl2
  obtain rfl : p2 = p1 := by
    have h1 := hls2.cap.1
    rw [List.length_map] at h1
    have := HM3.out
    omega
  have HX1315 := Lib.hid (HX1314.out.trans he15); have HZ1 := Lib.hid (HY1.out.ext he15); have HZ2 := Lib.hid hls2
  have HX15 := Lib.hid (HX13.out.trans (HX1314.out.trans he15)); have HKA15 := Lib.hid (HKA13.out.ext (HX1314.out.trans he15)); have HKL15 := Lib.hid (HKL9.out.ext (HX913.out.trans (HX1314.out.trans he15))); have HS15 := Lib.hid (HS13.out.ext (HX1314.out.trans he15)); have HN15 := Lib.hid (HN13.out.ext (HX1314.out.trans he15))
  have k0 := HKA15.out.cell (i := 0) (by simp); have v0 := HKL15.out.cell (i := 0) (by simp)
  simp only [List.getElem_cons_zero, List.getElem_cons_succ] at k0 v0
  have hbm : ((p2 : Int) != (p2 : Int)) = false := by simp
  have HIX := Lib.hid (fun (V : World) (hV : Ext w15 V) => by
    have t := index_ref (s := dv) (HN15.out.ext hV) (by omega)
    rw [show idxL names dv = (posN names dv : Int) from if_pos HDIN.out] at t
    exact t)
  obtain ⟨pv, hpv⟩ : ∃ p, p = posN names dv := ⟨_, rfl⟩
  rw [← hpv] at HIX HDVP
  clear he15 hl2 hls2 HLD2 k4 k5 k6 k7 d0 hpv
  go_wp2_with fail
  refine (HIX.out _ (Ext.refl _)).mono ?_
  rintro e w16 ⟨x, rfl, he16, rfl⟩
  have HX16 := Lib.hid (HX15.out.trans he16); have HX1516 := Lib.hid he16
  clear he16 k0 v0 hbm HIX
  go_wp2_with fail
  go_loopw [22] (fun t wr => ∃ i : Nat, i ≤ p2 ∧ t = .int .i64 (i : Int) ∧ Ext w16 wr) (fun t _ => p2 - (intOf t).toNat)
  case atStart => exact ⟨0, Nat.zero_le _, rfl, Ext.refl _⟩
  case round =>
    obtain ⟨i, hi, rfl, hx⟩ := hrel
    obtain ⟨W, rfl⟩ : ∃ W : World, W = wr := ⟨_, rfl⟩
    have HX := Lib.hid hx; have HXW := Lib.hid (HX1516.out.trans hx)
    by_cases hlt : i < p2
    · have i1 : (0 : Int) ≤ (i : Int) := by omega
      have i2 : (i : Int) < (p2 : Int) := by omega
      have his : i < srcs.length := by have := HN3.out; omega
      have his' : i < srcs'.length := by have := HM3.out; omega
      obtain ⟨ads, P1, x1, P2, x2, P3, x3, P4, x4, P5, x5, rfl, -, -, s1, -, -, -, -, gv1, -⟩ := (HS15.out.ext HXW.out).src his
      obtain ⟨adl, Bs, ds, rfl, r0, r1, hrw⟩ := (HZ1.out.ext HXW.out).re (i := i) (by rw [List.length_map]; exact his)
      obtain ⟨adm, Bt, dt, rfl, t0, t1, htw⟩ := (HZ2.out.ext HXW.out).re (i := i) (by rw [List.length_map]; exact his')
      rw [List.getElem_map] at r0 r1 hrw t0 t1 htw
      obtain ⟨hsv, hsk⟩ := HSK.out i his his'
      have hok := HL1.out _ (List.getElem_mem his); have hok' := HL2.out _ (List.getElem_mem his')
      obtain ⟨s, hs⟩ : ∃ s, s = srcs[i] := ⟨_, rfl⟩
      obtain ⟨s', hs'⟩ : ∃ s, s = srcs'[i] := ⟨_, rfl⟩
      rw [← hs] at s1 gv1 r0 r1 hrw hsv hsk hok
      rw [← hs'] at t0 t1 htw hsv hsk hok'
      obtain ⟨rows, hrows⟩ : ∃ l, l = loadL M s := ⟨_, rfl⟩
      obtain ⟨rows', hrows'⟩ : ∃ l, l = loadL M s' := ⟨_, rfl⟩
      have hso : SoR rows := by rw [hrows]; exact setR_so _
      have hfl := fun p => filt_len (M := M) (s := s) (s' := s') (p := p)
      have hb1 : rows.length ≤ 1048576 := by rw [hrows]; exact hok.bd
      have hb2 : ∀ x ∈ rows, x.length ≤ 1048576 := by rw [hrows]; exact hok.row
      have hb3 : rows'.length ≤ 1048576 := by rw [hrows']; exact hok'.bd
      have hb4 : ∀ x ∈ rows', x.length ≤ 1048576 := by rw [hrows']; exact hok'.row
      have hb5 : ∀ x ∈ rows', x.length = s.vars.length := fun x hx => by
        rw [hrows'] at hx
        rw [load_row_len hx, hok'.vc, hsv]
      have hv14 : s.vars.length ≤ 32 := hok.ld.b1
      rw [← hrows, ← hrows'] at hsk hfl
      have hrw2 : Sl rdRow (fun k => w13.heap.size ≤ k) W (.slice Bs rows.length ds) rows := by rw [hrows]; exact hrw
      have htw2 : Sl rdRow (fun k => w14.heap.size ≤ k) W (.slice Bt rows'.length dt) rows' := by rw [hrows']; exact htw
      have e1 : (loadR M s).rows.length = rows.length := by rw [hrows]; rfl
      have e2 : (loadR M s').rows.length = rows'.length := by rw [hrows']; rfl
      rw [e1] at r1
      rw [e2] at t1
      obtain ⟨ra, hra⟩ : ∃ x, x = (loadR M s).ar := ⟨_, rfl⟩
      obtain ⟨rb, hrb⟩ : ∃ x, x = (loadR M s').ar := ⟨_, rfl⟩
      obtain ⟨nl, hnl⟩ : ∃ x, x = rows.length := ⟨_, rfl⟩
      obtain ⟨nl', hnl'⟩ : ∃ x, x = rows'.length := ⟨_, rfl⟩
      obtain ⟨nv, hnv⟩ : ∃ x, x = s.vars.length := ⟨_, rfl⟩
      rw [← hra] at r0
      rw [← hrb] at t0
      rw [← hnl] at r1 hrw2 hb1
      rw [← hnl'] at t1 htw2 hb3
      rw [← hnv] at s1 gv1 hv14 hb5
      have HSE := Lib.hid (fun (V : World) (hV : Ext W V) (H9 : Nat → Prop) (A9 : Option Addr) (n9 c9 : Nat) (x : List Vl) (hx : x.length ≤ 1048576) (h9 : Sl rdVl H9 V (.slice A9 n9 c9) x) => (relsearch_any (a := ra) hso (hrw2.ext hV) h9 (by rw [h9.cap.1]; exact hx) hb2 hb1).mono (fun e w' h => (show ∃ z : Int, e = .returned (.tuple #[.int .i64 z, .bool (hasR rows x)]) ∧ Ext V w' from ⟨(lowR rows x : Int), h.2, h.1⟩)))
      have HRW := Lib.hid (fun (V : World) (hV : Ext W V) => rows_any (a := rb) (htw2.ext hV) hb4 hb3)
      have HSK2 := Lib.hid hsk; have HFL := Lib.hid hfl; have HB4 := Lib.hid hb4; have HB5 := Lib.hid hb5; have HNL := Lib.hid hnl; have HNL' := Lib.hid hnl'; have HNV := Lib.hid hnv; have HG1 := Lib.hid gv1
      have HR0 := Lib.hid r0; have HR1 := Lib.hid r1; have HT0 := Lib.hid t0; have HT1 := Lib.hid t1; have HS1 := Lib.hid s1
      clear hsv hsk hok hok' hs hs' hrows hrows' hso hfl hb1 hb2 hb4 hb5 hrw hrw2 htw htw2 e1 e2 hra hrb hnl hnl' hnv gv1 r0 r1 t0 t1 s1 hx his his'
      go_wp2_with fail
      go_loopw [23, 24] (fun c t wr => ∃ (k : Nat) (col : Int), k ≤ nv ∧ t = .int .i64 (k : Int) ∧ c = .int .i64 col ∧ Hid (ColK s.vars (pv : Int) k col) ∧ Ext W wr) (fun _ t _ => nv - (intOf t).toNat)
      case atStart => exact ⟨0, -1, Nat.zero_le _, rfl, rfl, Lib.hid (.inr ⟨fun p hp h => by omega, rfl⟩), Ext.refl _⟩
      case round =>
        obtain ⟨k, col, hk, rfl, rfl, HCK, hxk⟩ := hrel
        obtain ⟨W2, rfl⟩ : ∃ W : World, W = wr := ⟨_, rfl⟩
        have HXK := Lib.hid hxk; have HXW2 := Lib.hid (HXW.out.trans hxk)
        have k3 := (HKA15.out.ext HXW2.out).cell (i := 3) (by simp)
        simp only [List.getElem_cons_zero, List.getElem_cons_succ] at k3
        have s1 := hxk.cell HS1.out
        by_cases hkl : k < nv
        · have j1 : (0 : Int) ≤ (k : Int) := by omega
          have j2 : (k : Int) < (nv : Int) := by omega
          have hkv : k < s.vars.length := by have := HNV.out; omega
          obtain ⟨A9, c9, e9, -, hcl⟩ := HG1.out
          injection e9 with e9 e9b e9c
          subst e9
          clear e9b e9c
          obtain ⟨av9, rfl, -, v0⟩ := hcl.int hkv
          replace v0 := hxk.cell v0
          have hyes := ColK.yes (col := col) (pv := (pv : Int)) hkv; have hno := fun h => ColK.no (pv := (pv : Int)) hkv h HCK.out
          obtain ⟨sv, hsv⟩ : ∃ z, z = s.vars[k] := ⟨_, rfl⟩
          rw [← hsv] at v0 hyes hno
          have HYES := Lib.hid hyes; have HNO := Lib.hid hno
          clear hyes hno hsv hcl hxk hkv
          by_cases hb : sv = (pv : Int)
          · have hbv : ((sv : Int) == (pv : Int)) = true := by simpa using hb
            have HC2 := Lib.hid (HYES.out hb)
            clear hb
            go_wp2_with fail
            go_roundw
            case rel => exact ⟨k + 1, _, by omega, by go_num, rfl, HC2, HXK.out⟩
            case measure => simp [intOf]; omega
          · have hbv : ((sv : Int) == (pv : Int)) = false := by simpa using hb
            have HC2 := Lib.hid (HNO.out hb)
            clear hb
            go_wp2_with fail
            go_roundw
            case rel => exact ⟨k + 1, _, by omega, by go_num, rfl, HC2, HXK.out⟩
            case measure => simp [intOf]; omega
        · obtain rfl : k = nv := by omega
          have hdk : ¬ (k : Int) < (k : Int) := by omega
          have HCO : Hid (ColOk names s.vars d col) := Lib.hid (ColK.ok (by
            rw [← HNV.out, HDVP.out]
            exact HCK.out))
          have HIFF := Lib.hid (HSK2.out col HCO.out)
          have HFIL := Lib.hid (HFL.out (stayB col d) (fun x => HIFF.out x))
          have HCOL : Hid (col = -1 ∨ ∃ p : Nat, p < k ∧ col = (p : Int)) := Lib.hid (by
            rcases HCO.out with ⟨p, hp, -, e⟩ | ⟨-, e⟩
            · exact .inr ⟨p, by have := HNV.out; omega, e⟩
            · exact .inl e)
          have t0 := hxk.cell HT0.out; have t1 := hxk.cell HT1.out
          have HCR := Lib.hid (HRW.out W2 hxk)
          clear hxk
          go_wp2_with fail
          refine HCR.out.mono ?_
          rintro e w20 ⟨he20, g20, us20, hg20, rfl, how⟩
          have hg20' : g20 < w20.heap.size := (how.own.lt g20 rfl).2
          have HRS := Lib.hid (how.sl (G := fun q => W2.heap.size < q) (fun q hq => by have h : g20 = q := Option.some.inj hq; omega) (fun q hq => by omega))
          have HX20 := Lib.hid (HXK.out.trans he20); have HXW20 := Lib.hid (HXW2.out.trans he20)
          clear he20 how k3 s1 t0 t1 HCR
          go_wp2_with fail
          go_loopw [25, 27] (fun c t wr => ∃ j kept : Nat, j ≤ nl' ∧ t = .int .i64 (j : Int) ∧ c = .int .i64 (kept : Int) ∧ kept ≤ j ∧ Hid (kept = ((rows'.take j).filter (stayB col d)).length) ∧ Ext w20 wr) (fun _ t _ => nl' - (intOf t).toNat)
          case atStart => exact ⟨0, 0, Nat.zero_le _, rfl, rfl, Nat.le_refl _, Lib.hid rfl, Ext.refl _⟩
          case round =>
            obtain ⟨j, kept, hj, rfl, rfl, hkj, HKEPT, hxj⟩ := hrel
            obtain ⟨Y, rfl⟩ : ∃ W : World, W = wr := ⟨_, rfl⟩
            have HXJ := Lib.hid hxj; have HXY := Lib.hid (HX20.out.trans hxj); have HXWY := Lib.hid (HXW20.out.trans hxj)
            have r0 := HXY.out.cell HR0.out; have r1 := HXY.out.cell HR1.out
            by_cases hjl : j < nl'
            · have j1 : (0 : Int) ≤ (j : Int) := by omega
              have j2 : (j : Int) < (nl' : Int) := by omega
              have hjr : j < rows'.length := by have := HNL'.out; omega
              obtain ⟨ag9, C, d9, hag9, -, c0, hrow⟩ := (HRS.out.ext hxj).row hjr
              injection hag9 with hag9
              subst hag9
              have hmem := List.getElem_mem hjr
              have htk : rows'.take (j + 1) = rows'.take j ++ [rows'[j]] := List.take_succ_eq_append_getElem hjr
              have hxl := HB5.out _ hmem; have hx4 := HB4.out _ hmem; have hiff := HIFF.out rows'[j]
              obtain ⟨x, hxx⟩ : ∃ x, x = rows'[j] := ⟨_, rfl⟩
              rw [← hxx] at c0 hrow hmem htk hxl hx4 hiff
              obtain ⟨st, hst⟩ : ∃ b, b = stayB col d x := ⟨_, rfl⟩
              have hhas : hasR rows x = st := by
                rw [hst, Bool.eq_iff_iff, hasR_iff, hiff]
                exact ⟨fun h => h.2, fun h => ⟨hmem, h⟩⟩
              have HCS := Lib.hid (fun (V : World) (hV : Ext Y V) => HSE.out V (HXY.out.trans hV) _ _ _ _ x hx4 (hrow.ext hV))
              rw [hhas] at HCS
              have HK2 : Hid (((rows'.take (j + 1)).filter (stayB col d)).length = kept + (if st = true then 1 else 0)) := Lib.hid (by
                rw [htk, List.filter_append, List.length_append, ← HKEPT.out, hst]
                by_cases h : stayB col d x = true
                · simp [h]
                · simp [h])
              obtain ⟨lx, hlx⟩ : ∃ l, l = x.length := ⟨_, rfl⟩
              rw [← hlx] at c0 hrow hxl HCS
              subst hxl
              have HST := Lib.hid hst; have HROW := Lib.hid hrow; have HLX := Lib.hid hlx
              have v1 := (HKL15.out.ext HXWY.out).cell (i := 1) (by simp); have v2 := (HKL15.out.ext HXWY.out).cell (i := 2) (by simp); have v3 := (HKL15.out.ext HXWY.out).cell (i := 3) (by simp); have v4 := (HKL15.out.ext HXWY.out).cell (i := 4) (by simp)
              simp only [List.getElem_cons_zero, List.getElem_cons_succ] at v1 v2 v3 v4
              rw [add_own] at c0
              clear hrow hmem htk hiff hxx hst hhas hlx hxj hjr hx4
              go_upto_region 33 with fail
              go_cut [28] (fun s28 wx => s28 = .bool st ∧ Ext Y wx)
              case first =>
                rcases HCOL.out with rfl | ⟨p, hp, rfl⟩
                · have hst1 : st = true := by rw [HST.out]; rfl
                  subst hst1
                  go_quiet (fail)
                  have HXQ := Lib.hid ((Ext.refl Y).drewN nq)
                  generalize (Y.drewN nq) = Z at *
                  go_wp2_with fail
                  go_meet
                  exact ⟨rfl, HXQ.out⟩
                · have hpx : p < x.length := by have := HLX.out; omega
                  obtain ⟨ax, rfl, -, f0, f1, f2⟩ := HROW.out.vl hpx
                  have hst2 : st = holdI dop (cmpV x[p] ⟨dk, di, dst⟩) := by
                    rw [HST.out, HDD.out]
                    unfold stayB
                    rw [show decide ((p : Int) < 0) = false from decide_eq_false (by omega), Bool.false_or, Int.toNat_natCast, List.getD_eq_getElem?_getD, List.getElem?_eq_getElem hpx]
                    rfl
                  have HH := Lib.hid (fun V => holds22 x[p] ⟨dk, di, dst⟩ dop hdop.1 hdop.2 V)
                  rw [← hst2] at HH
                  obtain ⟨y, hy⟩ : ∃ y, y = x[p] := ⟨_, rfl⟩
                  rw [← hy] at HH f0 f1 f2
                  obtain ⟨yk, yi, yst⟩ := y
                  simp only [vagg] at HH f0 f1 f2
                  have p1 : (0 : Int) ≤ (p : Int) := by omega
                  have p2' : (p : Int) < (lx : Int) := by omega
                  have p3 : decide ((p : Int) < 0) = false := decide_eq_false (by omega)
                  clear hpx hst2 hy hp
                  go_region_held3 (fun V => Ext Y V ∧ V.cell? ⟨g20, j, none⟩ = some (.slice (some ax) lx d9) ∧ V.cell? (ax.add (p * 3)) = some (.int .i64 yk) ∧ V.cell? ⟨(ax.add (p * 3)).block, (ax.add (p * 3)).off + 1, none⟩ = some (.int .i64 yi) ∧ V.cell? ⟨(ax.add (p * 3)).block, (ax.add (p * 3)).off + 2, none⟩ = some (.string yst) ∧ V.cell? ⟨w6.heap.size, 1, none⟩ = some (.int .i64 dop) ∧ V.cell? ⟨w6.heap.size, 2, none⟩ = some (.int .i64 dk) ∧ V.cell? ⟨w6.heap.size, 3, none⟩ = some (.int .i64 di) ∧ V.cell? ⟨w6.heap.size, 4, none⟩ = some (.string dst))
                    ((refine (fun he => ⟨he, Ext.cell he c0, Ext.cell he f0, Ext.cell he f1, Ext.cell he f2, Ext.cell he v1, Ext.cell he v2, Ext.cell he v3, Ext.cell he v4⟩) ?_; repeat (first | exact Ext.refl _ | exact (Ext.refl _).drew | refine Ext.drew ?_ | refine Ext.trans ?_ (by assumption))))
                    (first
                      | (go_at_call 23; (with_reducible refine (HH.out _).mono ?_); rintro e wi ⟨yv, rfl, hei, rfl⟩))
                  have hfin : Ext Y wi := And.left (b := _ ∧ _) (by assumption)
                  go_wp2_with fail
                  go_meet
                  exact ⟨rfl, hfin⟩
              case rest =>
                obtain ⟨rfl, hxz⟩ := hcut
                obtain ⟨Z, rfl⟩ : ∃ W : World, W = wc := ⟨_, rfl⟩
                have HXZ := Lib.hid (HXJ.out.trans hxz)
                replace r0 := hxz.cell r0; replace r1 := hxz.cell r1; replace c0 := hxz.cell c0
                have HCZ := Lib.hid (fun (V : World) (hV : Ext Z V) => HCS.out V (hxz.trans hV))
                clear hxz v1 v2 v3 v4
                go_upto_region 34 with fail
                go_region_held3 (fun V => Ext Z V ∧ V.cell? (adl.add (i * 2)) = some (.int .i64 ra) ∧ V.cell? ⟨(adl.add (i * 2)).block, (adl.add (i * 2)).off + 1, none⟩ = some (.slice Bs nl ds) ∧ V.cell? ⟨g20, j, none⟩ = some (.slice C lx d9))
                  ((refine (fun he => ⟨he, Ext.cell he r0, Ext.cell he r1, Ext.cell he c0⟩) ?_; repeat (first | exact Ext.refl _ | exact (Ext.refl _).drew | refine Ext.drew ?_ | refine Ext.trans ?_ (by assumption))))
                  (first
                    | (go_at_call 24; (with_reducible refine (HCZ.out _ (And.left (by assumption))).mono ?_); rintro e wi ⟨z, rfl, hei⟩))
                have hfin : Ext Z wi := And.left (b := _ ∧ _) (by assumption)
                have HXF := Lib.hid (HXZ.out.trans hfin)
                have hbb : (st != st) = false := by cases st <;> rfl
                clear hfin hei r0 r1 c0
                rcases st with _ | _
                · have HK3 : Hid (kept = ((rows'.take (j + 1)).filter (stayB col d)).length) := Lib.hid (by rw [HK2.out]; rfl)
                  go_wp2_with fail
                  go_roundw
                  case rel => exact ⟨j + 1, kept, by omega, by go_num, rfl, by omega, HK3, HXF.out⟩
                  case measure => simp [intOf]; omega
                · have HK3 : Hid (kept + 1 = ((rows'.take (j + 1)).filter (stayB col d)).length) := Lib.hid (by rw [HK2.out]; rfl)
                  go_wp2_with fail
                  go_roundw
                  case rel => exact ⟨j + 1, kept + 1, by omega, by go_num, by go_num, by omega, HK3, HXF.out⟩
                  case measure => simp [intOf]; omega
            · obtain rfl : j = nl' := by omega
              have hdj : ¬ (j : Int) < (j : Int) := by omega
              have hkn : nl = kept := by
                have h1 := HKEPT.out
                rw [List.take_of_length_le (by have := HNL'.out; omega)] at h1
                rw [h1, HNL.out]
                exact HFIL.out
              subst hkn
              have hbb : ((nl : Int) != (nl : Int)) = false := by simp
              have HLN := Lib.hid (len_any (w := Y) (a := ra) (A := Bs) (n := nl) (c := ds))
              clear hxj
              go_wp2_with fail
              refine HLN.out.mono ?_
              rintro e w30 ⟨yv, rfl, he30, rfl⟩
              have HX30 := Lib.hid (HX.out.trans (HXY.out.trans he30))
              clear he30 r0 r1
              go_wp2_with fail
              go_roundw
              case rel => exact ⟨i + 1, by omega, by go_num, HX30.out⟩
              case measure => simp [intOf]; omega
    · obtain rfl : i = p2 := by omega
      have hdi : ¬ (i : Int) < (i : Int) := by omega
      clear hx
      go_wp2_with fail
      go_ret
      exact Ret.mk (HX16.out.trans HX.out) rfl
end Go.Proofs.YtmmmdinncmbjkaaGreat
