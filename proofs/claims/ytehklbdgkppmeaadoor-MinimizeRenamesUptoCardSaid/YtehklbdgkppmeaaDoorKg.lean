/- The walk of MinimizeMinimal. -/
import Derived.Test.YtehklbdgkppmeaaDoorKf
namespace Go.Proofs.YtehklbdgkppmeaaDoor
open Go.RowKit Go.Maps

section
variable {w : World} {A : Option Addr} {c : Nat} {B : Option Addr} {d : Nat} {O : Option Addr} {co : Nat} {q : Qr}
set_option maxRecDepth 100000 in
set_option maxHeartbeats 6400000 in
theorem minimal_law (hq : Qc w A c B d O co q) (gq : QG q) (htab : TabE w) :
    Calls Tryd.prog 7 #[.agg #[.slice A q.hd.length c, .int .i64 q.ag, .string q.av, .slice B q.rs.length d, .slice O q.no co]] w (Ret (fun x _ => x = .bool true) w) := by
  have HTAB := Lib.hid htab
  have HF := Lib.hid (fun W (hW : Ext w W) => fewq_any (A := A) (c := c) (ag := q.ag) (av := q.av) (O := O) (no := q.no) (co := co) (hd := q.hd) (hq.rs.ext hW) (fun r hr => ⟨(gq.rg r hr).bd.len, (gq.rg r hr).bd.all⟩))
  obtain ⟨f, hf⟩ : ∃ f, f = fewQ q.hd q.rs := ⟨_, rfl⟩
  have HQP : Hid (f = true → ∀ W, Ext w W → Calls Tryd.prog 19 #[.agg #[.slice A q.hd.length c, .int .i64 q.ag, .string q.av, .slice B q.rs.length d, .slice O q.no co]] W (Ret (fun x _ => x = .bool q.pure) W)) := Lib.hid (fun h1 W hW => by
    have ok := gq.ok (hf ▸ h1)
    exact query25 (hq.hd.ext hW) (hq.rs.ext hW) (fun r hr => (ok.ax r hr).bd) (by have := ok.hl; omega) (by have := ok.rl; omega))
  have HNO : Hid (f = true → q.pure = false → ∀ W, Ext w W → Calls Tryd.prog 24 #[.agg #[.slice A q.hd.length c, .int .i64 q.ag, .string q.av, .slice B q.rs.length d, .slice O q.no co]] W (fun e w' => e = .returned (.tuple #[.agg #[.slice none 0 0, .int .i64 0, .string ⟨#[]⟩, .slice none 0 0, .slice none 0 0], .int .i64 1]) ∧ Ext W w')) := Lib.hid (fun h1 h2 W hW => minimal_no (hq.ext hW) (gq.ok (hf ▸ h1)) h2)
  have HYES : Hid (f = true → q.pure = true → q.no ≤ 1048576 → ∀ W, Ext w W → Calls Tryd.prog 24 #[.agg #[.slice A q.hd.length c, .int .i64 q.ag, .string q.av, .slice B q.rs.length d, .slice O q.no co]] W (fun e w' => ∃ A' c' B' d' O' co', e = .returned (.tuple #[.agg #[.slice A' q.hd.length c', .int .i64 0, .string ⟨#[]⟩, .slice B' (minRs q).length d', .slice O' q.no co'], .int .i64 0]) ∧ Ext W w' ∧ Qc w' A' c' B' d' O' co' (minQ q))) := Lib.hid (fun h1 h2 h3 W hW => minimal_yes (hq.ext hW) (gq.ok (hf ▸ h1)) h2 h3 (htab.fore hW))
  have HREF : Hid (f = true → q.pure = true → ∀ W, Ext w W → Calls Tryd.prog 25 #[.agg #[.slice A q.hd.length c, .int .i64 q.ag, .string q.av, .slice B q.rs.length d, .slice O q.no co]] W (Ret (fun x w' => ∃ AR cR us, x = .slice AR (minRs q).length cR ∧ AssV w' W.heap.size (.slice AR (minRs q).length cR) (minRs q).length (refL q) us) W)) := Lib.hid (fun h1 h2 W hW => by
    refine (rminimal_any (hq.ext hW) (gq.ok (hf ▸ h1)) h2).mono ?_
    rintro e w' ⟨x, rfl, he, us, hx⟩
    have e1 : (refL q).length = (minRs q).length := by rw [← min_ref h2, List.length_map]
    rw [e1] at hx
    obtain ⟨AR, cR, rfl⟩ := own_slice hx.2.1
    exact Ret.mk he ⟨AR, cR, us, rfl, hx⟩)
  have HAGAIN : Hid (f = true → q.pure = true → q.no ≤ 1048576 → ∀ W A' c' B' d' O' co', Ext w W → Qc W A' c' B' d' O' co' (minQ q) → Calls Tryd.prog 24 #[.agg #[.slice A' q.hd.length c', .int .i64 0, .string ⟨#[]⟩, .slice B' (minRs q).length d', .slice O' q.no co']] W (fun e w' => ∃ A' c' B' d' O' co', e = .returned (.tuple #[.agg #[.slice A' q.hd.length c', .int .i64 0, .string ⟨#[]⟩, .slice B' (minRs q).length d', .slice O' q.no co'], .int .i64 0]) ∧ Ext W w')) := Lib.hid (fun h1 h2 h3 W A' c' B' d' O' co' hW hm => by
    have ok := gq.ok (hf ▸ h1)
    have h := minimal_yes hm (min_ok h2 ok) (min_pure h2 ok) h3 (htab.fore hW)
    unfold MinYes at h
    rw [min_again h2] at h
    exact h.mono (fun e w' ⟨a1, a2, a3, a4, a5, a6, e1, e2, _⟩ => ⟨a1, a2, a3, a4, a5, a6, e1, e2⟩))
  have HEQ : Hid (f = true → q.pure = true → ∀ W A' c' B' d' O' co', Ext w W → Qc W A' c' B' d' O' co' (minQ q) → Calls Tryd.prog 21 #[.agg #[.slice A' q.hd.length c', .int .i64 0, .string ⟨#[]⟩, .slice B' (minRs q).length d', .slice O' q.no co'], .agg #[.slice A q.hd.length c, .int .i64 q.ag, .string q.av, .slice B q.rs.length d, .slice O q.no co]] W (fun e w' => e = .returned (.tuple #[.bool true, .int .i64 0]) ∧ Ext W w')) := Lib.hid (fun h1 h2 W A' c' B' d' O' co' hW hm => by
    have ok := gq.ok (hf ▸ h1)
    have h := equivalent_any hm (hq.ext hW) (min_ok h2 ok) ok (htab.fore hW)
    unfold EqPost at h
    obtain ⟨e1, e2, e3⟩ := min_equiv h2 ok
    rw [e1, e2, e3] at h
    exact h)
  have HRL : Hid (q.pure = true → ∀ i (h : i < (minRs q).length) (h' : i < (refL q).length), (minRs q)[i].ats = (refL q)[i]) := Lib.hid (fun h2 i h h' => by
    have e := min_ref h2
    have h3 : ((minRs q).map Ru.ats)[i]? = (refL q)[i]? := by rw [e]
    rw [List.getElem?_map, List.getElem?_eq_getElem h, List.getElem?_eq_getElem h'] at h3
    exact Option.some.inj h3)
  have HRB : Hid (f = true → q.pure = true → ∀ i (h : i < (minRs q).length), Pq (minRs q)[i].ats) := Lib.hid (fun h1 h2 i h => by
    have hm := Qr.pure_iff.1 (min_pure h2 (gq.ok (hf ▸ h1)))
    exact hm.pq (min_ok h2 (gq.ok (hf ▸ h1))).ax (r := (minRs q)[i]) (List.getElem_mem h))
  have HM3 : Hid (q.pure = true → (minRs q).length ≤ 3) := Lib.hid (fun h2 => by have := (min_len h2).2; have := (Qr.pure_iff.1 h2).2.2.1; omega)
  have HQC := Lib.hid hq
  have hhl := gq.hl
  rw [← hf] at HF
  clear hq gq htab hf
  obtain ⟨na, hna⟩ : ∃ n, n = q.hd.length := ⟨_, rfl⟩
  obtain ⟨nm, hnm⟩ : ∃ n, n = (minRs q).length := ⟨_, rfl⟩
  obtain ⟨no, hno⟩ : ∃ n, n = q.no := ⟨_, rfl⟩
  rw [← hna] at HF HQP HNO HYES HREF HAGAIN HEQ hhl ⊢
  rw [← hno] at HF HQP HNO HYES HREF HAGAIN HEQ ⊢
  rw [← hnm] at HYES HREF HAGAIN HEQ HM3
  have HNA := Lib.hid hna; have HNM := Lib.hid hnm; have HNOO := Lib.hid hno
  clear hna hnm hno
  obtain ⟨ag, hag⟩ : ∃ n, n = q.ag := ⟨_, rfl⟩
  obtain ⟨av, hav⟩ : ∃ n, n = q.av := ⟨_, rfl⟩
  obtain ⟨mq, hmq⟩ : ∃ n, n = q.rs.length := ⟨_, rfl⟩
  rw [← hag, ← hav, ← hmq] at HF HQP HNO HYES HREF HEQ ⊢
  clear hag hav hmq
  obtain ⟨p, hp⟩ : ∃ p, p = q.pure := ⟨_, rfl⟩
  rw [← hp] at HQP HNO HYES HREF HAGAIN HEQ HRL HRB HM3
  clear hp
  go_enter Tryd.func7, Tryd.ntmps7
  go_wp2_with fail
  have kq := Bk.new w 44 [.slice A na c, .int .i64 ag, .string av, .slice B mq d, .slice O no co]
  change Bk (w.alloc (.cells #[.slice A na c, .int .i64 ag, .string av, .slice B mq d, .slice O no co] 44)) _ _ _ at kq
  have hx : Ext w (w.alloc (.cells #[.slice A na c, .int .i64 ag, .string av, .slice B mq d, .slice O no co] 44)) := (Ext.refl w).alloc _
  generalize (w.alloc (.cells #[.slice A na c, .int .i64 ag, .string av, .slice B mq d, .slice O no co] 44)) = w1 at *
  refine (awake_any (HTAB.out.fore hx)).mono ?_
  rintro e w2 ⟨y, rfl, he, rfl⟩
  replace kq := kq.ext he
  have HX := Lib.hid (hx.trans he)
  have a0 := kq.cell (i := 0) (by simp); have a1 := kq.cell (i := 1) (by simp); have a2 := kq.cell (i := 2) (by simp); have a3 := kq.cell (i := 3) (by simp); have a4 := kq.cell (i := 4) (by simp)
  simp only [List.getElem_cons_zero, List.getElem_cons_succ] at a0 a1 a2 a3 a4
  clear kq hx he
  go_wp2_with fail
  refine (HF.out _ HX.out).mono ?_
  rintro e w3 ⟨y, rfl, he, rfl⟩
  replace a0 := he.cell a0; replace a1 := he.cell a1; replace a2 := he.cell a2; replace a3 := he.cell a3; replace a4 := he.cell a4
  replace HX := Lib.hid (HX.out.trans he)
  clear he
  rcases f with _ | _
  · clear a0 a1 a2 a3 a4
    go_wp2_with fail
    go_ret
    exact Ret.mk HX.out rfl
  by_cases h5 : (5 : Int) < (no : Int)
  · go_wp2_with fail
    go_ret
    exact Ret.mk HX.out rfl
  have hno6 : no ≤ 1048576 := by omega
  rcases p with _ | _
  · go_wp2_with fail
    refine (HNO.out (by trivial) (by trivial) _ HX.out).mono ?_
    rintro e w4 ⟨rfl, he⟩
    replace a0 := he.cell a0; replace a1 := he.cell a1; replace a2 := he.cell a2; replace a3 := he.cell a3; replace a4 := he.cell a4
    replace HX := Lib.hid (HX.out.trans he)
    clear he
    go_upto_region 6 with fail
    have km := Bk.new w4 44 [.slice none 0 0, .int .i64 0, .string ⟨#[]⟩, .slice none 0 0, .slice none 0 0]
    change Bk (w4.alloc (.cells #[.slice none 0 0, .int .i64 0, .string ⟨#[]⟩, .slice none 0 0, .slice none 0 0] 44)) _ _ _ at km
    have hx : Ext w4 (w4.alloc (.cells #[.slice none 0 0, .int .i64 0, .string ⟨#[]⟩, .slice none 0 0, .slice none 0 0] 44)) := (Ext.refl w4).alloc _
    generalize (w4.alloc (.cells #[.slice none 0 0, .int .i64 0, .string ⟨#[]⟩, .slice none 0 0, .slice none 0 0] 44)) = w5 at *
    replace a0 := hx.cell a0; replace a1 := hx.cell a1; replace a2 := hx.cell a2; replace a3 := hx.cell a3; replace a4 := hx.cell a4
    replace HX := Lib.hid (HX.out.trans hx)
    have HKM := Lib.hid km
    clear km hx
    go_wp2_with fail
    refine (HQP.out (by trivial) _ HX.out).mono ?_
    rintro e w6 ⟨y, rfl, he, rfl⟩
    have m3 := (HKM.out.ext he).cell (i := 3) (by simp)
    simp only [List.getElem_cons_zero, List.getElem_cons_succ] at m3
    replace HX := Lib.hid (HX.out.trans he)
    clear he a0 a1 a2 a3 a4
    go_wp2_with fail
    go_ret
    exact Ret.mk HX.out rfl
  have hnm3 : nm ≤ 3 := HM3.out (by trivial)
  go_wp2_with fail
  refine (HYES.out (by trivial) (by trivial) hno6 _ HX.out).mono ?_
  rintro e w4 ⟨A', c', B', d', O', co', rfl, he, hm⟩
  replace a0 := he.cell a0; replace a1 := he.cell a1; replace a2 := he.cell a2; replace a3 := he.cell a3; replace a4 := he.cell a4
  replace HX := Lib.hid (HX.out.trans he)
  have HM := Lib.hid hm
  clear he hm
  go_upto_region 6 with fail
  have km := Bk.new w4 44 [.slice A' na c', .int .i64 0, .string ⟨#[]⟩, .slice B' nm d', .slice O' no co']
  change Bk (w4.alloc (.cells #[.slice A' na c', .int .i64 0, .string ⟨#[]⟩, .slice B' nm d', .slice O' no co'] 44)) _ _ _ at km
  have hx : Ext w4 (w4.alloc (.cells #[.slice A' na c', .int .i64 0, .string ⟨#[]⟩, .slice B' nm d', .slice O' no co'] 44)) := (Ext.refl w4).alloc _
  generalize (w4.alloc (.cells #[.slice A' na c', .int .i64 0, .string ⟨#[]⟩, .slice B' nm d', .slice O' no co'] 44)) = w5 at *
  replace a0 := hx.cell a0; replace a1 := hx.cell a1; replace a2 := hx.cell a2; replace a3 := hx.cell a3; replace a4 := hx.cell a4
  replace HX := Lib.hid (HX.out.trans hx)
  replace HM := Lib.hid (HM.out.ext hx)
  have m0 := km.cell (i := 0) (by simp); have m1 := km.cell (i := 1) (by simp); have m2 := km.cell (i := 2) (by simp); have m3 := km.cell (i := 3) (by simp); have m4 := km.cell (i := 4) (by simp)
  simp only [List.getElem_cons_zero, List.getElem_cons_succ] at m0 m1 m2 m3 m4
  clear km hx
  go_wp2_with fail
  refine (HQP.out (by trivial) _ HX.out).mono ?_
  rintro e w6 ⟨y, rfl, he, rfl⟩
  replace a0 := he.cell a0; replace a1 := he.cell a1; replace a2 := he.cell a2; replace a3 := he.cell a3; replace a4 := he.cell a4
  replace m0 := he.cell m0; replace m1 := he.cell m1; replace m2 := he.cell m2; replace m3 := he.cell m3; replace m4 := he.cell m4
  replace HX := Lib.hid (HX.out.trans he)
  replace HM := Lib.hid (HM.out.ext he)
  clear he
  go_wp2_with fail
  refine (HREF.out (by trivial) (by trivial) _ HX.out).mono ?_
  rintro e w7 ⟨x, rfl, he, AR, cR, us, rfl, hR⟩
  replace a0 := he.cell a0; replace a1 := he.cell a1; replace a2 := he.cell a2; replace a3 := he.cell a3; replace a4 := he.cell a4
  replace m0 := he.cell m0; replace m1 := he.cell m1; replace m2 := he.cell m2; replace m3 := he.cell m3; replace m4 := he.cell m4
  replace HX := Lib.hid (HX.out.trans he)
  replace HM := Lib.hid (HM.out.ext he)
  have HR := Lib.hid hR
  clear he hR
  have HCS := Lib.hid (And.intro a0 (And.intro a1 (And.intro a2 (And.intro a3 (And.intro a4 (And.intro m0 (And.intro m1 (And.intro m2 (And.intro m3 m4)))))))))
  have hmat := HM.out.rs.at2
  have HMAT : Hid (∀ i, i < nm → ∃ ad B n d xs, B' = some ad ∧ w7.cell? (ad.add (i * 2)) = some (.slice B n d) ∧ Ats T1 w7 (.slice B n d) xs ∧ Pq xs ∧ ∃ (h' : i < (refL q).length), xs = (refL q)[i]) := Lib.hid (fun i hi => by
    have h1 : i < (minRs q).length := by have := HNM.out; omega
    obtain ⟨ad, B, n, d, C, e, e1, -, c0, -, ha, -⟩ := hmat i h1
    have h2 : i < (refL q).length := by have := HR.out.num; omega
    exact ⟨ad, B, n, d, (minRs q)[i].ats, e1, c0, ha, HRB.out (by trivial) (by trivial) i h1, h2, HRL.out (by trivial) i h1 h2⟩)
  have HRAT : Hid (∀ i, i < nm → ∃ ad B n d, AR = some ad ∧ w7.cell? (ad.add i) = some (.slice B n d) ∧ ∃ (h' : i < (refL q).length), Ats T1 w7 (.slice B n d) (refL q)[i]) := Lib.hid (fun i hi => by
    have h2 : i < (refL q).length := by have := HR.out.num; omega
    have h3 : i < us.length := by have := HR.out.1; omega
    obtain ⟨B, n, d, e1, ha⟩ := HR.out.2.2 i h2 h3
    obtain ⟨A9, c9, e, -, hcl⟩ := Cl.of_own HR.out.2.1
    injection e with e2
    subst e2
    obtain ⟨ad, e3, -, c0⟩ := hcl.at' (j := i) (List.getElem?_eq_getElem h3)
    rw [e1] at c0
    exact ⟨ad, B, n, d, e3, c0, h2, ha.mono (fun _ _ _ => trivial)⟩)
  clear hmat
  go_wp2_with fail
  go_loopw [6] (fun p wr => ∃ i : Nat, i ≤ nm ∧ p = .int .i64 (i : Int) ∧ Ext w7 wr) (fun p _ => nm - (intOf p).toNat)
  case atStart => exact ⟨0, Nat.zero_le _, rfl, Ext.refl _⟩
  case round =>
    obtain ⟨i, hi, rfl, hext⟩ := hrel
    have HXT := Lib.hid hext
    clear a0 a1 a2 a3 a4 m0 m1 m2 m3 m4
    obtain ⟨a0, a1, a2, a3, a4, m0, m1, m2, m3, m4⟩ := HCS.out
    replace a0 := hext.cell a0; replace a1 := hext.cell a1; replace a2 := hext.cell a2; replace a3 := hext.cell a3; replace a4 := hext.cell a4
    replace m0 := hext.cell m0; replace m1 := hext.cell m1; replace m2 := hext.cell m2; replace m3 := hext.cell m3; replace m4 := hext.cell m4
    by_cases hlt : i < nm
    · have i1 : (0 : Int) ≤ (i : Int) := by omega
      have i2 : (i : Int) < (nm : Int) := by omega
      obtain ⟨adM, BM, iM, dM, xs, e1, f0, hxs, hpx, hl1, hex1⟩ := HMAT.out i hlt
      obtain ⟨adR, BR, iR, dR, e2, g0, hl2, hys⟩ := HRAT.out i hlt
      rw [← hex1] at hys
      subst e1 e2
      replace f0 := hext.cell f0; replace g0 := hext.cell g0
      have HSAME : Hid (∀ V, Ext wr V → Calls Tryd.prog 13 #[.slice BM iM dM, .slice BR iR dR] V (Ret (fun x _ => x = .bool true) V)) := Lib.hid (fun V hV => by
        have h := sames25 (hxs.ext (hext.trans hV)) (hys.ext (hext.trans hV)) (by have := hpx.len; omega) (by have := hpx.t48; omega)
        rw [sameL_refl] at h
        exact h)
      clear hxs hys hpx hl1 hl2 hex1 hext a0 a1 a2 a3 a4 m0 m1 m2 m4
      go_upto_region 14 with fail
      go_region_held3 (fun V => Ext wr V ∧ V.cell? ⟨w4.heap.size, 3, none⟩ = some (.slice (some adM) nm d') ∧ V.cell? (adM.add (i * 2)) = some (.slice BM iM dM) ∧ V.cell? (adR.add i) = some (.slice BR iR dR))
        ((refine (fun he => ⟨he, Ext.cell he m3, Ext.cell he f0, Ext.cell he g0⟩) ?_; repeat (first | exact Ext.refl _ | exact (Ext.refl _).drew | refine Ext.drew ?_ | refine Ext.trans ?_ (by assumption))))
        (first
          | (go_at_call 13; (with_reducible refine (HSAME.out _ (And.left (by assumption))).mono ?_); rintro e wi ⟨yv, rfl, hei, rfl⟩))
      have HFIN := Lib.hid (And.left (b := _ ∧ _) (by assumption))
      clear m3 f0 g0
      go_wp2_with fail
      go_roundw
      case rel => exact ⟨i + 1, by omega, by go_num, HXT.out.trans HFIN.out⟩
      case measure => simp [intOf]; omega
    · obtain rfl : i = nm := by omega
      have hdi : ¬ (i : Int) < (i : Int) := by omega
      clear a1 a2 a3 a4 m1 m2 m3 m4 hext
      obtain ⟨w8, rfl⟩ : ∃ W : World, W = wr := ⟨_, rfl⟩
      have HX8 := Lib.hid (HX.out.trans HXT.out)
      have hMh : Strs T1 w8 (.slice A' na c') q.hd := by have h := (HM.out.ext HXT.out).hd; rw [HNA.out]; exact h
      have hQh : Strs T1 w8 (.slice A na c) q.hd := by have h := (HQC.out.ext HX8.out).hd; rw [HNA.out]; exact h
      have HMH : Hid (Cl T1 w8 A' (q.hd.map Sv)) := Lib.hid (by obtain ⟨A9, c9, e, -, h⟩ := hMh; injection e with e1; subst e1; exact h)
      have HQH : Hid (Cl T1 w8 A (q.hd.map Sv)) := Lib.hid (by obtain ⟨A9, c9, e, -, h⟩ := hQh; injection e with e1; subst e1; exact h)
      clear hMh hQh
      go_wp2_with fail
      clear a0 m0
      go_loopw [7] (fun p wr => ∃ j : Nat, j ≤ na ∧ p = .int .i64 (j : Int) ∧ Ext w8 wr) (fun p _ => na - (intOf p).toNat)
      case atStart => exact ⟨0, Nat.zero_le _, rfl, Ext.refl _⟩
      case round =>
        obtain ⟨j, hj, rfl, hext⟩ := hrel
        have HXJ := Lib.hid hext
        have hx7 := HXT.out.trans hext
        obtain ⟨a0, a1, a2, a3, a4, m0, m1, m2, m3, m4⟩ := HCS.out
        replace a0 := hx7.cell a0; replace a1 := hx7.cell a1; replace a2 := hx7.cell a2; replace a3 := hx7.cell a3; replace a4 := hx7.cell a4
        replace m0 := hx7.cell m0; replace m1 := hx7.cell m1; replace m2 := hx7.cell m2; replace m3 := hx7.cell m3; replace m4 := hx7.cell m4
        by_cases hjn : j < na
        · have j1 : (0 : Int) ≤ (j : Int) := by omega
          have j2 : (j : Int) < (na : Int) := by omega
          have hjl : j < q.hd.length := by have := HNA.out; omega
          obtain ⟨adM, rfl, -, f0⟩ := HMH.out.str hjl
          obtain ⟨adQ, rfl, -, g0⟩ := HQH.out.str hjl
          replace f0 := hext.cell f0; replace g0 := hext.cell g0
          obtain ⟨s, hs⟩ : ∃ s, s = q.hd[j] := ⟨_, rfl⟩
          rw [← hs] at f0 g0
          have hss : (s.toList == s.toList) = true := by simp
          clear hs hext hx7 a1 a2 a3 a4 m1 m2 m3 m4
          go_upto_region 19 with fail
          go_quiet (fail)
          clear a0 m0 f0 g0
          go_wp2_with fail
          go_roundw
          case rel => exact ⟨j + 1, by omega, by go_num, HXJ.out.drewN _⟩
          case measure => simp [intOf]; omega
        · obtain rfl : j = na := by omega
          have hdj : ¬ (j : Int) < (j : Int) := by omega
          have HXL := Lib.hid (HX.out.trans hx7)
          have HML := Lib.hid (HM.out.ext hx7)
          clear hx7 hext
          go_wp2_with fail
          refine (HAGAIN.out (by trivial) (by trivial) hno6 _ _ _ _ _ _ _ HXL.out HML.out).mono ?_
          rintro e w9 ⟨A3, c3, B3, d3, O3, co3, rfl, he⟩
          replace a0 := he.cell a0; replace a1 := he.cell a1; replace a2 := he.cell a2; replace a3 := he.cell a3; replace a4 := he.cell a4
          replace m0 := he.cell m0; replace m1 := he.cell m1; replace m2 := he.cell m2; replace m3 := he.cell m3; replace m4 := he.cell m4
          replace HXL := Lib.hid (HXL.out.trans he)
          replace HML := Lib.hid (HML.out.ext he)
          clear he
          go_upto_region 22 with fail
          have ka := Bk.new w9 44 [.slice A3 j c3, .int .i64 0, .string ⟨#[]⟩, .slice B3 i d3, .slice O3 no co3]
          change Bk (w9.alloc (.cells #[.slice A3 j c3, .int .i64 0, .string ⟨#[]⟩, .slice B3 i d3, .slice O3 no co3] 44)) _ _ _ at ka
          have hx : Ext w9 (w9.alloc (.cells #[.slice A3 j c3, .int .i64 0, .string ⟨#[]⟩, .slice B3 i d3, .slice O3 no co3] 44)) := (Ext.refl w9).alloc _
          generalize (w9.alloc (.cells #[.slice A3 j c3, .int .i64 0, .string ⟨#[]⟩, .slice B3 i d3, .slice O3 no co3] 44)) = w10 at *
          replace a0 := hx.cell a0; replace a1 := hx.cell a1; replace a2 := hx.cell a2; replace a3 := hx.cell a3; replace a4 := hx.cell a4
          replace m0 := hx.cell m0; replace m1 := hx.cell m1; replace m2 := hx.cell m2; replace m3 := hx.cell m3; replace m4 := hx.cell m4
          replace HXL := Lib.hid (HXL.out.trans hx)
          replace HML := Lib.hid (HML.out.ext hx)
          have HKA := Lib.hid ka
          clear ka hx
          go_wp2_with fail
          refine (HEQ.out (by trivial) (by trivial) _ _ _ _ _ _ _ HXL.out HML.out).mono ?_
          rintro e w11 ⟨rfl, he⟩
          have b3 := (HKA.out.ext he).cell (i := 3) (by simp)
          simp only [List.getElem_cons_zero, List.getElem_cons_succ] at b3
          replace m3 := he.cell m3
          replace HXL := Lib.hid (HXL.out.trans he)
          clear he a0 a1 a2 a3 a4 m0 m1 m2 m4
          go_wp2_with fail
          go_ret
          exact Ret.mk HXL.out rfl
end
end Go.Proofs.YtehklbdgkppmeaaDoor
