/- Contracts: ordinallaw25.few, Few, atom. -/
import Derived.Test.YtehklbdgkppmeaaDoorJf
namespace Go.Proofs.YtehklbdgkppmeaaDoor
open Go.RowKit Go.Maps

def fewL (xs : List At) (nc : Nat) : Bool := decide (xs.length ≤ 10 ∧ nc ≤ 10 ∧ (∀ a ∈ xs.take 10, a.terms.length ≤ 4) ∧ (varsT (allT xs)).length ≤ 5)
theorem fewL_iff {xs : List At} {nc : Nat} : fewL xs nc = true ↔ xs.length ≤ 10 ∧ nc ≤ 10 ∧ (∀ a ∈ xs.take 10, a.terms.length ≤ 4) ∧ (varsT (allT xs)).length ≤ 5 := decide_eq_true_iff
theorem fewL_no {xs : List At} {nc : Nat} (h : ¬ (xs.length ≤ 10 ∧ nc ≤ 10 ∧ (∀ a ∈ xs.take 10, a.terms.length ≤ 4) ∧ (varsT (allT xs)).length ≤ 5)) : fewL xs nc = false := decide_eq_false h
theorem fewL.terms {xs : List At} {nc : Nat} (h : fewL xs nc = true) : ∀ a ∈ xs, a.terms.length ≤ 4 := by
  obtain ⟨h1, -, h3, -⟩ := fewL_iff.1 h
  rwa [List.take_of_length_le h1] at h3

set_option maxRecDepth 20000 in
set_option maxHeartbeats 1600000 in
theorem few_any {F : Nat → Prop} {w : World} {sv : Value} {Ac : Option Addr} {nc cc : Nat} {xs : List At} (h : Ats F w sv xs) (hl : xs.length ≤ 1048576) (hal : (allT xs).length ≤ 1048576) :
    Calls Tryd.prog 10 #[.agg #[sv, .slice Ac nc cc]] w (Ret (fun x _ => x = .bool (fewL xs nc)) w) := by
  obtain ⟨A, c, rfl, hc, hat⟩ := h.at'
  obtain ⟨n, hn⟩ : ∃ n, n = xs.length := ⟨_, rfl⟩
  rw [← hn] at hc hl ⊢
  have HA := Lib.hid h
  rw [← hn] at HA
  have HN := Lib.hid hn; have HAT := Lib.hid hat; have HAL := Lib.hid hal
  clear hn hat h hal
  go_enter Tryd.func10, Tryd.ntmps10
  go_wp2_with fail
  have hx1 : Ext w (w.alloc (.cells #[.slice A n c, .slice Ac nc cc] 25)) := (Ext.refl w).alloc _
  have k1 := Bk.new w 25 [.slice A n c, .slice Ac nc cc]
  change Bk (w.alloc (.cells #[.slice A n c, .slice Ac nc cc] 25)) _ _ _ at k1
  generalize (w.alloc (.cells #[.slice A n c, .slice Ac nc cc] 25)) = w1 at *
  have b0 := k1.cell (i := 0) (by simp); have b1 := k1.cell (i := 1) (by simp)
  simp only [List.getElem_cons_zero, List.getElem_cons_succ] at b0 b1
  have HX1 := Lib.hid hx1
  clear hx1 k1
  go_loopw [3] (fun q wr => ∃ i : Nat, i ≤ n ∧ i ≤ 10 ∧ q = .int .i64 (i : Int) ∧ (∀ j (h : j < xs.length), j < i → xs[j].terms.length ≤ 4) ∧ wr = w1) (fun q _ => n - (intOf q).toNat)
  case atStart => exact ⟨0, Nat.zero_le _, Nat.zero_le _, rfl, fun _ _ h => absurd h (by omega), rfl⟩
  case round =>
    obtain ⟨i, hi, hi10, rfl, hgo, rfl⟩ := hrel
    have HGO := Lib.hid hgo
    clear hgo
    by_cases hlt : i < n ∧ i < 10
    · obtain ⟨hlt, hlt2⟩ := hlt
      have i1 : (0 : Int) ≤ (i : Int) := by omega
      have i2 : (i : Int) < (n : Int) := by omega
      have i3 : (i : Int) < 10 := by omega
      have hix : i < xs.length := by have := HN.out; omega
      obtain ⟨ad, B, d, rfl, -, -, -, c2, -, -⟩ := HAT.out i hix
      replace c2 := HX1.out.cell c2
      by_cases h4 : xs[i].terms.length ≤ 4
      · have H4 := Lib.hid h4
        obtain ⟨nt, hnt⟩ : ∃ k, k = xs[i].terms.length := ⟨_, rfl⟩
        rw [← hnt] at c2 h4
        clear hnt
        have h44 : ¬ (4 : Int) < (nt : Int) := by omega
        go_wp2_with fail
        go_roundw
        case rel =>
          refine ⟨i + 1, by omega, by omega, by go_num, fun j hj hji => ?_, trivial⟩
          rcases Nat.lt_or_ge j i with h | h
          · exact HGO.out j hj h
          · obtain rfl : j = i := by omega
            exact H4.out
        case measure => simp [intOf]; omega
      · have HNO := Lib.hid (fewL_no (xs := xs) (nc := nc) (fun h => h4 (h.2.2.1 _ (by
          rw [List.mem_take_iff_getElem]
          exact ⟨i, by omega, rfl⟩))))
        generalize xs[i].terms.length = nt at *
        have h44 : (4 : Int) < (nt : Int) := by omega
        go_wp2_with fail
        go_ret
        rw [HNO.out]
        exact Ret.mk HX1.out rfl
    · have hstop : (i : Int) < (n : Int) → ¬ (i : Int) < 10 := by omega
      have hterms : ∀ a ∈ xs.take 10, a.terms.length ≤ 4 := fun a ha => by
        rw [List.mem_take_iff_getElem] at ha
        obtain ⟨j, hj, rfl⟩ := ha
        exact HGO.out j (by omega) (by have := HN.out; omega)
      have HTM := Lib.hid hterms
      clear hterms
      by_cases hn10 : n ≤ 10
      · have e1 : (n : Int) ≤ 10 := by omega
        obtain rfl : i = n := by omega
        have e2 : ¬ (i : Int) < (i : Int) := by omega
        clear hstop hlt
        by_cases hc10 : nc ≤ 10
        · have e3 : (nc : Int) ≤ 10 := by omega
          have HCALL := Lib.hid (vars25 (HA.out.ext HX1.out) (by have := HN.out; omega) HAL.out)
          obtain ⟨nv, hnv⟩ : ∃ k, k = (varsT (allT xs)).length := ⟨_, rfl⟩
          rw [← hnv] at HCALL
          have HNV := Lib.hid hnv
          clear hnv
          go_wp2_with fail
          refine HCALL.out.mono ?_
          rintro e w3 ⟨vv, rfl, he3, hrv⟩
          obtain ⟨Av, cv, rfl⟩ := own_slice hrv
          have HX3 := Lib.hid (HX1.out.trans he3)
          clear he3 hrv
          by_cases hv5 : nv ≤ 5
          · have hv9 : (nv : Int) ≤ 5 := by omega
            have HYES : Hid (fewL xs nc = true) := Lib.hid (fewL_iff.2 ⟨by have := HN.out; omega, hc10, HTM.out, by have := HNV.out; omega⟩)
            go_wp2_with fail
            go_ret
            rw [HYES.out]
            exact Ret.mk HX3.out rfl
          · have hv9 : decide ((nv : Int) ≤ 5) = false := decide_eq_false (by omega)
            have HNO : Hid (fewL xs nc = false) := Lib.hid (fewL_no (fun h => by have := HNV.out; omega))
            go_wp2_with fail
            go_ret
            rw [HNO.out]
            exact Ret.mk HX3.out rfl
        · have e3 : ¬ (nc : Int) ≤ 10 := by omega
          have HNO := Lib.hid (fewL_no (xs := xs) (nc := nc) (fun h => hc10 h.2.1))
          go_wp2_with fail
          go_ret
          rw [HNO.out]
          exact Ret.mk HX1.out rfl
      · have e1 : ¬ (n : Int) ≤ 10 := by omega
        have e2 : (i : Int) < (n : Int) := by omega
        have e3 : ¬ (i : Int) < 10 := by omega
        have HNO := Lib.hid (fewL_no (xs := xs) (nc := nc) (fun h => by have := HN.out; omega))
        clear hstop hlt
        go_wp2_with fail
        go_ret
        rw [HNO.out]
        exact Ret.mk HX1.out rfl

def fewQ (hd : List ByteArray) (rs : List Ru) : Bool := decide (rs.length ≤ 4 ∧ hd.length ≤ 5 ∧ ∀ r ∈ rs.take 4, fewL r.ats r.nc = true)
theorem fewQ_iff {hd : List ByteArray} {rs : List Ru} : fewQ hd rs = true ↔ rs.length ≤ 4 ∧ hd.length ≤ 5 ∧ ∀ r ∈ rs.take 4, fewL r.ats r.nc = true := decide_eq_true_iff
theorem fewQ_no {hd : List ByteArray} {rs : List Ru} (h : ¬ (rs.length ≤ 4 ∧ hd.length ≤ 5 ∧ ∀ r ∈ rs.take 4, fewL r.ats r.nc = true)) : fewQ hd rs = false := decide_eq_false h

set_option maxRecDepth 20000 in
set_option maxHeartbeats 1600000 in
theorem fewq_any {F : Nat → Prop} {w : World} {A : Option Addr} {c : Nat} {vr : Value} {ag : Int} {av : ByteArray} {O : Option Addr} {no co : Nat} {hd : List ByteArray} {rs : List Ru} (hR : Rus F w vr rs) (hbd : ∀ r ∈ rs, r.ats.length ≤ 1048576 ∧ (allT r.ats).length ≤ 1048576) :
    Calls Tryd.prog 18 #[.agg #[.slice A hd.length c, .int .i64 ag, .string av, vr, .slice O no co]] w (Ret (fun x _ => x = .bool (fewQ hd rs)) w) := by
  obtain ⟨B, d, rfl⟩ := hR.sl
  obtain ⟨n, hn⟩ : ∃ n, n = rs.length := ⟨_, rfl⟩
  obtain ⟨nh, hnh⟩ : ∃ n, n = hd.length := ⟨_, rfl⟩
  rw [← hn] at hR ⊢
  rw [← hnh]
  have HN := Lib.hid hn; have HNH := Lib.hid hnh; have HR := Lib.hid hR.at2; have HBD := Lib.hid hbd
  clear hn hnh hR hbd
  go_enter Tryd.func18, Tryd.ntmps18
  go_wp2_with fail
  have hx1 : Ext w (w.alloc (.cells #[.slice A nh c, .int .i64 ag, .string av, .slice B n d, .slice O no co] 44)) := (Ext.refl w).alloc _
  have k1 := Bk.new w 44 [.slice A nh c, .int .i64 ag, .string av, .slice B n d, .slice O no co]
  change Bk (w.alloc (.cells #[.slice A nh c, .int .i64 ag, .string av, .slice B n d, .slice O no co] 44)) _ _ _ at k1
  generalize (w.alloc (.cells #[.slice A nh c, .int .i64 ag, .string av, .slice B n d, .slice O no co] 44)) = w1 at *
  have HX1 := Lib.hid hx1; have HK1 := Lib.hid k1
  clear hx1 k1
  go_loopw [3] (fun q wr => ∃ i : Nat, i ≤ n ∧ i ≤ 4 ∧ q = .int .i64 (i : Int) ∧ (∀ j (h : j < rs.length), j < i → fewL rs[j].ats rs[j].nc = true) ∧ Ext w1 wr) (fun q _ => n - (intOf q).toNat)
  case atStart => exact ⟨0, Nat.zero_le _, Nat.zero_le _, rfl, fun _ _ h => absurd h (by omega), Ext.refl _⟩
  case round =>
    obtain ⟨i, hi, hi4, rfl, hgo, hext⟩ := hrel
    have HGO := Lib.hid hgo; have HE := Lib.hid hext; have HXR := Lib.hid (HX1.out.trans hext)
    have b0 := (HK1.out.ext hext).cell (i := 0) (by simp); have b3 := (HK1.out.ext hext).cell (i := 3) (by simp)
    simp only [List.getElem_cons_zero, List.getElem_cons_succ] at b0 b3
    clear hgo hext
    by_cases hlt : i < n ∧ i < 4
    · obtain ⟨hlt, hlt2⟩ := hlt
      have i1 : (0 : Int) ≤ (i : Int) := by omega
      have i2 : (i : Int) < (n : Int) := by omega
      have i3 : (i : Int) < 4 := by omega
      have hix : i < rs.length := by have := HN.out; omega
      obtain ⟨ad, Br, m, dr, Cr, er, rfl, -, c0, c1, hat, -⟩ := HR.out i hix
      replace c0 := HXR.out.cell c0; replace c1 := HXR.out.cell c1
      have hb := HBD.out _ (List.getElem_mem hix)
      have hcall := few_any (Ac := Cr) (nc := rs[i].nc) (cc := er) (hat.ext HXR.out) hb.1 hb.2
      obtain ⟨nc, hnc⟩ : ∃ k, k = rs[i].nc := ⟨_, rfl⟩
      obtain ⟨b, hb⟩ : ∃ b, b = fewL rs[i].ats nc := ⟨_, rfl⟩
      rw [← hnc] at c1 hcall
      rw [← hb] at hcall
      have HCALL := Lib.hid hcall; have HB : Hid (b = fewL rs[i].ats rs[i].nc) := Lib.hid (by rw [hb, hnc])
      clear hnc hb hcall hat
      go_wp2_with fail
      refine HCALL.out.mono ?_
      rintro e w3 ⟨y, rfl, he3, rfl⟩
      have HE3 := Lib.hid he3
      clear he3 b0 b3 c0 c1
      rcases b with _ | _
      · have HNO := Lib.hid (fewQ_no (hd := hd) (rs := rs) (fun h => by
          have h1 := h.2.2 rs[i] (by rw [List.mem_take_iff_getElem]; exact ⟨i, by omega, rfl⟩)
          rw [← HB.out] at h1
          cases h1))
        go_wp2_with fail
        go_ret
        rw [HNO.out]
        exact Ret.mk (HXR.out.trans HE3.out) rfl
      · go_wp2_with fail
        go_roundw
        case rel =>
          refine ⟨i + 1, by omega, by omega, by go_num, fun j hj hji => ?_, HE.out.trans HE3.out⟩
          rcases Nat.lt_or_ge j i with h | h
          · exact HGO.out j hj h
          · obtain rfl : j = i := by omega
            exact HB.out.symm
        case measure => simp [intOf]; omega
    · have hall : ∀ r ∈ rs.take 4, fewL r.ats r.nc = true := fun r hr => by
        rw [List.mem_take_iff_getElem] at hr
        obtain ⟨j, hj, rfl⟩ := hr
        exact HGO.out j (by omega) (by have := HN.out; omega)
      have HALL := Lib.hid hall
      clear hall
      by_cases hn4 : n ≤ 4
      · have e1 : (n : Int) ≤ 4 := by omega
        obtain rfl : i = n := by omega
        have e2 : ¬ (i : Int) < (i : Int) := by omega
        clear hlt
        by_cases hh : nh ≤ 5
        · have e3 : (nh : Int) ≤ 5 := by omega
          have HYES := Lib.hid ((fewQ_iff (hd := hd) (rs := rs)).2 ⟨by have := HN.out; omega, by have := HNH.out; omega, HALL.out⟩)
          go_wp2_with fail
          go_ret
          rw [HYES.out]
          exact Ret.mk HXR.out rfl
        · have e3 : decide ((nh : Int) ≤ 5) = false := decide_eq_false (by omega)
          have HNO := Lib.hid (fewQ_no (hd := hd) (rs := rs) (fun h => by have := HNH.out; omega))
          go_wp2_with fail
          go_ret
          rw [HNO.out]
          exact Ret.mk HXR.out rfl
      · have e1 : ¬ (n : Int) ≤ 4 := by omega
        have e2 : (i : Int) < (n : Int) := by omega
        have e3 : ¬ (i : Int) < 4 := by omega
        have HNO := Lib.hid (fewQ_no (hd := hd) (rs := rs) (fun h => by have := HN.out; omega))
        clear hlt
        go_wp2_with fail
        go_ret
        rw [HNO.out]
        exact Ret.mk HXR.out rfl

set_option maxRecDepth 20000 in
set_option maxHeartbeats 1600000 in
theorem atom25 {F : Nat → Prop} {w : World} {rl : ByteArray} {vv : Value} {vs : List ByteArray} (h : Strs F w vv vs) (hl : vs.length ≤ 1000) :
    Calls Tryd.prog 27 #[.string rl, vv] w (fun e w' => Ext w w' ∧ ∃ A c, e = .returned (.agg #[.bool false, .string rl, .slice A vs.length c]) ∧ Ts (fun k => w.heap.size ≤ k) w' (.slice A vs.length c) (vs.map varT)) := by
  obtain ⟨A, c, rfl, hc, hcl⟩ := h
  obtain ⟨n, hn⟩ : ∃ n, n = vs.length := ⟨_, rfl⟩
  rw [← hn] at hc hl ⊢
  have HN := Lib.hid hn; have HCL := Lib.hid hcl
  clear hn hcl
  obtain ⟨i0, hi0, hz0, hz1, hz2⟩ := info_parts info_term
  have HI0 := Lib.hid (And.intro hi0 (And.intro hz0 (And.intro hz1 hz2))); clear hi0 hz0 hz1 hz2
  go_enter Tryd.func27, Tryd.ntmps27
  go_wp2_with fail
  have h2 := two_boxes w 39 39 [.bool false, .string ⟨#[]⟩, .slice none 0 0] [.bool false, .string rl, .slice none 0 0]
  change Bk ((w.alloc (.cells #[.bool false, .string ⟨#[]⟩, .slice none 0 0] 39)).alloc (.cells #[.bool false, .string rl, .slice none 0 0] 39)) _ _ _ ∧ Bk ((w.alloc (.cells #[.bool false, .string ⟨#[]⟩, .slice none 0 0] 39)).alloc (.cells #[.bool false, .string rl, .slice none 0 0] 39)) _ _ _ ∧ Ext _ ((w.alloc (.cells #[.bool false, .string ⟨#[]⟩, .slice none 0 0] 39)).alloc (.cells #[.bool false, .string rl, .slice none 0 0] 39)) at h2
  generalize ((w.alloc (.cells #[.bool false, .string ⟨#[]⟩, .slice none 0 0] 39)).alloc (.cells #[.bool false, .string rl, .slice none 0 0] 39)) = w1 at *
  obtain ⟨kz, kx, hx1⟩ := h2
  have HX1 := Lib.hid hx1; have HKZ := Lib.hid kz; have HKX := Lib.hid kx
  have hw1 : w.heap.size + 1 < w1.heap.size := kx.lt
  clear hx1 kz kx
  go_loopw [6] (fun q wr => ∃ (i : Nat) (v : Value), i ≤ n ∧ q = .int .i64 (i : Int) ∧ Bk wr (w.heap.size + 1) 39 [.bool false, .string rl, v] ∧ wr.ownsRow w1.heap.size 66 4 v i (tcells ((vs.take i).map varT)) ∧ Fr (fun k => k = w.heap.size + 1) w1 wr) (fun q _ => n - (intOf q).toNat)
  case atStart => exact ⟨0, _, Nat.zero_le _, rfl, HKX.out, World.ownsRow_nil _ _ _ _, Fr.refl _ _⟩
  case round =>
    obtain ⟨i, v, hi, rfl, hbk, hrow, hfr⟩ := hrel
    obtain ⟨Av, cv, rfl⟩ := own_slice hrow
    have HBK := Lib.hid hbk; have HROW := Lib.hid hrow; have HFR := Lib.hid hfr
    have HXR := Lib.hid (hfr.new HX1.out (fun k hk => by omega))
    have g0 := hbk.cell (i := 0) (by simp); have g1 := hbk.cell (i := 1) (by simp); have g2 := hbk.cell (i := 2) (by simp); have gf := hbk.free 2
    simp only [List.getElem_cons_zero, List.getElem_cons_succ] at g0 g1 g2
    have hwr : w.heap.size + 1 < wr.heap.size := hbk.lt
    have hwr1 : w1.heap.size ≤ wr.heap.size := hfr.size
    clear hbk hrow hfr
    by_cases hlt : i < n
    · have i1 : (0 : Int) ≤ (i : Int) := by omega
      have i2 : (i : Int) < (n : Int) := by omega
      have hil : i < vs.length := by have := HN.out; omega
      obtain ⟨ad, rfl, -, c0⟩ := HCL.out.str hil
      replace c0 := HXR.out.cell c0
      have htk : (vs.take (i + 1)).map varT = (vs.take i).map varT ++ [varT vs[i]] := by rw [List.take_succ_eq_append_getElem hil, List.map_append]; rfl
      obtain ⟨s, hs⟩ : ∃ s, s = vs[i] := ⟨_, rfl⟩
      rw [← hs] at c0 htk
      obtain ⟨L, hL⟩ : ∃ L, L = (vs.take i).map varT := ⟨_, rfl⟩
      rw [← hL] at HROW htk
      have HTK := Lib.hid htk
      clear htk hs hL g0 g1
      go_upto_region 5 with fail
      go_region_law (first
        | (refine step_append_at (by rfl) _ _ _ (by rfl) w1.heap.size 66 i0 (.agg #[.string ⟨#[]⟩, .int .i64 0, .int .i64 0, .string ⟨#[]⟩]) 4 48 Tryd.underlying37 HI0.out.1 HI0.out.2.1 HI0.out.2.2.1 HI0.out.2.2.2 rfl (by omega) (.slice Av i cv) i (tcells L) (by rfl) (by exact own_ext' HROW.out ((Ext.refl wr).alloc _).drew) ⟨wr.heap.size, 0, none⟩ 1 1 [.string s, .int .i64 0, .int .i64 0, .string ⟨#[]⟩] (by rfl) (by rfl) (by exact laid_news wr _ _) (by simp [Value.oneCell']) (by simp only [maxLen]; omega) (by omega) (by simp; omega) ?_; intro v9 w9 hr9 hg9 hl9; obtain ⟨A9, c9, rfl⟩ := own_slice hr9; have hb9 : Bk w9 (w.heap.size + 1) 39 [.bool false, .string rl, .slice Av i cv] := Bk.fr (HBK.out.ext ((Ext.refl wr).alloc _).drew) (grown_fr hg9) (fun e => own_bk HROW.out HBK.out (by decide) e rfl); have q9 := hb9.cell (i := 2) (by simp); have f9 := hb9.free 2; simp only [List.getElem_cons_zero, List.getElem_cons_succ] at q9; have HR9 := Lib.hid hr9; have HG9 := Lib.hid hg9; have HB9 := Lib.hid hb9; clear hr9 hg9 hl9 hb9; go_wp2_with fail))
      all_goals
        have HBB := Lib.hid (HB9.out.set 2 (.slice A9 (i + 1) c9))
        have hfz : Fr (fun k => k = w.heap.size + 1) w9 (w9.setCell ⟨w.heap.size + 1, 2, none⟩ (.slice A9 (i + 1) c9)) := (Fr.refl (fun k => k = w.heap.size + 1) w9).setCell (p := ⟨w.heap.size + 1, 2, none⟩) (.inl rfl) _
        have HFF : Hid (Fr (fun k => k = w.heap.size + 1) w1 (w9.setCell ⟨w.heap.size + 1, 2, none⟩ (.slice A9 (i + 1) c9))) := Lib.hid (((HFR.out.ext ((Ext.refl wr).alloc _).drew).grown HG9.out (fun k hk => .inr (own_ge HROW.out hk))).trans hfz)
        have HRR := Lib.hid (own_fr HR9.out hfz (fun k hk e => by have := own_ge HR9.out hk; omega))
        clear hfz q9 f9
        go_wp2_with fail
        go_roundw
        case rel => exact ⟨i + 1, .slice A9 (i + 1) c9, by omega, by go_num, HBB.out, by rw [HTK.out, tcells_append]; exact HRR.out, HFF.out⟩
        case measure => simp [intOf]; omega
    · obtain rfl : i = n := by omega
      have hdn : ¬ (i : Int) < (i : Int) := by omega
      have et : vs.take i = vs := by rw [HN.out]; exact List.take_length
      rw [et] at HROW
      have hkz := HKZ.out.fr HFR.out (by omega)
      have z0 := hkz.cell (i := 0) (by simp); have z1 := hkz.cell (i := 1) (by simp); have z2 := hkz.cell (i := 2) (by simp); have f0 := hkz.free 0; have f1 := hkz.free 1; have f2 := hkz.free 2
      simp only [List.getElem_cons_zero, List.getElem_cons_succ] at z0 z1 z2
      have HKZZ := Lib.hid hkz
      clear et hkz
      go_wp2_with fail
      have hs := (((HKZZ.out.set 0 (.bool false)).set 1 (.string rl)).set 2 (.slice Av i cv))
      have hf : Fr (fun k => k = w.heap.size) wr (((wr.setCell ⟨w.heap.size, 0, none⟩ (.bool false)).setCell ⟨w.heap.size, 1, none⟩ (.string rl)).setCell ⟨w.heap.size, 2, none⟩ (.slice Av i cv)) := (((Fr.refl (fun k => k = w.heap.size) wr).setCell (p := ⟨w.heap.size, 0, none⟩) (.inl rfl) _).setCell (p := ⟨w.heap.size, 1, none⟩) (.inl rfl) _).setCell (p := ⟨w.heap.size, 2, none⟩) (.inl rfl) _
      generalize (((wr.setCell ⟨w.heap.size, 0, none⟩ (.bool false)).setCell ⟨w.heap.size, 1, none⟩ (.string rl)).setCell ⟨w.heap.size, 2, none⟩ (.slice Av i cv)) = wz at *
      have s0 := hs.cell (i := 0) (by simp); have s1 := hs.cell (i := 1) (by simp); have s2 := hs.cell (i := 2) (by simp)
      simp at s0 s1 s2
      have hez := hf.new HXR.out (fun k hk => by omega)
      have hrz := own_fr HROW.out hf (fun k hk e => by have := own_ge HROW.out hk; omega)
      refine bodyPost_ret (v := .agg #[.bool false, .string rl, .slice Av i cv]) ?_ rfl ⟨hez, Av, cv, rfl, ?_⟩
      · simp [results, Tryd.results27, go_sem, s0, s1, s2]
      · have hlm : (vs.map varT).length = i := by rw [List.length_map]; exact HN.out.symm
        rw [← hlm] at hrz ⊢
        exact (Ts.of_own hrz).mono (fun k _ hk => by omega)
end Go.Proofs.YtehklbdgkppmeaaDoor
