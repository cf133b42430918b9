/- Contract: normalize's builder.source. -/
import Derived.Test.YtmmmdinncmbjkaaNy
namespace Go.Proofs.Ytmmmdinncmbjkaa
open Go.RowKit Go.Maps

set_option maxRecDepth 20000 in
set_option maxHeartbeats 6400000 in
theorem source_any {F G H : Nat → Prop} {w : World} {g bm m n nc nn i : Nat} {A C An : Option Addr} {c cc cn : Nat} {post : List Value} {names : List ByteArray} {r : Rl} (hbk : Bk w g 88 ([.slice A n c, .slice C nc cc] ++ .slice An nn cn :: .map (some bm) :: post)) (hM : MapV w bm m (nmF names)) (hN : Strs G w (.slice An nn cn) names) (hA : Ats F w (.slice A n c) r.ats) (hC : Sl rdCd H w (.slice C nc cc) r.cds) (hz : RlZ r) (hnz : ∀ s ∈ names, s.size ≤ maxLen) (hl : ∀ a ∈ r.ats, a.terms.length ≤ 1048576) (hn : n ≤ 1048576) (hnc : nc ≤ 1048576) (hi : i < r.ats.length) (hin : ∀ t ∈ r.ats[i].terms, t.var ≠ ⟨#[]⟩ → t.var ∈ names) :
    Calls Try.prog 20 #[.pointer (some ⟨g, 0, none⟩), .int .i64 (i : Int)] w (Ret (fun x w' => ∃ a b d e f, x = .agg #[.string r.ats[i].rel, a, b, d, e, f] ∧ rdSrc.R (fun k => w.heap.size ≤ k) w' [.string r.ats[i].rel, a, b, d, e, f] (sourceL names r i r.ats[i])) w) := by
  have hnx : n = r.ats.length := by
    obtain ⟨A', c', e⟩ := hA.sl
    injection e
  have hgw : g < w.heap.size := hbk.lt
  have HNOTS := Lib.hid (fun (V : World) (hV : Ext w V) => nots_any (gd := i) (hbk.ext hV) (hM.ext hV) (hA.ext hV) hz.tms hl hn)
  have HNUM := Lib.hid (fun (V : World) (hV : Ext w V) (t : Tm) (ht : t.var.size ≤ maxLen) => number_any (hbk.ext hV) (hM.ext hV) (t := t) ht)
  have HBK := Lib.hid hbk; have HC := Lib.hid hC; have HS := Lib.hid hN; have HNZ := Lib.hid hnz; have HCZ := Lib.hid hz.var
  obtain ⟨i0, hi0, hz0, hz1, hz2⟩ := info_parts info_int
  have HI0 := Lib.hid (And.intro hi0 (And.intro hz0 (And.intro hz1 hz2))); clear hi0 hz0 hz1 hz2
  obtain ⟨j0, hj0, hy0, hy1, hy2⟩ := info_parts info_fl
  have HJ0 := Lib.hid (And.intro hj0 (And.intro hy0 (And.intro hy1 hy2))); clear hj0 hy0 hy1 hy2
  obtain ⟨p0, hp0, hx0, hx1, hx2⟩ := info_parts info_pi
  have HP0 := Lib.hid (And.intro hp0 (And.intro hx0 (And.intro hx1 hx2))); clear hp0 hx0 hx1 hx2
  have c0 := hbk.cell (i := 0) (by simp)
  simp at c0
  obtain ⟨ad, Bt, dt, rfl, -, d0, d1, d2, hT⟩ := hA.at2 i hi
  have i1 : (0 : Int) ≤ (i : Int) := by omega
  have i2 : (i : Int) < (n : Int) := by omega
  have hti := hz.tms _ (List.getElem_mem hi)
  have hli := hl _ (List.getElem_mem hi)
  have hsrc : sourceL names r i r.ats[i] = ⟨r.ats[i].rel, sortI (upL (vrsAt names r.ats[i].terms) r.ats[i].terms.length), (sortI (upL (vrsAt names r.ats[i].terms) r.ats[i].terms.length)).map (colI names r.ats[i].terms), upL (samAt r.ats[i].terms) r.ats[i].terms.length, upL (conAt r.ats[i].terms) r.ats[i].terms.length ++ upL (cndAt r.ats[i].terms r.cds) r.cds.length, notsL names r.ats i⟩ := rfl
  obtain ⟨x, hx⟩ : ∃ x, x = r.ats[i] := ⟨_, rfl⟩
  rw [← hx] at d0 d1 d2 hT hti hli hsrc hin ⊢
  obtain ⟨ng, rl, ts⟩ := x
  simp only at d0 d1 d2 hT hti hli hsrc hin ⊢
  rw [hsrc]
  obtain ⟨nt, hnt⟩ : ∃ nt, nt = ts.length := ⟨_, rfl⟩
  rw [← hnt] at d2 hT hli ⊢
  have HNT := Lib.hid hnt; have HTI := Lib.hid hti; have HT := Lib.hid hT.1; have HT2 := Lib.hid hT.2; have HIN := Lib.hid hin
  have hmm := @run_makeMap Try.prog
  clear hbk hM hN hA hC hz hnz hl hnx hi hsrc hx hT hti hin hnt
  go_enter Try.func20, Try.ntmps20
  go_upto_region 1 with fail
  have kr := Bk.new w 58 [.string ⟨#[]⟩, .slice none 0 0, .slice none 0 0, .slice none 0 0, .slice none 0 0, .slice none 0 0]
  change Bk (w.alloc (.cells #[.string ⟨#[]⟩, .slice none 0 0, .slice none 0 0, .slice none 0 0, .slice none 0 0, .slice none 0 0] 58)) _ _ _ at kr
  have hx1 : Ext w (w.alloc (.cells #[.string ⟨#[]⟩, .slice none 0 0, .slice none 0 0, .slice none 0 0, .slice none 0 0, .slice none 0 0] 58)) := (Ext.refl w).alloc _
  generalize (w.alloc (.cells #[.string ⟨#[]⟩, .slice none 0 0, .slice none 0 0, .slice none 0 0, .slice none 0 0, .slice none 0 0] 58)) = w1 at *
  replace c0 := hx1.cell c0; replace d0 := hx1.cell d0; replace d1 := hx1.cell d1; replace d2 := hx1.cell d2
  have hz1 : w.heap.size < w1.heap.size := kr.lt
  have HKR := Lib.hid kr; have HX1 := Lib.hid hx1
  clear kr hx1
  go_upto_region 2 with fail
  have ka := Bk.new w1 83 [.bool ng, .string rl, .slice Bt nt dt]
  change Bk (w1.alloc (.cells #[.bool ng, .string rl, .slice Bt nt dt] 83)) _ _ _ at ka
  have hx2 : Ext w1 (w1.alloc (.cells #[.bool ng, .string rl, .slice Bt nt dt] 83)) := (Ext.refl w1).alloc _
  generalize (w1.alloc (.cells #[.bool ng, .string rl, .slice Bt nt dt] 83)) = w2 at *
  have a1 := ka.cell (i := 1) (by simp); have a2 := ka.cell (i := 2) (by simp)
  simp at a1 a2
  have hz2 : w1.heap.size < w2.heap.size := ka.lt
  replace HKR := Lib.hid (HKR.out.ext hx2); replace HX1 := Lib.hid (HX1.out.trans hx2)
  clear ka hx2 c0 d0 d1 d2
  go_upto_region 3 with fail
  have ks := Bk.new w2 58 [.string rl, .slice none 0 0, .slice none 0 0, .slice none 0 0, .slice none 0 0, .slice none 0 0]
  change Bk (w2.alloc (.cells #[.string rl, .slice none 0 0, .slice none 0 0, .slice none 0 0, .slice none 0 0, .slice none 0 0] 58)) _ _ _ at ks
  have hx3 : Ext w2 (w2.alloc (.cells #[.string rl, .slice none 0 0, .slice none 0 0, .slice none 0 0, .slice none 0 0, .slice none 0 0] 58)) := (Ext.refl w2).alloc _
  generalize (w2.alloc (.cells #[.string rl, .slice none 0 0, .slice none 0 0, .slice none 0 0, .slice none 0 0, .slice none 0 0] 58)) = w3 at *
  have hz3 : w2.heap.size < w3.heap.size := ks.lt
  replace HKR := Lib.hid (HKR.out.ext hx3); replace HX1 := Lib.hid (HX1.out.trans hx3)
  replace a2 := hx3.cell a2
  clear hx3 a1
  go_upto_region 4 with fail
  have hm1 := MapV.made w3
  have hx4 : Ext w3 (w3.alloc (.map #[] 0)) := (Ext.refl w3).alloc _
  have hsz4 : (w3.alloc (.map #[] 0)).heap.size = w3.heap.size + 1 := by simp
  generalize (w3.alloc (.map #[] 0)) = w4 at *
  obtain ⟨b2, hb2⟩ : ∃ b, b = w3.heap.size := ⟨_, rfl⟩
  rw [← hb2] at hm1 hsz4 ⊢
  obtain ⟨gb, hgb⟩ : ∃ b, b = w2.heap.size := ⟨_, rfl⟩
  rw [← hgb] at ks hz2 hz3 ⊢
  have hb2g : gb < b2 := by omega
  replace HKR := Lib.hid (HKR.out.ext hx4); replace HX1 := Lib.hid (HX1.out.trans hx4)
  rw [← fstN_zero ts] at hm1
  have HSB : Hid (SrcB w4 w4.heap.size w4.heap.size gb b2 0 rl (.slice none 0 0) (.slice none 0 0) (.slice none 0 0) (.slice none 0 0) 0 0 0 0 [] [] [] [] (fstN ts 0)) := Lib.hid ⟨ks.ext hx4, World.ownsRow_nil _ _ _ _, World.ownsRow_nil _ _ _ _, World.ownsRow_nil _ _ _ _, World.ownsRow_nil _ _ _ _, hm1⟩
  replace a2 := hx4.cell a2
  have hw4 : w.heap.size < gb := by omega
  have hw4g : gb < w4.heap.size := by omega
  clear hm1 hx4 ks hmm hb2 hgb hz1 hz2 hz3
  go_wp2_with fail
  clear a2
  go_loopw [33] (fun t wr => ∃ (i m nv ns nf : Nat) (uv us uf : Value) (vs : List Int) (ss : List Pi) (fs : List Fl), i ≤ nt ∧ t = .int .i64 (i : Int) ∧ Hid (vs = upL (vrsAt names ts) i) ∧ Hid (ss = upL (samAt ts) i) ∧ Hid (fs = upL (conAt ts) i) ∧ nv ≤ i ∧ ns ≤ i ∧ nf ≤ i ∧ m ≤ i ∧ SrcB wr w4.heap.size w4.heap.size gb b2 m rl uv (.slice none 0 0) us uf nv 0 ns nf vs [] ss fs (fstN ts i) ∧ Fr (fun b => b = gb ∨ b = b2) w4 wr) (fun t _ => nt - (intOf t).toNat)
  case atStart => exact ⟨0, 0, 0, 0, 0, _, _, _, [], [], [], Nat.zero_le _, rfl, Lib.hid rfl, Lib.hid rfl, Lib.hid rfl, Nat.le_refl _, Nat.le_refl _, Nat.le_refl _, Nat.le_refl _, HSB.out, Fr.refl _ _⟩
  case round =>
    obtain ⟨k, m2, nv, ns, nf, uv, us, uf, vs, ss, fs, hk, rfl, HVS, HSS, HFS, hnv, hns, hnf, hm2, hsb, hfr⟩ := hrel
    obtain ⟨Av, cv, rfl⟩ := own_slice hsb.rv
    obtain ⟨As, cs, rfl⟩ := own_slice hsb.rs
    obtain ⟨Af, cf, rfl⟩ := own_slice hsb.rf
    obtain ⟨W, rfl⟩ : ∃ W : World, W = wr := ⟨_, rfl⟩
    have HSB2 := Lib.hid hsb; have HF := Lib.hid hfr
    have HX := Lib.hid (hfr.new HX1.out (fun b hb => by omega))
    have hwr : w4.heap.size ≤ W.heap.size := hfr.size
    by_cases hkl : k < nt
    · have k1 : (0 : Int) ≤ (k : Int) := by omega
      have k2 : (k : Int) < (nt : Int) := by omega
      have hkt : k < ts.length := by have := HNT.out; omega
      obtain ⟨adt, rfl, -, e0, e1, e2, e3⟩ := HT2.out.term hkt
      replace e0 := HX.out.cell e0; replace e1 := HX.out.cell e1; replace e2 := HX.out.cell e2; replace e3 := HX.out.cell e3
      have hzt := (HTI.out _ (List.getElem_mem hkt)).1
      have hcon : conAt ts k = if ts[k].var = ⟨#[]⟩ then some ⟨k, 0, ts[k].kind, ts[k].int, ts[k].str⟩ else none := by unfold conAt; rw [List.getElem?_eq_getElem hkt]; rfl
      have hsam : samAt ts k = if ts[k].var ≠ ⟨#[]⟩ ∧ idxT ts ts[k].var < k then some ⟨idxT ts ts[k].var, k⟩ else none := by unfold samAt; rw [List.getElem?_eq_getElem hkt]; rfl
      have hvrs : vrsAt names ts k = if ts[k].var ≠ ⟨#[]⟩ ∧ ¬ idxT ts ts[k].var < k then some (numI names ts[k]) else none := by unfold vrsAt; rw [List.getElem?_eq_getElem hkt]; rfl
      have hskip := fstN_skip hkt
      have hadd := fstN_add hkt
      have hidx := idxT_le hkt
      obtain ⟨t, ht⟩ : ∃ t, t = ts[k] := ⟨_, rfl⟩
      rw [← ht] at e0 e1 e2 e3 hzt hcon hsam hvrs hskip hadd hidx
      obtain ⟨tv, tk, ti, tst⟩ := t
      simp only at e0 e1 e2 e3 hzt hcon hsam hvrs hskip hadd hidx
      have HCON := Lib.hid hcon; have HSAM := Lib.hid hsam; have HVRS := Lib.hid hvrs; have HSKIP := Lib.hid hskip; have HADD := Lib.hid hadd
      clear hsb hfr ht hcon hsam hvrs hskip hadd
      go_upto_region 7 with fail
      have kt := Bk.new W 103 [.string tv, .int .i64 tk, .int .i64 ti, .string tst]
      change Bk (W.alloc (.cells #[.string tv, .int .i64 tk, .int .i64 ti, .string tst] 103)) _ _ _ at kt
      have hx6 : Ext W (W.alloc (.cells #[.string tv, .int .i64 tk, .int .i64 ti, .string tst] 103)) := (Ext.refl W).alloc _
      generalize (W.alloc (.cells #[.string tv, .int .i64 tk, .int .i64 ti, .string tst] 103)) = W2 at *
      have t0 := kt.cell (i := 0) (by simp); have t1 := kt.cell (i := 1) (by simp); have t2 := kt.cell (i := 2) (by simp); have t3 := kt.cell (i := 3) (by simp)
      simp only [List.getElem_cons_zero, List.getElem_cons_succ] at t0 t1 t2 t3
      have HSB3 := Lib.hid (HSB2.out.ext hx6); have HF3 := Lib.hid (HF.out.ext hx6); have HX3 := Lib.hid (HX.out.trans hx6); have HKT := Lib.hid kt
      have hwr2 : W.heap.size < W2.heap.size := kt.lt
      have b1 := HSB3.out.bk.cell (i := 1) (by simp); have b3 := HSB3.out.bk.cell (i := 3) (by simp); have b4 := HSB3.out.bk.cell (i := 4) (by simp)
      simp only [List.getElem_cons_zero, List.getElem_cons_succ] at b1 b3 b4
      clear kt hx6 e0 e1 e2 e3
      by_cases hv : tv = ⟨#[]⟩
      · have hve := var_eq hv
        have HV2 : Hid (vs = upL (vrsAt names ts) (k + 1)) := Lib.hid (by rw [upL_none (by rw [HVRS.out, if_neg (fun h => h.1 hv)])]; exact HVS.out)
        have HS2 : Hid (ss = upL (samAt ts) (k + 1)) := Lib.hid (by rw [upL_none (by rw [HSAM.out, if_neg (fun h => h.1 hv)])]; exact HSS.out)
        have HF2 : Hid (fs ++ [⟨k, 0, tk, ti, tst⟩] = upL (conAt ts) (k + 1)) := Lib.hid (by rw [upL_some (HCON.out.trans (if_pos hv)), HFS.out])
        have HFST : Hid (fstN ts (k + 1) = fstN ts k) := Lib.hid (HSKIP.out (.inl hv))
        clear hv b1 b3 HCON HSAM HVRS HSKIP HADD
        go_wp2_with (first
          | (at_builtin; refine wpList_append_at rfl _ _ 55 rfl w4.heap.size 75 j0 (.agg #[.int .i64 0, .int .i64 0, .int .i64 0, .int .i64 0, .string ⟨#[]⟩]) 5 48 Try.underlying55 HJ0.out.1 HJ0.out.2.1 HJ0.out.2.2.1 HJ0.out.2.2.2 rfl (by omega) (.slice Af nf cf) nf (fcells fs) rfl (HSB3.out.rf.alloc _) ⟨W2.heap.size, 0, none⟩ 1 1 [.int .i64 (k : Int), .int .i64 0, .int .i64 tk, .int .i64 ti, .string tst] rfl rfl (laid_news W2 _ _) (by simp [Value.oneCell']) (by simp only [maxLen]; omega) (by omega) (by simp; omega) ?_; intro v8 w8 hr8 hg8 hl8; obtain ⟨A8, c8, e8⟩ := own_slice hr8; subst e8; have hsb8 := HSB3.out.ext ((Ext.refl W2).alloc (.cells #[.int .i64 (k : Int), .int .i64 0, .int .i64 tk, .int .i64 ti, .string tst] 75)); have hb8 := hsb8.bkF hg8; have q8 := hb8.cell (i := 4) (by simp); have f8 := hb8.free 4; simp at q8; have HP8 := Lib.hid (hsb8.putF (x := ⟨k, 0, tk, ti, tst⟩) hr8 hg8); have HF8 := Lib.hid ((((HF3.out.alloc _).grown hg8 (fun b hb => .inr (own_ge hsb8.rf hb))).setCell (p := ⟨gb, 4, none⟩) (.inl (.inl rfl)) (.slice A8 (nf + 1) c8))); clear hb8 hr8 hg8 hl8 hsb8))
        go_roundw
        case rel => exact ⟨k + 1, m2, nv, ns, nf + 1, _, _, _, vs, ss, _, by omega, by go_num, HV2, HS2, HF2, by omega, by omega, by omega, by omega, by rw [HFST.out]; exact HP8.out, HF8.out⟩
        case measure => simp [intOf]; omega
      · have hve := var_ne hv
        have HF2 : Hid (fs = upL (conAt ts) (k + 1)) := Lib.hid (by rw [upL_none (by rw [HCON.out, if_neg hv])]; exact HFS.out)
        by_cases hlt : idxT ts tv < k
        · have HV2 : Hid (vs = upL (vrsAt names ts) (k + 1)) := Lib.hid (by rw [upL_none (by rw [HVRS.out, if_neg (fun h => h.2 hlt)])]; exact HVS.out)
          have HS2 : Hid (ss ++ [⟨idxT ts tv, k⟩] = upL (samAt ts) (k + 1)) := Lib.hid (by rw [upL_some (HSAM.out.trans (if_pos ⟨hv, hlt⟩)), HSS.out])
          have HFST : Hid (fstN ts (k + 1) = fstN ts k) := Lib.hid (HSKIP.out (.inr hlt))
          have HU1 : Hid ((fstN ts k tv).getD (.int .i64 0) = .int .i64 (idxT ts tv : Int)) := Lib.hid (by unfold fstN; rw [if_pos ⟨hv, hlt⟩]; rfl)
          have HU2 : Hid ((fstN ts k tv).isSome = true) := Lib.hid (by unfold fstN; rw [if_pos ⟨hv, hlt⟩]; rfl)
          obtain ⟨x, hx⟩ : ∃ x, x = idxT ts tv := ⟨_, rfl⟩
          rw [← hx] at HS2 HU1
          clear hv hlt hidx hx b1 b4 HCON HSAM HVRS HSKIP HADD
          go_wp2_with (first
            | (refine wpList_lookup_okV rfl _ _ 84 3 rfl Try.underlying84 (.int .i64 0) (zero_int _) b2 m2 _ rfl HSB3.out.mp tv rfl hzt (.int .i64 (x : Int)) HU1.out true HU2.out ?_)
            | (at_builtin; refine wpList_append_at rfl _ _ 54 rfl w4.heap.size 71 p0 (.agg #[.int .i64 0, .int .i64 0]) 2 16 Try.underlying54 HP0.out.1 HP0.out.2.1 HP0.out.2.2.1 HP0.out.2.2.2 rfl (by omega) (.slice As ns cs) ns (picells ss) rfl (HSB3.out.rs.alloc _) ⟨W2.heap.size, 0, none⟩ 1 1 [.int .i64 (x : Int), .int .i64 (k : Int)] rfl rfl (laid_news W2 _ _) (by simp [Value.oneCell']) (by simp only [maxLen]; omega) (by omega) (by simp; omega) ?_; intro v8 w8 hr8 hg8 hl8; obtain ⟨A8, c8, e8⟩ := own_slice hr8; subst e8; have hsb8 := HSB3.out.ext ((Ext.refl W2).alloc (.cells #[.int .i64 (x : Int), .int .i64 (k : Int)] 71)); have hb8 := hsb8.bkS hg8; have q8 := hb8.cell (i := 3) (by simp); have f8 := hb8.free 3; simp at q8; have HP8 := Lib.hid (hsb8.putS (x := ⟨x, k⟩) hr8 hg8); have HF8 := Lib.hid ((((HF3.out.alloc _).grown hg8 (fun b hb => .inr (own_ge hsb8.rs hb))).setCell (p := ⟨gb, 3, none⟩) (.inl (.inl rfl)) (.slice A8 (ns + 1) c8))); clear hb8 hr8 hg8 hl8 hsb8))
          go_roundw
          case rel => exact ⟨k + 1, m2, nv, ns + 1, nf, _, _, _, vs, _, fs, by omega, by go_num, HV2, HS2, HF2, by omega, by omega, by omega, by omega, by rw [HFST.out]; exact HP8.out, HF8.out⟩
          case measure => simp [intOf]; omega
        · have HV2 : Hid (vs ++ [numI names ⟨tv, tk, ti, tst⟩] = upL (vrsAt names ts) (k + 1)) := Lib.hid (by rw [upL_some (HVRS.out.trans (if_pos ⟨hv, hlt⟩)), HVS.out])
          have HS2 : Hid (ss = upL (samAt ts) (k + 1)) := Lib.hid (by rw [upL_none (by rw [HSAM.out, if_neg (fun h => hlt h.2)])]; exact HSS.out)
          have HFST : Hid (updV (fstN ts k) tv (some (.int .i64 (k : Int))) = fstN ts (k + 1)) := Lib.hid (HADD.out hv hlt)
          have HU1 : Hid ((fstN ts k tv).getD (.int .i64 0) = .int .i64 0) := Lib.hid (by unfold fstN; rw [if_neg (fun h => hlt h.2)]; rfl)
          have HU2 : Hid ((fstN ts k tv).isSome = false) := Lib.hid (by unfold fstN; rw [if_neg (fun h => hlt h.2)]; rfl)
          clear hv hlt hidx b1 b3 b4 t1 t2 t3 HCON HSAM HVRS HSKIP HADD
          go_upto_region 13 with (first
            | (refine wpList_lookup_okV rfl _ _ 84 3 rfl Try.underlying84 (.int .i64 0) (zero_int _) b2 m2 _ rfl HSB3.out.mp tv rfl hzt (.int .i64 0) HU1.out false HU2.out ?_)
            | (refine wpList_update_V rfl _ _ _ 84 3 rfl Try.underlying84 b2 m2 (fstN ts k) rfl HSB3.out.mp (by simp only [maxLen]; omega) tv (.int .i64 (k : Int)) rfl hzt rfl ?_; intro w5 hm5 hg5; have HM5 := Lib.hid hm5; have HG5 := Lib.hid hg5; clear hm5 hg5))
          have hm5 := HM5.out
          rw [HFST.out] at hm5
          have HSB5 := Lib.hid (HSB3.out.upd hm5 HG5.out)
          have HF5 := Lib.hid (HF3.out.grown HG5.out (fun b hb => by injection hb with hb; exact .inl (.inr hb.symm)))
          have HX5 := Lib.hid (HF5.out.new HX1.out (fun b hb => by omega))
          have kt5 := HKT.out.fr (grown_fr HG5.out) (fun e => by injection e with e; exact HSB3.out.mp.ne HKT.out e.symm)
          have b1 := HSB5.out.bk.cell (i := 1) (by simp)
          simp only [List.getElem_cons_zero, List.getElem_cons_succ] at b1
          have t0 := kt5.cell (i := 0) (by simp); have t1 := kt5.cell (i := 1) (by simp); have t2 := kt5.cell (i := 2) (by simp); have t3 := kt5.cell (i := 3) (by simp)
          simp only [List.getElem_cons_zero, List.getElem_cons_succ] at t0 t1 t2 t3
          have hwr5 : W2.heap.size ≤ w5.heap.size := HG5.out.size
          have hnx := HNUM.out w5.drew HX5.out.drew ⟨tv, tk, ti, tst⟩ hzt
          simp only [Tm.val] at hnx
          have HNX := Lib.hid hnx
          obtain ⟨x, hx⟩ : ∃ x, x = numI names ⟨tv, tk, ti, tst⟩ := ⟨_, rfl⟩
          rw [← hx] at HNX HV2
          clear hnx kt5 hx hm5 HSB3 HM5 HG5
          go_region_law (first
            | (refine step_append_at (by rfl) _ _ _ (by rfl) w4.heap.size 3 i0 (.int .i64 0) 1 8 Try.underlying37 HI0.out.1 HI0.out.2.1 HI0.out.2.2.1 HI0.out.2.2.2 rfl (by omega) (.slice Av nv cv) nv (vs.map I64) (by rfl) (by exact own_ext' HSB5.out.rv (((Ext.refl w5).drew.trans HEI.out).alloc _)) ⟨wi.heap.size, 0, none⟩ 1 1 [.int .i64 x] (by rfl) (by rfl) (by exact laid_news wi _ _) (by simp [Value.oneCell']) (by simp only [maxLen]; omega) (by omega) (by have := HEI.out.size; simp at this ⊢; omega) ?_; intro v9 w9 hr9 hg9 hl9; obtain ⟨A9, c9, e9⟩ := own_slice hr9; subst e9; have hsb9 := HSB5.out.ext (((Ext.refl w5).drew.trans HEI.out).alloc (.cells #[.int .i64 x] 3)); have hb9 := hsb9.bkV hg9; have q9 := hb9.cell (i := 1) (by simp); have f9 := hb9.free 1; simp at q9; have HP9 := Lib.hid (hsb9.putV (x := x) hr9 hg9); have HF9 := Lib.hid (((HF5.out.ext (((Ext.refl w5).drew.trans HEI.out).alloc (.cells #[.int .i64 x] 3))).grown hg9 (fun b hb => .inr (own_ge hsb9.rv hb))).setCell (p := ⟨gb, 1, none⟩) (.inl (.inl rfl)) (.slice A9 (nv + 1) c9)); clear hb9 hr9 hg9 hl9 hsb9)
            | (go_simp; (with_reducible refine HNX.out.mono ?_); rintro e wi ⟨xv, rfl, hei, rfl⟩; have HEI := Lib.hid hei; (try (replace b1 := hei.cell ((Ext.refl w5).drew.cell b1); have b1a := ((Ext.refl wi).alloc (.cells #[.int .i64 x] 3)).cell b1)); clear hei; go_wp2_with fail))
          all_goals
            clear t0 t1 t2 t3 b1 q9 f9
            go_wp2_with fail
            go_roundw
            case rel => exact ⟨k + 1, m2 + 1, nv + 1, ns, nf, _, _, _, _, ss, fs, by omega, by go_num, HV2, HS2, HF2, by omega, by omega, by omega, by omega, HP9.out, HF9.out⟩
            case measure => simp [intOf]; omega
    · obtain rfl : k = nt := by omega
      have hdk : ¬ (k : Int) < (k : Int) := by omega
      have hnsz : k ≤ 1048576 := hli
      have b1 := HSB2.out.bk.cell (i := 1) (by simp)
      simp only [List.getElem_cons_zero, List.getElem_cons_succ] at b1
      clear hsb hfr
      go_wp2_with fail
      refine (sort_own HSB2.out.rv (by omega)).mono ?_
      rintro e w5 ⟨rfl, hr5, hg5⟩
      have HSB5 := Lib.hid (HSB2.out.sorted hr5 hg5)
      have HF5 := Lib.hid (HF.out.grown hg5 (fun b hb => .inr (own_ge HSB2.out.rv hb)))
      have HX5 := Lib.hid (HF5.out.new HX1.out (fun b hb => by omega))
      have HUV : Hid (∀ q, (Value.slice Av nv cv).ownBlock = some q → q < w5.heap.size) := Lib.hid (fun q hq => (HSB5.out.rv.lt q hq).2)
      have hvs : vs = upL (vrsAt names ts) ts.length := by rw [← HNT.out]; exact HVS.out
      have HCOL : Hid (∀ v ∈ sortI vs, ∃ y : Nat, ∃ hy : y < names.length, v = (y : Int) ∧ fstN ts ts.length names[y] = some (.int .i64 (colI names ts v))) := Lib.hid (by rw [hvs]; exact fun v hv => vrs_sort HIN.out hv)
      have hlen : nv = (sortI vs).length := by have := hr5.1; simp at this; omega
      obtain ⟨zs, hzs⟩ : ∃ zs, zs = sortI vs := ⟨_, rfl⟩
      rw [← hzs] at HSB5 HCOL hlen
      have HZS : Hid (zs = sortI (upL (vrsAt names ts) ts.length)) := Lib.hid (by rw [hzs, hvs])
      have hww5 : W.heap.size ≤ w5.heap.size := hg5.size
      have HLEN := Lib.hid hlen
      clear hr5 hg5 b1 hvs hlen hzs HSB2 HF HVS
      have b1 := HSB5.out.bk.cell (i := 1) (by simp)
      simp only [List.getElem_cons_zero, List.getElem_cons_succ] at b1
      go_wp2_with fail
      clear b1
      go_loopw [85] (fun t wr => ∃ (y : Nat) (uc : Value), y ≤ nv ∧ t = .int .i64 (y : Int) ∧ SrcB wr w4.heap.size w5.heap.size gb b2 m2 rl (.slice Av nv cv) uc (.slice As ns cs) (.slice Af nf cf) nv y ns nf zs ((zs.take y).map (colI names ts)) ss fs (fstN ts k) ∧ Fr (fun b => b = gb ∨ b = b2) w5 wr) (fun t _ => nv - (intOf t).toNat)
      case atStart => exact ⟨0, _, Nat.zero_le _, rfl, HSB5.out, Fr.refl _ _⟩
      case round =>
        obtain ⟨y, uc, hy, rfl, hsb, hfr⟩ := hrel
        obtain ⟨Ac, cc2, rfl⟩ := own_slice hsb.rc
        obtain ⟨W3, rfl⟩ : ∃ W : World, W = wr := ⟨_, rfl⟩
        have HSB6 := Lib.hid hsb; have HF6 := Lib.hid hfr
        have HX6 := Lib.hid (hfr.new HX5.out (fun b hb => by omega))
        have hwr6 : w5.heap.size ≤ W3.heap.size := hfr.size
        by_cases hyl : y < nv
        · have y1 : (0 : Int) ≤ (y : Int) := by omega
          have y2 : (y : Int) < (nv : Int) := by omega
          have hyz : y < zs.length := by have := HLEN.out; omega
          obtain ⟨A9, c9, e9, -, hcl⟩ := Ins.of_own hsb.rv
          injection e9 with e9 e9b e9c
          subst e9
          clear e9b e9c
          obtain ⟨adv, rfl, -, v0⟩ := hcl.int hyz
          obtain ⟨q, hq, hqv, hqf⟩ := HCOL.out _ (List.getElem_mem hyz)
          have htk : zs.take (y + 1) = zs.take y ++ [zs[y]] := List.take_succ_eq_append_getElem hyz
          have hckc : colI names ts zs[y] = colI names ts zs[y] := rfl
          obtain ⟨vv, hvv⟩ : ∃ vv, vv = zs[y] := ⟨_, rfl⟩
          rw [← hvv] at v0 hqv hqf htk
          subst hqv
          obtain ⟨x, hx⟩ : ∃ x, x = colI names ts (q : Int) := ⟨_, rfl⟩
          have HTK : Hid ((zs.take (y + 1)).map (colI names ts) = (zs.take y).map (colI names ts) ++ [x]) := Lib.hid (by rw [htk, List.map_append, hx]; rfl)
          rw [← hx, ← HNT.out] at hqf
          obtain ⟨A8, c8, e8, -, hcn⟩ := HS.out
          injection e8 with e8 e8b e8c
          subst e8
          have q2 : (q : Int) < (nn : Int) := by omega
          clear e8b e8c
          obtain ⟨adn, rfl, -, n0⟩ := hcn.str hq
          replace n0 := HX6.out.cell n0
          have q1 : (0 : Int) ≤ (q : Int) := by omega
          have hsz := HNZ.out _ (List.getElem_mem hq)
          have hlook := (hsb.mp.ext (Ext.refl W3).drew).look (e := 3) Try.underlying84 (zero_int _) hsz (u := .int .i64 x) (by rw [hqf]; rfl)
          have c2 := (HBK.out.ext HX6.out).cell (i := 2) (by simp)
          have hgl := (HBK.out.ext HX6.out).lt
          have b2' := hsb.bk.cell (i := 2) (by simp)
          simp at c2 b2'
          have b2a := ((Ext.refl W3).alloc (.cells #[.int .i64 x] 3)).cell b2'
          obtain ⟨sn, hsn⟩ : ∃ sn, sn = names[q] := ⟨_, rfl⟩
          rw [← hsn] at n0 hlook hsz
          clear hsb hfr hcl hcn htk hckc hvv hx hqf hsn
          go_upto_region 19 with fail
          go_region_law (first
            | (refine step_append_at (by rfl) _ _ _ (by rfl) w5.heap.size 3 i0 (.int .i64 0) 1 8 Try.underlying37 HI0.out.1 HI0.out.2.1 HI0.out.2.2.1 HI0.out.2.2.2 rfl (by omega) (.slice Ac y cc2) y (((zs.take y).map (colI names ts)).map I64) (by rfl) (by exact own_ext' HSB6.out.rc ((Ext.refl W3).drew.alloc _)) ⟨W3.heap.size, 0, none⟩ 1 1 [.int .i64 x] (by rfl) (by rfl) (by exact laid_news W3.drew _ _) (by simp [Value.oneCell']) (by simp only [maxLen]; omega) (by omega) (by simp; omega) ?_; intro v9 w9 hr9 hg9 hl9; obtain ⟨A9, c9, e9⟩ := own_slice hr9; subst e9; have hsb9 := HSB6.out.ext ((Ext.refl W3).drew.alloc (.cells #[.int .i64 x] 3)); have hb9 := hsb9.bkC hg9; have q9 := hb9.cell (i := 2) (by simp); have f9 := hb9.free 2; simp at q9; have HP9 := Lib.hid (hsb9.putC HUV.out (x := x) hr9 hg9); have HF9 := Lib.hid (((HF6.out.ext ((Ext.refl W3).drew.alloc (.cells #[.int .i64 x] 3))).grown hg9 (fun b hb => .inr (own_ge hsb9.rc hb))).setCell (p := ⟨gb, 2, none⟩) (.inl (.inl rfl)) (.slice A9 (y + 1) c9)); clear hb9 hr9 hg9 hl9 hsb9))
          all_goals
            clear c2 b2' b2a q9 f9 hlook n0 v0
            go_wp2_with fail
            go_roundw
            case rel => exact ⟨y + 1, _, by omega, by go_num, by rw [HTK.out]; exact HP9.out, HF9.out⟩
            case measure => simp [intOf]; omega
        · obtain rfl : y = nv := by omega
          have hdy : ¬ (y : Int) < (y : Int) := by omega
          have et : zs.take y = zs := List.take_of_length_le (by have := HLEN.out; omega)
          rw [et] at HSB6
          have c1 := (HBK.out.ext HX6.out).cell (i := 1) (by simp)
          have hgl := (HBK.out.ext HX6.out).lt
          simp at c1
          have hnccd : nc = r.cds.length := by
            obtain ⟨A9, c9, e9, -⟩ := HC.out
            injection e9
          have HNC := Lib.hid hnccd
          clear et hsb hfr hnccd
          go_wp2_with fail
          clear c1
          go_loopw [110] (fun t wr => ∃ (z nf3 : Nat) (uf : Value) (fs3 : List Fl), z ≤ nc ∧ t = .int .i64 (z : Int) ∧ Hid (fs3 = upL (conAt ts) k ++ upL (cndAt ts r.cds) z) ∧ nf3 ≤ k + z ∧ SrcB wr w4.heap.size w5.heap.size gb b2 m2 rl (.slice Av y cv) (.slice Ac y cc2) (.slice As ns cs) uf y y ns nf3 zs (zs.map (colI names ts)) ss fs3 (fstN ts k) ∧ Fr (fun b => b = gb ∨ b = b2) w4 wr) (fun t _ => nc - (intOf t).toNat)
          case atStart => exact ⟨0, nf, _, fs, Nat.zero_le _, rfl, Lib.hid (by rw [HFS.out]; simp [upL]), by omega, HSB6.out, HF5.out.comp HF6.out (fun b hb => .inl hb)⟩
          case round =>
            obtain ⟨z, nf3, uf, fs3, hz, rfl, HFS3, hnf3, hsb, hfr⟩ := hrel
            obtain ⟨Af3, cf3, rfl⟩ := own_slice hsb.rf
            obtain ⟨W4, rfl⟩ : ∃ W : World, W = wr := ⟨_, rfl⟩
            have HSB7 := Lib.hid hsb; have HF7 := Lib.hid hfr
            have HX7 := Lib.hid (hfr.new HX1.out (fun b hb => by omega))
            have hwr7 : w4.heap.size ≤ W4.heap.size := hfr.size
            clear hsb hfr
            by_cases hzl : z < nc
            · have z1 : (0 : Int) ≤ (z : Int) := by omega
              have z2 : (z : Int) < (nc : Int) := by omega
              have hzc : z < r.cds.length := by have := HNC.out; omega
              obtain ⟨adc, rfl, -, d0, d1, d2, d3, d4⟩ := HC.out.cd hzc
              replace d0 := HX7.out.cell d0; replace d1 := HX7.out.cell d1; replace d2 := HX7.out.cell d2; replace d3 := HX7.out.cell d3; replace d4 := HX7.out.cell d4
              have hcnd : cndAt ts r.cds z = if r.cds[z].var ≠ ⟨#[]⟩ ∧ idxT ts r.cds[z].var < ts.length then some ⟨idxT ts r.cds[z].var, r.cds[z].op, r.cds[z].kind, r.cds[z].int, r.cds[z].str⟩ else none := by unfold cndAt; rw [List.getElem?_eq_getElem hzc]; rfl
              have hzv := HCZ.out _ (List.getElem_mem hzc)
              obtain ⟨x, hx⟩ : ∃ x, x = r.cds[z] := ⟨_, rfl⟩
              rw [← hx] at d0 d1 d2 d3 d4 hcnd hzv
              obtain ⟨xv, op, kd, it, st⟩ := x
              simp only at d0 d1 d2 d3 d4 hcnd hzv
              rw [← HNT.out] at hcnd
              have HCND := Lib.hid hcnd
              clear hx hcnd
              go_upto_region 24 with fail
              have kt := Bk.new W4 108 [.string xv, .int .i64 op, .int .i64 kd, .int .i64 it, .string st]
              change Bk (W4.alloc (.cells #[.string xv, .int .i64 op, .int .i64 kd, .int .i64 it, .string st] 108)) _ _ _ at kt
              have hx6 : Ext W4 (W4.alloc (.cells #[.string xv, .int .i64 op, .int .i64 kd, .int .i64 it, .string st] 108)) := (Ext.refl W4).alloc _
              generalize (W4.alloc (.cells #[.string xv, .int .i64 op, .int .i64 kd, .int .i64 it, .string st] 108)) = W5 at *
              have t0 := kt.cell (i := 0) (by simp); have t1 := kt.cell (i := 1) (by simp); have t2 := kt.cell (i := 2) (by simp); have t3 := kt.cell (i := 3) (by simp); have t4 := kt.cell (i := 4) (by simp)
              simp only [List.getElem_cons_zero, List.getElem_cons_succ] at t0 t1 t2 t3 t4
              have HSB8 := Lib.hid (HSB7.out.ext hx6); have HF8' := Lib.hid (HF7.out.ext hx6)
              have hwr8 : W4.heap.size < W5.heap.size := kt.lt
              have b4 := HSB8.out.bk.cell (i := 4) (by simp)
              simp only [List.getElem_cons_zero, List.getElem_cons_succ] at b4
              clear kt hx6 d0 d1 d2 d3 d4
              by_cases hv : xv ≠ ⟨#[]⟩ ∧ idxT ts xv < k
              · have HU1 : Hid ((fstN ts k xv).getD (.int .i64 0) = .int .i64 (idxT ts xv : Int)) := Lib.hid (by unfold fstN; rw [if_pos hv]; rfl)
                have HU2 : Hid ((fstN ts k xv).isSome = true) := Lib.hid (by unfold fstN; rw [if_pos hv]; rfl)
                have HG : Hid (fs3 ++ [⟨idxT ts xv, op, kd, it, st⟩] = upL (conAt ts) k ++ upL (cndAt ts r.cds) (z + 1)) := Lib.hid (by rw [upL_some (HCND.out.trans (if_pos hv)), HFS3.out, List.append_assoc])
                obtain ⟨x, hx⟩ : ∃ x, x = idxT ts xv := ⟨_, rfl⟩
                rw [← hx] at HU1 HG
                clear hv hx HCND
                go_wp2_with (first
                  | (refine wpList_lookup_okV rfl _ _ 84 3 rfl Try.underlying84 (.int .i64 0) (zero_int _) b2 m2 _ rfl HSB8.out.mp xv rfl hzv (.int .i64 (x : Int)) HU1.out true HU2.out ?_)
                  | (at_builtin; refine wpList_append_at rfl _ _ 55 rfl w4.heap.size 75 j0 (.agg #[.int .i64 0, .int .i64 0, .int .i64 0, .int .i64 0, .string ⟨#[]⟩]) 5 48 Try.underlying55 HJ0.out.1 HJ0.out.2.1 HJ0.out.2.2.1 HJ0.out.2.2.2 rfl (by omega) (.slice Af3 nf3 cf3) nf3 (fcells fs3) rfl (HSB8.out.rf.alloc _) ⟨W5.heap.size, 0, none⟩ 1 1 [.int .i64 (x : Int), .int .i64 op, .int .i64 kd, .int .i64 it, .string st] rfl rfl (laid_news W5 _ _) (by simp [Value.oneCell']) (by simp only [maxLen]; omega) (by omega) (by simp; omega) ?_; intro v8 w8 hr8 hg8 hl8; obtain ⟨A8, c8, e8⟩ := own_slice hr8; subst e8; have hsb8 := HSB8.out.ext ((Ext.refl W5).alloc (.cells #[.int .i64 (x : Int), .int .i64 op, .int .i64 kd, .int .i64 it, .string st] 75)); have hb8 := hsb8.bkF hg8; have q8 := hb8.cell (i := 4) (by simp); have f8 := hb8.free 4; simp at q8; have HP8 := Lib.hid (hsb8.putF (x := ⟨x, op, kd, it, st⟩) hr8 hg8); have HF8 := Lib.hid ((((HF8'.out.alloc _).grown hg8 (fun b hb => .inr (own_ge hsb8.rf hb))).setCell (p := ⟨gb, 4, none⟩) (.inl (.inl rfl)) (.slice A8 (nf3 + 1) c8))); clear hb8 hr8 hg8 hl8 hsb8))
                go_roundw
                case rel => exact ⟨z + 1, nf3 + 1, _, _, by omega, by go_num, HG, by omega, HP8.out, HF8.out⟩
                case measure => simp [intOf]; omega
              · have HU1 : Hid ((fstN ts k xv).getD (.int .i64 0) = .int .i64 0) := Lib.hid (by unfold fstN; rw [if_neg hv]; rfl)
                have HU2 : Hid ((fstN ts k xv).isSome = false) := Lib.hid (by unfold fstN; rw [if_neg hv]; rfl)
                have HG : Hid (fs3 = upL (conAt ts) k ++ upL (cndAt ts r.cds) (z + 1)) := Lib.hid (by rw [upL_none (HCND.out.trans (if_neg hv))]; exact HFS3.out)
                clear hv HCND
                go_wp2_with (first
                  | (refine wpList_lookup_okV rfl _ _ 84 3 rfl Try.underlying84 (.int .i64 0) (zero_int _) b2 m2 _ rfl HSB8.out.mp xv rfl hzv (.int .i64 0) HU1.out false HU2.out ?_))
                go_roundw
                case rel => exact ⟨z + 1, nf3, _, _, by omega, by go_num, HG, by omega, HSB8.out, HF8'.out⟩
                case measure => simp [intOf]; omega
            · obtain rfl : z = nc := by omega
              have hdz : ¬ (z : Int) < (z : Int) := by omega
              go_wp2_with fail
              refine (HNOTS.out _ HX7.out).mono ?_
              rintro e w8 ⟨x, rfl, he, hnt⟩
              obtain ⟨Ax, cx, rfl⟩ := hnt.sl
              obtain ⟨nx, hnx⟩ : ∃ nx, nx = (notsL names r.ats i).length := ⟨_, rfl⟩
              rw [← hnx] at hnt ⊢
              have hb8 := HSB7.out.bk.ext he
              have hkr8 : Bk w8 w.heap.size 58 [.string ⟨#[]⟩, .slice none 0 0, .slice none 0 0, .slice none 0 0, .slice none 0 0, .slice none 0 0] := (HKR.out.fr HF7.out (by omega)).ext he
              have b5 := hb8.cell (i := 5) (by simp); have f5 := hb8.free 5
              simp at b5
              have HB8 := Lib.hid hb8; have HKR8 := Lib.hid hkr8; have HX8 := Lib.hid (HX7.out.trans he); have HNT8 := Lib.hid hnt; have HSB9 := Lib.hid (HSB7.out.ext he)
              have hW4 : w.heap.size < W4.heap.size := by omega
              have hw48 : W4.heap.size ≤ w8.heap.size := he.size
              clear hb8 hkr8 hnt he hnx
              go_upto_region 29 with fail
              have hs9 : Fr (fun q => q = gb) w8 (w8.setCell ⟨gb, 5, none⟩ (.slice Ax nx cx)) := (Fr.refl (fun q => q = gb) w8).setCell (p := ⟨gb, 5, none⟩) (.inl rfl) _
              have hb9 : Bk (w8.setCell ⟨gb, 5, none⟩ (.slice Ax nx cx)) gb 58 [.string rl, .slice Av y cv, .slice Ac y cc2, .slice As ns cs, .slice Af3 nf3 cf3, .slice Ax nx cx] := HB8.out.set 5 _
              have hkr9 := HKR8.out.fr hs9 (by omega)
              have HX9 := Lib.hid (hs9.new HX8.out (fun q hq => by omega))
              have HV9 := Lib.hid (Ins.of_own (own_fr HSB9.out.rv hs9 (fun q hq => own_bk HSB9.out.rv HB8.out (by decide) hq)))
              have HC9 := Lib.hid (Ins.of_own (own_fr HSB9.out.rc hs9 (fun q hq => own_bk HSB9.out.rc HB8.out (by decide) hq)))
              have HS9 := Lib.hid ((Rw.of_flat (cells := Pi.cells) (sz := 2) (hl := fun _ => rfl) (own_fr HSB9.out.rs hs9 (fun q hq => own_bk HSB9.out.rs HB8.out (by decide) hq))).sl (by decide))
              have HF9 := Lib.hid ((Rw.of_flat (cells := Fl.cells) (sz := 5) (hl := fun _ => rfl) (own_fr HSB9.out.rf hs9 (fun q hq => own_bk HSB9.out.rf HB8.out (by decide) hq))).sl (by decide))
              have HN9 := Lib.hid (HNT8.out.fr hs9 (fun q hq => by omega))
              have hsz9 : (w8.setCell ⟨gb, 5, none⟩ (.slice Ax nx cx)).heap.size = w8.heap.size := by simp
              generalize (w8.setCell ⟨gb, 5, none⟩ (.slice Ax nx cx)) = w9 at *
              have g0 := hb9.cell (i := 0) (by simp); have g1 := hb9.cell (i := 1) (by simp); have g2 := hb9.cell (i := 2) (by simp); have g3 := hb9.cell (i := 3) (by simp); have g4 := hb9.cell (i := 4) (by simp); have g5 := hb9.cell (i := 5) (by simp)
              have r0 := hkr9.cell (i := 0) (by simp); have r1 := hkr9.cell (i := 1) (by simp); have r2 := hkr9.cell (i := 2) (by simp); have r3 := hkr9.cell (i := 3) (by simp); have r4 := hkr9.cell (i := 4) (by simp); have r5 := hkr9.cell (i := 5) (by simp)
              have fz0 := hkr9.free 0; have fz1 := hkr9.free 1; have fz2 := hkr9.free 2; have fz3 := hkr9.free 3; have fz4 := hkr9.free 4; have fz5 := hkr9.free 5
              simp only [List.getElem_cons_zero, List.getElem_cons_succ] at g0 g1 g2 g3 g4 g5 r0 r1 r2 r3 r4 r5
              have HKR9 := Lib.hid hkr9
              clear hb9 hkr9 hs9 b5 f5
              go_wp2_with fail
              have kz : Bk ((((((w9.setCell ⟨w.heap.size, 0, none⟩ (.string rl)).setCell ⟨w.heap.size, 1, none⟩ (.slice Av y cv)).setCell ⟨w.heap.size, 2, none⟩ (.slice Ac y cc2)).setCell ⟨w.heap.size, 3, none⟩ (.slice As ns cs)).setCell ⟨w.heap.size, 4, none⟩ (.slice Af3 nf3 cf3)).setCell ⟨w.heap.size, 5, none⟩ (.slice Ax nx cx)) w.heap.size 58 [.string rl, .slice Av y cv, .slice Ac y cc2, .slice As ns cs, .slice Af3 nf3 cf3, .slice Ax nx cx] := ((((((HKR9.out.set 0 _).set 1 _).set 2 _).set 3 _).set 4 _).set 5 _)
              have hez : Ext w ((((((w9.setCell ⟨w.heap.size, 0, none⟩ (.string rl)).setCell ⟨w.heap.size, 1, none⟩ (.slice Av y cv)).setCell ⟨w.heap.size, 2, none⟩ (.slice Ac y cc2)).setCell ⟨w.heap.size, 3, none⟩ (.slice As ns cs)).setCell ⟨w.heap.size, 4, none⟩ (.slice Af3 nf3 cf3)).setCell ⟨w.heap.size, 5, none⟩ (.slice Ax nx cx)) := ((((((HX9.out.setCell (p := ⟨w.heap.size, 0, none⟩) (Nat.le_refl _) _).setCell (p := ⟨w.heap.size, 1, none⟩) (Nat.le_refl _) _).setCell (p := ⟨w.heap.size, 2, none⟩) (Nat.le_refl _) _).setCell (p := ⟨w.heap.size, 3, none⟩) (Nat.le_refl _) _).setCell (p := ⟨w.heap.size, 4, none⟩) (Nat.le_refl _) _).setCell (p := ⟨w.heap.size, 5, none⟩) (Nat.le_refl _) _)
              have hfz : Fr (fun q => q = w.heap.size) w9 ((((((w9.setCell ⟨w.heap.size, 0, none⟩ (.string rl)).setCell ⟨w.heap.size, 1, none⟩ (.slice Av y cv)).setCell ⟨w.heap.size, 2, none⟩ (.slice Ac y cc2)).setCell ⟨w.heap.size, 3, none⟩ (.slice As ns cs)).setCell ⟨w.heap.size, 4, none⟩ (.slice Af3 nf3 cf3)).setCell ⟨w.heap.size, 5, none⟩ (.slice Ax nx cx)) := (((((((Fr.refl (fun q => q = w.heap.size) w9).setCell (p := ⟨w.heap.size, 0, none⟩) (.inl rfl) _).setCell (p := ⟨w.heap.size, 1, none⟩) (.inl rfl) _).setCell (p := ⟨w.heap.size, 2, none⟩) (.inl rfl) _).setCell (p := ⟨w.heap.size, 3, none⟩) (.inl rfl) _).setCell (p := ⟨w.heap.size, 4, none⟩) (.inl rfl) _).setCell (p := ⟨w.heap.size, 5, none⟩) (.inl rfl) _)
              generalize ((((((w9.setCell ⟨w.heap.size, 0, none⟩ (.string rl)).setCell ⟨w.heap.size, 1, none⟩ (.slice Av y cv)).setCell ⟨w.heap.size, 2, none⟩ (.slice Ac y cc2)).setCell ⟨w.heap.size, 3, none⟩ (.slice As ns cs)).setCell ⟨w.heap.size, 4, none⟩ (.slice Af3 nf3 cf3)).setCell ⟨w.heap.size, 5, none⟩ (.slice Ax nx cx)) = wz at *
              have z0 := kz.cell (i := 0) (by simp); have z1 := kz.cell (i := 1) (by simp); have z2 := kz.cell (i := 2) (by simp); have z3 := kz.cell (i := 3) (by simp); have z4 := kz.cell (i := 4) (by simp); have z5 := kz.cell (i := 5) (by simp)
              simp only [List.getElem_cons_zero, List.getElem_cons_succ] at z0 z1 z2 z3 z4 z5
              refine bodyPost_ret (v := .agg #[.string rl, .slice Av y cv, .slice Ac y cc2, .slice As ns cs, .slice Af3 nf3 cf3, .slice Ax nx cx]) (by simp [results, Try.results20, go_sem, z0, z1, z2, z3, z4, z5]) rfl ⟨_, rfl, hez, _, _, _, _, _, rfl, _, _, _, _, _, rfl, ?_, ?_, ?_, ?_, ?_⟩
              · have h := (HV9.out.fr hfz (fun q hq e => by have := hq.2; omega)).mono (G := fun q => w.heap.size ≤ q) (fun q _ hq => by have := hq.2; omega)
                rw [HZS.out, ← HNT.out] at h
                exact h
              · have h := (HC9.out.fr hfz (fun q hq e => by have := hq.2; omega)).mono (G := fun q => w.heap.size ≤ q) (fun q _ hq => by have := hq.2; omega)
                rw [HZS.out, ← HNT.out] at h
                exact h
              · have h := (HS9.out.fr hfz (fun q hq e => by omega)).mono (G := fun q => w.heap.size ≤ q) (by decide) (fun q _ hq => by omega)
                rw [HSS.out] at h
                exact h
              · have h := (HF9.out.fr hfz (fun q hq e => by omega)).mono (G := fun q => w.heap.size ≤ q) (by decide) (fun q _ hq => by omega)
                rw [HFS3.out, HNC.out] at h
                exact h
              · exact (HN9.out.fr hfz (fun q hq e => by omega)).mono (by decide) (fun q _ hq => by omega)
end Go.Proofs.Ytmmmdinncmbjkaa
