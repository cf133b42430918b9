/- Contract: ordinalref25.Renamed. -/
import Derived.Test.YtehklbdgkppmeaaDoorKh
namespace Go.Proofs.YtehklbdgkppmeaaDoor
open Go.RowKit Go.Maps

/-- A row of atoms of its own; the terms lie elsewhere, above base. -/
def AtB (w : World) (base : Nat) (v : Value) (n : Nat) (xs : List At) (vs : List Value) : Prop :=
  vs.length = xs.length ∧ w.ownsRow base 39 3 v n (acells xs vs) ∧ ∀ i (_ : i < xs.length) (h' : i < vs.length), Ts (fun k => base ≤ k ∧ v.ownBlock ≠ some k) w vs[i] xs[i].terms
theorem AtB.num {w : World} {base n : Nat} {v : Value} {xs : List At} {vs : List Value} (h : AtB w base v n xs vs) : n = xs.length := by
  have := h.2.1.1
  rw [acells_length h.1] at this
  omega
theorem AtB.ext {w w' : World} {base n : Nat} {v : Value} {xs : List At} {vs : List Value} (h : AtB w base v n xs vs) (he : Ext w w') : AtB w' base v n xs vs := ⟨h.1, own_ext' h.2.1 he, fun i hi h' => (h.2.2 i hi h').ext he⟩
theorem AtB.nil (w : World) (base : Nat) : AtB w base (.slice none 0 0) 0 [] [] := ⟨rfl, World.ownsRow_nil _ _ _ _, fun i h => by simp at h⟩
theorem AtB.ats {w : World} {base n : Nat} {v : Value} {xs : List At} {vs : List Value} (h : AtB w base v n xs vs) : Ats (fun k => base ≤ k) w v xs := by
  have hn := h.num
  obtain ⟨hl, hr, ht⟩ := h
  subst hn
  obtain ⟨A, c, rfl, hc, hcl⟩ := Cl.of_own hr
  exact ⟨A, c, vs, rfl, hc, hl, hcl.mono (fun _ _ h => h.2), fun i h h' => (ht i h h').mono (fun _ _ h => h.1)⟩
theorem AtB.more {wr wb w9 : World} {base n : Nat} {v v9 va : Value} {xs : List At} {vs : List Value} {a : At} (h : AtB wr base v n xs vs) (he : Ext wr wb) (ht : Ts (fun k => base ≤ k ∧ v.ownBlock ≠ some k) wb va a.terms) (hr : w9.ownsRow base 39 3 v9 (n + 1) (acells xs vs ++ [.bool a.neg, .string a.rel, va])) (hg : wb.grownBy w9 v.ownBlock) (hl : Lands wb v v9) : AtB w9 base v9 (n + 1) (xs ++ [a]) (vs ++ [va]) := by
  have hne : ∀ k, k < wb.heap.size → v.ownBlock ≠ some k → v9.ownBlock ≠ some k := fun k hk h1 h2 => by
    rcases hl with hl | hl
    · exact h1 (hl ▸ h2)
    · rw [hl] at h2; injection h2 with h2; omega
  refine ⟨by simp [h.1], by rw [acells_append _ _ h.1]; exact hr, fun i hi hi' => ?_⟩
  have hup : ∀ {u : Value} {ts : List Tm}, Ts (fun k => base ≤ k ∧ v.ownBlock ≠ some k) wb u ts → Ts (fun k => base ≤ k ∧ v9.ownBlock ≠ some k) w9 u ts := fun hu => (hu.mono (fun k hk h1 => And.intro h1 hk)).fr (grown_fr hg) (fun k hk e => hk.1.2 e) |>.mono (fun k _ hk => ⟨hk.1.1, hne k hk.2 hk.1.2⟩)
  rcases Nat.lt_or_ge i xs.length with hx | hx
  · rw [List.getElem_append_left hx, List.getElem_append_left (by rw [h.1]; exact hx)]
    exact hup ((h.2.2 i hx (by rw [h.1]; exact hx)).ext he)
  · have e : i = xs.length := by simp at hi; omega
    subst e
    rw [List.getElem_append_right (Nat.le_refl _), List.getElem_append_right (by rw [h.1]; exact Nat.le_refl _)]
    simp only [h.1, Nat.sub_self, List.getElem_cons_zero]
    exact hup ht

section
variable {F : Nat → Prop} {w : World} {v : Value} {xs : List At}
set_option maxRecDepth 100000 in
set_option maxHeartbeats 6400000 in
theorem renamed25 (h : Ats F w v xs) (hb : Bd xs) :
    Calls Tryd.prog 26 #[v, .string ⟨#[118, 95]⟩] w (Ret (fun x w' => Ats (fun k => w.heap.size ≤ k) w' x (rnL xs)) w) := by
  obtain ⟨A, c, rfl, hc, hat⟩ := h.at'
  obtain ⟨n, hn⟩ : ∃ n, n = xs.length := ⟨_, rfl⟩
  have hl : n ≤ 1048576 := by rw [hn]; exact hb.len
  rw [← hn] at hc ⊢
  have HN := Lib.hid hn; have HAT := Lib.hid hat; have HBD := Lib.hid hb
  clear hn hat hb h
  obtain ⟨i0, hi0, hz0, hz1, hz2⟩ := info_parts info_atom
  have HI0 := Lib.hid (And.intro hi0 (And.intro hz0 (And.intro hz1 hz2))); clear hi0 hz0 hz1 hz2
  obtain ⟨j0, hj0, hy0, hy1, hy2⟩ := info_parts info_term
  have HJ0 := Lib.hid (And.intro hj0 (And.intro hy0 (And.intro hy1 hy2))); clear hj0 hy0 hy1 hy2
  go_enter Tryd.func26, Tryd.ntmps26
  go_wp2_with fail
  go_loopw [5, 6] (fun t p wr => ∃ (i : Nat) (vs : List Value), i ≤ n ∧ p = .int .i64 (i : Int) ∧ AtB wr w.heap.size t i (rnL (xs.take i)) vs ∧ Ext w wr) (fun _ p _ => n - (intOf p).toNat)
  case atStart => exact ⟨0, [], Nat.zero_le _, rfl, AtB.nil _ _, Ext.refl _⟩
  case round =>
    obtain ⟨i, vs, hi, rfl, hV, hext⟩ := hrel
    obtain ⟨Ao, co, rfl⟩ := own_slice hV.2.1
    obtain ⟨W, rfl⟩ : ∃ W : World, W = wr := ⟨_, rfl⟩
    have HV := Lib.hid hV; have HXT := Lib.hid hext
    have hwW : w.heap.size ≤ W.heap.size := hext.size
    by_cases hlt : i < n
    · have i1 : (0 : Int) ≤ (i : Int) := by omega
      have i2 : (i : Int) < (n : Int) := by omega
      have hix : i < xs.length := by have := HN.out; omega
      obtain ⟨ad, Bt, dt, rfl, -, c0, c1, c2, hd, hcl⟩ := HAT.out i hix
      replace c1 := hext.cell c1; replace c2 := hext.cell c2
      have htk : rnL (xs.take (i + 1)) = rnL (xs.take i) ++ [rnA xs[i]] := by unfold rnL; rw [List.take_succ_eq_append_getElem hix, List.map_append]; rfl
      have htl : xs[i].terms.length ≤ 1048576 := Nat.le_trans (terms_le hix) HBD.out.all
      have hsz : ∀ t ∈ xs[i].terms, t.var.size ≤ 1048576 := fun t ht => (HBD.out.str _ (List.getElem_mem hix) t ht).1
      obtain ⟨a, ha⟩ : ∃ a, a = xs[i] := ⟨_, rfl⟩
      rw [← ha] at c1 c2 hd hcl htk htl hsz
      obtain ⟨nt, hnt⟩ : ∃ k, k = a.terms.length := ⟨_, rfl⟩
      rw [← hnt] at c2 hd htl
      obtain ⟨ra, hra⟩ : ∃ k, k = a.rel := ⟨_, rfl⟩
      rw [← hra] at c1
      have HTK := Lib.hid htk; have HNT := Lib.hid hnt; have HRA := Lib.hid hra; have HCL := Lib.hid hcl; have HSZ := Lib.hid hsz
      have HC2 := Lib.hid c2
      clear hV hext c0 htk hnt hra hcl hsz ha
      go_upto_region 6 with fail
      have kx := Bk.new W 39 [.bool false, .string ra, .slice none 0 0]
      change Bk (W.alloc (.cells #[.bool false, .string ra, .slice none 0 0] 39)) _ _ _ at kx
      have hx : Ext W (W.alloc (.cells #[.bool false, .string ra, .slice none 0 0] 39)) := (Ext.refl W).alloc _
      have hw1 : W.heap.size < (W.alloc (.cells #[.bool false, .string ra, .slice none 0 0] 39)).heap.size := kx.lt
      generalize (W.alloc (.cells #[.bool false, .string ra, .slice none 0 0] 39)) = W1 at *
      have HKX := Lib.hid kx; have HX1 := Lib.hid hx
      clear kx hx c1 c2
      go_wp2_with fail
      go_loopw [8] (fun p wr => ∃ (k : Nat) (u : Value), k ≤ nt ∧ p = .int .i64 (k : Int) ∧ Bk wr W.heap.size 39 [.bool false, .string ra, u] ∧ wr.ownsRow W1.heap.size 66 4 u k (tcells ((a.terms.take k).map rnT)) ∧ Fr (fun b => b = W.heap.size) W1 wr) (fun p _ => nt - (intOf p).toNat)
      case atStart => exact ⟨0, _, Nat.zero_le _, rfl, HKX.out, World.ownsRow_nil _ _ _ _, Fr.refl _ _⟩
      case round =>
        obtain ⟨k, u, hk, rfl, hbk, hrow, hfr⟩ := hrel
        obtain ⟨Au, cu, rfl⟩ := own_slice hrow
        have HBK := Lib.hid hbk; have HROW := Lib.hid hrow; have HFR := Lib.hid hfr
        have hxr := hfr.new HX1.out (fun b hb => by omega)
        have HXR := Lib.hid hxr
        have c2 := hxr.cell HC2.out
        have g0 := hbk.cell (i := 0) (by simp); have g1 := hbk.cell (i := 1) (by simp); have g2 := hbk.cell (i := 2) (by simp)
        simp only [List.getElem_cons_zero, List.getElem_cons_succ] at g0 g1 g2
        have hwr1 : W1.heap.size ≤ wr.heap.size := hfr.size
        clear hbk hrow hfr
        by_cases hkt : k < nt
        · have k1 : (0 : Int) ≤ (k : Int) := by omega
          have k2 : (k : Int) < (nt : Int) := by omega
          have hkz : k < a.terms.length := by have := HNT.out; omega
          obtain ⟨adt, rfl, -, d0, d1, d2, d3⟩ := HCL.out.term (i := k) hkz
          have hxw := HXT.out.trans hxr
          replace d0 := hxw.cell d0; replace d1 := hxw.cell d1; replace d2 := hxw.cell d2; replace d3 := hxw.cell d3
          have htkk : (a.terms.take (k + 1)).map rnT = (a.terms.take k).map rnT ++ [rnT a.terms[k]] := by rw [List.take_succ_eq_append_getElem hkz, List.map_append]; rfl
          have hsk := HSZ.out _ (List.getElem_mem hkz)
          obtain ⟨x, hx⟩ : ∃ x, x = a.terms[k] := ⟨_, rfl⟩
          rw [← hx] at d0 d1 d2 d3 htkk hsk
          obtain ⟨xv, kd, it, st⟩ := x
          simp only at d0 d1 d2 d3 hsk
          have HTKX := Lib.hid htkk
          clear hx hxw htkk
          go_upto_region 10 with fail
          have kt := Bk.new wr 66 [.string xv, .int .i64 kd, .int .i64 it, .string st]
          change Bk (wr.alloc (.cells #[.string xv, .int .i64 kd, .int .i64 it, .string st] 66)) _ _ _ at kt
          have hx5 : Ext wr (wr.alloc (.cells #[.string xv, .int .i64 kd, .int .i64 it, .string st] 66)) := (Ext.refl wr).alloc _
          generalize (wr.alloc (.cells #[.string xv, .int .i64 kd, .int .i64 it, .string st] 66)) = w5 at *
          have t0 := kt.cell (i := 0) (by simp); have t1 := kt.cell (i := 1) (by simp); have t2 := kt.cell (i := 2) (by simp); have t3 := kt.cell (i := 3) (by simp); have tf := kt.free 0
          simp only [List.getElem_cons_zero, List.getElem_cons_succ] at t0 t1 t2 t3
          clear d0 d1 d2 d3
          by_cases hz : xv = ⟨#[]⟩
          · have HTKK : Hid ((a.terms.take (k + 1)).map rnT = (a.terms.take k).map rnT ++ [⟨xv, kd, it, st⟩]) := Lib.hid (by rw [HTKX.out, rnT_con hz])
            have hz2 := var_eq hz
            have HX6 := Lib.hid hx5
            obtain ⟨nv, rfl⟩ : ∃ nv, nv = xv := ⟨_, rfl⟩
            obtain ⟨w6, rfl⟩ : ∃ w6, w6 = w5 := ⟨_, rfl⟩
            replace g0 := hx5.cell g0; replace g1 := hx5.cell g1; replace g2 := hx5.cell g2
            clear hx5 kt hz
            go_wp2_with (first | (at_builtin; refine wpList_append_at rfl _ _ 37 rfl W1.heap.size 66 j0 (.agg #[.string ⟨#[]⟩, .int .i64 0, .int .i64 0, .string ⟨#[]⟩]) 4 48 Tryd.underlying37 HJ0.out.1 HJ0.out.2.1 HJ0.out.2.2.1 HJ0.out.2.2.2 rfl (by omega) (.slice Au k cu) k (tcells ((a.terms.take k).map rnT)) rfl ((own_ext' HROW.out HX6.out).alloc _) ⟨w6.heap.size, 0, none⟩ 1 1 [.string nv, .int .i64 kd, .int .i64 it, .string st] rfl rfl (laid_news w6 _ _) (by simp [Value.oneCell']) (by simp only [maxLen]; omega) (by omega) (by have := HX6.out.size; simp; omega) ?_; intro v8 w8 hr8 hg8 hl8; obtain ⟨A8, c8, rfl⟩ := own_slice hr8; have hxg : Ext wr (w6.alloc (.cells #[.string nv, .int .i64 kd, .int .i64 it, .string st] 66)) := HX6.out.alloc _; have hb8 : Bk w8 W.heap.size 39 [.bool false, .string ra, .slice Au k cu] := Bk.fr (HBK.out.ext hxg) (grown_fr hg8) (fun e => own_bk HROW.out HBK.out (by decide) e rfl); have q8 := hb8.cell (i := 2) (by simp); have f8 := hb8.free 2; simp only [List.getElem_cons_zero, List.getElem_cons_succ] at q8; have HB8 := Lib.hid hb8; have HR8 := Lib.hid hr8; have HF8 : Hid (Fr (fun b => b = W.heap.size) W1 w8) := Lib.hid ((HFR.out.ext hxg).grown hg8 (fun b hb => .inr (own_ge HROW.out hb))); clear hr8 hg8 hl8 hb8 hxg))
            have HBB := Lib.hid (HB8.out.set 2 (.slice A8 (k + 1) c8))
            have hfz : Fr (fun b => b = W.heap.size) w8 (w8.setCell ⟨W.heap.size, 2, none⟩ (.slice A8 (k + 1) c8)) := (Fr.refl (fun b => b = W.heap.size) w8).setCell (p := ⟨W.heap.size, 2, none⟩) (.inl rfl) _
            have HFF := Lib.hid (HF8.out.trans hfz)
            have HRR := Lib.hid (own_fr HR8.out hfz (fun b hb e => by have := own_ge HR8.out hb; omega))
            clear hfz
            go_roundw
            case rel => exact ⟨k + 1, .slice A8 (k + 1) c8, by omega, by go_num, HBB.out, by rw [HTKK.out, tcells_append]; exact HRR.out, HFF.out⟩
            case measure => simp [intOf]; omega
          · have HTKK : Hid ((a.terms.take (k + 1)).map rnT = (a.terms.take k).map rnT ++ [⟨pre xv, kd, it, st⟩]) := Lib.hid (by rw [HTKX.out, rnT_var hz])
            have hz2 := var_ne hz
            have HKT := Lib.hid kt; have HX5 := Lib.hid hx5
            clear hx5 kt hz
            go_upto_region 12 with fail
            obtain ⟨nv, hnv⟩ : ∃ nv, nv = (⟨#[118, 95]⟩ : ByteArray) ++ xv := ⟨_, rfl⟩
            have hpn : pre xv = nv := hnv.symm
            rw [hpn] at HTKK
            rw [← hnv]
            have hb6 := HKT.out.set 0 (.string nv)
            have hx6 : Ext wr (w5.setCell ⟨wr.heap.size, 0, none⟩ (.string nv)) := HX5.out.setCell (p := ⟨wr.heap.size, 0, none⟩) (Nat.le_refl _) _
            clear hnv hpn t0 t1 t2 t3 tf
            generalize (w5.setCell ⟨wr.heap.size, 0, none⟩ (.string nv)) = w6 at *
            have t0 := hb6.cell (i := 0) (by simp); have t1 := hb6.cell (i := 1) (by simp); have t2 := hb6.cell (i := 2) (by simp); have t3 := hb6.cell (i := 3) (by simp)
            simp at t0 t1 t2 t3
            have HX6 := Lib.hid hx6
            replace g0 := hx6.cell g0; replace g1 := hx6.cell g1; replace g2 := hx6.cell g2
            clear hx6 hb6
            go_wp2_with (first | (at_builtin; refine wpList_append_at rfl _ _ 37 rfl W1.heap.size 66 j0 (.agg #[.string ⟨#[]⟩, .int .i64 0, .int .i64 0, .string ⟨#[]⟩]) 4 48 Tryd.underlying37 HJ0.out.1 HJ0.out.2.1 HJ0.out.2.2.1 HJ0.out.2.2.2 rfl (by omega) (.slice Au k cu) k (tcells ((a.terms.take k).map rnT)) rfl ((own_ext' HROW.out HX6.out).alloc _) ⟨w6.heap.size, 0, none⟩ 1 1 [.string nv, .int .i64 kd, .int .i64 it, .string st] rfl rfl (laid_news w6 _ _) (by simp [Value.oneCell']) (by simp only [maxLen]; omega) (by omega) (by have := HX6.out.size; simp; omega) ?_; intro v8 w8 hr8 hg8 hl8; obtain ⟨A8, c8, rfl⟩ := own_slice hr8; have hxg : Ext wr (w6.alloc (.cells #[.string nv, .int .i64 kd, .int .i64 it, .string st] 66)) := HX6.out.alloc _; have hb8 : Bk w8 W.heap.size 39 [.bool false, .string ra, .slice Au k cu] := Bk.fr (HBK.out.ext hxg) (grown_fr hg8) (fun e => own_bk HROW.out HBK.out (by decide) e rfl); have q8 := hb8.cell (i := 2) (by simp); have f8 := hb8.free 2; simp only [List.getElem_cons_zero, List.getElem_cons_succ] at q8; have HB8 := Lib.hid hb8; have HR8 := Lib.hid hr8; have HF8 : Hid (Fr (fun b => b = W.heap.size) W1 w8) := Lib.hid ((HFR.out.ext hxg).grown hg8 (fun b hb => .inr (own_ge HROW.out hb))); clear hr8 hg8 hl8 hb8 hxg))
            have HBB := Lib.hid (HB8.out.set 2 (.slice A8 (k + 1) c8))
            have hfz : Fr (fun b => b = W.heap.size) w8 (w8.setCell ⟨W.heap.size, 2, none⟩ (.slice A8 (k + 1) c8)) := (Fr.refl (fun b => b = W.heap.size) w8).setCell (p := ⟨W.heap.size, 2, none⟩) (.inl rfl) _
            have HFF := Lib.hid (HF8.out.trans hfz)
            have HRR := Lib.hid (own_fr HR8.out hfz (fun b hb e => by have := own_ge HR8.out hb; omega))
            clear hfz
            go_roundw
            case rel => exact ⟨k + 1, .slice A8 (k + 1) c8, by omega, by go_num, HBB.out, by rw [HTKK.out, tcells_append]; exact HRR.out, HFF.out⟩
            case measure => simp [intOf]; omega
        · obtain rfl : k = nt := by omega
          have hdk : ¬ (k : Int) < (k : Int) := by omega
          have et : a.terms.take k = a.terms := by rw [HNT.out]; exact List.take_length
          have hxw := HXT.out.trans hxr
          have HVR := Lib.hid (HV.out.ext hxr); have HXWR := Lib.hid hxw
          have hts : Ts (fun b => w.heap.size ≤ b ∧ (Value.slice Ao i co).ownBlock ≠ some b) wr (.slice Au k cu) (rnA a).terms := by
            have h := HROW.out
            rw [et] at h
            have hlen : (rnA a).terms.length = k := by show (a.terms.map rnT).length = k; rw [List.length_map]; exact HNT.out.symm
            have h1 := Ts.of_own h
            refine Ts.mono (F := fun b => (Value.slice Au k cu).ownBlock = some b ∧ W1.heap.size ≤ b) h1 (fun b _ hb => ⟨by have := hb.2; omega, fun e => by have h2 := (HV.out.2.1.lt b e).2; have := hb.2; omega⟩)
          have HTS := Lib.hid hts
          have hwr : w.heap.size ≤ wr.heap.size := hxw.size
          clear et hxw hts hxr
          go_wp2_with (first | (at_builtin; refine wpList_append_at rfl _ _ 22 rfl w.heap.size 39 i0 (.agg #[.bool false, .string ⟨#[]⟩, .slice none 0 0]) 3 48 Tryd.underlying22 HI0.out.1 HI0.out.2.1 HI0.out.2.2.1 HI0.out.2.2.2 rfl (by omega) (.slice Ao i co) i (acells (rnL (xs.take i)) vs) rfl (HVR.out.2.1.alloc _) ⟨wr.heap.size, 0, none⟩ 1 1 [.bool false, .string ra, .slice Au k cu] rfl rfl (laid_news wr _ _) (by simp [Value.oneCell']) (by simp only [maxLen]; omega) (by omega) (by simp; omega) ?_; intro v8 w8 hr8 hg8 hl8; have HR8 : Hid (AtB w8 w.heap.size v8 (i + 1) (rnL (xs.take i) ++ [rnA a]) (vs ++ [.slice Au k cu])) := Lib.hid (AtB.more HVR.out ((Ext.refl wr).alloc _) (HTS.out.ext ((Ext.refl wr).alloc _)) (by rw [HRA.out] at hr8; exact hr8) hg8 hl8); have HE8 : Hid (Ext w w8) := Lib.hid ((HXWR.out.alloc _).grown hg8 (fun q hq => own_ge HVR.out.2.1 hq)); clear hr8 hg8 hl8))
          go_roundw
          case rel => exact ⟨i + 1, vs ++ [.slice Au k cu], by omega, by go_num, by rw [HTK.out]; exact HR8.out, HE8.out⟩
          case measure => simp [intOf]; omega
    · obtain rfl : i = n := by omega
      have hdi : ¬ (i : Int) < (i : Int) := by omega
      have et : xs.take i = xs := by rw [HN.out]; exact List.take_length
      rw [et] at hV
      have HRES := Lib.hid hV.ats
      clear hV et
      go_wp2_with fail
      go_ret
      exact Ret.mk HXT.out HRES.out
end
end Go.Proofs.YtehklbdgkppmeaaDoor
