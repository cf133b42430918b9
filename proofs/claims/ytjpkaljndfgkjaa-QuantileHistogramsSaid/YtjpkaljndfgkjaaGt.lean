/- Contract: quantile.Histogram. -/
import Derived.Test.YtjpkaljndfgkjaaZe
namespace Go.Proofs.Ytjpkaljndfgkjaa
open Go.RowKit

theorem cut_mono (n p i : Nat) : cutAt n p i ≤ cutAt n p (i + 1) := by rw [cutAt_succ]; omega
theorem cut_end {n p i : Nat} (hp : 0 < p) (hi : i < p) : cutAt n p (i + 1) ≤ n := cutAt_le hp (by omega)
/-- The bin of a part, if it has rows. -/
def binAt (rs : List (List R.Vl)) (p i : Nat) : Option R.Bn :=
  if cutAt rs.length p (i + 1) - cutAt rs.length p i = 0 then none else some ⟨rs.getD (cutAt rs.length p i) [], rs.getD (cutAt rs.length p (i + 1) - 1) [], cutAt rs.length p (i + 1) - cutAt rs.length p i⟩
def histL (rs : List (List R.Vl)) (p k : Nat) : List R.Bn := (List.range k).filterMap (binAt rs p)
theorem histL_none {rs : List (List R.Vl)} {p k : Nat} (h : binAt rs p k = none) : histL rs p (k + 1) = histL rs p k := by
  unfold histL
  rw [List.range_succ, List.filterMap_append]
  simp [h]
theorem histL_some {rs : List (List R.Vl)} {p k : Nat} {b : R.Bn} (h : binAt rs p k = some b) : histL rs p (k + 1) = histL rs p k ++ [b] := by
  unfold histL
  rw [List.range_succ, List.filterMap_append]
  simp [h]
theorem getD_at {rs : List (List R.Vl)} {k : Nat} (hk : k < rs.length) : rs.getD k [] = rs[k] := by simp [List.getElem?_eq_getElem hk]
theorem R.rdNfx {F : Nat → Prop} {w w' : World} {v : Value} {n : Nat} (h : R.Nf F w v n) (he : R.Ext w w') : R.Nf F w' v n := let ⟨A, c, e, h1, h2, h3⟩ := h; ⟨A, c, e, h1, h2, h3.ext he⟩
/-- What Histogram leaves. -/
def HistPost (rs : List (List R.Vl)) (p : Nat) (w : World) (e : Ending) (w' : World) : Prop := Ext w w' ∧ ∃ A c, e = .returned (.tuple #[.slice A (histL rs p p).length c, .int .i64 0]) ∧ R.Sl R.rdBn (fun q => w.heap.size ≤ q) w' (.slice A (histL rs p p).length c) (histL rs p p)
set_option maxRecDepth 20000 in
set_option maxHeartbeats 6400000 in
theorem hist_any {F : Nat → Prop} {w : World} {v : Value} {rs : List (List R.Vl)} {p : Nat} (hA : R.ArV F w v rs) (hn : rs.length ≤ 1000) (hr : ∀ x ∈ rs, x.length ≤ 1048576) (h0 : 0 < p) (hp : p ≤ 1024) :
    Calls Try.prog 18 #[.iface 32 v, .int .i64 (p : Int)] w (HistPost rs p w) := by
  have hd1 : decide ((p : Int) < 1) = false := by simp; omega
  have hd2 : decide ((1024 : Int) < p) = false := by simp; omega
  have hd3 : ¬ (p : Int) < 1 := by omega
  have hd4 : ¬ (1024 : Int) < (p : Int) := by omega
  have HAR := Lib.hid (fun (V : World) (hV : Ext w V) => R.ArV.ext hA hV)
  obtain ⟨n, hnq⟩ : ∃ n, n = rs.length := ⟨_, rfl⟩
  have HLN := Lib.hid (len_o hA (by omega))
  rw [← hnq] at HLN hn
  have HNQ := Lib.hid hnq; have HR := Lib.hid hr
  obtain ⟨i0, hi0, hz0, hz1, hz2⟩ := info_parts R.info_bin
  have HI := Lib.hid (And.intro hi0 (And.intro hz0 (And.intro hz1 hz2)))
  have hml := meth_len v; have hma := meth_at v
  clear hi0 hz0 hz1 hz2 hA hr hnq
  go_enter Try.func18, Try.ntmps18
  go_wp2_with fail
  refine HLN.out.mono ?_
  rintro e w1 ⟨x, rfl, he1, hx⟩
  have HE1 := Lib.hid he1; have HXN := Lib.hid hx
  clear he1 hx
  go_wp2_with fail
  refine (boundaries_any HXN.out.nv h0 hp (Nat.le_trans (dig_len_u64 (by omega)) (by omega))).mono ?_
  rintro e w2 ⟨f, rfl, he, g1, g2, A, k, c, rfl, d0, d1, hq⟩
  have HX2 := Lib.hid (HE1.out.trans he); have HQ := Lib.hid hq
  clear hd1 hd2 hd3 hd4 he hq
  go_wp2_with fail
  go_loopw [7, 33] (fun t q wr => ∃ (i m : Nat) (l : List R.Bn) (css : List (List Value)), i ≤ p ∧ q = .int .i64 (i : Int) ∧ R.Rw R.rdBn wr w2.heap.size 70 t m l css ∧ Hid (l = histL rs p i) ∧ m ≤ i ∧ Ext w2 wr) (fun _ q _ => p - (intOf q).toNat)
  case atStart => exact ⟨0, 0, [], [], Nat.zero_le _, rfl, R.Rw.empty _ _ _ _, Lib.hid rfl, Nat.le_refl _, Ext.refl _⟩
  case round =>
    obtain ⟨i, m, l, css, hi, rfl, hrw, HL, hmi, hxw⟩ := hrel
    obtain ⟨Ao, co, rfl⟩ := R.own_slice hrw.own
    obtain ⟨W, rfl⟩ : ∃ W : World, W = wr := ⟨_, rfl⟩
    have HRW := Lib.hid hrw; have HXW := Lib.hid hxw
    have hszW : w2.heap.size ≤ W.heap.size := hxw.size
    by_cases hlt : i < p
    · have hrm : n % p < 1024 := Nat.lt_of_lt_of_le (Nat.mod_lt _ h0) hp
      have hm1 := cut_mono n p i
      have hm2 := cut_end (n := n) h0 hlt
      have hba : binAt rs p i = if cutAt n p (i + 1) - cutAt n p i = 0 then none else some ⟨rs.getD (cutAt n p i) [], rs.getD (cutAt n p (i + 1) - 1) [], cutAt n p (i + 1) - cutAt n p i⟩ := by rw [HNQ.out]; rfl
      have HBA := Lib.hid hba
      have HBL := Lib.hid (boundary_any (i := i) (hxw.cell d0) (hxw.cell d1) (HQ.out.ext hxw) (by omega) hrm (div_len (Nat.le_trans (dig_len_u64 (by omega)) (by omega))))
      have HBH := Lib.hid (fun (V : World) (hV : Ext W V) => boundary_any (w := V) (i := i + 1) ((hxw.trans hV).cell d0) ((hxw.trans hV).cell d1) (HQ.out.ext (hxw.trans hV)) (by omega) hrm (div_len (Nat.le_trans (dig_len_u64 (by omega)) (by omega))))
      rw [show i * (n / p) + min i (n % p) = cutAt n p i from rfl] at HBL
      rw [show (i + 1) * (n / p) + min (i + 1) (n % p) = cutAt n p (i + 1) from rfl] at HBH
      obtain ⟨lo, hlo⟩ : ∃ q, q = cutAt n p i := ⟨_, rfl⟩
      obtain ⟨hh, hhq⟩ : ∃ q, q = cutAt n p (i + 1) := ⟨_, rfl⟩
      rw [← hlo] at HBL HBA hm1
      rw [← hhq] at HBH HBA hm1 hm2
      have hi1 : IntKind.i64.wrap ((i : Int) + 1) = ((i + 1 : Nat) : Int) := by rw [IntKind.wrap_i64]; omega
      have hi2 : (i : Int) + 1 = ((i + 1 : Nat) : Int) := by omega
      have HI2 := Lib.hid hi2
      clear hba hlo hhq hi1 hi2 hrm hrw hxw
      go_wp2_with fail
      refine HBL.out.mono ?_
      rintro e w3 ⟨xl, rfl, he3, hl3⟩
      have HE3 := Lib.hid he3; have HL3 := Lib.hid hl3
      clear he3 hl3
      go_wp2_with fail
      rw [HI2.out]
      refine (HBH.out _ HE3.out).mono ?_
      rintro e w4 ⟨xh, rfl, he4, hh4⟩
      have HE4 := Lib.hid (HE3.out.trans he4); have HL4 := Lib.hid (HL3.out.ext he4); have HH4 := Lib.hid hh4
      clear he4 hh4
      rw [← HI2.out]
      go_wp2_with fail
      refine (sub_fresh HH4.out.nv HL4.out.nv hm1 (Nat.le_trans (dig_len_u64 (by omega)) (by omega))).mono ?_
      rintro e w5 ⟨_, rfl, he5, g5, c5, hg5, rfl, hd5⟩
      have HE5 := Lib.hid (HE4.out.trans he5); have HL5 := Lib.hid (HL4.out.ext he5); have HH5 := Lib.hid (HH4.out.ext he5); have HD5 := Lib.hid hd5
      have hsz4 : W.heap.size ≤ w4.heap.size := HE4.out.size
      have hsz5 : w4.heap.size ≤ w5.heap.size := he5.size
      have hlt5 : Hid (0 < hh - lo → g5 < w5.heap.size) := Lib.hid (fun h => by
        obtain ⟨-, -, A5, c5', e5, -, hx5⟩ := hd5
        simp only [List.length_map] at e5 hx5
        injection e5 with e5
        subst e5
        obtain ⟨ad, e6, h6⟩ := hx5 (dig_pos.2 h)
        injection e6 with e6
        subst e6
        have := cell_lt (h6 0 (by simpa using dig_pos.2 h))
        rw [block_add] at this
        exact this)
      clear he5 hd5
      have hw5 : W.heap.size ≤ w5.heap.size := by omega
      have hdp := dig_pos (n := hh - lo)
      obtain ⟨nd, hnd⟩ : ∃ q, q = (dig (hh - lo)).length := ⟨_, rfl⟩
      rw [← hnd] at hdp ⊢
      have HND := Lib.hid hnd; have HDP := Lib.hid hdp
      clear hnd hdp
      by_cases hz : hh - lo = 0
      · have hnd0 : nd = 0 := by
          rcases Nat.eq_zero_or_pos nd with h | h
          · exact h
          · exfalso
            have := HDP.out.1 h
            clear hszW hsz4 hsz5
            omega
        subst hnd0
        have HL2 : Hid (l = histL rs p (i + 1)) := Lib.hid (by rw [histL_none (by rw [HBA.out, if_pos hz])]; exact HL.out)
        have HRW5 := Lib.hid (R.Rw.ext HRW.out HE5.out); have HXW5 := Lib.hid (HXW.out.trans HE5.out)
        clear hz
        go_wp2_with fail
        go_roundw
        case rel => exact ⟨i + 1, m, l, css, by omega, by go_num, HRW5.out, HL2, by omega, HXW5.out⟩
        case measure => simp [intOf]; omega
      · have hndp : 0 < nd := HDP.out.2 (by omega)
        have hnb : ((nd : Int) == 0) = false := by rw [beq_eq_false_iff_ne]; omega
        have hlr : lo < rs.length := by have := HNQ.out; omega
        have hhr : hh - 1 < rs.length := by have := HNQ.out; omega
        have HL2 : Hid (l ++ [⟨rs[lo]'hlr, rs[hh - 1]'hhr, hh - lo⟩] = histL rs p (i + 1)) := Lib.hid (by
          rw [histL_some (by rw [HBA.out, if_neg hz])]
          rw [getD_at hlr, getD_at hhr, HL.out])
        have HRL1 := Lib.hid (HR.out _ (List.getElem_mem hlr)); have HRL2 := Lib.hid (HR.out _ (List.getElem_mem hhr))
        have HAT1 := Lib.hid (fun (V : World) (hV : Ext w5 V) => at_yes (HAR.out _ (HX2.out.trans (HXW.out.trans (HE5.out.trans hV)))) (by have := HNQ.out; omega) HR.out (HL5.out.ext hV).nv hlr)
        have HAT2 := Lib.hid (fun (V : World) (hV : Ext w5 V) (u : Value) (hu : Nz V u (hh - 1)) => at_yes (HAR.out _ (HX2.out.trans (HXW.out.trans (HE5.out.trans hV)))) (by have := HNQ.out; omega) HR.out hu.nv hhr)
        obtain ⟨y1, hy1⟩ : ∃ y, y = rs[lo]'hlr := ⟨_, rfl⟩
        obtain ⟨y2, hy2⟩ : ∃ y, y = rs[hh - 1]'hhr := ⟨_, rfl⟩
        rw [← hy1] at HAT1 HRL1 HL2
        rw [← hy2] at HAT2 HRL2 HL2
        obtain ⟨n1, hn1⟩ : ∃ q, q = y1.length := ⟨_, rfl⟩
        obtain ⟨n2, hn2⟩ : ∃ q, q = y2.length := ⟨_, rfl⟩
        rw [← hn1] at HAT1 HRL1
        rw [← hn2] at HAT2 HRL2
        have hg5' := hlt5.out (by omega)
        have hh1 : 1 ≤ hh := by omega
        clear hz hlr hhr hy1 hy2 hn1 hn2
        go_wp2_with fail
        refine (HAT1.out _ (Ext.refl _)).mono ?_
        rintro e w6 ⟨A6, c6, rfl, hs6, he6⟩
        have HE6 := Lib.hid he6; have HS6 := Lib.hid hs6
        clear he6 hs6
        go_wp2_with fail
        refine (of_nz 1 (by omega) _).mono ?_
        rintro e w7 ⟨u7, rfl, he7, hu7⟩
        have HE7 := Lib.hid (HE6.out.trans he7); have HU7 := Lib.hid hu7
        have HS7 := Lib.hid (R.Sl.ext HS6.out he7)
        clear he7 hu7
        go_wp2_with fail
        refine (sub_nv (HH5.out.ext HE7.out).nv HU7.out.nv (by omega) (Nat.le_trans (dig_len_u64 (by omega)) (by omega))).mono ?_
        rintro e w8 ⟨_, rfl, he8, d8, rfl, hd8⟩
        have HE8 := Lib.hid (HE7.out.trans he8); have HD8 := Lib.hid hd8; have HS8 := Lib.hid (R.Sl.ext HS7.out he8)
        clear he8 hd8
        go_wp2_with fail
        refine (HAT2.out _ HE8.out _ HD8.out).mono ?_
        rintro e w9 ⟨A9, c9, rfl, hs9, he9⟩
        have HE9 := Lib.hid (HE8.out.trans he9); have HS9 := Lib.hid (R.Sl.ext HS8.out he9); have HT9 := Lib.hid hs9
        clear he9 hs9
        go_wp2_with fail
        refine (R.clone_row HS9.out HRL1.out).mono ?_
        rintro e w10 ⟨y10, rfl, he10, A10, c10, rfl, hs10⟩
        have he10' : Ext w9 w10 := he10
        have HE10 := Lib.hid (HE9.out.trans he10'); have HS10 := Lib.hid hs10; have HT10 := Lib.hid (R.Sl.ext HT9.out he10)
        clear he10 he10' hs10
        go_wp2_with fail
        refine (R.clone_row HT10.out HRL2.out).mono ?_
        rintro e w11 ⟨y11, rfl, he11, A11, c11, rfl, hs11⟩
        have he11' : Ext w10 w11 := he11
        have HE11 := Lib.hid (HE10.out.trans he11'); have HS11 := Lib.hid (R.Sl.ext HS10.out he11); have HT11 := Lib.hid hs11
        have hsz9 : w5.heap.size ≤ w9.heap.size := HE9.out.size
        have hsz10 : w5.heap.size ≤ w10.heap.size := HE10.out.size
        have hsz11 : w5.heap.size ≤ w11.heap.size := HE11.out.size
        have hszE : w4.heap.size ≤ w5.heap.size := hsz5
        clear he11 he11' hs11
        have HRWX := Lib.hid (R.Rw.ext HRW.out (HE5.out.trans HE11.out))
        have HXWX := Lib.hid (HXW.out.trans (HE5.out.trans HE11.out))
        have HOWN : Hid (∀ b, (Value.slice Ao m co).ownBlock = some b → w2.heap.size ≤ b ∧ b < W.heap.size) := Lib.hid (fun b hb => HRW.out.own.lt b hb)
        have HB1 : Hid (R.Sl R.rdVl (fun q => w2.heap.size ≤ q ∧ (Value.slice Ao m co).ownBlock ≠ some q) w11 (.slice A10 n1 c10) y1) := Lib.hid (HS11.out.mono (by decide) (fun q _ hq => ⟨by omega, fun e => by have := HOWN.out q e; omega⟩))
        have HB2 : Hid (R.Sl R.rdVl (fun q => w2.heap.size ≤ q ∧ (Value.slice Ao m co).ownBlock ≠ some q) w11 (.slice A11 n2 c11) y2) := Lib.hid (HT11.out.mono (by decide) (fun q _ hq => ⟨by omega, fun e => by have := HOWN.out q e; omega⟩))
        have HB3 : Hid (R.Nf (fun q => w2.heap.size ≤ q ∧ (Value.slice Ao m co).ownBlock ≠ some q) w11 (.slice (some ⟨g5, 0, none⟩) nd c5) (hh - lo)) := Lib.hid (R.Nf.of (by have h := HD5.out.ext HE11.out; rw [← HND.out] at h; exact h) (fun ad e => by
          injection e with e
          subst e
          exact ⟨by show w2.heap.size ≤ g5; omega, fun e => by have h9 := HOWN.out g5 e; omega⟩))
        have hmc : m ≤ 1024 := by omega
        go_wp2_with (first
          | (at_builtin; refine R.wpList_append_at rfl _ _ 53 rfl w2.heap.size 70 i0 (.agg #[.slice none 0 0, .slice none 0 0, .slice none 0 0]) 3 72 Try.underlying53 HI.out.1 HI.out.2.1 HI.out.2.2.1 HI.out.2.2.2 rfl (by omega) (.slice Ao m co) m css.flatten rfl (HRWX.out.own.alloc _) ⟨w11.heap.size, 0, none⟩ 1 1 [.slice A10 n1 c10, .slice A11 n2 c11, .slice (some ⟨g5, 0, none⟩) nd c5] rfl rfl (R.laid_news w11 _ _) (by simp [Value.oneCell']) (by simp only [maxLen]; omega) (by omega) (by simp; omega) ?_; intro v8 w12 hr8 hg8 hl8; obtain ⟨A8, c8, e8⟩ := R.own_slice hr8; subst e8; have hxa := (R.Ext.refl w11).alloc (.cells #[.slice A10 n1 c10, .slice A11 n2 c11, .slice (some ⟨g5, 0, none⟩) nd c5] 70); have HRW8 := Lib.hid (R.Rw.more (x := (⟨y1, y2, hh - lo⟩ : R.Bn)) HRWX.out hxa ⟨_, _, _, rfl, HB1.out.ext hxa, HB2.out.ext hxa, R.rdNfx HB3.out hxa⟩ hr8 hg8 hl8); have HX8 := Lib.hid (R.Ext.grown (R.Ext.trans HXWX.out hxa) hg8 (fun b hb => (HOWN.out b hb).1)); clear hxa hr8 hg8 hl8))
        go_roundw
        case rel => exact ⟨i + 1, m + 1, _, _, by omega, by go_num, HRW8.out, HL2, by omega, HX8.out⟩
        case measure => simp [intOf]; omega
    · obtain rfl : i = p := by omega
      have hdi : ¬ (i : Int) < (i : Int) := by omega
      have HQ2 : Hid (HistPost rs i w (.returned (.tuple #[.slice Ao m co, .int .i64 0])) W) := Lib.hid (by
        have h1 := hrw.sl (by decide)
        have h2 := h1.cap.1
        rw [HL.out] at h1 h2
        subst h2
        exact ⟨HX2.out.trans hxw, Ao, co, rfl, h1.mono (by decide) (fun k _ hk => by have := HX2.out.size; omega)⟩)
      clear hrw hxw
      go_wp2_with fail
      go_ret2
      exact HQ2.out
theorem hist_err {F : Nat → Prop} {w : World} {v : Value} {rs : List (List R.Vl)} {p : Int} (_hA : R.ArV F w v rs) (hp : p < 1 ∨ 1024 < p) :
    Calls Try.prog 18 #[.iface 32 v, .int .i64 p] w (fun e w' => e = .returned (.tuple #[.slice none 0 0, .int .i64 3]) ∧ w = w') := by
  rcases hp with hp | hp
  · have hd1 : decide (p < 1) = true := by simp; omega
    go_enter Try.func18, Try.ntmps18
    go_wp2_with fail
    go_ret2
    exact ⟨rfl, rfl⟩
  · have hd1 : decide (p < 1) = false := by simp; omega
    have hd2 : decide ((1024 : Int) < p) = true := by simp; omega
    go_enter Try.func18, Try.ntmps18
    go_wp2_with fail
    go_ret2
    exact ⟨rfl, rfl⟩
theorem hist_nil {w : World} {u : Value} :
    Calls Try.prog 18 #[.nilIface, u] w (fun e w' => e = .returned (.tuple #[.slice none 0 0, .int .i64 1]) ∧ w = w') := by
  go_enter Try.func18, Try.ntmps18
  go_wp2_with fail
  go_ret2
  exact ⟨rfl, rfl⟩
end Go.Proofs.Ytjpkaljndfgkjaa
