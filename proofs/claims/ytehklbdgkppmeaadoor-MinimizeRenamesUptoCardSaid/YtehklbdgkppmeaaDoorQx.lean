/- Contract: ordinalref25.Core. -/
import Derived.Test.YtehklbdgkppmeaaDoorQw
namespace Go.Proofs.YtehklbdgkppmeaaDoor
open Go.RowKit Go.Maps

def anySame (D : List At) (a : At) : Bool := D.any (fun b => sameA b a)
theorem anySame_snoc {D : List At} {a : At} {j : Nat} (h : j < D.length) : anySame (D.take (j + 1)) a = (anySame (D.take j) a || sameA D[j] a) := by
  unfold anySame; rw [List.take_succ_eq_append_getElem h, List.any_append]; simp
def hasAll (V K : List ByteArray) : Bool := K.all (fun v => decide (v ∈ V))
theorem hasAll_snoc {V K : List ByteArray} {j : Nat} (h : j < K.length) : hasAll V (K.take (j + 1)) = (hasAll V (K.take j) && decide (K[j] ∈ V)) := by
  unfold hasAll; rw [List.take_succ_eq_append_getElem h, List.all_append]; simp
def coreRef (xs : List At) (fx : List ByteArray) : List At := coreL (okR (keepR (varsT (allT (dedR xs))) fx)) (dedR xs).length (dedR xs)
theorem Cl.str {F : Nat → Prop} {w : World} {A : Option Addr} {l : List ByteArray} (h : Cl F w A (l.map Sv)) {i : Nat} (hi : i < l.length) : ∃ ad, A = some ad ∧ F ad.block ∧ w.cell? (ad.add i) = some (.string l[i]) := h.at' (by simp [hi])

theorem Ats.sl {F : Nat → Prop} {w : World} {v : Value} {xs : List At} (h : Ats F w v xs) : ∃ A c, v = .slice A xs.length c := let ⟨A, c, _, e, _⟩ := h; ⟨A, c, e⟩
theorem Strs.mono' {F G : Nat → Prop} {w : World} {v : Value} {l : List ByteArray} (h : Strs F w v l) (hs : ∀ k, F k → G k) : Strs G w v l := let ⟨A, c, h1, h2, h3⟩ := h; ⟨A, c, h1, h2, h3.mono (fun k _ => hs k)⟩

set_option maxRecDepth 20000 in
set_option maxHeartbeats 3200000 in
theorem core25 {F G : Nat → Prop} {w : World} {vX vf : Value} {xs : List At} {fx : List ByteArray} (hX : Ats F w vX xs) (hf : Strs G w vf fx) (hl : xs.length ≤ 50) (ht : ∀ a ∈ xs, a.terms.length ≤ 1000) (hfl : fx.length ≤ 1000) :
    Calls Tryd.prog 14 #[vX, vf] w (Ret (fun x w' => Ats (fun _ => True) w' x (coreRef xs fx)) w) := by
  obtain ⟨A, c, rfl, hc, hat⟩ := hX.at'
  obtain ⟨B, cB, rfl, hcB, hclB⟩ := hf
  obtain ⟨n, hn⟩ : ∃ n, n = xs.length := ⟨_, rfl⟩
  obtain ⟨nf, hnf⟩ : ∃ n, n = fx.length := ⟨_, rfl⟩
  rw [← hn] at hc hl ⊢
  rw [← hnf] at hcB hfl ⊢
  have HN := Lib.hid hn; have HNF := Lib.hid hnf; have HAT := Lib.hid hat; have HB := Lib.hid hclB; have HT := Lib.hid ht
  clear hn hnf hat hclB ht hX
  obtain ⟨i0, hi0, hz0, hz1, hz2⟩ := info_parts info_atom
  have HI0 := Lib.hid (And.intro hi0 (And.intro hz0 (And.intro hz1 hz2))); clear hi0 hz0 hz1 hz2
  obtain ⟨j0, hj0, hy0, hy1, hy2⟩ := info_parts info_str
  have HJ0 := Lib.hid (And.intro hj0 (And.intro hy0 (And.intro hy1 hy2))); clear hj0 hy0 hy1 hy2
  go_enter Tryd.func14, Tryd.ntmps14
  go_wp2_with fail
  go_loopw [5, 6] (fun t q wr => ∃ i m : Nat, i ≤ n ∧ q = .int .i64 (i : Int) ∧ AtR wr w.heap.size t m (dedR (xs.take i)) ∧ Ext w wr) (fun _ q _ => n - (intOf q).toNat)
  case atStart => exact ⟨0, 0, Nat.zero_le _, rfl, AtR.nil _ _, Ext.refl _⟩
  case round =>
    obtain ⟨i, m, hi, rfl, hR, hext⟩ := hrel
    obtain ⟨Ao, co, rfl⟩ := hR.sl
    have hnum := hR.num
    have hDl : (dedR (xs.take i)).length ≤ 50 := by
      have h := dedR_length (xs.take i)
      rw [List.length_take] at h
      omega
    obtain ⟨W, rfl⟩ : ∃ W : World, W = wr := ⟨_, rfl⟩
    by_cases hlt : i < n
    · have i1 : (0 : Int) ≤ (i : Int) := by omega
      have i2 : (i : Int) < (n : Int) := by omega
      have hix : i < xs.length := by have := HN.out; omega
      obtain ⟨ad, Bt, dt, rfl, -, c0, c1, c2, hd, hcl⟩ := HAT.out i hix
      replace c0 := hext.cell c0; replace c1 := hext.cell c1; replace c2 := hext.cell c2
      have htk : dedR (xs.take (i + 1)) = if anySame (dedR (xs.take i)) xs[i] = true then dedR (xs.take i) else dedR (xs.take i) ++ [xs[i]] := by rw [List.take_succ_eq_append_getElem hix, dedR_snoc]; rfl
      have htl := HT.out _ (List.getElem_mem hix)
      obtain ⟨a, ha⟩ : ∃ a, a = xs[i] := ⟨_, rfl⟩
      rw [← ha] at c0 c1 c2 hd hcl htk htl
      obtain ⟨D, hD⟩ : ∃ D, D = dedR (xs.take i) := ⟨_, rfl⟩
      rw [← hD] at hR htk hDl hnum
      obtain ⟨nt, hnt⟩ : ∃ k, k = a.terms.length := ⟨_, rfl⟩
      obtain ⟨ng, hng⟩ : ∃ k, k = a.neg := ⟨_, rfl⟩
      obtain ⟨ra, hra⟩ : ∃ k, k = a.rel := ⟨_, rfl⟩
      rw [← hng] at c0
      rw [← hra] at c1
      rw [← hnt] at c2 hd htl
      have hm50 : m ≤ 50 := by omega
      have HX := Lib.hid hext; have HR := Lib.hid hR; have HTK := Lib.hid htk; have HM := Lib.hid hnum; have HNT := Lib.hid hnt; have HNG := Lib.hid hng; have HRA := Lib.hid hra; have HCL := Lib.hid hcl
      have HC := Lib.hid (And.intro c0 (And.intro c1 c2)); have HDD := Lib.hid hD
      have HD := Lib.hid hR.ats.at2
      have hwW : w.heap.size ≤ W.heap.size := hext.size
      clear hext hR htk hDl hnum hD ha hnt hng hra hcl c0 c1 c2
      go_wp2_with fail
      go_loopw [7, 8] (fun t q wx => ∃ j : Nat, j ≤ m ∧ q = .int .i64 (j : Int) ∧ t = .bool (anySame (D.take j) a) ∧ Ext W wx) (fun _ q _ => m - (intOf q).toNat)
      case atStart => exact ⟨0, Nat.zero_le _, rfl, by simp [anySame], Ext.refl _⟩
      case round =>
        obtain ⟨j, hj, rfl, rfl, hex⟩ := hrel
        have HEX := Lib.hid hex
        obtain ⟨c0, c1, c2⟩ := HC.out
        replace c0 := hex.cell c0; replace c1 := hex.cell c1; replace c2 := hex.cell c2
        have hwr : W.heap.size ≤ wr.heap.size := hex.size
        by_cases hjm : j < m
        · have j1 : (0 : Int) ≤ (j : Int) := by omega
          have j2 : (j : Int) < (m : Int) := by omega
          have hjl : j < D.length := by have := HM.out; omega
          obtain ⟨ad2, BY, dY, rfl, -, e0, e1, e2, hdY, hclY⟩ := HD.out j hjl
          replace e0 := hex.cell e0; replace e1 := hex.cell e1; replace e2 := hex.cell e2
          have htj := anySame_snoc (a := a) hjl
          obtain ⟨b, hb⟩ : ∃ b, b = anySame (D.take j) a := ⟨_, rfl⟩
          rw [← hb] at htj ⊢
          obtain ⟨y, hy⟩ : ∃ y, y = D[j] := ⟨_, rfl⟩
          rw [← hy] at e0 e1 e2 hdY hclY htj
          have hyl : y.terms.length ≤ 1000 := HT.out y (List.mem_of_mem_take (i := i) (dedR_mem (by rw [← HDD.out, hy]; exact List.getElem_mem hjl)))
          obtain ⟨ny, hny⟩ : ∃ k, k = y.terms.length := ⟨_, rfl⟩
          obtain ⟨nh, hnh⟩ : ∃ k, k = y.neg := ⟨_, rfl⟩
          obtain ⟨ry, hry⟩ : ∃ k, k = y.rel := ⟨_, rfl⟩
          rw [← hnh] at e0
          rw [← hry] at e1
          rw [← hny] at e2
          obtain ⟨s, hs⟩ : ∃ s, s = sameA y a := ⟨_, rfl⟩
          rw [← hs] at htj
          have HTJ := Lib.hid htj
          clear htj hb hy
          rcases b with _ | _
          · have HSAME : Hid (∀ V : World, Ext wr V → Calls Tryd.prog 36 #[.agg #[.bool nh, .string ry, .slice BY ny dY], .agg #[.bool ng, .string ra, .slice Bt nt dt]] V (Ret (fun z _ => z = .bool s) V)) := Lib.hid (fun V hV => by
              have h := same25 (na := nh) (nb := ng) (ra := ry) (rb := ra) (hclY.ext (hex.trans hV)) (HCL.out.ext ((HX.out.trans hex).trans hV)) hdY (by rw [← HNT.out]; exact hd) (by omega)
              rw [hs, sameA, ← HRA.out, ← hry, HNT.out, hny]
              exact h)
            clear hdY hclY hny hnh hry hs hyl hex
            go_upto_region 9 with fail
            go_region_held3 (fun V => Ext wr V ∧ V.cell? (ad.add (i * 3)) = some (.bool ng) ∧ V.cell? ⟨(ad.add (i * 3)).block, (ad.add (i * 3)).off + 1, none⟩ = some (.string ra) ∧ V.cell? ⟨(ad.add (i * 3)).block, (ad.add (i * 3)).off + 2, none⟩ = some (.slice Bt nt dt) ∧ V.cell? (ad2.add (j * 3)) = some (.bool nh) ∧ V.cell? ⟨(ad2.add (j * 3)).block, (ad2.add (j * 3)).off + 1, none⟩ = some (.string ry) ∧ V.cell? ⟨(ad2.add (j * 3)).block, (ad2.add (j * 3)).off + 2, none⟩ = some (.slice BY ny dY))
              ((refine (fun he => ⟨he, Ext.cell he c0, Ext.cell he c1, Ext.cell he c2, Ext.cell he e0, Ext.cell he e1, Ext.cell he e2⟩) ?_; repeat (first | exact Ext.refl _ | exact (Ext.refl _).drew | refine Ext.drew ?_ | refine Ext.trans ?_ (by assumption))))
              (first
                | (go_at_call 36; (with_reducible refine (HSAME.out _ (And.left (by assumption))).mono ?_); rintro e wi ⟨yv, rfl, hei, rfl⟩))
            have HFIN := Lib.hid (And.left (b := _ ∧ _) (by assumption))
            clear c0 c1 c2 e0 e1 e2
            go_wp2_with fail
            go_roundw
            case rel => exact ⟨j + 1, by omega, by go_num, by rw [HTJ.out, Bool.false_or], HEX.out.trans HFIN.out⟩
            case measure => simp [intOf]; omega
          · clear hdY hclY hny hnh hry hs hyl hex
            go_upto_region 9 with fail
            go_quiet (fail)
            go_wp2_with fail
            go_roundw
            case rel => exact ⟨j + 1, by omega, by go_num, by rw [HTJ.out, Bool.true_or], HEX.out.drewN _⟩
            case measure => simp [intOf]; omega
        · obtain rfl : j = m := by omega
          have hdj : ¬ (j : Int) < (j : Int) := by omega
          have et : D.take j = D := by rw [HM.out]; exact List.take_length
          rw [et]
          clear et
          rcases hb : anySame D a with _ | _
          · have HE : Hid (dedR (xs.take (i + 1)) = D ++ [a]) := Lib.hid (by rw [HTK.out, hb]; rfl)
            obtain ⟨vs, hV⟩ := HR.out.ext hex
            have HV := Lib.hid hV
            have hfar := HX.out.trans hex
            have HTT : Hid (Ts (fun k => k < w.heap.size) wr (.slice Bt nt dt) a.terms) := Lib.hid ((Ts.old (F := F) ⟨Bt, dt, by rw [HNT.out], by rw [← HNT.out]; exact hd, HCL.out⟩).ext hfar)
            have HFAR := Lib.hid hfar
            clear hb hV hex hfar
            go_wp2_with (first | (at_builtin; refine wpList_append_at rfl _ _ 22 rfl w.heap.size 39 i0 (.agg #[.bool false, .string ⟨#[]⟩, .slice none 0 0]) 3 48 Tryd.underlying22 HI0.out.1 HI0.out.2.1 HI0.out.2.2.1 HI0.out.2.2.2 rfl (by omega) (.slice Ao j co) j (acells D vs) rfl (HV.out.row.alloc _) ⟨wr.heap.size, 0, none⟩ 1 1 [.bool ng, .string ra, .slice Bt nt dt] rfl rfl (laid_news wr _ _) (by simp [Value.oneCell']) (by simp only [maxLen]; omega) (by omega) (by simp; omega) ?_; intro v8 w8 hr8 hg8 hl8; have HR8 : Hid (AtR w8 w.heap.size v8 (j + 1) (D ++ [a])) := Lib.hid ⟨_, AtV.more HV.out ((Ext.refl wr).alloc _) HTT.out (by rw [← HNG.out, ← HRA.out]; exact hr8) hg8⟩; have HE8 : Hid (Ext w w8) := Lib.hid ((HFAR.out.alloc _).grown hg8 (fun q hq => own_ge HV.out.row hq)); clear hr8 hg8 hl8))
            go_roundw
            case rel => exact ⟨i + 1, j + 1, by omega, by go_num, by rw [HE.out]; exact HR8.out, HE8.out⟩
            case measure => simp [intOf]; omega
          · have HE : Hid (dedR (xs.take (i + 1)) = D) := Lib.hid (by rw [HTK.out, hb]; rfl)
            clear hb hex
            go_wp2_with fail
            go_roundw
            case rel => exact ⟨i + 1, j, by omega, by go_num, by rw [HE.out]; exact HR.out.ext HEX.out, HX.out.trans HEX.out⟩
            case measure => simp [intOf]; omega
    · obtain rfl : i = n := by omega
      have hdn : ¬ (i : Int) < (i : Int) := by omega
      have et : xs.take i = xs := by rw [HN.out]; exact List.take_length
      rw [et] at hR hDl hnum
      obtain ⟨D, hD⟩ : ∃ D, D = dedR xs := ⟨_, rfl⟩
      rw [← hD] at hR hDl hnum
      have hmem : ∀ a ∈ D, a ∈ xs := fun a ha => dedR_mem (by rw [← hD]; exact ha)
      have hty : ∀ a ∈ D, a.terms.length ≤ 1000 := fun a ha => HT.out a (hmem a ha)
      have hm50 : m ≤ 50 := by omega
      have hbd := allT_bd hty
      have hbd2 : (allT D).length ≤ 50000 := by omega
      have HRES : Hid (coreRef xs fx = coreL (okR (keepR (varsT (allT D)) fx)) D.length D) := Lib.hid (by rw [hD]; rfl)
      have HRA := Lib.hid hR.ats; have HTY := Lib.hid hty; have HM := Lib.hid hnum; have HX1 := Lib.hid hext
      have hcall := vars25 hR.ats (by omega) (by omega)
      obtain ⟨V, hV⟩ : ∃ l, l = varsT (allT D) := ⟨_, rfl⟩
      have hnv : V.length ≤ 50000 := by rw [hV]; have := varsT_length (allT D); omega
      obtain ⟨nv, hnvl⟩ : ∃ k, k = V.length := ⟨_, rfl⟩
      rw [← hV] at hcall HRES
      rw [← hnvl] at hcall hnv
      have HCALL := Lib.hid hcall; have HNV := Lib.hid hnvl; have HVD := Lib.hid hV
      clear hD hR hDl hnum hmem hty hbd hbd2 et hcall hnvl hV hext
      go_wp2_with fail
      refine HCALL.out.mono ?_
      rintro e W3 ⟨vv, rfl, he3, hrv⟩
      obtain ⟨Av, cv, rfl⟩ := own_slice hrv
      have HVS : Hid (Strs (fun k => W.heap.size ≤ k) W3 (.slice Av nv cv) V) := Lib.hid ((Strs.of_own hrv).mono' (fun k h => h.2))
      have HX3 := Lib.hid (HX1.out.trans he3); have HR3 := Lib.hid (HRA.out.ext he3)
      have hw3 : w.heap.size ≤ W3.heap.size := HX3.out.size
      clear he3 hrv
      go_wp2_with fail
      go_loopw [9, 11] (fun t q wr => ∃ i p : Nat, i ≤ nf ∧ q = .int .i64 (i : Int) ∧ wr.ownsRow W3.heap.size 9 1 t p ((keepR V (fx.take i)).map Sv) ∧ Ext W3 wr) (fun _ q _ => nf - (intOf q).toNat)
      case atStart => exact ⟨0, 0, Nat.zero_le _, rfl, World.ownsRow_nil _ _ _ _, Ext.refl _⟩
      case round =>
        obtain ⟨k, p, hk, rfl, hrow, hext⟩ := hrel
        obtain ⟨Ak, ck, rfl⟩ := own_slice hrow
        have hpK : p = (keepR V (fx.take k)).length := by have h := hrow.1; rw [List.length_map] at h; omega
        have hKl : (keepR V (fx.take k)).length ≤ 1000 := by
          have h := keepR_length V (fx.take k)
          rw [List.length_take] at h
          omega
        have hp1 : p ≤ 1000 := by omega
        have hwr3 : W3.heap.size ≤ wr.heap.size := hext.size
        by_cases hkf : k < nf
        · have i1 : (0 : Int) ≤ (k : Int) := by omega
          have i2 : (k : Int) < (nf : Int) := by omega
          have hkl : k < fx.length := by have := HNF.out; omega
          obtain ⟨adf, rfl, -, c0⟩ := HB.out.str hkl
          replace c0 := (HX3.out.trans hext).cell c0
          have htk : keepR V (fx.take (k + 1)) = if fx[k] ∈ V ∧ fx[k] ∉ keepR V (fx.take k) then keepR V (fx.take k) ++ [fx[k]] else keepR V (fx.take k) := by rw [List.take_succ_eq_append_getElem hkl, keepR_snoc]
          obtain ⟨s, hs⟩ : ∃ s, s = fx[k] := ⟨_, rfl⟩
          obtain ⟨K, hK⟩ : ∃ K, K = keepR V (fx.take k) := ⟨_, rfl⟩
          rw [← hs] at c0 htk
          rw [← hK] at htk hrow hpK hKl
          have HTK := Lib.hid htk; have HROW := Lib.hid hrow; have HXT := Lib.hid hext; have HPK := Lib.hid hpK; have HKL := Lib.hid hKl
          clear hs hK htk hrow hext hpK hKl
          go_wp2_with fail
          refine (in25 (s := s) (HVS.out.ext HXT.out) (by have := HNV.out; omega)).mono ?_
          rintro e w2 ⟨rfl, rfl⟩
          by_cases hv : s ∈ V
          · rw [decide_eq_true hv]
            have HV := Lib.hid hv
            clear hv
            go_wp2_with fail
            refine (in25 (s := s) (Strs.of_own HROW.out) (by have := HKL.out; omega)).mono ?_
            rintro e w2 ⟨rfl, rfl⟩
            by_cases hin : s ∈ K
            · rw [decide_eq_true hin]
              have HE : Hid (keepR V (fx.take (k + 1)) = K) := Lib.hid (by rw [HTK.out, if_neg (fun h => h.2 hin)])
              clear hin
              go_wp2_with fail
              go_roundw
              case rel => exact ⟨k + 1, p, by omega, by go_num, by rw [HE.out]; exact HROW.out, HXT.out⟩
              case measure => simp [intOf]; omega
            · rw [decide_eq_false hin]
              have HE : Hid (keepR V (fx.take (k + 1)) = K ++ [s]) := Lib.hid (by rw [HTK.out, if_pos ⟨HV.out, hin⟩])
              clear hin
              go_wp2_with (first | (at_builtin; refine wpList_append_at rfl _ _ 26 rfl W3.heap.size 9 j0 (.string ⟨#[]⟩) 1 16 Tryd.underlying26 HJ0.out.1 HJ0.out.2.1 HJ0.out.2.2.1 HJ0.out.2.2.2 rfl (by omega) (.slice Ak p ck) p (K.map Sv) rfl (HROW.out.alloc _) ⟨wr.heap.size, 0, none⟩ 1 1 [Sv s] rfl rfl (laid_news wr _ _) (by simp [Value.oneCell']) (by simp only [maxLen]; omega) (by omega) (by simp; omega) ?_; intro v8 w8 hr8 hg8 hl8; have HR8 := Lib.hid hr8; have HE8 : Hid (Ext W3 w8) := Lib.hid ((HXT.out.alloc _).grown hg8 (fun q hq => own_ge HROW.out hq)); clear hr8 hg8 hl8))
              go_roundw
              case rel => exact ⟨k + 1, p + 1, by omega, by go_num, by rw [HE.out, List.map_append]; exact HR8.out, HE8.out⟩
              case measure => simp [intOf]; omega
          · rw [decide_eq_false hv]
            have HE : Hid (keepR V (fx.take (k + 1)) = K) := Lib.hid (by rw [HTK.out, if_neg (fun h => hv h.1)])
            clear hv
            go_wp2_with fail
            go_roundw
            case rel => exact ⟨k + 1, p, by omega, by go_num, by rw [HE.out]; exact HROW.out, HXT.out⟩
            case measure => simp [intOf]; omega
        · obtain rfl : k = nf := by omega
          have hdk : ¬ (k : Int) < (k : Int) := by omega
          have et : fx.take k = fx := by rw [HNF.out]; exact List.take_length
          obtain ⟨W4, rfl⟩ : ∃ W : World, W = wr := ⟨_, rfl⟩
          rw [et] at hrow hpK hKl
          obtain ⟨K, hK⟩ : ∃ K, K = keepR V fx := ⟨_, rfl⟩
          rw [← hK] at hrow hpK hKl HRES
          have HKS := Lib.hid (Strs.of_own hrow)
          have HKC : Hid (Cl (fun k => (Value.slice Ak p ck).ownBlock = some k ∧ W3.heap.size ≤ k) W4 Ak (K.map Sv)) := Lib.hid (by
            obtain ⟨A', c', e, hc', hcl⟩ := Cl.of_own hrow
            injection e with e1 e2 e3
            subst e1
            exact hcl)
          have HX4 := Lib.hid (HX3.out.trans hext)
          have HR4 := Lib.hid (HR3.out.ext hext)
          have HPK := Lib.hid hpK
          clear et hrow hpK hK hext
          go_wp2_with fail
          go_loopw [5, 12] (fun t q wr => ∃ (j : Nat) (l : List At), q = .int .i64 ((j : Int) - 1) ∧ j ≤ l.length ∧ Ats (fun _ => True) wr t l ∧ (∀ a ∈ l, a.terms.length ≤ 1000) ∧ l.length ≤ 50 ∧ coreL (okR K) j l = coreRef xs fx ∧ Ext W4 wr) (fun _ q _ => (intOf q + 1).toNat)
          case atStart => exact ⟨m, D, rfl, by have := HM.out; omega, HR4.out, HTY.out, by have := HM.out; omega, by rw [HRES.out, HM.out], Ext.refl _⟩
          case round =>
            obtain ⟨j, l, rfl, hjl, hA, hty, hll, hcore, hext⟩ := hrel
            obtain ⟨Al, cl, rfl⟩ := hA.sl
            obtain ⟨W5, rfl⟩ : ∃ W : World, W = wr := ⟨_, rfl⟩
            rcases j with _ | j
            · have e1 : ((0 : Nat) : Int) - 1 = -1 := rfl
              rw [e1]
              clear e1
              have HA := Lib.hid hA; have HXL := Lib.hid (HX4.out.trans hext); have HCORE : Hid (l = coreRef xs fx) := Lib.hid hcore
              clear hA hext hcore hty
              go_wp2_with fail
              go_ret
              exact Ret.mk HXL.out (by rw [← HCORE.out]; exact HA.out)
            · have e1 : ((j + 1 : Nat) : Int) - 1 = (j : Int) := by omega
              rw [e1]
              have hbdl := allT_bd hty
              have hbd2 : (allT l).length ≤ 50000 := by omega
              have i1 : (0 : Int) ≤ (j : Int) := by omega
              have HA := Lib.hid hA; have HXL := Lib.hid (HX4.out.trans hext); have HXL4 := Lib.hid hext; have HTL := Lib.hid hty
              have HBL := Lib.hid hbd2
              have HCORE : Hid (coreL (okR K) j (if okR K l (l.eraseIdx j) = true then l.eraseIdx j else l) = coreRef xs fx) := Lib.hid hcore
              obtain ⟨nl, hnl⟩ : ∃ k, k = l.length := ⟨_, rfl⟩
              rw [← hnl] at hjl hll HA ⊢
              have HNL := Lib.hid hnl
              have hml : (l.eraseIdx j).length = nl - 1 := by rw [List.length_eraseIdx, if_pos (by omega), hnl]
              obtain ⟨M, hM⟩ : ∃ M, M = l.eraseIdx j := ⟨_, rfl⟩
              rw [← hM] at HCORE hml
              have HW := Lib.hid (without25 (i := j) HA.out (by omega) (by omega))
              rw [← hM, hml] at HW
              have HMM := Lib.hid hM; have HML := Lib.hid hml
              have htm : ∀ a ∈ M, a.terms.length ≤ 1000 := fun a ha => HTL.out a (erase_mem (by rw [← hM]; exact ha))
              have hbm := allT_bd htm
              have HTM := Lib.hid htm
              have hbm2 : (allT M).length ≤ 50000 := by omega
              have HBM := Lib.hid hbm2
              clear e1 hA hext hcore hty hbdl hbd2 hnl hml hM htm hbm hbm2
              go_wp2_with fail
              refine HW.out.mono ?_
              rintro e w5 ⟨vl, rfl, he5, hR5⟩
              obtain ⟨Am, cm, rfl⟩ := hR5.sl
              obtain ⟨nm, hnm⟩ : ∃ k, k = nl - 1 := ⟨_, rfl⟩
              rw [← hnm] at hR5 HML ⊢
              have hnm2 : nm ≤ 50 := by omega
              have hnm3 : j ≤ nm := by omega
              have HM5 := Lib.hid hR5.ats; have HX5 := Lib.hid he5
              obtain ⟨VM, hVM⟩ : ∃ V, V = varsT (allT M) := ⟨_, rfl⟩
              have hvml : VM.length ≤ 50000 := by rw [hVM]; have := varsT_length (allT M); have := HBM.out; omega
              have HVM := Lib.hid hVM; have HVML := Lib.hid hvml
              have hwp : Ext W4 w5 := HXL4.out.trans he5
              have HW45 := Lib.hid hwp
              clear hR5 he5 hnm hVM hvml hwp
              go_wp2_with fail
              go_loopw [14, 15] (fun t q wx => ∃ i : Nat, i ≤ p ∧ q = .int .i64 (i : Int) ∧ t = .bool (hasAll VM (K.take i)) ∧ Ext w5 wx) (fun _ q _ => p - (intOf q).toNat)
              case atStart => exact ⟨0, Nat.zero_le _, rfl, by simp [hasAll], Ext.refl _⟩
              case round =>
                obtain ⟨i, hi, rfl, rfl, hex⟩ := hrel
                have HEX := Lib.hid hex
                by_cases hip : i < p
                · have k1 : (0 : Int) ≤ (i : Int) := by omega
                  have k2 : (i : Int) < (p : Int) := by omega
                  have hik : i < K.length := by have := HPK.out; omega
                  obtain ⟨adk, rfl, -, c0⟩ := HKC.out.str hik
                  replace c0 := (HW45.out.trans hex).cell c0
                  have htj := hasAll_snoc (V := VM) hik
                  obtain ⟨b, hb⟩ : ∃ b, b = hasAll VM (K.take i) := ⟨_, rfl⟩
                  rw [← hb] at htj ⊢
                  obtain ⟨s, hs⟩ : ∃ s, s = K[i] := ⟨_, rfl⟩
                  rw [← hs] at c0 htj
                  obtain ⟨d, hd⟩ : ∃ d, d = decide (s ∈ VM) := ⟨_, rfl⟩
                  rw [← hd] at htj
                  have HTJ := Lib.hid htj
                  have HVARS : Hid (∀ V : World, Ext wr V → Calls Tryd.prog 15 #[.slice Am nm cm] V (Ret (fun x w' => w'.ownsRow V.heap.size 9 1 x VM.length (VM.map Sv)) V)) := Lib.hid (fun V hV => by
                    rw [HVM.out]
                    exact vars25 (HM5.out.ext (hex.trans hV)) (by have := HML.out; omega) (by have := HBM.out; omega))
                  have HIN : Hid (∀ (V : World) (b : Nat) (v : Value), V.ownsRow b 9 1 v VM.length (VM.map Sv) → Calls Tryd.prog 16 #[v, .string s] V (fun e w' => e = .returned (.bool d) ∧ V = w')) := Lib.hid (fun V b v h => by
                    rw [hd]
                    exact in25 (Strs.of_own h) (by have := HVML.out; omega))
                  clear htj hb hs hd hex
                  rcases b with _ | _
                  · go_upto_region 27 with fail
                    go_quiet (fail)
                    go_wp2_with fail
                    go_roundw
                    case rel => exact ⟨i + 1, by omega, by go_num, by rw [HTJ.out, Bool.false_and], HEX.out.drewN _⟩
                    case measure => simp [intOf]; omega
                  · go_upto_region 27 with fail
                    go_region_held3 (fun V => Ext wr V ∧ V.cell? (adk.add i) = some (.string s))
                      ((refine (fun he => ⟨he, Ext.cell he c0⟩) ?_; repeat (first | exact Ext.refl _ | exact (Ext.refl _).drew | refine Ext.drew ?_ | refine Ext.trans ?_ (by assumption))))
                      (first
                        | (go_at_call 15; (with_reducible refine (HVARS.out _ (And.left (by assumption))).mono ?_); rintro e wi ⟨yv, rfl, hei, hrow⟩)
                        | (go_at_call 16; (with_reducible refine (HIN.out _ _ _ (by assumption)).mono ?_); rintro e wi ⟨rfl, rfl⟩))
                    have HFIN := Lib.hid (And.left (b := _ = _) (by assumption))
                    clear c0
                    go_wp2_with fail
                    go_roundw
                    case rel => exact ⟨i + 1, by omega, by go_num, by rw [HTJ.out, Bool.true_and], HEX.out.trans HFIN.out⟩
                    case measure => simp [intOf]; omega
                · obtain rfl : i = p := by omega
                  have hdi : ¬ (i : Int) < (i : Int) := by omega
                  have et : K.take i = K := by rw [HPK.out]; exact List.take_length
                  rw [et]
                  have HOK : Hid (okR K l M = (hasAll VM K && decide (0 < nm) && homR l K M K)) := Lib.hid (by rw [HVM.out, ← HML.out]; rfl)
                  have HXE := Lib.hid ((HXL.out.trans HX5.out).trans hex)
                  have HXE4 := Lib.hid (HW45.out.trans hex)
                  obtain ⟨b, hb⟩ : ∃ b, b = hasAll VM K := ⟨_, rfl⟩
                  rw [← hb] at HOK ⊢
                  clear et hb hex
                  rcases b with _ | _
                  · rw [Bool.false_and, Bool.false_and] at HOK
                    rw [HOK.out] at HCORE
                    go_wp2_with fail
                    go_roundw
                    case rel => exact ⟨j, l, by go_num, by have := HNL.out; omega, HA.out.ext (HX5.out.trans HEX.out), HTL.out, by have := HNL.out; omega, HCORE.out, HXE4.out⟩
                    case measure => simp [intOf]
                  · rw [Bool.true_and] at HOK
                    by_cases hz : 0 < nm
                    · have hz2 : (0 : Int) < (nm : Int) := by omega
                      rw [decide_eq_true hz, Bool.true_and] at HOK
                      go_wp2_with fail
                      refine (hom25 (HA.out.ext (HX5.out.trans HEX.out)) (HKS.out.ext HXE4.out) (HM5.out.ext HEX.out) (HKS.out.ext HXE4.out) (Nat.le_refl _) (by have := HNL.out; omega) (by have := HBL.out; omega) (by have := HML.out; omega) (by have := HBM.out; omega) (by have := HPK.out; omega)).mono ?_
                      rintro e w6 ⟨z, rfl, he6, rfl⟩
                      have HX6 := Lib.hid he6
                      obtain ⟨b, hb⟩ : ∃ b, b = homR l K M K := ⟨_, rfl⟩
                      rw [← hb] at HOK ⊢
                      clear hb he6
                      rcases b with _ | _
                      · rw [HOK.out] at HCORE
                        go_wp2_with fail
                        go_roundw
                        case rel => exact ⟨j, l, by go_num, by have := HNL.out; omega, HA.out.ext ((HX5.out.trans HEX.out).trans HX6.out), HTL.out, by have := HNL.out; omega, HCORE.out, HXE4.out.trans HX6.out⟩
                        case measure => simp [intOf]
                      · rw [HOK.out] at HCORE
                        go_wp2_with fail
                        go_roundw
                        case rel => exact ⟨j, M, by go_num, by have := HML.out; omega, HM5.out.ext (HEX.out.trans HX6.out), HTM.out, by have := HML.out; omega, HCORE.out, HXE4.out.trans HX6.out⟩
                        case measure => simp [intOf]
                    · have hz2 : ¬ (0 : Int) < (nm : Int) := by omega
                      rw [decide_eq_false hz, Bool.false_and] at HOK
                      rw [HOK.out] at HCORE
                      go_wp2_with fail
                      go_roundw
                      case rel => exact ⟨j, l, by go_num, by have := HNL.out; omega, HA.out.ext (HX5.out.trans HEX.out), HTL.out, by have := HNL.out; omega, HCORE.out, HXE4.out⟩
                      case measure => simp [intOf]
end Go.Proofs.YtehklbdgkppmeaaDoor
