/- Contract: ordinalref25.Hom. -/
import Derived.Test.YtehklbdgkppmeaaDoorQu
namespace Go.Proofs.YtehklbdgkppmeaaDoor
open Go.RowKit Go.Maps

theorem own_ne {w : World} {b1 b2 s1 s2 n1 n2 k : Nat} {e1 e2 : TypeId} {v1 v2 : Value} {xs1 xs2 : List Value} (h1 : w.ownsRow b1 e1 s1 v1 n1 xs1) (h2 : w.ownsRow b2 e2 s2 v2 n2 xs2) (he : e1 ≠ e2) (hk : v1.ownBlock = some k) : v2.ownBlock ≠ some k := by
  rcases h1.2 with ⟨rfl, _⟩ | ⟨g, cap, cur, rfl, _, hb, _⟩
  · simp [Value.ownBlock] at hk
  · rcases h2.2 with ⟨rfl, _⟩ | ⟨g', cap', cur', rfl, _, hb', _⟩
    · simp [Value.ownBlock]
    · simp [Value.ownBlock] at hk ⊢
      rintro rfl
      subst hk
      rw [hb] at hb'
      injection hb' with hb'; injection hb' with _ hb'
      exact he hb'
theorem fromR_snoc (hd vs : List ByteArray) (v : ByteArray) : fromR hd (vs ++ [v]) = addF (fromR hd vs) v := by simp [fromR]
theorem fromR_length (hd vs : List ByteArray) : (fromR hd vs).length ≤ hd.length + vs.length := by
  suffices h : ∀ (vs hd : List ByteArray), (vs.foldl addF hd).length ≤ hd.length + vs.length from h vs hd
  intro vs
  induction vs with
  | nil => intro hd; simp
  | cons v vs ih =>
    intro hd
    rw [List.foldl_cons]
    have h1 := ih (addF hd v)
    have h2 : (addF hd v).length ≤ hd.length + 1 := by unfold addF; split <;> simp
    rw [List.length_cons]
    omega
theorem fromR_ge (hd vs : List ByteArray) : hd.length ≤ (fromR hd vs).length := by
  obtain ⟨os, h, -, -⟩ := fromR_split vs hd
  rw [h, List.length_append]
  omega
/-- The list from, under way: its row, and what else turned since W. -/
structure FrI (base : Nat) (W wr : World) (v0 v : Value) (l : List ByteArray) (m : Nat) : Prop where
  row : wr.ownsRow base 9 1 v m (l.map Sv)
  fr : Fr (fun k => v0.ownBlock = some k) W wr
  land : v.ownBlock = v0.ownBlock ∨ ∀ k, v.ownBlock = some k → W.heap.size ≤ k
theorem FrI.more {base : Nat} {W wr wb w9 : World} {v0 v v9 : Value} {l : List ByteArray} {m : Nat} {s : ByteArray} (h : FrI base W wr v0 v l m) (he : Ext wr wb) (hr : w9.ownsRow base 9 1 v9 (m + 1) (l.map Sv ++ [Sv s])) (hg : wb.grownBy w9 v.ownBlock) (hl : Lands wb v v9) : FrI base W w9 v0 v9 (l ++ [s]) (m + 1) := by
  refine ⟨by rw [List.map_append]; exact hr, (h.fr.ext he).comp (grown_fr hg) (fun k hk => ?_), ?_⟩
  · rcases h.land with e | e
    · exact .inl (e ▸ hk)
    · exact .inr (e k hk)
  · rcases hl with e | e
    · rw [e]; exact h.land
    · refine .inr (fun k hk => ?_)
      rw [e] at hk
      injection hk with hk
      have h1 := h.fr.size
      have h2 := he.size
      omega
set_option maxRecDepth 20000 in
set_option maxHeartbeats 3200000 in
theorem hom25 {F G H I : Nat → Prop} {w : World} {vX vh vY vi : Value} {xs ys : List At} {hd imgs : List ByteArray} (hX : Ats F w vX xs) (hh : Strs G w vh hd) (hY : Ats I w vY ys) (hi : Strs H w vi imgs) (hle : imgs.length ≤ hd.length)
    (hlx : xs.length ≤ 100000) (hla : (allT xs).length ≤ 100000) (hly : ys.length ≤ 100000) (hlb : (allT ys).length ≤ 100000) (hlh : hd.length ≤ 100000) :
    Calls Tryd.prog 17 #[vX, vh, vY, vi] w (Ret (fun x _ => x = .bool (homR xs hd ys imgs)) w) := by
  obtain ⟨A, cA, nA, hA⟩ : ∃ B c n, vX = .slice B n c := by obtain ⟨B, c, _, e, _⟩ := hX; exact ⟨B, c, _, e⟩
  obtain ⟨D, cD, hD, hcD, hat⟩ := hY.at'
  obtain ⟨B, cB, hB, hcB, hclB⟩ := hh
  obtain ⟨E, cE, hE, hcE, hclE⟩ := hi
  subst hA hD hB hE
  obtain ⟨nh, hnh⟩ : ∃ m, m = hd.length := ⟨_, rfl⟩
  obtain ⟨ni, hni⟩ : ∃ m, m = imgs.length := ⟨_, rfl⟩
  obtain ⟨ny, hny⟩ : ∃ m, m = ys.length := ⟨_, rfl⟩
  rw [← hnh] at hcB hle hlh ⊢
  rw [← hni] at hcE hle ⊢
  rw [← hny] at hcD hly hY ⊢
  have HX := Lib.hid hX; have HY := Lib.hid hY; have HAT := Lib.hid hat; have HB := Lib.hid hclB; have HE := Lib.hid hclE; have HNH := Lib.hid hnh; have HNI := Lib.hid hni; have HNY := Lib.hid hny; have HLA := Lib.hid hla; have HLB := Lib.hid hlb; have HLX := Lib.hid hlx
  clear hX hY hat hclB hclE hnh hni hny hla hlb hlx
  obtain ⟨i0, hi0, hz0, hz1, hz2⟩ := info_parts info_str
  have HI0 := Lib.hid (And.intro hi0 (And.intro hz0 (And.intro hz1 hz2))); clear hi0 hz0 hz1 hz2
  obtain ⟨j0, hj0, hy0, hy1, hy2⟩ := info_parts info_term
  have HJ0 := Lib.hid (And.intro hj0 (And.intro hy0 (And.intro hy1 hy2))); clear hj0 hy0 hy1 hy2
  have hlm : (hd.map Sv).length = nh * 1 := by rw [List.length_map, ← HNH.out, Nat.mul_one]
  have hone : ∀ u ∈ hd.map Sv, u.oneCell' = true := fun u hu => by obtain ⟨s, _, rfl⟩ := List.mem_map.1 hu; rfl
  have HLM := Lib.hid hlm; have HONE := Lib.hid hone
  clear hlm hone
  go_enter Tryd.func17, Tryd.ntmps17
  go_wp2_with (first | (at_builtin; refine wpList_append_opt rfl _ _ 26 rfl w.heap.size 9 i0 (.string ⟨#[]⟩) 1 16 Tryd.underlying26 HI0.out.1 HI0.out.2.1 HI0.out.2.2.1 HI0.out.2.2.2 rfl (by omega) (.slice (some ⟨w.heap.size, 0, none⟩) 0 0) 0 [] rfl (World.ownsRow_made w #[] 0 (Nat.le_refl _) (Nat.zero_le _) rfl) B nh cB (hd.map Sv) rfl HLM.out ((HB.out.ext ((Ext.refl w).alloc _)).news) HONE.out (by simp only [maxLen]; omega) (by omega) (by simp) ?_; intro v9 w9 hr9 hg9 hl9; rw [Nat.zero_add, List.nil_append] at hr9; obtain ⟨A9, c9, rfl⟩ := own_slice hr9; have HR9 := Lib.hid hr9; have HE9 : Hid (Ext w w9) := Lib.hid (((Ext.refl w).alloc _).grown hg9 (fun q hq => by simp [Value.ownBlock] at hq; omega)); clear hr9 hg9 hl9))
  go_loopw [10, 11] (fun t q wr => ∃ i : Nat, i ≤ ni ∧ q = .int .i64 (i : Int) ∧ wr.ownsRow w9.heap.size 66 4 t i (tcells ((imgs.take i).map varT)) ∧ Ext w9 wr) (fun _ q _ => ni - (intOf q).toNat)
  case atStart => exact ⟨0, Nat.zero_le _, rfl, World.ownsRow_nil _ _ _ _, Ext.refl _⟩
  case round =>
    obtain ⟨i, hi, rfl, hrow, hext⟩ := hrel
    obtain ⟨At, ct, rfl⟩ := own_slice hrow
    have HROW := Lib.hid hrow; have HX1 := Lib.hid hext
    have hw9 : w9.heap.size ≤ wr.heap.size := hext.size
    clear hrow
    by_cases hlt : i < ni
    · have i1 : (0 : Int) ≤ (i : Int) := by omega
      have i2 : (i : Int) < (ni : Int) := by omega
      have hil : i < imgs.length := by have := HNI.out; omega
      obtain ⟨ad, rfl, -, c0⟩ := HE.out.at' (j := i) (x := .string imgs[i]) (by simp [hil])
      replace c0 := (HE9.out.trans hext).cell c0
      have htk : (imgs.take (i + 1)).map varT = (imgs.take i).map varT ++ [varT imgs[i]] := by rw [List.take_succ_eq_append_getElem hil, List.map_append]; rfl
      obtain ⟨s, hs⟩ : ∃ s, s = imgs[i] := ⟨_, rfl⟩
      rw [← hs] at c0 htk
      have HTK := Lib.hid htk
      clear htk hs hext
      obtain ⟨L, hL⟩ : ∃ L, L = (imgs.take i).map varT := ⟨_, rfl⟩
      rw [← hL] at HROW HTK
      clear hL
      go_wp2_with (first | (at_builtin; refine wpList_append_at rfl _ _ 37 rfl w9.heap.size 66 j0 (.agg #[.string ⟨#[]⟩, .int .i64 0, .int .i64 0, .string ⟨#[]⟩]) 4 48 Tryd.underlying37 HJ0.out.1 HJ0.out.2.1 HJ0.out.2.2.1 HJ0.out.2.2.2 rfl (by omega) (.slice At i ct) i (tcells L) rfl (HROW.out.alloc _) ⟨wr.heap.size, 0, none⟩ 1 1 [.string s, .int .i64 0, .int .i64 0, .string ⟨#[]⟩] rfl rfl (laid_news wr _ _) (by simp [Value.oneCell']) (by simp only [maxLen]; omega) (by omega) (by simp; omega) ?_; intro v8 w8 hr8 hg8 hl8; have HR8 := Lib.hid hr8; have HE8 : Hid (Ext w9 w8) := Lib.hid ((HX1.out.alloc _).grown hg8 (fun q hq => own_ge HROW.out hq)); clear hr8 hg8 hl8))
      go_roundw
      case rel => exact ⟨i + 1, by omega, by go_num, by rw [HTK.out, tcells_append]; exact HR8.out, HE8.out⟩
      case measure => simp [intOf]; omega
    · obtain rfl : i = ni := by omega
      have hdn : ¬ (i : Int) < (i : Int) := by omega
      have et : imgs.take i = imgs := by rw [HNI.out]; exact List.take_length
      rw [et] at HROW
      obtain ⟨W2, rfl⟩ : ∃ W : World, W = wr := ⟨_, rfl⟩
      clear et hext
      go_wp2_with fail
      refine (vars25 (HX.out.ext (HE9.out.trans HX1.out)) (by have := HLX.out; omega) (by have := HLA.out; omega)).mono ?_
      rintro e W3 ⟨vv, rfl, he3, hrv⟩
      obtain ⟨Vs, hVs⟩ : ∃ l, l = varsT (allT xs) := ⟨_, rfl⟩
      rw [← hVs] at hrv
      obtain ⟨nv, hnv⟩ : ∃ n, n = Vs.length := ⟨_, rfl⟩
      rw [← hnv] at hrv
      have hnv2 : nv ≤ 100000 := by
        have h0 := foldV_length (allT xs) []
        have h1 : (varsT (allT xs)).length ≤ [].length + (allT xs).length := h0
        rw [← hVs, ← hnv] at h1
        have := HLA.out
        simp only [List.length_nil] at h1
        omega
      obtain ⟨Av, cv, rfl⟩ := own_slice hrv
      have HV : Hid (Cl (fun k => W2.heap.size ≤ k) W3 Av (Vs.map Sv)) := Lib.hid (by
        obtain ⟨A', c', e, hc', hcl⟩ := Cl.of_own hrv
        injection e with e1 e2 e3
        subst e1
        exact hcl.mono (fun k _ hk => hk.2))
      have HFR3 := Lib.hid (own_ext' HR9.out (HX1.out.trans he3))
      have HTO3 := Lib.hid (own_ext' HROW.out he3)
      have HW3 : Hid (Ext w W3) := Lib.hid ((HE9.out.trans HX1.out).trans he3)
      have hw23 : W2.heap.size ≤ W3.heap.size := he3.size
      have hwa : w.heap.size ≤ w9.heap.size := HE9.out.size
      have HVS := Lib.hid hVs; have HNV := Lib.hid hnv
      have HLT9 : Hid (∀ k, (Value.slice A9 nh c9).ownBlock = some k → w.heap.size ≤ k ∧ k < w9.heap.size) := Lib.hid (fun k hk => HR9.out.lt k hk)
      clear hVs hnv hrv he3 HROW HX1
      go_wp2_with fail
      go_loopw [9, 13] (fun t q wr => ∃ j m : Nat, j ≤ nv ∧ q = .int .i64 (j : Int) ∧ FrI w.heap.size W3 wr (.slice A9 nh c9) t (fromR hd (Vs.take j)) m) (fun _ q _ => nv - (intOf q).toNat)
      case atStart => exact ⟨0, nh, Nat.zero_le _, rfl, HFR3.out, Fr.refl _ _, .inl rfl⟩
      case round =>
        obtain ⟨j, m, hj, rfl, hI⟩ := hrel
        obtain ⟨Af, cf, rfl⟩ := own_slice hI.row
        have HI := Lib.hid hI
        have hw3r : W3.heap.size ≤ wr.heap.size := hI.fr.size
        by_cases hjt : j < nv
        · have j1 : (0 : Int) ≤ (j : Int) := by omega
          have j2 : (j : Int) < (nv : Int) := by omega
          have hjl : j < Vs.length := by have := HNV.out; omega
          obtain ⟨adv, rfl, hav, c0⟩ := HV.out.at' (j := j) (x := .string Vs[j]) (by simp [hjl])
          replace c0 := hI.fr.cell c0 (fun e => by have := (HLT9.out _ e).2; rw [block_add] at this; omega)
          have htk : fromR hd (Vs.take (j + 1)) = addF (fromR hd (Vs.take j)) Vs[j] := by rw [List.take_succ_eq_append_getElem hjl, fromR_snoc]
          have hml : (fromR hd (Vs.take j)).length ≤ nh + nv := by
            have h := fromR_length hd (Vs.take j)
            rw [List.length_take, ← HNH.out] at h
            omega
          obtain ⟨s, hs⟩ : ∃ s, s = Vs[j] := ⟨_, rfl⟩
          rw [← hs] at c0 htk
          obtain ⟨L, hL⟩ : ∃ L, L = fromR hd (Vs.take j) := ⟨_, rfl⟩
          rw [← hL] at HI htk hml
          have hmm : m = L.length := by have h := HI.out.row.1; simp at h; omega
          have HTK := Lib.hid htk; have HMM := Lib.hid hmm
          clear htk hs hL hI hav
          have hm2 : m ≤ 200000 := by omega
          clear hmm
          go_wp2_with fail
          refine (in25 (s := s) (Strs.of_own HI.out.row) (by have := HMM.out; omega)).mono ?_
          rintro e w2 ⟨rfl, rfl⟩
          by_cases hin : s ∈ L
          · rw [decide_eq_true hin]
            have HADD : Hid (addF L s = L) := Lib.hid (by simp [addF, hin])
            clear hin
            go_wp2_with fail
            go_roundw
            case rel => exact ⟨j + 1, m, by omega, by go_num, by rw [HTK.out, HADD.out]; exact HI.out⟩
            case measure => simp [intOf]; omega
          · rw [decide_eq_false hin]
            have HADD : Hid (addF L s = L ++ [s]) := Lib.hid (by simp [addF, hin])
            clear hin
            go_wp2_with (first | (at_builtin; refine wpList_append_at rfl _ _ 26 rfl w.heap.size 9 i0 (.string ⟨#[]⟩) 1 16 Tryd.underlying26 HI0.out.1 HI0.out.2.1 HI0.out.2.2.1 HI0.out.2.2.2 rfl (by omega) (.slice Af m cf) m (L.map Sv) rfl (HI.out.row.alloc _) ⟨wr.heap.size, 0, none⟩ 1 1 [Sv s] rfl rfl (laid_news wr _ _) (by simp [Value.oneCell']) (by simp only [maxLen]; omega) (by omega) (by have := HW3.out.size; simp; omega) ?_; intro v8 w8 hr8 hg8 hl8; have HI8 := Lib.hid (HI.out.more ((Ext.refl wr).alloc _) hr8 hg8 hl8); clear hr8 hg8 hl8))
            go_roundw
            case rel => exact ⟨j + 1, m + 1, by omega, by go_num, by rw [HTK.out, HADD.out]; exact HI8.out⟩
            case measure => simp [intOf]; omega
        · obtain rfl : j = nv := by omega
          have hdj : ¬ (j : Int) < (j : Int) := by omega
          have et : Vs.take j = Vs := by rw [HNV.out]; exact List.take_length
          rw [et] at HI
          obtain ⟨W4, rfl⟩ : ∃ W : World, W = wr := ⟨_, rfl⟩
          have HW4 : Hid (Ext w W4) := Lib.hid (hI.fr.new HW3.out (fun k hk => (HLT9.out k hk).1))
          have HTO4 := Lib.hid (own_fr HTO3.out hI.fr (fun k hk e => own_ne HTO3.out HFR3.out (by decide) hk e))
          clear et hI
          go_wp2_with fail
          have HATY : Hid (∀ V : World, Ext W4 V → ∀ a (ha : a < ys.length), ∃ ad B d, D = some ad ∧ V.cell? ⟨(ad.add (a * 3)).block, (ad.add (a * 3)).off + 2, none⟩ = some (.slice B ys[a].terms.length d) ∧ ys[a].terms.length ≤ d ∧ Cl I V B (tcells ys[a].terms)) := Lib.hid (fun V hV a ha => by
            obtain ⟨ad, B, d, e, -, -, -, c2, hd, hcl⟩ := HAT.out a ha
            exact ⟨ad, B, d, e, (HW4.out.trans hV).cell c2, hd, hcl.ext (HW4.out.trans hV)⟩)
          go_loopw [14, 15] (fun t q wr => ∃ a m : Nat, a ≤ ny ∧ q = .int .i64 (a : Int) ∧ wr.ownsRow W4.heap.size 66 4 t m (tcells (distT (allT (ys.take a)))) ∧ Ext W4 wr) (fun _ q _ => ny - (intOf q).toNat)
          case atStart => exact ⟨0, 0, Nat.zero_le _, rfl, World.ownsRow_nil _ _ _ _, Ext.refl _⟩
          case round =>
            obtain ⟨a, m0, ha, rfl, hrow, hext⟩ := hrel
            by_cases hay : a < ny
            · have a1 : (0 : Int) ≤ (a : Int) := by omega
              have a2 : (a : Int) < (ny : Int) := by omega
              have hal : a < ys.length := by have := HNY.out; omega
              have htkA : allT (ys.take (a + 1)) = allT (ys.take a) ++ ys[a].terms := allT_take hal
              obtain ⟨ts, hts⟩ : ∃ ts, ts = ys[a].terms := ⟨_, rfl⟩
              have HTY : Hid (∀ V : World, Ext W4 V → ∃ ad B d, D = some ad ∧ V.cell? ⟨(ad.add (a * 3)).block, (ad.add (a * 3)).off + 2, none⟩ = some (.slice B ts.length d) ∧ ts.length ≤ d ∧ Cl I V B (tcells ts)) := Lib.hid (fun V hV => by rw [hts]; exact HATY.out V hV a hal)
              rw [← hts] at htkA
              have hsum : (allT (ys.take a)).length + ts.length ≤ 100000 := by
                have h1 := allT_le (xs := ys) (a + 1)
                rw [htkA, List.length_append] at h1
                have := HLB.out
                omega
              obtain ⟨nt, hnt⟩ : ∃ n, n = ts.length := ⟨_, rfl⟩
              rw [← hnt] at HTY hsum
              have HNT := Lib.hid hnt; have HTKA := Lib.hid htkA
              obtain ⟨ad, Bt, dt, rfl, c2, -, -⟩ := HTY.out _ hext
              clear hts htkA hnt c2
              go_wp2_with fail
              go_loopw [14, 16] (fun t q wr => ∃ k m : Nat, k ≤ nt ∧ q = .int .i64 (k : Int) ∧ wr.ownsRow W4.heap.size 66 4 t m (tcells (distT (allT (ys.take a) ++ ts.take k))) ∧ Ext W4 wr) (fun _ q _ => nt - (intOf q).toNat)
              case atStart => exact ⟨0, m0, Nat.zero_le _, rfl, by simpa using hrow, hext⟩
              case round =>
                clear hrow hext
                obtain ⟨k, m, hk, rfl, hrow, hext⟩ := hrel
                obtain ⟨At2, ct2, rfl⟩ := own_slice hrow
                have HROW := Lib.hid hrow; have HXT := Lib.hid hext
                obtain ⟨ad', Bt2, dt2, e1, c2, hdt, hcl⟩ := HTY.out _ hext
                injection e1 with e1
                subst e1
                have hw4 : W4.heap.size ≤ wr.heap.size := hext.size
                clear hrow
                by_cases hkt : k < nt
                · have k1 : (0 : Int) ≤ (k : Int) := by omega
                  have k2 : (k : Int) < (nt : Int) := by omega
                  have hkl : k < ts.length := by have := HNT.out; omega
                  obtain ⟨adt, rfl, -, d0, d1, d2, d3⟩ := hcl.term (i := k) hkl
                  have etk : distT (allT (ys.take a) ++ ts.take (k + 1)) = addD (distT (allT (ys.take a) ++ ts.take k)) ts[k] := by rw [List.take_succ_eq_append_getElem hkl, ← List.append_assoc, distT_snoc]
                  have hlen : (distT (allT (ys.take a) ++ ts.take k)).length ≤ 100000 := by
                    have h1 := distT_length (allT (ys.take a) ++ ts.take k)
                    rw [List.length_append, List.length_take] at h1
                    omega
                  obtain ⟨x, hx⟩ : ∃ x, x = ts[k] := ⟨_, rfl⟩
                  rw [← hx] at d0 d1 d2 d3 etk
                  obtain ⟨T, hT⟩ : ∃ T, T = distT (allT (ys.take a) ++ ts.take k) := ⟨_, rfl⟩
                  rw [← hT] at HROW etk hlen
                  have hmT : m = T.length := by have h := HROW.out.1; rw [tcells_length] at h; omega
                  rw [← hmT] at hlen
                  have HETK := Lib.hid etk; have HMT := Lib.hid hmT
                  have HD4 := Lib.hid (And.intro c2 (And.intro d0 (And.intro d1 (And.intro d2 d3))))
                  have HCT : Hid (Cl (fun _ => True) wr At2 (tcells T)) := Lib.hid (by
                    obtain ⟨A', c', e, hc', hcl'⟩ := Cl.of_own HROW.out
                    injection e with e1 e2 e3
                    subst e1
                    exact hcl'.mono (fun _ _ _ => trivial))
                  clear hx hT etk hmT hcl hext d0 d1 d2 d3
                  go_wp2_with fail
                  clear c2
                  obtain ⟨W5, rfl⟩ : ∃ W : World, W = wr := ⟨_, rfl⟩
                  go_loopw [17, 18] (fun t q wx => ∃ j : Nat, j ≤ m ∧ q = .int .i64 (j : Int) ∧ t = .bool (decide (x ∈ T.take j)) ∧ Ext W5 wx) (fun _ q _ => m - (intOf q).toNat)
                  case atStart => exact ⟨0, Nat.zero_le _, rfl, by simp, Ext.refl _⟩
                  case round =>
                    obtain ⟨j, hj, rfl, rfl, hextx⟩ := hrel
                    have HEX := Lib.hid hextx
                    by_cases hjm : j < m
                    · have j1 : (0 : Int) ≤ (j : Int) := by omega
                      have j2 : (j : Int) < (m : Int) := by omega
                      have hjl : j < T.length := by have := HMT.out; omega
                      have htj : decide (x ∈ T.take (j + 1)) = (decide (x ∈ T.take j) || decide (x = T[j])) := by
                        rw [Bool.eq_iff_iff, Bool.or_eq_true, decide_eq_true_iff, decide_eq_true_iff, decide_eq_true_iff, List.take_succ_eq_append_getElem hjl, List.mem_append, List.mem_singleton]
                      obtain ⟨b, hb⟩ : ∃ b, b = decide (x ∈ T.take j) := ⟨_, rfl⟩
                      rw [← hb] at htj ⊢
                      obtain ⟨ade, rfl, -, f0, f1, f2, f3⟩ := HCT.out.term (i := j) hjl
                      replace f0 := hextx.cell f0
                      replace f1 := hextx.cell f1
                      replace f2 := hextx.cell f2
                      replace f3 := hextx.cell f3
                      obtain ⟨y, hy⟩ : ∃ y, y = T[j] := ⟨_, rfl⟩
                      rw [← hy] at f0 f1 f2 f3 htj
                      obtain ⟨c2, d0, d1, d2, d3⟩ := HD4.out
                      replace c2 := hextx.cell c2
                      replace d0 := hextx.cell d0
                      replace d1 := hextx.cell d1
                      replace d2 := hextx.cell d2
                      replace d3 := hextx.cell d3
                      have HTJ := Lib.hid htj
                      clear hy hb htj hextx
                      rcases b with _ | _
                      · by_cases hxy : y = x
                        · have HB : Hid (decide (x ∈ T.take (j + 1)) = true) := Lib.hid (by rw [HTJ.out, hxy]; simp)
                          subst hxy
                          go_upto_region 24 with fail
                          go_quiet (fail)
                          go_wp2_with fail
                          go_roundw
                          case rel => exact ⟨j + 1, by omega, by go_num, by rw [HB.out], HEX.out.drewN _⟩
                          case measure => simp [intOf]; omega
                        · have HB : Hid (decide (x ∈ T.take (j + 1)) = false) := Lib.hid (by rw [HTJ.out, decide_eq_false (fun e => hxy e.symm)]; rfl)
                          rcases Tm.ne4 (x := x) (t := y) (fun e => hxy e.symm) with h1 | ⟨h1, h2 | ⟨h2, h3 | ⟨h3, h4⟩⟩⟩
                          all_goals
                            clear hxy
                            go_upto_region 24 with fail
                            go_quiet (fail)
                            go_wp2_with fail
                            go_roundw
                            case rel => exact ⟨j + 1, by omega, by go_num, by rw [HB.out], HEX.out.drewN _⟩
                            case measure => simp [intOf]; omega
                      · have HB : Hid (decide (x ∈ T.take (j + 1)) = true) := Lib.hid (by rw [HTJ.out]; rfl)
                        go_upto_region 24 with fail
                        go_quiet (fail)
                        go_wp2_with fail
                        go_roundw
                        case rel => exact ⟨j + 1, by omega, by go_num, by rw [HB.out], HEX.out.drewN _⟩
                        case measure => simp [intOf]; omega
                    · obtain rfl : j = m := by omega
                      have hdj : ¬ (j : Int) < (j : Int) := by omega
                      have et : T.take j = T := by rw [HMT.out]; exact List.take_length
                      rw [et]
                      have HRX := Lib.hid (own_ext' HROW.out hextx)
                      obtain ⟨c2, d0, d1, d2, d3⟩ := HD4.out
                      replace c2 := hextx.cell c2
                      replace d0 := hextx.cell d0
                      replace d1 := hextx.cell d1
                      replace d2 := hextx.cell d2
                      replace d3 := hextx.cell d3
                      have hwx : W5.heap.size ≤ wr.heap.size := hextx.size
                      have HEW := Lib.hid (HXT.out.trans hextx)
                      clear et hextx
                      by_cases hin : x ∈ T
                      · rw [decide_eq_true hin]
                        have HADD : Hid (addD T x = T) := Lib.hid (by simp [addD, hin])
                        clear hin
                        go_wp2_with fail
                        go_roundw
                        case rel => exact ⟨k + 1, j, by omega, by go_num, by rw [HETK.out, HADD.out]; exact HRX.out, HEW.out⟩
                        case measure => simp [intOf]; omega
                      · rw [decide_eq_false hin]
                        have HADD : Hid (addD T x = T ++ [x]) := Lib.hid (by simp [addD, hin])
                        clear hin
                        go_wp2_with (first | (at_builtin; refine wpList_append_at rfl _ _ 37 rfl W4.heap.size 66 j0 (.agg #[.string ⟨#[]⟩, .int .i64 0, .int .i64 0, .string ⟨#[]⟩]) 4 48 Tryd.underlying37 HJ0.out.1 HJ0.out.2.1 HJ0.out.2.2.1 HJ0.out.2.2.2 rfl (by omega) (.slice At2 j ct2) j (tcells T) rfl (HRX.out.alloc _) ⟨wr.heap.size, 0, none⟩ 1 1 [.string x.var, .int .i64 x.kind, .int .i64 x.int, .string x.str] rfl rfl (laid_news wr _ _) (by simp [Value.oneCell']) (by simp only [maxLen]; omega) (by omega) (by simp; omega) ?_; intro v8 w8 hr8 hg8 hl8; have HR8 := Lib.hid hr8; have HE8 : Hid (Ext W4 w8) := Lib.hid ((HEW.out.alloc _).grown hg8 (fun q hq => own_ge HRX.out hq)); clear hr8 hg8 hl8))
                        go_roundw
                        case rel => exact ⟨k + 1, j + 1, by omega, by go_num, by rw [HETK.out, HADD.out, tcells_append]; exact HR8.out, HE8.out⟩
                        case measure => simp [intOf]; omega
                · obtain rfl : k = nt := by omega
                  have hdk : ¬ (k : Int) < (k : Int) := by omega
                  clear hcl hext
                  go_wp2_with fail
                  go_roundw
                  case rel =>
                    refine ⟨a + 1, m, by omega, by go_num, ?_, HXT.out⟩
                    have et : ts.take k = ts := by rw [HNT.out]; exact List.take_length
                    have h := HROW.out
                    rw [et] at h
                    rw [HTKA.out]
                    exact h
                  case measure => simp [intOf]; omega
            · obtain rfl : a = ny := by omega
              have hda : ¬ (a : Int) < (a : Int) := by omega
              have et : ys.take a = ys := by rw [HNY.out]; exact List.take_length
              rw [et] at hrow
              obtain ⟨At2, ct2, rfl⟩ := own_slice hrow
              have HROW := Lib.hid hrow; have HXT := Lib.hid hext
              have HWX := Lib.hid (HW4.out.trans hext)
              have hge := fromR_ge hd Vs
              have hFl : (fromR hd Vs).length ≤ 200000 := by
                have h := fromR_length hd Vs
                rw [← HNV.out, ← HNH.out] at h
                omega
              have hDl : (distT (allT ys)).length ≤ 100000 := by have := distT_length (allT ys); have := HLB.out; omega
              have hcall := srch25 (fr := fromR hd Vs) (cs := distT (allT ys)) (xs := xs) (ys := ys) (by have := HLX.out; omega) (by have := HLA.out; omega) (by omega) (by have := HNY.out; omega) (by omega) ((fromR hd Vs).length - imgs.length) (HX.out.ext HWX.out) (Strs.of_own (own_ext' HI.out.row hext)) (Ts.of_own (own_ext' HTO4.out hext)) (Ts.of_own hrow) (HY.out.ext HWX.out) (by rw [List.length_map]; have := HNI.out; have := HNH.out; omega)
              have HCALL := Lib.hid hcall
              have HRES : Hid (srchR xs (fromR hd Vs) (distT (allT ys)) ys ((fromR hd Vs).length - imgs.length) (imgs.map varT) = homR xs hd ys imgs) := Lib.hid (by unfold homR; rw [HVS.out])
              rw [HRES.out] at HCALL
              clear et hrow hext hcall hge hFl hDl
              go_wp2_with fail
              refine HCALL.out.mono ?_
              rintro e w5 ⟨z, rfl, he5, rfl⟩
              have HZ := Lib.hid (HWX.out.trans he5)
              clear he5
              go_wp2_with fail
              go_ret
              exact Ret.mk HZ.out rfl
end Go.Proofs.YtehklbdgkppmeaaDoor
