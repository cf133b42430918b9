/- Contract: ordinalref25.search. -/
import Derived.Test.YtehklbdgkppmeaaDoorQt
import Derived.Test.YtehklbdgkppmeaaDoorQh
namespace Go.Proofs.YtehklbdgkppmeaaDoor
open Go.RowKit Go.Maps

theorem made2 (W : World) (o : Obj) (base : Nat) (e : TypeId) (size : Nat) (hb : base ≤ W.heap.size) : ((W.alloc o).alloc (.cells #[] e)).ownsRow base e size (.slice (some ⟨W.heap.size + 1, 0, none⟩) 0 0) 0 [] := by
  have h := World.ownsRow_made (base := base) (e := e) (size := size) (W.alloc o) #[] 0 (by simp; omega) (Nat.zero_le _) (by simp)
  rw [show (W.alloc o).heap.size = W.heap.size + 1 by simp] at h
  exact h
theorem bk_news {w : World} {g : Nat} {t : TypeId} {xs : List Value} (h : Bk w g t xs) : ∀ j u, xs[j]? = some u → w.cell? ((⟨g, 0, none⟩ : Addr).add j) = some u := fun j u hu => by
  obtain ⟨hj, rfl⟩ := List.getElem?_eq_some_iff.1 hu
  rw [add_own]
  exact h.cell hj

theorem own_ext' {w w' : World} {base size n : Nat} {e : TypeId} {v : Value} {xs : List Value} (h : w.ownsRow base e size v n xs) (he : Ext w w') : w'.ownsRow base e size v n xs := own_fr h (he.fr (fun _ => False)) (fun _ _ h => h)

set_option maxRecDepth 20000 in
set_option maxHeartbeats 3200000 in
theorem srch25 {xs ys : List At} {fr : List ByteArray} {cs : List Tm} (hlx : xs.length ≤ 1048576) (hla : (allT xs).length ≤ 1048576) (hlf : fr.length ≤ 1048576) (hly : ys.length ≤ 1048576) (hlc : cs.length ≤ 1048576) : ∀ (k : Nat) {F G H I J : Nat → Prop} {w : World} {vX vf vt vc vY : Value} {tg : List Tm} (_ : Ats F w vX xs) (_ : Strs G w vf fr) (_ : Ts H w vt tg) (_ : Ts J w vc cs) (_ : Ats I w vY ys) (_ : fr.length = tg.length + k),
    Calls Tryd.prog 38 #[vX, vf, vt, vc, vY] w (Ret (fun x _ => x = .bool (srchR xs fr cs ys k tg)) w) := by
  intro k
  induction k with
  | zero =>
    intro F G H I J w vX vf vt vc vY tg hX hf ht hc hY hk
    have HMAPS := Lib.hid (maps25 hX hf ht hY (by omega) hlx hla hlf hly)
    obtain ⟨B, cB, hB⟩ : ∃ B c, vf = .slice B fr.length c := by obtain ⟨B, c, e, _⟩ := hf; exact ⟨B, c, e⟩
    obtain ⟨C, cC, hC⟩ : ∃ B c, vt = .slice B tg.length c := by obtain ⟨B, c, e, _⟩ := ht; exact ⟨B, c, e⟩
    subst hB hC
    rw [hk, Nat.add_zero] at HMAPS ⊢
    have HSR : Hid (srchR xs fr cs ys 0 tg = mapsR xs fr tg ys) := Lib.hid rfl
    rw [HSR.out]
    clear hX hf ht hc hY hk
    obtain ⟨m, hm⟩ : ∃ m, m = tg.length := ⟨_, rfl⟩
    rw [← hm] at HMAPS ⊢
    clear hm
    obtain ⟨b, hb⟩ : ∃ b, b = mapsR xs fr tg ys := ⟨_, rfl⟩
    rw [← hb] at HMAPS ⊢
    clear hb HSR
    go_enter Tryd.func38, Tryd.ntmps38
    go_wp2_with fail
    refine HMAPS.out.mono ?_
    rintro e w1 ⟨x, rfl, he, rfl⟩
    have HE := Lib.hid he
    clear he
    rcases b with _ | _
    all_goals
      go_wp2_with fail
      go_ret
      exact Ret.mk HE.out rfl
  | succ k ih =>
    intro F G H I J w vX vf vt vc vY tg hX hf ht hc hY hk
    have HMAPS := Lib.hid (maps25 hX hf ht hY (by omega) hlx hla hlf hly)
    obtain ⟨A, cA, nA, hA⟩ : ∃ B c n, vX = .slice B n c := by obtain ⟨B, c, _, e, _⟩ := hX; exact ⟨B, c, _, e⟩
    obtain ⟨D, cD, nD, hD⟩ : ∃ B c n, vY = .slice B n c := by obtain ⟨B, c, _, e, _⟩ := hY; exact ⟨B, c, _, e⟩
    obtain ⟨B, cB, hB⟩ : ∃ B c, vf = .slice B fr.length c := by obtain ⟨B, c, e, _⟩ := hf; exact ⟨B, c, e⟩
    subst hA hD hB
    have HX := Lib.hid hX; have HF := Lib.hid hf; have HT := Lib.hid ht; have HC := Lib.hid hc; have HY := Lib.hid hY; have HK := Lib.hid hk
    obtain ⟨C, cC, rfl, hcC, hclT⟩ := ht
    obtain ⟨S, cS, rfl, hcS, hclS⟩ := hc
    obtain ⟨m, hm⟩ : ∃ m, m = tg.length := ⟨_, rfl⟩
    obtain ⟨nf, hnf⟩ : ∃ m, m = fr.length := ⟨_, rfl⟩
    obtain ⟨nc, hnc⟩ : ∃ m, m = cs.length := ⟨_, rfl⟩
    have hmf : m < nf := by omega
    have hncb : nc ≤ 1048576 := by omega
    have hmb : m ≤ 1048576 := by omega
    have hlm : (tcells tg).length = m * 4 := by rw [tcells_length, hm]
    rw [← hm] at HMAPS hcC HT ⊢
    rw [← hnf] at HMAPS HF ⊢
    rw [← hnc] at hcS HC ⊢
    have HM := Lib.hid hm; have HNC := Lib.hid hnc; have HCT := Lib.hid hclT; have HCS := Lib.hid hclS; have HLM := Lib.hid hlm; have IH : Hid (∀ (F G H I J : Nat → Prop) (w : World) (vX vf vt vc vY : Value) (tg : List Tm), Ats F w vX xs → Strs G w vf fr → Ts H w vt tg → Ts J w vc cs → Ats I w vY ys → fr.length = tg.length + k → Calls Tryd.prog 38 #[vX, vf, vt, vc, vY] w (Ret (fun x _ => x = .bool (srchR xs fr cs ys k tg)) w)) := Lib.hid (fun F G H I J w vX vf vt vc vY tg a b c d e f => ih a b c d e f)
    have hne : ((m : Int) == (nf : Int)) = false := by simp; omega
    clear hX hf hY hk hclT hclS hm hnf hnc hlm ih
    obtain ⟨i0, hi0, hz0, hz1, hz2⟩ := info_parts info_term
    have HI0 := Lib.hid (And.intro hi0 (And.intro hz0 (And.intro hz1 hz2))); clear hi0 hz0 hz1 hz2
    have HSR : Hid (srchR xs fr cs ys (k + 1) tg = (mapsR xs fr tg ys && cs.any (fun t => srchR xs fr cs ys k (tg ++ [t])))) := Lib.hid rfl
    rw [HSR.out]
    clear HSR
    rcases hb : mapsR xs fr tg ys with _ | _
    · rw [hb] at HMAPS
      rw [Bool.false_and]
      clear hb
      go_enter Tryd.func38, Tryd.ntmps38
      go_wp2_with fail
      refine HMAPS.out.mono ?_
      rintro e w1 ⟨x, rfl, he, rfl⟩
      have HE := Lib.hid he
      clear he
      go_wp2_with fail
      go_ret
      exact Ret.mk HE.out rfl
    · rw [hb] at HMAPS
      rw [Bool.true_and]
      clear hb
      go_enter Tryd.func38, Tryd.ntmps38
      go_wp2_with fail
      refine HMAPS.out.mono ?_
      rintro e w1 ⟨x, rfl, he, rfl⟩
      have HE := Lib.hid he
      clear he
      go_wp2_with fail
      go_loopw [11] (fun q wr => ∃ i : Nat, i ≤ nc ∧ q = .int .i64 (i : Int) ∧ (cs.take i).any (fun t => srchR xs fr cs ys k (tg ++ [t])) = false ∧ Ext w wr) (fun q _ => nc - (intOf q).toNat)
      case atStart => exact ⟨0, Nat.zero_le _, rfl, by simp, HE.out⟩
      case round =>
        obtain ⟨i, hi, rfl, hany, hext⟩ := hrel
        have HANY := Lib.hid hany; have HX1 := Lib.hid hext
        clear hany
        by_cases hlt : i < nc
        · have i1 : (0 : Int) ≤ (i : Int) := by omega
          have i2 : (i : Int) < (nc : Int) := by omega
          have hil : i < cs.length := by have := HNC.out; omega
          obtain ⟨ad, rfl, -, d0, d1, d2, d3⟩ := HCS.out.term (i := i) hil
          replace d0 := hext.cell d0
          replace d1 := hext.cell d1
          replace d2 := hext.cell d2
          replace d3 := hext.cell d3
          have htk : (cs.take (i + 1)).any (fun t => srchR xs fr cs ys k (tg ++ [t])) = ((cs.take i).any (fun t => srchR xs fr cs ys k (tg ++ [t])) || srchR xs fr cs ys k (tg ++ [cs[i]])) := by rw [List.take_succ_eq_append_getElem hil, List.any_append]; simp
          have hin : cs[i] ∈ cs := List.getElem_mem hil
          obtain ⟨x, hx⟩ : ∃ x, x = cs[i] := ⟨_, rfl⟩
          rw [← hx] at d0 d1 d2 d3 htk hin
          obtain ⟨b, hb⟩ : ∃ b, b = srchR xs fr cs ys k (tg ++ [x]) := ⟨_, rfl⟩
          rw [← hb] at htk
          have HTK := Lib.hid htk; have HIN := Lib.hid hin; have HB := Lib.hid hb
          have HIH : Hid (∀ (V : World) (v' : Value), Ext wr V → V.ownsRow wr.heap.size 66 4 v' (m + 1) (tcells tg ++ x.cells) → Calls Tryd.prog 38 #[.slice A nA cA, .slice B nf cB, v', .slice (some ad) nc cS, .slice D nD cD] V (Ret (fun z _ => z = .bool b) V)) := Lib.hid (fun V v' hV hrow => by
            have hw := hext.trans hV
            have e : tcells tg ++ x.cells = tcells (tg ++ [x]) := by rw [tcells_append]; simp [tcells]
            rw [e] at hrow
            have h := IH.out _ _ _ _ _ _ _ _ _ _ _ _ (HX.out.ext hw) (HF.out.ext hw) (Ts.of_own hrow) (HC.out.ext hw) (HY.out.ext hw) (by have := HK.out; simp; omega)
            rw [← hb] at h
            exact h)
          have HNEW : Hid (∀ V : World, Ext wr V → ∀ j u, (tcells tg)[j]? = some u → ∃ a, C = some a ∧ V.cell? (a.add j) = some u) := Lib.hid (fun V hV => (HCT.out.ext (hext.trans hV)).news)
          clear htk hin hx hb hext
          have e0 := ((Ext.refl wr).alloc (.cells #[] 66)).cell d0
          have e1 := ((Ext.refl wr).alloc (.cells #[] 66)).cell d1
          have e2 := ((Ext.refl wr).alloc (.cells #[] 66)).cell d2
          have e3 := ((Ext.refl wr).alloc (.cells #[] 66)).cell d3
          go_upto_region 8 with fail
          go_region_law (first
            | (refine step_append_opt (by rfl) _ _ _ (by rfl) wr.heap.size 66 i0 (.agg #[.string ⟨#[]⟩, .int .i64 0, .int .i64 0, .string ⟨#[]⟩]) 4 48 Tryd.underlying37 HI0.out.1 HI0.out.2.1 HI0.out.2.2.1 HI0.out.2.2.2 rfl (by omega) (.slice (some ⟨wr.heap.size, 0, none⟩) 0 0) 0 [] (by rfl) (by exact own_ext' (World.ownsRow_made wr #[] 0 (Nat.le_refl _) (Nat.zero_le _) rfl) (Ext.refl _).drew) C m cC (tcells tg) (by rfl) HLM.out (by exact HNEW.out _ ((Ext.refl wr).alloc _).drew) (tcells_one tg) (by simp only [maxLen]; omega) (by omega) (by simp) ?_; intro v9 w9 hr9 hg9 hl9; rw [Nat.zero_add, List.nil_append] at hr9; obtain ⟨A9, c9, rfl⟩ := own_slice hr9; have HR9 := Lib.hid hr9; have HE9 : Hid (Ext wr w9) := Lib.hid (((Ext.refl wr).alloc _).drew.grown hg9 (fun q hq => by simp [Value.ownBlock] at hq; omega)); have d09 := HE9.out.cell d0; have d19 := HE9.out.cell d1; have d29 := HE9.out.cell d2; have d39 := HE9.out.cell d3; have hw9 : wr.heap.size ≤ w9.heap.size := HE9.out.size; clear hr9 hg9 hl9; go_wp2_with fail)
            | (refine step_append_opt (by rfl) _ _ _ (by rfl) wr.heap.size 66 i0 (.agg #[.string ⟨#[]⟩, .int .i64 0, .int .i64 0, .string ⟨#[]⟩]) 4 48 Tryd.underlying37 HI0.out.1 HI0.out.2.1 HI0.out.2.2.1 HI0.out.2.2.2 rfl (by omega) (.slice (some ⟨wr.heap.size, 0, none⟩) 0 0) 0 [] (by rfl) (by exact own_ext' ((World.ownsRow_made wr #[] 0 (Nat.le_refl _) (Nat.zero_le _) rfl).alloc _) (Ext.refl _).drew) C m cC (tcells tg) (by rfl) HLM.out (by exact HNEW.out _ (((Ext.refl wr).alloc _).alloc _).drew) (tcells_one tg) (by simp only [maxLen]; omega) (by omega) (by simp; omega) ?_; intro v9 w9 hr9 hg9 hl9; rw [Nat.zero_add, List.nil_append] at hr9; obtain ⟨A9, c9, rfl⟩ := own_slice hr9; have HR9 := Lib.hid hr9; have HE9 : Hid (Ext wr w9) := Lib.hid ((((Ext.refl wr).alloc _).alloc _).drew.grown hg9 (fun q hq => by simp [Value.ownBlock] at hq; omega)); have HS9 : Hid (Bk w9 (wr.heap.size + 1) 66 x.cells) := Lib.hid (Bk.fr ((two_boxes wr 66 66 [] x.cells).2.1.ext (Ext.refl _).drew) (grown_fr hg9) (fun e => by simp [Value.ownBlock] at e)); have hw9 : wr.heap.size ≤ w9.heap.size := HE9.out.size; clear hr9 hg9 hl9; go_wp2_with fail)
            | (refine step_append_opt (by rfl) _ _ _ (by rfl) wr.heap.size 66 i0 (.agg #[.string ⟨#[]⟩, .int .i64 0, .int .i64 0, .string ⟨#[]⟩]) 4 48 Tryd.underlying37 HI0.out.1 HI0.out.2.1 HI0.out.2.2.1 HI0.out.2.2.2 rfl (by omega) (.slice (some ⟨wr.heap.size + 1, 0, none⟩) 0 0) 0 [] (by rfl) (by exact own_ext' (made2 wr _ wr.heap.size _ _ (Nat.le_refl _)) (Ext.refl _).drew) C m cC (tcells tg) (by rfl) HLM.out (by exact HNEW.out _ (((Ext.refl wr).alloc _).alloc _).drew) (tcells_one tg) (by simp only [maxLen]; omega) (by omega) (by simp; omega) ?_; intro v9 w9 hr9 hg9 hl9; rw [Nat.zero_add, List.nil_append] at hr9; obtain ⟨A9, c9, rfl⟩ := own_slice hr9; have HR9 := Lib.hid hr9; have HE9 : Hid (Ext wr w9) := Lib.hid ((((Ext.refl wr).alloc _).alloc _).drew.grown hg9 (fun q hq => by simp [Value.ownBlock] at hq; omega)); have HS9 : Hid (Bk w9 wr.heap.size 66 x.cells) := Lib.hid (Bk.fr ((two_boxes wr 66 66 x.cells []).1.ext (Ext.refl _).drew) (grown_fr hg9) (fun e => by simp [Value.ownBlock] at e)); have hw9 : wr.heap.size ≤ w9.heap.size := HE9.out.size; clear hr9 hg9 hl9; go_wp2_with fail)
            | (refine step_append_at (by rfl) _ _ _ (by rfl) wr.heap.size 66 i0 (.agg #[.string ⟨#[]⟩, .int .i64 0, .int .i64 0, .string ⟨#[]⟩]) 4 48 Tryd.underlying37 HI0.out.1 HI0.out.2.1 HI0.out.2.2.1 HI0.out.2.2.2 rfl (by omega) (.slice A9 m c9) m (tcells tg) (by rfl) (by exact HR9.out.alloc _) ⟨w9.heap.size, 0, none⟩ 1 1 [.string x.var, .int .i64 x.kind, .int .i64 x.int, .string x.str] (by rfl) (by rfl) (by exact laid_news w9 _ _) (by simp [Value.oneCell']) (by simp only [maxLen]; omega) (by omega) (by simp; omega) ?_; intro v8 w8 hr8 hg8 hl8; obtain ⟨A8, c8, rfl⟩ := own_slice hr8; have HR8 := Lib.hid hr8; have HE8 : Hid (Ext wr w8) := Lib.hid ((HE9.out.alloc _).grown hg8 (fun q hq => own_ge HR9.out hq)); clear hr8 hg8 hl8; go_wp2_with fail)
            | (refine step_append_at (by rfl) _ _ _ (by rfl) wr.heap.size 66 i0 (.agg #[.string ⟨#[]⟩, .int .i64 0, .int .i64 0, .string ⟨#[]⟩]) 4 48 Tryd.underlying37 HI0.out.1 HI0.out.2.1 HI0.out.2.2.1 HI0.out.2.2.2 rfl (by omega) (.slice A9 m c9) m (tcells tg) (by rfl) (by exact HR9.out) ⟨wr.heap.size + 1, 0, none⟩ 1 1 [.string x.var, .int .i64 x.kind, .int .i64 x.int, .string x.str] (by rfl) (by rfl) (by exact bk_news HS9.out) (by simp [Value.oneCell']) (by simp only [maxLen]; omega) (by omega) (by omega) ?_; intro v8 w8 hr8 hg8 hl8; obtain ⟨A8, c8, rfl⟩ := own_slice hr8; have HR8 := Lib.hid hr8; have HE8 : Hid (Ext wr w8) := Lib.hid (HE9.out.grown hg8 (fun q hq => own_ge HR9.out hq)); clear hr8 hg8 hl8; go_wp2_with fail)
            | (refine step_append_at (by rfl) _ _ _ (by rfl) wr.heap.size 66 i0 (.agg #[.string ⟨#[]⟩, .int .i64 0, .int .i64 0, .string ⟨#[]⟩]) 4 48 Tryd.underlying37 HI0.out.1 HI0.out.2.1 HI0.out.2.2.1 HI0.out.2.2.2 rfl (by omega) (.slice A9 m c9) m (tcells tg) (by rfl) (by exact HR9.out) ⟨wr.heap.size, 0, none⟩ 1 1 [.string x.var, .int .i64 x.kind, .int .i64 x.int, .string x.str] (by rfl) (by rfl) (by exact bk_news HS9.out) (by simp [Value.oneCell']) (by simp only [maxLen]; omega) (by omega) (by omega) ?_; intro v8 w8 hr8 hg8 hl8; obtain ⟨A8, c8, rfl⟩ := own_slice hr8; have HR8 := Lib.hid hr8; have HE8 : Hid (Ext wr w8) := Lib.hid (HE9.out.grown hg8 (fun q hq => own_ge HR9.out hq)); clear hr8 hg8 hl8; go_wp2_with fail)
            | (go_simp; refine (HIH.out _ _ HE8.out HR8.out).mono ?_; rintro e wz ⟨yv, rfl, hez, rfl⟩; have HEZ := Lib.hid (HE8.out.trans hez); clear hez; go_wp2_with fail))
          all_goals
            rcases b with _ | _
            · go_wp2_with fail
              go_roundw
              case rel => exact ⟨i + 1, by omega, by go_num, by rw [HTK.out, HANY.out]; rfl, HX1.out.trans HEZ.out⟩
              case measure => simp [intOf]; omega
            · go_wp2_with fail
              go_ret
              refine Ret.mk (HX1.out.trans HEZ.out) ?_
              rw [List.any_eq_true.2 ⟨x, HIN.out, HB.out.symm⟩]
              rfl
        · obtain rfl : i = nc := by omega
          have hdn : ¬ (i : Int) < (i : Int) := by omega
          clear hext
          go_wp2_with fail
          go_ret
          refine Ret.mk HX1.out ?_
          have h := HANY.out
          rw [HNC.out, List.take_length] at h
          rw [h]
          rfl
end Go.Proofs.YtehklbdgkppmeaaDoor
