/- Contract: ordinalref25.maps. -/
import Derived.Test.YtehklbdgkppmeaaDoorQs
import Derived.Test.YtehklbdgkppmeaaDoorQg
namespace Go.Proofs.YtehklbdgkppmeaaDoor
open Go.RowKit Go.Maps

/-- All variables of some terms have an image. -/
def allB (fr : List ByteArray) (m : Nat) (ts : List Tm) : Bool := ts.all (fun t => decide (t.var = ⟨#[]⟩ ∨ t.var ∈ fr.take m))
theorem allB_snoc (fr : List ByteArray) (m : Nat) (ts : List Tm) (t : Tm) : allB fr m (ts ++ [t]) = (allB fr m ts && decide (t.var = ⟨#[]⟩ ∨ t.var ∈ fr.take m)) := by simp [allB]
def okA (fr : List ByteArray) (tg : List Tm) (ys : List At) (a : At) : Bool := !(allB fr tg.length a.terms) || ys.any (fun b => hitT a (a.terms.map (repT (firstP (fr.zip tg)))) b)
theorem mapsR_all (xs : List At) (fr : List ByteArray) (tg : List Tm) (ys : List At) : mapsR xs fr tg ys = xs.all (okA fr tg ys) := rfl
theorem all_take {α : Type} {p : α → Bool} {l : List α} {i : Nat} (h : i < l.length) (h1 : (l.take i).all p = true) (h2 : p l[i] = true) : (l.take (i + 1)).all p = true := by
  rw [List.take_succ_eq_append_getElem h, List.all_append, h1]
  simp [h2]
theorem in_take {fr : List ByteArray} {m : Nat} {s : ByteArray} {F : Nat → Prop} {w : World} {A : Option Addr} {n c : Nat} (h : Strs F w (.slice A n c) fr) (hm : m ≤ n) (hl : n ≤ 1048576) :
    Calls Tryd.prog 16 #[.slice A m c, .string s] w (fun e w' => e = .returned (.bool (decide (s ∈ fr.take m))) ∧ w' = w) := by
  obtain ⟨A', c', e, hc, hcl⟩ := h
  injection e with e1 e2 e3
  subst e1 e2 e3
  have hml : (fr.take m).length = m := by simp; omega
  have hs : Strs F w (.slice A m c) (fr.take m) := by
    refine ⟨A, c, by rw [hml], by omega, ?_⟩
    rcases hcl with h | ⟨ad, h1, h2, h3⟩
    · left
      have h4 := List.map_eq_nil_iff.1 h
      simp [h4]
    · refine .inr ⟨ad, h1, h2, fun j hj => ?_⟩
      have hj2 : j < m := by rw [List.length_map, hml] at hj; exact hj
      have hjl : j < (fr.map Sv).length := by simp; omega
      rw [h3 j hjl]
      simp
  exact (in25 hs (by omega)).mono (fun e w' h => ⟨h.1, h.2.symm⟩)

set_option maxRecDepth 20000 in
set_option maxHeartbeats 3200000 in
theorem maps25 {F G H I : Nat → Prop} {w : World} {vX vf vt vY : Value} {xs ys : List At} {fr : List ByteArray} {tg : List Tm} (hX : Ats F w vX xs) (hf : Strs G w vf fr) (ht : Ts H w vt tg) (hY : Ats I w vY ys) (hle : tg.length ≤ fr.length) (hlx : xs.length ≤ 1048576) (hla : (allT xs).length ≤ 1048576) (hlf : fr.length ≤ 1048576) (hly : ys.length ≤ 1048576) :
    Calls Tryd.prog 53 #[vX, vf, vt, vY] w (Ret (fun x _ => x = .bool (mapsR xs fr tg ys)) w) := by
  obtain ⟨A, cA, rfl, hcA, hatA⟩ := hX.at'
  obtain ⟨D, cD, rfl, hcD, hatD⟩ := hY.at'
  obtain ⟨B, cB, hB⟩ : ∃ B c, vf = .slice B fr.length c := by obtain ⟨B, c, e, _⟩ := hf; exact ⟨B, c, e⟩
  obtain ⟨C, cC, hC⟩ : ∃ B c, vt = .slice B tg.length c := by obtain ⟨B, c, e, _⟩ := ht; exact ⟨B, c, e⟩
  have hcB : fr.length ≤ cB := by obtain ⟨B', c, e, h, _⟩ := hf; rw [hB] at e; injection e with _ _ e; omega
  subst hB hC
  obtain ⟨n, hn⟩ : ∃ n, n = xs.length := ⟨_, rfl⟩
  obtain ⟨ny, hny⟩ : ∃ n, n = ys.length := ⟨_, rfl⟩
  obtain ⟨nf, hnf⟩ : ∃ n, n = fr.length := ⟨_, rfl⟩
  obtain ⟨m, hm⟩ : ∃ n, n = tg.length := ⟨_, rfl⟩
  rw [← hn] at hcA hlx ⊢
  rw [← hny] at hcD hly ⊢
  rw [← hnf] at hf hle hlf hcB ⊢
  rw [← hm] at ht hle ⊢
  have HN := Lib.hid hn; have HNY := Lib.hid hny; have HNF := Lib.hid hnf; have HM := Lib.hid hm
  have HAT := Lib.hid hatA; have HDT := Lib.hid hatD; have HF := Lib.hid hf; have HT := Lib.hid ht; have HLA := Lib.hid hla
  clear hn hny hnf hm hatA hatD hf ht hla hX hY
  obtain ⟨i0, hi0, hz0, hz1, hz2⟩ := info_parts info_term
  have HI0 := Lib.hid (And.intro hi0 (And.intro hz0 (And.intro hz1 hz2))); clear hi0 hz0 hz1 hz2
  go_enter Tryd.func53, Tryd.ntmps53
  go_wp2_with fail
  go_loopw [9] (fun q wr => ∃ i : Nat, i ≤ n ∧ q = .int .i64 (i : Int) ∧ (xs.take i).all (okA fr tg ys) = true ∧ Ext w wr) (fun q _ => n - (intOf q).toNat)
  case atStart => exact ⟨0, Nat.zero_le _, rfl, by simp, Ext.refl _⟩
  case round =>
    obtain ⟨i, hi, rfl, hall, hext⟩ := hrel
    obtain ⟨wo, rfl⟩ : ∃ wo : World, wo = wr := ⟨_, rfl⟩
    have HALL := Lib.hid hall; have HEO := Lib.hid hext
    clear hall
    by_cases hlt : i < n
    · have i1 : (0 : Int) ≤ (i : Int) := by omega
      have i2 : (i : Int) < (n : Int) := by omega
      have hix : i < xs.length := by have := HN.out; omega
      obtain ⟨ad, Bt, dt, rfl, -, -, c1, c2, hd, hcl⟩ := HAT.out i hix
      replace c1 := hext.cell c1
      replace c2 := hext.cell c2
      have htl := terms_le hix
      obtain ⟨a, ha⟩ : ∃ a, a = xs[i] := ⟨_, rfl⟩
      rw [← ha] at c1 c2 hd hcl htl
      obtain ⟨nt, hnt⟩ : ∃ nt, nt = a.terms.length := ⟨_, rfl⟩
      rw [← hnt] at c2 hd htl
      have hnt2 : nt ≤ 1048576 := by have := HLA.out; omega
      have HA := Lib.hid ha; have HNT := Lib.hid hnt; have HC2 := Lib.hid c2; have HCL := Lib.hid (hcl.ext hext)
      clear ha hnt hcl hext
      obtain ⟨ra, hra⟩ : ∃ r, r = a.rel := ⟨_, rfl⟩
      rw [← hra] at c1
      have HRA := Lib.hid hra
      clear hra
      go_wp2_with fail
      have kx := Bk.new wo 39 [.bool false, .string ra, .slice none 0 0]
      change Bk (wo.alloc (.cells #[.bool false, .string ra, .slice none 0 0] 39)) _ _ _ at kx
      go_loopw [10, 12] (fun t q wr => ∃ (k : Nat) (v : Value), k ≤ nt ∧ q = .int .i64 (k : Int) ∧ t = .bool (allB fr m (a.terms.take k)) ∧ ReI wo wr wo.heap.size false ra ((a.terms.take k).map (repT (firstP (fr.zip tg)))) v k) (fun _ q _ => nt - (intOf q).toNat)
      case atStart => exact ⟨0, .slice none 0 0, Nat.zero_le _, rfl, by simp [allB], kx, World.ownsRow_nil _ _ _ _, (Ext.refl wo).alloc _⟩
      case round =>
        clear kx
        obtain ⟨k, v, hk, rfl, rfl, hJ⟩ := hrel
        obtain ⟨Av, cv, rfl⟩ := own_slice hJ.row
        obtain ⟨bo, hbo⟩ : ∃ b, b = allB fr m (a.terms.take k) := ⟨_, rfl⟩
        rw [← hbo]
        have HBO := Lib.hid hbo
        have hJc := hJ.ext.cell HC2.out
        have hwr : wo.heap.size < wr.heap.size := hJ.bk.lt
        clear hbo
        by_cases hkt : k < nt
        · have k1 : (0 : Int) ≤ (k : Int) := by omega
          have k2 : (k : Int) < (nt : Int) := by omega
          have hkz : k < a.terms.length := by have := HNT.out; omega
          obtain ⟨ad2, rfl, -, d0, d1, d2, d3⟩ := HCL.out.term (i := k) hkz
          replace d0 := hJ.ext.cell d0
          replace d1 := hJ.ext.cell d1
          replace d2 := hJ.ext.cell d2
          replace d3 := hJ.ext.cell d3
          have htk : a.terms.take (k + 1) = a.terms.take k ++ [a.terms[k]] := List.take_succ_eq_append_getElem hkz
          obtain ⟨x, hx⟩ : ∃ x, x = a.terms[k] := ⟨_, rfl⟩
          rw [← hx] at d0 d1 d2 d3 htk
          have HTK := Lib.hid htk; have HJ := Lib.hid hJ
          clear hx htk hJ
          go_upto_region 10 with fail
          have hx2 : Ext wr (wr.alloc (.cells #[.string x.var, .int .i64 x.kind, .int .i64 x.int, .string x.str] 66)) := (Ext.refl wr).alloc _
          have k7 := Bk.new wr 66 [.string x.var, .int .i64 x.kind, .int .i64 x.int, .string x.str]
          change Bk (wr.alloc (.cells #[.string x.var, .int .i64 x.kind, .int .i64 x.int, .string x.str] 66)) _ _ _ at k7
          generalize (wr.alloc (.cells #[.string x.var, .int .i64 x.kind, .int .i64 x.int, .string x.str] 66)) = w2 at *
          have s0 := k7.cell (i := 0) (by simp)
          simp only [List.getElem_cons_zero] at s0
          have HX2 := Lib.hid hx2; have HK7 := Lib.hid k7
          clear hx2 k7 d0 d1 d2 d3 hJc
          have HIN := Lib.hid (fun nq : Nat => in_take (s := x.var) (w := w2.drewN nq) (m := m) (HF.out.ext (((HEO.out.trans HJ.out.ext).trans HX2.out).drewN nq)) hle hlf)
          have m1 : (0 : Int) ≤ (m : Int) := by omega
          have m2 : (m : Int) ≤ (cB : Int) := by omega
          by_cases hv : x.var = ⟨#[]⟩
          · have he2 := var_eq hv
            have HB : Hid (allB fr m (a.terms.take (k + 1)) = bo) := Lib.hid (by rw [HTK.out, allB_snoc, ← HBO.out, decide_eq_true (.inl hv), Bool.and_true])
            clear hv
            go_quiet (fail)
            clear he2
            have HXW := Lib.hid (HX2.out.drewN nq); have HK7W := Lib.hid (HK7.out.ext ((Ext.refl w2).drewN nq))
            generalize (w2.drewN nq) = W at *
            clear s0
            go_upto_region 12 with fail
            have HXD := Lib.hid (HXW.out.drew)
            have HJD := Lib.hid (HJ.out.fore HXD.out)
            have HCALL := Lib.hid (image25 (t := x) (w := W.drew) (HF.out.ext ((HEO.out.trans HJ.out.ext).trans HXD.out)) (HT.out.ext ((HEO.out.trans HJ.out.ext).trans HXD.out)) (by rw [← HM.out, ← HNF.out]; exact hle) (by rw [← HNF.out]; exact hlf))
            obtain ⟨y, hy⟩ : ∃ y, y = repT (firstP (fr.zip tg)) x := ⟨_, rfl⟩
            rw [← hy] at HCALL
            have HETK : Hid ((a.terms.take (k + 1)).map (repT (firstP (fr.zip tg))) = (a.terms.take k).map (repT (firstP (fr.zip tg))) ++ [y]) := Lib.hid (by rw [HTK.out, List.map_append, hy]; rfl)
            clear hy
            obtain ⟨L, hL⟩ : ∃ L, L = (a.terms.take k).map (repT (firstP (fr.zip tg))) := ⟨_, rfl⟩
            rw [← hL] at HJ HJD HETK
            clear hL
            have s0 := HK7W.out.cell (i := 0) (by simp)
            have s1 := HK7W.out.cell (i := 1) (by simp)
            have s2 := HK7W.out.cell (i := 2) (by simp)
            have s3 := HK7W.out.cell (i := 3) (by simp)
            have g2 := HJD.out.bk.cell (i := 2) (by simp)
            simp only [List.getElem_cons_zero, List.getElem_cons_succ] at s0 s1 s2 s3 g2
            replace g2 : W.cell? ⟨wo.heap.size, 2, none⟩ = some (.slice Av k cv) := g2
            have hwW : wo.heap.size < W.heap.size := by have := HJD.out.bk.lt; simpa using this
            have hwW2 := HK7W.out.lt
            go_region_law (first
              | (refine step_append_at (by rfl) _ _ _ (by rfl) wo.heap.size 66 i0 (.agg #[.string ⟨#[]⟩, .int .i64 0, .int .i64 0, .string ⟨#[]⟩]) 4 48 Tryd.underlying37 HI0.out.1 HI0.out.2.1 HI0.out.2.2.1 HI0.out.2.2.2 rfl (by omega) (.slice Av k cv) k (tcells L) (by rfl) (by exact HJA.out.row.alloc _) ⟨wa.heap.size, 0, none⟩ 1 1 [.string y.var, .int .i64 y.kind, .int .i64 y.int, .string y.str] (by rfl) (by rfl) (by exact laid_news wa _ _) (by simp [Value.oneCell']) (by simp only [maxLen]; omega) (by omega) (by simp; omega) ?_; intro v9 w9 hrow9 hgr9 hland9; obtain ⟨A9, c9, rfl⟩ := own_slice hrow9; have hb9 : Bk w9 wo.heap.size 39 [.bool false, .string ra, .slice Av k cv] := Bk.fr (by exact HJA.out.bk.alloc _) (grown_fr hgr9) (fun e => own_bk HJA.out.row HJA.out.bk (by decide) e rfl); have q9 := hb9.cell (i := 2) (by simp); have f9 := hb9.free 2; simp only [List.getElem_cons_zero, List.getElem_cons_succ] at q9; have HR9 := Lib.hid hrow9; have HG9 := Lib.hid hgr9; clear hrow9 hgr9 hland9 hb9; go_wp2_with fail)
              | (go_simp; refine HCALL.out.mono ?_; rintro e wa ⟨yv, rfl, hea, rfl⟩; have HJA := Lib.hid (HJD.out.fore hea); have ga2 := HJA.out.bk.cell (i := 2) (by simp); simp only [List.getElem_cons_zero, List.getElem_cons_succ] at ga2; have hwa : wo.heap.size < wa.heap.size := HJA.out.bk.lt; have hwa2 : wr.heap.size < wa.heap.size := Nat.lt_of_lt_of_le HK7W.out.lt (by have h := hea.size; simpa using h); have za0 := hea.cell s0; have za1 := hea.cell s1; have za2 := hea.cell s2; have za3 := hea.cell s3; clear hea; go_wp2_with fail))
            all_goals
              have HST := Lib.hid (HJA.out.step (x := y) (Nat.le_refl _) ((Ext.refl wa).alloc _) HR9.out HG9.out)
              clear q9 f9
              go_wp2_with fail
              go_roundw
              case rel => exact ⟨k + 1, .slice A9 (k + 1) c9, by omega, by go_num, by rw [HB.out], by rw [HETK.out]; exact HST.out⟩
              case measure => simp [intOf]; omega
          · have he2 := var_ne hv
            by_cases hin : x.var ∈ fr.take m
            · have HB : Hid (allB fr m (a.terms.take (k + 1)) = bo) := Lib.hid (by rw [HTK.out, allB_snoc, ← HBO.out, decide_eq_true (.inr hin), Bool.and_true])
              rw [decide_eq_true hin] at HIN
              clear hv hin
              go_quiet ((go_at_call 16; exact Calls.quiet_of_same (HIN.out _)))
              clear he2
              have HXW := Lib.hid (HX2.out.drewN nq); have HK7W := Lib.hid (HK7.out.ext ((Ext.refl w2).drewN nq))
              generalize (w2.drewN nq) = W at *
              clear s0
              go_upto_region 12 with fail
              have HXD := Lib.hid (HXW.out.drew)
              have HJD := Lib.hid (HJ.out.fore HXD.out)
              have HCALL := Lib.hid (image25 (t := x) (w := W.drew) (HF.out.ext ((HEO.out.trans HJ.out.ext).trans HXD.out)) (HT.out.ext ((HEO.out.trans HJ.out.ext).trans HXD.out)) (by rw [← HM.out, ← HNF.out]; exact hle) (by rw [← HNF.out]; exact hlf))
              obtain ⟨y, hy⟩ : ∃ y, y = repT (firstP (fr.zip tg)) x := ⟨_, rfl⟩
              rw [← hy] at HCALL
              have HETK : Hid ((a.terms.take (k + 1)).map (repT (firstP (fr.zip tg))) = (a.terms.take k).map (repT (firstP (fr.zip tg))) ++ [y]) := Lib.hid (by rw [HTK.out, List.map_append, hy]; rfl)
              clear hy
              obtain ⟨L, hL⟩ : ∃ L, L = (a.terms.take k).map (repT (firstP (fr.zip tg))) := ⟨_, rfl⟩
              rw [← hL] at HJ HJD HETK
              clear hL
              have s0 := HK7W.out.cell (i := 0) (by simp)
              have s1 := HK7W.out.cell (i := 1) (by simp)
              have s2 := HK7W.out.cell (i := 2) (by simp)
              have s3 := HK7W.out.cell (i := 3) (by simp)
              have g2 := HJD.out.bk.cell (i := 2) (by simp)
              simp only [List.getElem_cons_zero, List.getElem_cons_succ] at s0 s1 s2 s3 g2
              replace g2 : W.cell? ⟨wo.heap.size, 2, none⟩ = some (.slice Av k cv) := g2
              have hwW : wo.heap.size < W.heap.size := by have := HJD.out.bk.lt; simpa using this
              have hwW2 := HK7W.out.lt
              go_region_law (first
                | (refine step_append_at (by rfl) _ _ _ (by rfl) wo.heap.size 66 i0 (.agg #[.string ⟨#[]⟩, .int .i64 0, .int .i64 0, .string ⟨#[]⟩]) 4 48 Tryd.underlying37 HI0.out.1 HI0.out.2.1 HI0.out.2.2.1 HI0.out.2.2.2 rfl (by omega) (.slice Av k cv) k (tcells L) (by rfl) (by exact HJA.out.row.alloc _) ⟨wa.heap.size, 0, none⟩ 1 1 [.string y.var, .int .i64 y.kind, .int .i64 y.int, .string y.str] (by rfl) (by rfl) (by exact laid_news wa _ _) (by simp [Value.oneCell']) (by simp only [maxLen]; omega) (by omega) (by simp; omega) ?_; intro v9 w9 hrow9 hgr9 hland9; obtain ⟨A9, c9, rfl⟩ := own_slice hrow9; have hb9 : Bk w9 wo.heap.size 39 [.bool false, .string ra, .slice Av k cv] := Bk.fr (by exact HJA.out.bk.alloc _) (grown_fr hgr9) (fun e => own_bk HJA.out.row HJA.out.bk (by decide) e rfl); have q9 := hb9.cell (i := 2) (by simp); have f9 := hb9.free 2; simp only [List.getElem_cons_zero, List.getElem_cons_succ] at q9; have HR9 := Lib.hid hrow9; have HG9 := Lib.hid hgr9; clear hrow9 hgr9 hland9 hb9; go_wp2_with fail)
                | (go_simp; refine HCALL.out.mono ?_; rintro e wa ⟨yv, rfl, hea, rfl⟩; have HJA := Lib.hid (HJD.out.fore hea); have ga2 := HJA.out.bk.cell (i := 2) (by simp); simp only [List.getElem_cons_zero, List.getElem_cons_succ] at ga2; have hwa : wo.heap.size < wa.heap.size := HJA.out.bk.lt; have hwa2 : wr.heap.size < wa.heap.size := Nat.lt_of_lt_of_le HK7W.out.lt (by have h := hea.size; simpa using h); have za0 := hea.cell s0; have za1 := hea.cell s1; have za2 := hea.cell s2; have za3 := hea.cell s3; clear hea; go_wp2_with fail))
              all_goals
                have HST := Lib.hid (HJA.out.step (x := y) (Nat.le_refl _) ((Ext.refl wa).alloc _) HR9.out HG9.out)
                clear q9 f9
                go_wp2_with fail
                go_roundw
                case rel => exact ⟨k + 1, .slice A9 (k + 1) c9, by omega, by go_num, by rw [HB.out], by rw [HETK.out]; exact HST.out⟩
                case measure => simp [intOf]; omega
            · have HB : Hid (allB fr m (a.terms.take (k + 1)) = false) := Lib.hid (by rw [HTK.out, allB_snoc, decide_eq_false (fun h => by rcases h with h | h; exact hv h; exact hin h), Bool.and_false])
              rw [decide_eq_false hin] at HIN
              clear hv hin
              go_quiet ((go_at_call 16; exact Calls.quiet_of_same (HIN.out _)))
              clear he2
              have HXW := Lib.hid (HX2.out.drewN nq); have HK7W := Lib.hid (HK7.out.ext ((Ext.refl w2).drewN nq))
              generalize (w2.drewN nq) = W at *
              clear s0
              go_upto_region 12 with fail
              have HXD := Lib.hid (HXW.out.drew)
              have HJD := Lib.hid (HJ.out.fore HXD.out)
              have HCALL := Lib.hid (image25 (t := x) (w := W.drew) (HF.out.ext ((HEO.out.trans HJ.out.ext).trans HXD.out)) (HT.out.ext ((HEO.out.trans HJ.out.ext).trans HXD.out)) (by rw [← HM.out, ← HNF.out]; exact hle) (by rw [← HNF.out]; exact hlf))
              obtain ⟨y, hy⟩ : ∃ y, y = repT (firstP (fr.zip tg)) x := ⟨_, rfl⟩
              rw [← hy] at HCALL
              have HETK : Hid ((a.terms.take (k + 1)).map (repT (firstP (fr.zip tg))) = (a.terms.take k).map (repT (firstP (fr.zip tg))) ++ [y]) := Lib.hid (by rw [HTK.out, List.map_append, hy]; rfl)
              clear hy
              obtain ⟨L, hL⟩ : ∃ L, L = (a.terms.take k).map (repT (firstP (fr.zip tg))) := ⟨_, rfl⟩
              rw [← hL] at HJ HJD HETK
              clear hL
              have s0 := HK7W.out.cell (i := 0) (by simp)
              have s1 := HK7W.out.cell (i := 1) (by simp)
              have s2 := HK7W.out.cell (i := 2) (by simp)
              have s3 := HK7W.out.cell (i := 3) (by simp)
              have g2 := HJD.out.bk.cell (i := 2) (by simp)
              simp only [List.getElem_cons_zero, List.getElem_cons_succ] at s0 s1 s2 s3 g2
              replace g2 : W.cell? ⟨wo.heap.size, 2, none⟩ = some (.slice Av k cv) := g2
              have hwW : wo.heap.size < W.heap.size := by have := HJD.out.bk.lt; simpa using this
              have hwW2 := HK7W.out.lt
              go_region_law (first
                | (refine step_append_at (by rfl) _ _ _ (by rfl) wo.heap.size 66 i0 (.agg #[.string ⟨#[]⟩, .int .i64 0, .int .i64 0, .string ⟨#[]⟩]) 4 48 Tryd.underlying37 HI0.out.1 HI0.out.2.1 HI0.out.2.2.1 HI0.out.2.2.2 rfl (by omega) (.slice Av k cv) k (tcells L) (by rfl) (by exact HJA.out.row.alloc _) ⟨wa.heap.size, 0, none⟩ 1 1 [.string y.var, .int .i64 y.kind, .int .i64 y.int, .string y.str] (by rfl) (by rfl) (by exact laid_news wa _ _) (by simp [Value.oneCell']) (by simp only [maxLen]; omega) (by omega) (by simp; omega) ?_; intro v9 w9 hrow9 hgr9 hland9; obtain ⟨A9, c9, rfl⟩ := own_slice hrow9; have hb9 : Bk w9 wo.heap.size 39 [.bool false, .string ra, .slice Av k cv] := Bk.fr (by exact HJA.out.bk.alloc _) (grown_fr hgr9) (fun e => own_bk HJA.out.row HJA.out.bk (by decide) e rfl); have q9 := hb9.cell (i := 2) (by simp); have f9 := hb9.free 2; simp only [List.getElem_cons_zero, List.getElem_cons_succ] at q9; have HR9 := Lib.hid hrow9; have HG9 := Lib.hid hgr9; clear hrow9 hgr9 hland9 hb9; go_wp2_with fail)
                | (go_simp; refine HCALL.out.mono ?_; rintro e wa ⟨yv, rfl, hea, rfl⟩; have HJA := Lib.hid (HJD.out.fore hea); have ga2 := HJA.out.bk.cell (i := 2) (by simp); simp only [List.getElem_cons_zero, List.getElem_cons_succ] at ga2; have hwa : wo.heap.size < wa.heap.size := HJA.out.bk.lt; have hwa2 : wr.heap.size < wa.heap.size := Nat.lt_of_lt_of_le HK7W.out.lt (by have h := hea.size; simpa using h); have za0 := hea.cell s0; have za1 := hea.cell s1; have za2 := hea.cell s2; have za3 := hea.cell s3; clear hea; go_wp2_with fail))
              all_goals
                have HST := Lib.hid (HJA.out.step (x := y) (Nat.le_refl _) ((Ext.refl wa).alloc _) HR9.out HG9.out)
                clear q9 f9
                go_wp2_with fail
                go_roundw
                case rel => exact ⟨k + 1, .slice A9 (k + 1) c9, by omega, by go_num, by rw [HB.out], by rw [HETK.out]; exact HST.out⟩
                case measure => simp [intOf]; omega
        · obtain rfl : k = nt := by omega
          have hdn : ¬ (k : Int) < (k : Int) := by omega
          have htk : a.terms.take k = a.terms := by rw [HNT.out]; exact List.take_length
          rw [htk] at hJ HBO
          obtain ⟨W, rfl⟩ : ∃ W : World, W = wr := ⟨_, rfl⟩
          obtain ⟨L, hL⟩ : ∃ L, L = a.terms.map (repT (firstP (fr.zip tg))) := ⟨_, rfl⟩
          rw [← hL] at hJ
          have hLl : L.length = k := by rw [hL, List.length_map]; exact HNT.out.symm
          have hok : okA fr tg ys a = (!bo || ys.any (hitT a L)) := by
            unfold okA
            rw [← HM.out, ← HBO.out, ← hL]
          have HJ := Lib.hid hJ; have HOK := Lib.hid hok; have HLL := Lib.hid hLl
          clear hJ hok hLl hL htk
          go_wp2_with fail
          clear hJc
          go_loopw [14, 15] (fun t q wx => ∃ j : Nat, j ≤ ny ∧ q = .int .i64 (j : Int) ∧ t = .bool (!bo || (ys.take j).any (hitT a L)) ∧ Ext W wx) (fun _ q _ => ny - (intOf q).toNat)
          case atStart => exact ⟨0, Nat.zero_le _, rfl, by simp, Ext.refl _⟩
          case round =>
            obtain ⟨j, hj, rfl, rfl, hext⟩ := hrel
            have HEX := Lib.hid hext
            obtain ⟨b, hb⟩ : ∃ b, b = (!bo || (ys.take j).any (hitT a L)) := ⟨_, rfl⟩
            rw [← hb]
            have HBB := Lib.hid hb
            clear hb
            rcases b with _ | _
            · by_cases hjy : j < ny
              · have j1 : (0 : Int) ≤ (j : Int) := by omega
                have j2 : (j : Int) < (ny : Int) := by omega
                have hjl : j < ys.length := by have := HNY.out; omega
                obtain ⟨adY, BY, dY, rfl, -, e0, e1, e2, hdY, hclY⟩ := HDT.out j hjl
                have hwx := (HEO.out.trans HJ.out.ext).trans hext
                replace e0 := hwx.cell e0
                replace e1 := hwx.cell e1
                replace e2 := hwx.cell e2
                have hkb := HJ.out.bk.ext hext
                have x0 := hkb.cell (i := 0) (by simp)
                have x1 := hkb.cell (i := 1) (by simp)
                have x2 := hkb.cell (i := 2) (by simp)
                simp only [List.getElem_cons_zero, List.getElem_cons_succ] at x0 x1 x2
                have htj : (ys.take (j + 1)).any (hitT a L) = ((ys.take j).any (hitT a L) || hitT a L ys[j]) := by rw [List.take_succ_eq_append_getElem hjl, List.any_append]; simp
                obtain ⟨y, hy⟩ : ∃ y, y = ys[j] := ⟨_, rfl⟩
                rw [← hy] at e0 e1 e2 hdY hclY htj
                obtain ⟨nq, hnq⟩ : ∃ nq, nq = y.terms.length := ⟨_, rfl⟩
                rw [← hnq] at e2 hdY
                obtain ⟨nb, hnb⟩ : ∃ nb, nb = y.neg := ⟨_, rfl⟩
                rw [← hnb] at e0
                obtain ⟨rb, hrb⟩ : ∃ rb, rb = y.rel := ⟨_, rfl⟩
                rw [← hrb] at e1
                obtain ⟨Av', cv', ev, hcv, hclv⟩ := Cl.of_own HJ.out.row
                injection ev with ev1 ev2 ev3
                subst ev1 ev3
                have hcv2 : L.length ≤ cv := by have := HLL.out; omega
                have HSAME : Hid (∀ V : World, Ext wr V → Calls Tryd.prog 36 #[.agg #[.bool false, .string ra, .slice Av k cv], .agg #[.bool nb, .string rb, .slice BY nq dY]] V (Ret (fun x _ => x = .bool (decide (ra = rb ∧ L = y.terms))) V)) := Lib.hid (fun V hV => by
                  have h := same25 (na := false) (nb := nb) (ra := ra) (rb := rb) (hclv.ext (hext.trans hV)) (hclY.ext (hwx.trans hV)) hcv2 (by rw [← hnq]; exact hdY) (by rw [HLL.out]; exact hnt2)
                  rw [HLL.out, ← hnq] at h
                  exact h)
                have HTJ : Hid ((ys.take (j + 1)).any (hitT a L) = ((ys.take j).any (hitT a L) || decide (ra = rb ∧ L = y.terms))) := Lib.hid (by rw [htj, hitT, HRA.out, hrb])
                clear hcv hclv hcv2 hrb hnb hnq hy hclY hdY hkb hwx htj hext
                go_upto_region 17 with fail
                go_region_held3 (fun V => Ext wr V ∧ V.cell? ⟨wo.heap.size, 0, none⟩ = some (.bool false) ∧ V.cell? ⟨wo.heap.size, 1, none⟩ = some (.string ra) ∧ V.cell? ⟨wo.heap.size, 2, none⟩ = some (.slice Av k cv) ∧ V.cell? (adY.add (j * 3)) = some (.bool nb) ∧ V.cell? ⟨(adY.add (j * 3)).block, (adY.add (j * 3)).off + 1, none⟩ = some (.string rb) ∧ V.cell? ⟨(adY.add (j * 3)).block, (adY.add (j * 3)).off + 2, none⟩ = some (.slice BY nq dY))
                  ((refine (fun he => ⟨he, Ext.cell he x0, Ext.cell he x1, Ext.cell he x2, Ext.cell he e0, Ext.cell he e1, Ext.cell he e2⟩) ?_; repeat (first | exact Ext.refl _ | exact (Ext.refl _).drew | refine Ext.drew ?_ | refine Ext.trans ?_ (by assumption))))
                  (first
                    | (go_at_call 36; (with_reducible refine (HSAME.out _ (And.left (by assumption))).mono ?_); rintro e wi ⟨yv, rfl, hei, rfl⟩))
                have HFIN := Lib.hid (And.left (b := _ ∧ _) (by assumption))
                clear x0 x1 x2 e0 e1 e2
                go_wp2_with fail
                go_roundw
                case rel => exact ⟨j + 1, by omega, by go_num, by rw [HTJ.out, ← Bool.or_assoc, ← HBB.out, Bool.false_or]; simp, HEX.out.trans HFIN.out⟩
                case measure => simp [intOf]; omega
              · obtain rfl : j = ny := by omega
                have hdj : ¬ (j : Int) < (j : Int) := by omega
                clear hext
                go_wp2_with fail
                go_ret
                refine Ret.mk ((HEO.out.trans HJ.out.ext).trans HEX.out) ?_
                have h := HBB.out
                have et : ys.take j = ys := by rw [HNY.out]; exact List.take_length
                rw [et, ← HOK.out] at h
                have hall : xs.all (okA fr tg ys) = false := List.all_eq_false.2 ⟨a, by rw [HA.out]; exact List.getElem_mem _, by rw [← h]; simp⟩
                rw [mapsR_all, hall]
                rfl
            · have hoa : okA fr tg ys a = true := by
                rw [HOK.out]
                have h := HBB.out.symm
                rw [Bool.or_eq_true] at h ⊢
                rcases h with h | h
                · exact .inl h
                · right
                  obtain ⟨z, hz, e⟩ := List.any_eq_true.1 h
                  exact List.any_eq_true.2 ⟨z, List.mem_of_mem_take hz, e⟩
              have HOA := Lib.hid hoa
              clear hoa hext
              by_cases hjy : j < ny
              all_goals
                go_wp2_with fail
                go_roundw
                case rel => exact ⟨i + 1, by omega, by go_num, all_take hix HALL.out (by rw [← HA.out]; exact HOA.out), (HEO.out.trans HJ.out.ext).trans HEX.out⟩
                case measure => simp [intOf]; omega
    · obtain rfl : i = n := by omega
      have hdn : ¬ (i : Int) < (i : Int) := by omega
      clear hext
      go_wp2_with fail
      go_ret
      refine Ret.mk HEO.out ?_
      have h := HALL.out
      rw [HN.out, List.take_length] at h
      rw [mapsR_all, h]
      rfl
end Go.Proofs.YtehklbdgkppmeaaDoor
