/- Contract: the reference's Sources. -/
import Derived.Test.YtmmmdinncmbjkaaGreatLo47
namespace Go.Proofs.YtmmmdinncmbjkaaGreat
open Go.RowKit Go.Maps
/-- A negated atom that is being built. -/
structure NB (w : World) (base bn : Nat) (rl : ByteArray) (u v : Value) (j k : Nat) (xs : List Int) (ys : List Vl) : Prop where
  bk : Bk w bn 139 [.string rl, u, v]
  ru : w.ownsRow base 3 1 u j (xs.map I64)
  rv : w.ownsRow base 83 3 v k (vcells ys)
section
variable {w w8 : World} {base bn j k : Nat} {rl : ByteArray} {u v v8 : Value} {xs : List Int} {ys : List Vl}
theorem NB.ext (h : NB w base bn rl u v j k xs ys) (he : Ext w w8) : NB w8 base bn rl u v j k xs ys := ⟨h.bk.ext he, own_ext' h.ru he, own_ext' h.rv he⟩
theorem NB.bkU (h : NB w base bn rl u v j k xs ys) (hg : w.grownBy w8 u.ownBlock) : Bk w8 bn 139 [.string rl, u, v] := h.bk.fr (grown_fr hg) (fun e => own_bk h.ru h.bk (by decide) e rfl)
theorem NB.bkV (h : NB w base bn rl u v j k xs ys) (hg : w.grownBy w8 v.ownBlock) : Bk w8 bn 139 [.string rl, u, v] := h.bk.fr (grown_fr hg) (fun e => own_bk h.rv h.bk (by decide) e rfl)
theorem NB.putU (h : NB w base bn rl u v j k xs ys) {x : Int} (hr : w8.ownsRow base 3 1 v8 (j + 1) (xs.map I64 ++ [.int .i64 x])) (hg : w.grownBy w8 u.ownBlock) : NB (w8.setCell ⟨bn, 1, none⟩ v8) base bn rl v8 v (j + 1) k (xs ++ [x]) ys := by
  have hb8 := h.bkU hg
  have hs : Fr (fun k => k = bn) w8 (w8.setCell ⟨bn, 1, none⟩ v8) := (Fr.refl (fun k => k = bn) w8).setCell (p := ⟨bn, 1, none⟩) (.inl rfl) _
  have rv := own_fr h.rv (grown_fr hg) (fun q hq e => own_ne h.ru h.rv (by decide) e hq)
  refine ⟨by simpa using hb8.set 1 v8, ?_, own_fr rv hs (fun k hk => own_bk rv hb8 (by decide) hk)⟩
  rw [List.map_append]
  exact own_fr hr hs (fun k hk => own_bk hr hb8 (by decide) hk)
theorem NB.putV (h : NB w base bn rl u v j k xs ys) {x : Vl} (hr : w8.ownsRow base 83 3 v8 (k + 1) (vcells ys ++ [.int .i64 x.kind, .int .i64 x.int, .string x.str])) (hg : w.grownBy w8 v.ownBlock) : NB (w8.setCell ⟨bn, 2, none⟩ v8) base bn rl u v8 j (k + 1) xs (ys ++ [x]) := by
  have hb8 := h.bkV hg
  have hs : Fr (fun k => k = bn) w8 (w8.setCell ⟨bn, 2, none⟩ v8) := (Fr.refl (fun k => k = bn) w8).setCell (p := ⟨bn, 2, none⟩) (.inl rfl) _
  have ru := own_fr h.ru (grown_fr hg) (fun q hq e => own_ne h.rv h.ru (by decide) e hq)
  refine ⟨by simpa using hb8.set 2 v8, own_fr ru hs (fun k hk => own_bk ru hb8 (by decide) hk), ?_⟩
  rw [vcells_app]
  exact own_fr hr hs (fun k hk => own_bk hr hb8 (by decide) hk)
end
/-- A negated atom to which a variable has been appended. -/
def NBc (w0 : World) (base bn : Nat) (rl : ByteArray) (v : Value) (j k : Nat) (xs : List Int) (ys : List Vl) (w : World) : Prop := ∃ A c, NB w base bn rl (.slice A j c) v j k xs ys ∧ Fr (fun b => b = bn) w0 w
theorem wp_then {P : Program} {c : Code} {Q : Exit → Act → World → Prop} {a : Act} {w : World} (h : ∀ K : Act → World → Prop, (∀ a' w', K a' w' = Q .normal a' w') → c.wp P (Exit.then K Q) a w) : c.wp P Q a w := by
  have h1 := h (fun a' w' => Q .normal a' w') (fun _ _ => rfl)
  have e : Exit.then (fun a' w' => Q .normal a' w') Q = Q := by
    funext x a' w'
    cases x <;> rfl
  rw [e] at h1
  exact h1
section
variable {w w8 : World} {base gb nv nc ns nf : Nat} {rl : ByteArray} {uv uc us uf un : Value} {vs cs : List Int} {ss : List Pi} {fs : List Fl}
theorem RB.fr2 {S : Nat → Prop} (h : RB w base gb rl uv uc us uf un nv nc ns nf vs cs ss fs) (hf : Fr S w w8) (h1 : ¬ S gb) (h2 : ∀ k, (uv.ownBlock = some k ∨ uc.ownBlock = some k ∨ us.ownBlock = some k ∨ uf.ownBlock = some k) → ¬ S k) : RB w8 base gb rl uv uc us uf un nv nc ns nf vs cs ss fs :=
  ⟨h.bk.fr hf h1, own_fr h.rv hf (fun k hk => h2 k (.inl hk)), own_fr h.rc hf (fun k hk => h2 k (.inr (.inl hk))), own_fr h.rs hf (fun k hk => h2 k (.inr (.inr (.inl hk)))), own_fr h.rf hf (fun k hk => h2 k (.inr (.inr (.inr hk)))), h.sep⟩
end
set_option maxRecDepth 20000 in
set_option maxHeartbeats 60000000 in
theorem sources_ref {F G H : Nat → Prop} {w : World} {An A C : Option Addr} {nn cn n c nc cc : Nat} {names : List ByteArray} {r : Rl} (hN : Strs F w (.slice An nn cn) names) (hA : Ats G w (.slice A n c) r.ats) (hC : Sl rdCd H w (.slice C nc cc) r.cds) (hl : ∀ a ∈ r.ats, a.terms.length ≤ 1000) (hnn : nn ≤ 1000) (hn : n ≤ 1000) (hnc : nc ≤ 1000) (hcov : ∀ a ∈ r.ats, ∀ t ∈ a.terms, t.var ≠ ⟨#[]⟩ → t.var ∈ names) (hcz : ∀ a ∈ r.ats, ∀ t ∈ a.terms, t.var ≠ ⟨#[]⟩ → t.kind = 0 ∧ t.int = 0 ∧ t.str = ⟨#[]⟩) (hcv : ∀ d ∈ r.cds, d.var ≠ ⟨#[]⟩) :
    Calls Tryz.prog 15 #[.slice An nn cn, .agg #[.slice A n c, .slice C nc cc]] w (Ret (fun x w' => Sl rdSrc (fun k => w.heap.size ≤ k) w' x (upL (srcR names r) r.ats.length)) w) := by
  have hnx : n = r.ats.length := by
    obtain ⟨A', c', e⟩ := hA.sl
    injection e
  have hnm : nn = names.length := by
    obtain ⟨A', c', e, -⟩ := hN
    injection e
  have hcx := hC.cap.1
  have HN := Lib.hid hN; have HA := Lib.hid hA.at2; have HA0 := Lib.hid hA; have HC := Lib.hid hC; have HL := Lib.hid hl; have HCOV := Lib.hid hcov; have HCZ := Lib.hid hcz; have HCV := Lib.hid hcv; have HNX := Lib.hid hnx; have HNM := Lib.hid hnm; have HCX := Lib.hid hcx
  have HGD := Lib.hid (fun (V : World) (hV : Ext w V) (k : Nat) (hk : k < r.ats.length) => guard_ref (C := C) (nc := nc) (cc := cc) (hA.ext hV) (fun a ha => by have := hl a ha; omega) hk (by omega))
  obtain ⟨i0, hi0, hz0, hz1, hz2⟩ := info_parts info_int
  have HI0 := Lib.hid (And.intro hi0 (And.intro hz0 (And.intro hz1 hz2))); clear hi0 hz0 hz1 hz2
  obtain ⟨j0, hj0, hy0, hy1, hy2⟩ := info_parts info_rfl
  have HJ0 := Lib.hid (And.intro hj0 (And.intro hy0 (And.intro hy1 hy2))); clear hj0 hy0 hy1 hy2
  obtain ⟨p0, hp0, hx0, hx1, hx2⟩ := info_parts info_pi
  have HP0 := Lib.hid (And.intro hp0 (And.intro hx0 (And.intro hx1 hx2))); clear hp0 hx0 hx1 hx2
  obtain ⟨s0, hs0, hx0, hx1, hx2⟩ := info_parts info_rsrc
  have HS0 := Lib.hid (And.intro hs0 (And.intro hx0 (And.intro hx1 hx2))); clear hs0 hx0 hx1 hx2
  obtain ⟨t0, ht0, hx0, hx1, hx2⟩ := info_parts info_rnot
  have HT0 := Lib.hid (And.intro ht0 (And.intro hx0 (And.intro hx1 hx2))); clear ht0 hx0 hx1 hx2
  obtain ⟨v0, hv0, hx0, hx1, hx2⟩ := info_parts info_val
  have HV0 := Lib.hid (And.intro hv0 (And.intro hx0 (And.intro hx1 hx2))); clear hv0 hx0 hx1 hx2
  clear hN hA hC hl hcov hcz hcv hnx hnm hcx
  go_enter Tryz.func15, Tryz.ntmps15
  go_upto_region 1 with fail
  have kr := Bk.new w 73 [.slice A n c, .slice C nc cc]
  change Bk (w.alloc (.cells #[.slice A n c, .slice C nc cc] 73)) _ _ _ at kr
  have hx1 : Ext w (w.alloc (.cells #[.slice A n c, .slice C nc cc] 73)) := (Ext.refl w).alloc _
  generalize (w.alloc (.cells #[.slice A n c, .slice C nc cc] 73)) = w1 at *
  have HKR := Lib.hid kr; have HX1 := Lib.hid hx1
  have hw1 : w.heap.size < w1.heap.size := kr.lt
  clear kr hx1
  go_wp2_with fail
  go_loopw [5, 6] (fun u t wr => ∃ (i k : Nat) (l : List Src) (css : List (List Value)), i ≤ n ∧ t = .int .i64 (i : Int) ∧ Rw rdSrc wr w1.heap.size 77 u k l css ∧ Hid (l = upL (srcR names r) i) ∧ k ≤ i ∧ Ext w1 wr) (fun _ t _ => n - (intOf t).toNat)
  case atStart => exact ⟨0, 0, [], [], Nat.zero_le _, rfl, Rw.empty _ _ _ _, Lib.hid rfl, Nat.le_refl _, Ext.refl _⟩
  case round =>
    obtain ⟨i, k, l, css, hi, rfl, hrw, HE, hk, hx⟩ := hrel
    obtain ⟨Au, cu, rfl⟩ := own_slice hrw.own
    obtain ⟨W, rfl⟩ : ∃ W : World, W = wr := ⟨_, rfl⟩
    have HX := Lib.hid hx; have HRW := Lib.hid hrw
    have r0 := (HKR.out.ext hx).cell (i := 0) (by simp)
    simp only [List.getElem_cons_zero, List.getElem_cons_succ] at r0
    by_cases hlt : i < n
    · have i1 : (0 : Int) ≤ (i : Int) := by omega
      have i2 : (i : Int) < (n : Int) := by omega
      have hia : i < r.ats.length := by have := HNX.out; omega
      obtain ⟨ad, Bt, dt, rfl, -, d0, d1, d2, hT⟩ := HA.out i hia
      replace d0 := hx.cell (HX1.out.cell d0); replace d1 := hx.cell (HX1.out.cell d1); replace d2 := hx.cell (HX1.out.cell d2)
      have hsr : srcR names r i = if r.ats[i].neg = true then none else some (refS names r i r.ats[i]) := by unfold srcR; rw [List.getElem?_eq_getElem hia]; rfl
      have hrs : refS names r i r.ats[i] = ⟨r.ats[i].rel, upL (vrR names r.ats[i].terms) names.length, upL (clR names r.ats[i].terms) names.length, upL (samAt r.ats[i].terms) r.ats[i].terms.length, upL (conAt r.ats[i].terms) r.ats[i].terms.length ++ upL (cndAt r.ats[i].terms r.cds) r.cds.length, notsL names r.ats i⟩ := rfl
      have hlt2 := HL.out _ (List.getElem_mem hia)
      obtain ⟨a, ha⟩ : ∃ a, a = r.ats[i] := ⟨_, rfl⟩
      rw [← ha] at d0 d1 d2 hT hsr hrs hlt2
      obtain ⟨ng, rl, ts⟩ := a
      simp only at d0 d1 d2 hT hsr hrs hlt2
      rw [hrs] at hsr
      obtain ⟨nt, hnt⟩ : ∃ m, m = ts.length := ⟨_, rfl⟩
      rw [← hnt] at d2 hlt2
      have HTS : Hid (Ts G w (.slice Bt nt dt) ts) := Lib.hid ⟨Bt, dt, by rw [hnt], hT.1, hT.2⟩
      have HT := Lib.hid hT.2; have HSR := Lib.hid hsr; have HNT := Lib.hid hnt
      clear ha hT hsr hrs hnt hrw hx
      go_upto_region 6 with fail
      have ka := Bk.new W 109 [.bool ng, .string rl, .slice Bt nt dt]
      change Bk (W.alloc (.cells #[.bool ng, .string rl, .slice Bt nt dt] 109)) _ _ _ at ka
      have hx2 : Ext W (W.alloc (.cells #[.bool ng, .string rl, .slice Bt nt dt] 109)) := (Ext.refl W).alloc _
      generalize (W.alloc (.cells #[.bool ng, .string rl, .slice Bt nt dt] 109)) = w2 at *
      have a0 := ka.cell (i := 0) (by simp); have a1 := ka.cell (i := 1) (by simp)
      simp only [List.getElem_cons_zero, List.getElem_cons_succ] at a0 a1
      have HKA := Lib.hid ka; have HX2 := Lib.hid (HX.out.trans hx2); have HRW2 := Lib.hid (HRW.out.ext hx2)
      have hW2 : W.heap.size < w2.heap.size := ka.lt
      clear ka hx2 r0 d0 d1 d2
      rcases ng with _ | _
      · go_upto_region 8 with fail
        have kg := Bk.new w2 77 [.string rl, .slice none 0 0, .slice none 0 0, .slice none 0 0, .slice none 0 0, .slice none 0 0]
        change Bk (w2.alloc (.cells #[.string rl, .slice none 0 0, .slice none 0 0, .slice none 0 0, .slice none 0 0, .slice none 0 0] 77)) _ _ _ at kg
        have hx3 : Ext w2 (w2.alloc (.cells #[.string rl, .slice none 0 0, .slice none 0 0, .slice none 0 0, .slice none 0 0, .slice none 0 0] 77)) := (Ext.refl w2).alloc _
        generalize (w2.alloc (.cells #[.string rl, .slice none 0 0, .slice none 0 0, .slice none 0 0, .slice none 0 0, .slice none 0 0] 77)) = w3 at *
        have HX3 := Lib.hid (HX2.out.trans hx3); have HRW3 := Lib.hid (HRW2.out.ext hx3); have HKA3 := Lib.hid (HKA.out.ext hx3); have HX23 := Lib.hid hx3
        have hW3 : w2.heap.size < w3.heap.size := kg.lt
        obtain ⟨gb, hgb⟩ : ∃ g, g = w2.heap.size := ⟨_, rfl⟩
        have hw2g : w2.heap.size ≤ gb := by omega
        rw [← hgb] at kg hW3 ⊢
        have HRB : Hid (RB w3 w3.heap.size gb rl (.slice none 0 0) (.slice none 0 0) (.slice none 0 0) (.slice none 0 0) (.slice none 0 0) 0 0 0 0 [] [] [] []) := Lib.hid ⟨kg, World.ownsRow_nil _ _ _ _, World.ownsRow_nil _ _ _ _, World.ownsRow_nil _ _ _ _, World.ownsRow_nil _ _ _ _, fun k hk => by cases hk⟩
        have hgW : W.heap.size < gb := by omega
        have hw1W : w1.heap.size ≤ W.heap.size := HX.out.size
        clear kg hx3 hgb a0 a1
        go_wp2_with fail
        go_loopw [9, 10] (fun t _ wr => ∃ (v nv : Nat) (uv uc : Value) (vs cs : List Int), v ≤ nn ∧ t = .int .i64 (v : Int) ∧ Hid (vs = upL (vrR names ts) v) ∧ Hid (cs = upL (clR names ts) v) ∧ nv ≤ v ∧ RB wr w3.heap.size gb rl uv uc (.slice none 0 0) (.slice none 0 0) (.slice none 0 0) nv nv 0 0 vs cs [] [] ∧ Fr (fun b => b = gb) w3 wr) (fun t _ _ => nn - (intOf t).toNat)
        case atStart => exact ⟨0, 0, _, _, [], [], Nat.zero_le _, rfl, Lib.hid rfl, Lib.hid rfl, Nat.le_refl _, HRB.out, Fr.refl _ _⟩
        case round =>
          obtain ⟨v, nv, uv, uc, vs, cs, hv, rfl, HVS, HCS, hnv, hrb, hfr⟩ := hrel
          obtain ⟨Av, cv, rfl⟩ := own_slice hrb.rv
          obtain ⟨Ac, ca, rfl⟩ := own_slice hrb.rc
          obtain ⟨W4, rfl⟩ : ∃ W : World, W = wr := ⟨_, rfl⟩
          have HB := Lib.hid hrb; have HF := Lib.hid hfr
          have hx4 : Ext w1 W4 := hfr.new HX3.out (fun b hb => by omega)
          have HX4 := Lib.hid hx4
          have hk4 := HKA3.out.fr hfr (by omega)
          have hW34 : w3.heap.size ≤ W4.heap.size := hfr.size
          by_cases hvl : v < nn
          ·
              have v1 : (0 : Int) ≤ (v : Int) := by omega
              have v2 : (v : Int) < (nn : Int) := by omega
              have hvn : v < names.length := by have := HNM.out; omega
              obtain ⟨A9, c9, e9, -, hcl⟩ := HN.out
              injection e9 with e9 e9b e9c
              subst e9
              clear e9b e9c
              obtain ⟨adn, rfl, -, n0⟩ := hcl.str hvn
              replace n0 := hx4.cell (HX1.out.cell n0)
              have a0 := hk4.cell (i := 0) (by simp); have a1 := hk4.cell (i := 1) (by simp); have a2 := hk4.cell (i := 2) (by simp)
              simp only [List.getElem_cons_zero, List.getElem_cons_succ] at a0 a1 a2
              have hvr : vrR names ts v = if idxT ts names[v] < ts.length then some (v : Int) else none := by unfold vrR; rw [List.getElem?_eq_getElem hvn]; rfl
              have hcr : clR names ts v = if idxT ts names[v] < ts.length then some (idxT ts names[v] : Int) else none := by unfold clR; rw [List.getElem?_eq_getElem hvn]; rfl
              obtain ⟨sn, hsn⟩ : ∃ x, x = names[v] := ⟨_, rfl⟩
              rw [← hsn] at n0 hvr hcr
              have HFST := Lib.hid (fun (V : World) (hV : Ext W4 V) => first_ref (ng := false) (rl := rl) (s := sn) (HTS.out.ext (HX1.out.trans (hx4.trans hV))) (by omega))
              have hfi : fstI ts sn = if idxT ts sn < ts.length then (idxT ts sn : Int) else -1 := rfl
              obtain ⟨fi, hfi2⟩ : ∃ z, z = fstI ts sn := ⟨_, rfl⟩
              rw [← hfi2] at HFST hfi
              have HFI := Lib.hid hfi; have HVR := Lib.hid hvr; have HCR := Lib.hid hcr
              clear hcl hsn hvr hcr hfi hfi2 hrb hfr hk4 hx4
              go_upto_region 11 with fail
              go_region_held3 (fun V => Ext W4 V ∧ V.cell? (adn.add v) = some (.string sn) ∧ V.cell? ⟨W.heap.size, 0, none⟩ = some (.bool false) ∧ V.cell? ⟨W.heap.size, 1, none⟩ = some (.string rl) ∧ V.cell? ⟨W.heap.size, 2, none⟩ = some (.slice Bt nt dt))
                ((refine (fun he => ⟨he, Ext.cell he n0, Ext.cell he a0, Ext.cell he a1, Ext.cell he a2⟩) ?_; repeat (first | exact Ext.refl _ | exact (Ext.refl _).drew | refine Ext.drew ?_ | refine Ext.trans ?_ (by assumption))))
                (first
                  | (go_at_call 41; (with_reducible refine (HFST.out _ (And.left (by assumption))).mono ?_); rintro e wi ⟨yv, rfl, hei, rfl⟩))
              have hfin := And.left (b := _ ∧ _) (by assumption)
              obtain ⟨X, rfl⟩ : ∃ X : World, X = wi := ⟨_, rfl⟩
              have HBX := Lib.hid (HB.out.ext hfin); have HFX := Lib.hid (HF.out.ext hfin)
              have b1 := HBX.out.bk.cell (i := 1) (by simp); have b2 := HBX.out.bk.cell (i := 2) (by simp)
              simp only [List.getElem_cons_zero, List.getElem_cons_succ] at b1 b2
              have hXs : w3.heap.size ≤ X.heap.size := HFX.out.size
              clear hfin hei a0 a1 a2 n0
              by_cases hix : idxT ts sn < ts.length
              · have HV2 : Hid (vs ++ [(v : Int)] = upL (vrR names ts) (v + 1)) := Lib.hid (by rw [upL_some (HVR.out.trans (if_pos hix)), HVS.out])
                have HC2 : Hid (cs ++ [(idxT ts sn : Int)] = upL (clR names ts) (v + 1)) := Lib.hid (by rw [upL_some (HCR.out.trans (if_pos hix)), HCS.out])
                have hfx : fi = (idxT ts sn : Int) := by rw [HFI.out, if_pos hix]
                obtain ⟨x, hx⟩ : ∃ x, x = idxT ts sn := ⟨_, rfl⟩
                rw [← hx] at HC2 hfx
                subst hfx
                have x0 : ¬ (x : Int) < 0 := by omega
                clear hix hx HFI HVR HCR
                go_upto_region 14 with (first
                  | (at_builtin; refine wpList_append_at rfl _ _ 31 rfl w3.heap.size 3 i0 (.int .i64 0) 1 8 Tryz.underlying31 HI0.out.1 HI0.out.2.1 HI0.out.2.2.1 HI0.out.2.2.2 rfl (by omega) (.slice Av nv cv) nv (vs.map I64) rfl (HBX.out.rv.alloc _) ⟨X.heap.size, 0, none⟩ 1 1 [.int .i64 (v : Int)] rfl rfl (laid_news X _ _) (by simp [Value.oneCell']) (by simp only [maxLen]; omega) (by omega) (by simp; omega) ?_; intro v8 w8 hr8 hg8 hl8; obtain ⟨A8, c8, e8⟩ := own_slice hr8; subst e8; have hb8' := HBX.out.ext ((Ext.refl X).alloc (.cells #[.int .i64 (v : Int)] 3)); have hb8 := hb8'.bkV hg8; have q8 := hb8.cell (i := 1) (by simp); have f8 := hb8.free 1; simp at q8; have HP8 := Lib.hid (hb8'.putV (x := (v : Int)) hr8 hg8 hl8); have HF8 := Lib.hid (((HFX.out.alloc _).grown hg8 (fun b hb => .inr (own_ge hb8'.rv hb))).setCell (p := ⟨gb, 1, none⟩) (.inl rfl) (.slice A8 (nv + 1) c8)); clear hb8' hb8 hr8 hg8 hl8))
                have hZ : w3.heap.size ≤ (w8.setCell ⟨gb, 1, none⟩ (.slice A8 (nv + 1) c8)).heap.size := HF8.out.size
                generalize (w8.setCell ⟨gb, 1, none⟩ (.slice A8 (nv + 1) c8)) = Z at *
                have z2 := HP8.out.bk.cell (i := 2) (by simp)
                simp only [List.getElem_cons_zero, List.getElem_cons_succ] at z2
                clear q8 f8 b1 b2
                go_wp2_with (first
                  | (at_builtin; refine wpList_append_at rfl _ _ 31 rfl w3.heap.size 3 i0 (.int .i64 0) 1 8 Tryz.underlying31 HI0.out.1 HI0.out.2.1 HI0.out.2.2.1 HI0.out.2.2.2 rfl (by omega) (.slice Ac nv ca) nv (cs.map I64) rfl (HP8.out.rc.alloc _) ⟨Z.heap.size, 0, none⟩ 1 1 [.int .i64 (x : Int)] rfl rfl (laid_news Z _ _) (by simp [Value.oneCell']) (by simp only [maxLen]; omega) (by omega) (by simp; omega) ?_; intro v9 w9 hr9 hg9 hl9; obtain ⟨A9, c9, e9⟩ := own_slice hr9; subst e9; have hb9' := HP8.out.ext ((Ext.refl Z).alloc (.cells #[.int .i64 (x : Int)] 3)); have hb9 := hb9'.bkC hg9; have q9 := hb9.cell (i := 2) (by simp); have f9 := hb9.free 2; simp at q9; have HP9 := Lib.hid (hb9'.putC (x := (x : Int)) hr9 hg9 hl9); have HF9 := Lib.hid (((HF8.out.alloc _).grown hg9 (fun b hb => .inr (own_ge hb9'.rc hb))).setCell (p := ⟨gb, 2, none⟩) (.inl rfl) (.slice A9 (nv + 1) c9)); clear hb9' hb9 hr9 hg9 hl9))
                go_roundw
                case rel => exact ⟨v + 1, nv + 1, _, _, _, _, by omega, by go_num, HV2, HC2, by omega, HP9.out, HF9.out⟩
                case measure => simp [intOf]; omega
              · have HV2 : Hid (vs = upL (vrR names ts) (v + 1)) := Lib.hid (by rw [upL_none (HVR.out.trans (if_neg hix))]; exact HVS.out)
                have HC2 : Hid (cs = upL (clR names ts) (v + 1)) := Lib.hid (by rw [upL_none (HCR.out.trans (if_neg hix))]; exact HCS.out)
                have hfx : fi = -1 := by rw [HFI.out, if_neg hix]
                subst hfx
                clear hix HFI HVR HCR b1 b2
                go_wp2_with fail
                go_roundw
                case rel => exact ⟨v + 1, nv, _, _, _, _, by omega, by go_num, HV2, HC2, by omega, HBX.out, HFX.out⟩
                case measure => simp [intOf]; omega
          · obtain rfl : v = nn := by omega
            have hdv : ¬ (v : Int) < (v : Int) := by omega
            have HVR2 : Hid (vs = upL (vrR names ts) names.length) := Lib.hid (by rw [← HNM.out]; exact HVS.out)
            have HCR2 : Hid (cs = upL (clR names ts) names.length) := Lib.hid (by rw [← HNM.out]; exact HCS.out)
            clear hrb hfr hk4 hx4
            go_wp2_with fail
            go_loopw [11, 13] (fun t _ wr => ∃ (k3 ns nf : Nat) (us uf : Value) (ss : List Pi) (fs : List Fl), k3 ≤ nt ∧ t = .int .i64 (k3 : Int) ∧ Hid (ss = upL (samAt ts) k3) ∧ Hid (fs = upL (conAt ts) k3) ∧ ns ≤ k3 ∧ nf ≤ k3 ∧ RB wr w3.heap.size gb rl (.slice Av nv cv) (.slice Ac nv ca) us uf (.slice none 0 0) nv nv ns nf vs cs ss fs ∧ Fr (fun b => b = gb) w3 wr) (fun t _ _ => nt - (intOf t).toNat)
            case atStart => exact ⟨0, 0, 0, _, _, [], [], Nat.zero_le _, rfl, Lib.hid rfl, Lib.hid rfl, Nat.le_refl _, Nat.le_refl _, HB.out, HF.out⟩
            case round =>
              obtain ⟨k3, ns, nf, us, uf, ss, fs, hk3, rfl, HSS, HFS, hns, hnf, hrb, hfr⟩ := hrel
              obtain ⟨As, es, rfl⟩ := own_slice hrb.rs
              obtain ⟨Af, ef, rfl⟩ := own_slice hrb.rf
              obtain ⟨W5, rfl⟩ : ∃ W : World, W = wr := ⟨_, rfl⟩
              have HB3 := Lib.hid hrb; have HF3 := Lib.hid hfr
              have hx5 : Ext w1 W5 := hfr.new HX3.out (fun b hb => by omega)
              have HX5 := Lib.hid hx5
              have hk5 := HKA3.out.fr hfr (by omega)
              have HK5 := Lib.hid hk5
              have hW5 : w3.heap.size ≤ W5.heap.size := hfr.size
              have a2 := hk5.cell (i := 2) (by simp)
              simp only [List.getElem_cons_zero, List.getElem_cons_succ] at a2
              by_cases hkl : k3 < nt
              ·
                  have m1 : (0 : Int) ≤ (k3 : Int) := by omega
                  have m2 : (k3 : Int) < (nt : Int) := by omega
                  have hkt : k3 < ts.length := by have := HNT.out; omega
                  obtain ⟨adt, rfl, -, e0, e1, e2, e3⟩ := HT.out.term hkt
                  replace e0 := hx5.cell (HX1.out.cell e0); replace e1 := hx5.cell (HX1.out.cell e1); replace e2 := hx5.cell (HX1.out.cell e2); replace e3 := hx5.cell (HX1.out.cell e3)
                  have hcon : conAt ts k3 = if ts[k3].var = ⟨#[]⟩ then some ⟨k3, 0, ts[k3].kind, ts[k3].int, ts[k3].str⟩ else none := by unfold conAt; rw [List.getElem?_eq_getElem hkt]; rfl
                  have hsam : samAt ts k3 = if ts[k3].var ≠ ⟨#[]⟩ ∧ idxT ts ts[k3].var < k3 then some ⟨idxT ts ts[k3].var, k3⟩ else none := by unfold samAt; rw [List.getElem?_eq_getElem hkt]; rfl
                  have hidx := idxT_le hkt
                  have hfs : fstI ts ts[k3].var = (idxT ts ts[k3].var : Int) := if_pos (by omega)
                  obtain ⟨t, ht⟩ : ∃ t, t = ts[k3] := ⟨_, rfl⟩
                  rw [← ht] at e0 e1 e2 e3 hcon hsam hidx hfs
                  obtain ⟨tv, tk, ti, tst⟩ := t
                  simp only at e0 e1 e2 e3 hcon hsam hidx hfs
                  have HFST := Lib.hid (fun (V : World) (hV : Ext W5 V) => first_ref (ng := false) (rl := rl) (s := tv) (HTS.out.ext (HX1.out.trans (hx5.trans hV))) (by omega))
                  rw [hfs] at HFST
                  have HCON := Lib.hid hcon; have HSAM := Lib.hid hsam
                  clear hrb hfr ht hcon hsam hfs hk5 hx5
                  go_upto_region 19 with fail
                  have kt := Bk.new W5 136 [.string tv, .int .i64 tk, .int .i64 ti, .string tst]
                  change Bk (W5.alloc (.cells #[.string tv, .int .i64 tk, .int .i64 ti, .string tst] 136)) _ _ _ at kt
                  have hx6 : Ext W5 (W5.alloc (.cells #[.string tv, .int .i64 tk, .int .i64 ti, .string tst] 136)) := (Ext.refl W5).alloc _
                  generalize (W5.alloc (.cells #[.string tv, .int .i64 tk, .int .i64 ti, .string tst] 136)) = W6 at *
                  have u0 := kt.cell (i := 0) (by simp); have u1 := kt.cell (i := 1) (by simp); have u2 := kt.cell (i := 2) (by simp); have u3 := kt.cell (i := 3) (by simp)
                  simp only [List.getElem_cons_zero, List.getElem_cons_succ] at u0 u1 u2 u3
                  have HB4 := Lib.hid (HB3.out.ext hx6); have HF4 := Lib.hid (HF3.out.ext hx6); have HX56 := Lib.hid hx6
                  have hW6 : W5.heap.size < W6.heap.size := kt.lt
                  have b3 := HB4.out.bk.cell (i := 3) (by simp); have b4 := HB4.out.bk.cell (i := 4) (by simp)
                  simp only [List.getElem_cons_zero, List.getElem_cons_succ] at b3 b4
                  have hk6 := HK5.out.ext hx6
                  have a0 := hk6.cell (i := 0) (by simp); have a1 := hk6.cell (i := 1) (by simp); have a2' := hk6.cell (i := 2) (by simp)
                  simp only [List.getElem_cons_zero, List.getElem_cons_succ] at a0 a1 a2'
                  clear kt hx6 hk6 e0 e1 e2 e3 a2
                  by_cases hv : tv = ⟨#[]⟩
                  · have hve := var_eq hv
                    have HS2 : Hid (ss = upL (samAt ts) (k3 + 1)) := Lib.hid (by rw [upL_none (by rw [HSAM.out, if_neg (fun h => h.1 hv)])]; exact HSS.out)
                    have HF2 : Hid (fs ++ [⟨k3, 0, tk, ti, tst⟩] = upL (conAt ts) (k3 + 1)) := Lib.hid (by rw [upL_some (HCON.out.trans (if_pos hv)), HFS.out])
                    clear hv b3 hidx HCON HSAM a0 a1 a2'
                    go_wp2_with (first
                      | (at_builtin; refine wpList_append_at rfl _ _ 74 rfl w3.heap.size 137 j0 (.agg #[.int .i64 0, .int .i64 0, .int .i64 0, .int .i64 0, .string ⟨#[]⟩]) 5 48 Tryz.underlying74 HJ0.out.1 HJ0.out.2.1 HJ0.out.2.2.1 HJ0.out.2.2.2 rfl (by omega) (.slice Af nf ef) nf (fcells fs) rfl (HB4.out.rf.alloc _) ⟨W6.heap.size, 0, none⟩ 1 1 [.int .i64 (k3 : Int), .int .i64 0, .int .i64 tk, .int .i64 ti, .string tst] rfl rfl (laid_news W6 _ _) (by simp [Value.oneCell']) (by simp only [maxLen]; omega) (by omega) (by simp; omega) ?_; intro v8 w8 hr8 hg8 hl8; obtain ⟨A8, c8, e8⟩ := own_slice hr8; subst e8; have hb8' := HB4.out.ext ((Ext.refl W6).alloc (.cells #[.int .i64 (k3 : Int), .int .i64 0, .int .i64 tk, .int .i64 ti, .string tst] 137)); have hb8 := hb8'.bkF hg8; have q8 := hb8.cell (i := 4) (by simp); have f8 := hb8.free 4; simp at q8; have HP8 := Lib.hid (hb8'.putF (x := ⟨k3, 0, tk, ti, tst⟩) hr8 hg8); have HF8 := Lib.hid (((HF4.out.alloc _).grown hg8 (fun b hb => .inr (own_ge hb8'.rf hb))).setCell (p := ⟨gb, 4, none⟩) (.inl rfl) (.slice A8 (nf + 1) c8)); clear hb8' hb8 hr8 hg8 hl8))
                    go_roundw
                    case rel => exact ⟨k3 + 1, ns, nf + 1, _, _, ss, _, by omega, by go_num, HS2, HF2, by omega, by omega, HP8.out, HF8.out⟩
                    case measure => simp [intOf]; omega
                  · have hve := var_ne hv
                    have HF2 : Hid (fs = upL (conAt ts) (k3 + 1)) := Lib.hid (by rw [upL_none (by rw [HCON.out, if_neg hv])]; exact HFS.out)
                    obtain ⟨x, hx⟩ : ∃ x, x = idxT ts tv := ⟨_, rfl⟩
                    have HSX : Hid (samAt ts k3 = if x < k3 then some ⟨(x : Int), k3⟩ else none) := Lib.hid (by
                      rw [HSAM.out, hx]
                      by_cases h : idxT ts tv < k3
                      · rw [if_pos ⟨hv, h⟩, if_pos h]
                      · rw [if_neg (fun h2 => h h2.2), if_neg h])
                    rw [← hx] at HFST
                    clear hv hx hidx HCON HSAM
                    go_wp2_with fail
                    refine (HFST.out _ HX56.out).mono ?_
                    rintro e w7 ⟨y, rfl, he7, rfl⟩
                    replace b3 := he7.cell b3
                    have HB5 := Lib.hid (HB4.out.ext he7); have HF5 := Lib.hid (HF4.out.ext he7)
                    have hW7 : W6.heap.size ≤ w7.heap.size := he7.size
                    clear he7 b4 a0 a1 a2' u0 u1 u2 u3
                    by_cases hxk : x < k3
                    · have HS2 : Hid (ss ++ [⟨(x : Int), k3⟩] = upL (samAt ts) (k3 + 1)) := Lib.hid (by rw [upL_some (HSX.out.trans (if_pos hxk)), HSS.out])
                      have hx1 : (x : Int) < (k3 : Int) := by omega
                      clear HSX
                      go_wp2_with (first
                        | (at_builtin; refine wpList_append_at rfl _ _ 32 rfl w3.heap.size 51 p0 (.agg #[.int .i64 0, .int .i64 0]) 2 16 Tryz.underlying32 HP0.out.1 HP0.out.2.1 HP0.out.2.2.1 HP0.out.2.2.2 rfl (by omega) (.slice As ns es) ns (picells ss) rfl (HB5.out.rs.alloc _) ⟨w7.heap.size, 0, none⟩ 1 1 [.int .i64 (x : Int), .int .i64 (k3 : Int)] rfl rfl (laid_news w7 _ _) (by simp [Value.oneCell']) (by simp only [maxLen]; omega) (by omega) (by simp; omega) ?_; intro v8 w8 hr8 hg8 hl8; obtain ⟨A8, c8, e8⟩ := own_slice hr8; subst e8; have hb8' := HB5.out.ext ((Ext.refl w7).alloc (.cells #[.int .i64 (x : Int), .int .i64 (k3 : Int)] 51)); have hb8 := hb8'.bkS hg8; have q8 := hb8.cell (i := 3) (by simp); have f8 := hb8.free 3; simp at q8; have HP8 := Lib.hid (hb8'.putS (x := ⟨(x : Int), k3⟩) hr8 hg8); have HF8 := Lib.hid (((HF5.out.alloc _).grown hg8 (fun b hb => .inr (own_ge hb8'.rs hb))).setCell (p := ⟨gb, 3, none⟩) (.inl rfl) (.slice A8 (ns + 1) c8)); clear hb8' hb8 hr8 hg8 hl8))
                      go_roundw
                      case rel => exact ⟨k3 + 1, ns + 1, nf, _, _, _, fs, by omega, by go_num, HS2, HF2, by omega, by omega, HP8.out, HF8.out⟩
                      case measure => simp [intOf]; omega
                    · have HS2 : Hid (ss = upL (samAt ts) (k3 + 1)) := Lib.hid (by rw [upL_none (HSX.out.trans (if_neg hxk))]; exact HSS.out)
                      have hx1 : ¬ (x : Int) < (k3 : Int) := by omega
                      clear HSX b3
                      go_wp2_with fail
                      go_roundw
                      case rel => exact ⟨k3 + 1, ns, nf, _, _, ss, fs, by omega, by go_num, HS2, HF2, by omega, by omega, HB5.out, HF5.out⟩
                      case measure => simp [intOf]; omega
              · obtain rfl : k3 = nt := by omega
                have hdk : ¬ (k3 : Int) < (k3 : Int) := by omega
                have HS3 : Hid (ss = upL (samAt ts) ts.length) := Lib.hid (by rw [← HNT.out]; exact HSS.out)
                have HF3' : Hid (fs = upL (conAt ts) ts.length) := Lib.hid (by rw [← HNT.out]; exact HFS.out)
                have r1 := (HKR.out.ext hx5).cell (i := 1) (by simp)
                simp only [List.getElem_cons_zero, List.getElem_cons_succ] at r1
                clear hrb hfr hk5 hx5
                go_wp2_with fail
                clear r1 a2
                go_loopw [14, 15] (fun t _ wr => ∃ (z nf4 : Nat) (uf : Value) (fs4 : List Fl), z ≤ nc ∧ t = .int .i64 (z : Int) ∧ Hid (fs4 = upL (conAt ts) ts.length ++ upL (cndAt ts r.cds) z) ∧ nf4 ≤ k3 + z ∧ RB wr w3.heap.size gb rl (.slice Av nv cv) (.slice Ac nv ca) (.slice As ns es) uf (.slice none 0 0) nv nv ns nf4 vs cs ss fs4 ∧ Fr (fun b => b = gb) w3 wr) (fun t _ _ => nc - (intOf t).toNat)
                case atStart => exact ⟨0, nf, _, fs, Nat.zero_le _, rfl, Lib.hid (by rw [HF3'.out]; simp [upL]), by omega, HB3.out, HF3.out⟩
                case round =>
                  obtain ⟨z, nf4, uf, fs4, hz, rfl, HFS4, hnf4, hrb, hfr⟩ := hrel
                  obtain ⟨Af4, ef4, rfl⟩ := own_slice hrb.rf
                  obtain ⟨W7, rfl⟩ : ∃ W : World, W = wr := ⟨_, rfl⟩
                  have HB7 := Lib.hid hrb; have HF7 := Lib.hid hfr
                  have hx7 : Ext w1 W7 := hfr.new HX3.out (fun b hb => by omega)
                  have HX7 := Lib.hid hx7
                  have hk7 := HKA3.out.fr hfr (by omega)
                  have hW7' : w3.heap.size ≤ W7.heap.size := hfr.size
                  have r1 := (HKR.out.ext hx7).cell (i := 1) (by simp)
                  simp only [List.getElem_cons_zero, List.getElem_cons_succ] at r1
                  by_cases hzl : z < nc
                  · as_aux_lemma =>
                      have l1 : (0 : Int) ≤ (z : Int) := by omega
                      have l2 : (z : Int) < (nc : Int) := by omega
                      have hzc : z < r.cds.length := by have := HCX.out; omega
                      obtain ⟨adc, rfl, -, e0, e1, e2, e3, e4⟩ := HC.out.cd hzc
                      have hadl := cell_lt e0
                      replace e0 := hx7.cell (HX1.out.cell e0); replace e1 := hx7.cell (HX1.out.cell e1); replace e2 := hx7.cell (HX1.out.cell e2); replace e3 := hx7.cell (HX1.out.cell e3); replace e4 := hx7.cell (HX1.out.cell e4)
                      have hcnd : cndAt ts r.cds z = if r.cds[z].var ≠ ⟨#[]⟩ ∧ idxT ts r.cds[z].var < ts.length then some ⟨idxT ts r.cds[z].var, r.cds[z].op, r.cds[z].kind, r.cds[z].int, r.cds[z].str⟩ else none := by unfold cndAt; rw [List.getElem?_eq_getElem hzc]; rfl
                      have hcv := HCV.out _ (List.getElem_mem hzc)
                      obtain ⟨y, hy⟩ : ∃ y, y = r.cds[z] := ⟨_, rfl⟩
                      rw [← hy] at e0 e1 e2 e3 e4 hcnd hcv
                      obtain ⟨xv, op, kd, it, st⟩ := y
                      simp only at e0 e1 e2 e3 e4 hcnd hcv
                      have HFST := Lib.hid (fun (V : World) (hV : Ext W7 V) => first_ref (ng := false) (rl := rl) (s := xv) (HTS.out.ext (HX1.out.trans (hx7.trans hV))) (by omega))
                      have hfi : fstI ts xv = if idxT ts xv < ts.length then (idxT ts xv : Int) else -1 := rfl
                      obtain ⟨fi, hfi2⟩ : ∃ q, q = fstI ts xv := ⟨_, rfl⟩
                      rw [← hfi2] at HFST hfi
                      have HFI := Lib.hid hfi; have HCND := Lib.hid hcnd; have HCVV := Lib.hid hcv
                      have a0 := hk7.cell (i := 0) (by simp); have a1 := hk7.cell (i := 1) (by simp); have a2 := hk7.cell (i := 2) (by simp)
                      simp only [List.getElem_cons_zero, List.getElem_cons_succ] at a0 a1 a2
                      clear hy hcnd hcv hfi hfi2 hrb hfr hk7 hx7
                      go_upto_region 27 with fail
                      go_region_held3 (fun V => Ext W7 V ∧ V.cell? ⟨w.heap.size, 1, none⟩ = some (.slice (some adc) nc cc) ∧ V.cell? (adc.add (z * 5)) = some (.string xv) ∧ V.cell? ⟨W.heap.size, 0, none⟩ = some (.bool false) ∧ V.cell? ⟨W.heap.size, 1, none⟩ = some (.string rl) ∧ V.cell? ⟨W.heap.size, 2, none⟩ = some (.slice Bt k3 dt))
                        ((refine (fun he => ⟨he, Ext.cell he r1, Ext.cell he e0, Ext.cell he a0, Ext.cell he a1, Ext.cell he a2⟩) ?_; repeat (first | exact Ext.refl _ | exact (Ext.refl _).drew | refine Ext.drew ?_ | refine Ext.trans ?_ (by assumption))))
                        (first
                          | (go_at_call 41; (with_reducible refine (HFST.out _ (And.left (by assumption))).mono ?_); rintro e wi ⟨yv, rfl, hei, rfl⟩))
                      have hfin := And.left (b := _ ∧ _) (by assumption)
                      obtain ⟨X, rfl⟩ : ∃ X : World, X = wi := ⟨_, rfl⟩
                      have HBX := Lib.hid (HB7.out.ext hfin); have HFX := Lib.hid (HF7.out.ext hfin)
                      replace r1 := hfin.cell r1; replace e1 := hfin.cell e1; replace e2 := hfin.cell e2; replace e3 := hfin.cell e3; replace e4 := hfin.cell e4
                      have b4 := HBX.out.bk.cell (i := 4) (by simp)
                      simp only [List.getElem_cons_zero, List.getElem_cons_succ] at b4
                      have hXs : w3.heap.size ≤ X.heap.size := HFX.out.size
                      clear hfin hei a0 a1 a2 e0
                      by_cases hix : idxT ts xv < ts.length
                      · have HC2 : Hid (fs4 ++ [⟨(idxT ts xv : Int), op, kd, it, st⟩] = upL (conAt ts) ts.length ++ upL (cndAt ts r.cds) (z + 1)) := Lib.hid (by rw [upL_some (HCND.out.trans (if_pos ⟨HCVV.out, hix⟩)), HFS4.out, List.append_assoc])
                        have hfx : fi = (idxT ts xv : Int) := by rw [HFI.out, if_pos hix]
                        obtain ⟨x, hx⟩ : ∃ x, x = idxT ts xv := ⟨_, rfl⟩
                        rw [← hx] at HC2 hfx
                        subst hfx
                        have x0 : ¬ (x : Int) < 0 := by omega
                        clear hix hx HFI HCND HCVV
                        have b4a := ((Ext.refl X).alloc (.cells #[.int .i64 (x : Int), .int .i64 op, .int .i64 kd, .int .i64 it, .string st] 137)).cell b4
                        go_upto_region 29 with fail
                        obtain ⟨v8, w8, hrun8, hr8, hg8, hl8⟩ := run_append_at (P := Tryz.prog) ((X.alloc (.cells #[.int .i64 (x : Int), .int .i64 op, .int .i64 kd, .int .i64 it, .string st] 137)).drew) w3.heap.size 74 74 137 j0 (.agg #[.int .i64 0, .int .i64 0, .int .i64 0, .int .i64 0, .string ⟨#[]⟩]) 5 48 Tryz.underlying74 HJ0.out.1 HJ0.out.2.1 HJ0.out.2.2.1 HJ0.out.2.2.2 rfl (by omega) (.slice Af4 nf4 ef4) nf4 (fcells fs4) (own_ext' HBX.out.rf ((Ext.refl X).alloc _).drew) ⟨X.heap.size, 0, none⟩ 1 1 [.int .i64 (x : Int), .int .i64 op, .int .i64 kd, .int .i64 it, .string st] rfl (laid_news X _ _) (by simp [Value.oneCell']) (by simp only [maxLen]; omega) (by omega) (by simp; omega)
                        obtain ⟨A8, c8, e8⟩ := own_slice hr8
                        subst e8
                        have hb8' := HBX.out.ext ((Ext.refl X).alloc (.cells #[.int .i64 (x : Int), .int .i64 op, .int .i64 kd, .int .i64 it, .string st] 137)).drew
                        have hb8 := hb8'.bkF hg8
                        have q8 := hb8.cell (i := 4) (by simp)
                        have f8 := hb8.free 4
                        simp at q8
                        have HP8 := Lib.hid (hb8'.putF (x := ⟨(x : Int), op, kd, it, st⟩) hr8 hg8)
                        have HF8 := Lib.hid ((((HFX.out.alloc (.cells #[.int .i64 (x : Int), .int .i64 op, .int .i64 kd, .int .i64 it, .string st] 137)).drew).grown hg8 (fun b hb => .inr (own_ge hb8'.rf hb))).setCell (p := ⟨gb, 4, none⟩) (.inl rfl) (.slice A8 (nf4 + 1) c8))
                        have hxa : Ext X (X.alloc (.cells #[.int .i64 (x : Int), .int .i64 op, .int .i64 kd, .int .i64 it, .string st] 137)).drew := ((Ext.refl X).alloc _).drew
                        have hff := grown_fr hg8
                        have hge := fun k hk => own_ge (k := k) hb8'.rf hk
                        have hadl2 : adc.block < w.heap.size := by rw [block_add] at hadl; exact hadl
                        have hnA : ¬ (Value.slice Af4 nf4 ef4).ownBlock = some w.heap.size := fun e => by have := hge _ e; omega
                        have hnB : ¬ (Value.slice Af4 nf4 ef4).ownBlock = some (adc.add (z * 5)).block := fun e => by have := hge _ e; rw [block_add] at this; omega
                        have hS8 := And.intro (hff.cell (hxa.cell r1) hnA) (And.intro (hff.cell (hxa.cell e1) hnB) (And.intro (hff.cell (hxa.cell e2) hnB) (And.intro (hff.cell (hxa.cell e3) hnB) (hff.cell (hxa.cell e4) hnB))))
                        clear hb8' hb8 hr8 hg8 hl8 hff hge hxa
                        refine wp_then ?_
                        intro KK hKK
                        refine reg29 l1 l2 r1 e1 e2 e3 e4 b4 hrun8 q8 f8 (by omega) (by omega) hS8 ?_
                        intro n119 n120 n121 n122 n123 n124 n125 n126 n127 n128 n129 n130 n131 n132 n133 n134 n135 n136 n137
                        generalize (w8.setCell ⟨gb, 4, none⟩ (.slice A8 (nf4 + 1) c8)) = Z8 at *
                        clear q8 f8 hrun8 b4 b4a r1 e1 e2 e3 e4 hS8 hnA hnB
                        rw [hKK]
                        clear hKK
                        go_wp2_with fail
                        go_roundw
                        case rel => exact ⟨z + 1, nf4 + 1, _, _, by omega, by go_num, HC2, by omega, HP8.out, HF8.out⟩
                        case measure => simp [intOf]; omega
                      · have HC2 : Hid (fs4 = upL (conAt ts) ts.length ++ upL (cndAt ts r.cds) (z + 1)) := Lib.hid (by rw [upL_none (HCND.out.trans (if_neg (fun h => hix h.2)))]; exact HFS4.out)
                        have hfx : fi = -1 := by rw [HFI.out, if_neg hix]
                        subst hfx
                        clear hix HFI HCND HCVV b4 r1 e1 e2 e3 e4
                        go_wp2_with fail
                        go_roundw
                        case rel => exact ⟨z + 1, nf4, _, fs4, by omega, by go_num, HC2, by omega, HBX.out, HFX.out⟩
                        case measure => simp [intOf]; omega
                  · obtain rfl : z = nc := by omega
                    have hdz : ¬ (z : Int) < (z : Int) := by omega
                    have HF4' : Hid (fs4 = upL (conAt ts) ts.length ++ upL (cndAt ts r.cds) r.cds.length) := Lib.hid (by rw [← HCX.out]; exact HFS4.out)
                    have r0 := (HKR.out.ext hx7).cell (i := 0) (by simp)
                    simp only [List.getElem_cons_zero, List.getElem_cons_succ] at r0
                    have HOWN : Hid (∀ k, (Value.slice Av nv cv).ownBlock = some k ∨ (Value.slice Ac nv ca).ownBlock = some k ∨ (Value.slice As ns es).ownBlock = some k ∨ (Value.slice Af4 nf4 ef4).ownBlock = some k → k < W7.heap.size) := Lib.hid (fun k hk => by
                      rcases hk with h | h | h | h
                      · exact (HB7.out.rv.lt k h).2
                      · exact (HB7.out.rc.lt k h).2
                      · exact (HB7.out.rs.lt k h).2
                      · exact (HB7.out.rf.lt k h).2)
                    have hgW7 : gb < W7.heap.size := HB7.out.bk.lt
                    clear hrb hfr hk7 hx7
                    go_wp2_with fail
                    clear r0 r1
                    go_loopw [16] (fun t wr => ∃ (k5 km : Nat) (un : Value) (l5 : List Nt) (css5 : List (List Value)), k5 ≤ n ∧ t = .int .i64 (k5 : Int) ∧ Rw rdNt wr W7.heap.size 139 un km l5 css5 ∧ Hid (l5 = ((r.ats.take k5).filter (isNt r.ats i)).map (ntOf names)) ∧ km ≤ k5 ∧ RB wr w3.heap.size gb rl (.slice Av nv cv) (.slice Ac nv ca) (.slice As ns es) (.slice Af4 nf4 ef4) un nv nv ns nf4 vs cs ss fs4 ∧ Fr (fun b => b = gb) w3 wr ∧ W7.heap.size ≤ wr.heap.size) (fun t _ => n - (intOf t).toNat)
                    case atStart => exact ⟨0, 0, _, [], [], Nat.zero_le _, rfl, Rw.empty _ _ _ _, Lib.hid (by simp), Nat.le_refl _, HB7.out, HF7.out, Nat.le_refl _⟩
                    case round =>
                      obtain ⟨k5, km, un, l5, css5, hk5, rfl, hrn, HE5, hkm, hrb, hfr, hws⟩ := hrel
                      obtain ⟨An5, cn5, rfl⟩ := own_slice hrn.own
                      obtain ⟨W8, rfl⟩ : ∃ W : World, W = wr := ⟨_, rfl⟩
                      have HN5 := Lib.hid hrn; have HB8 := Lib.hid hrb; have HF8 := Lib.hid hfr
                      have hx8 : Ext w1 W8 := hfr.new HX3.out (fun b hb => by omega)
                      have HX8 := Lib.hid hx8
                      have r0 := (HKR.out.ext hx8).cell (i := 0) (by simp); have r1 := (HKR.out.ext hx8).cell (i := 1) (by simp)
                      simp only [List.getElem_cons_zero, List.getElem_cons_succ] at r0 r1
                      by_cases hkl5 : k5 < n
                      · as_aux_lemma =>
                          have n1 : (0 : Int) ≤ (k5 : Int) := by omega
                          have n2 : (k5 : Int) < (n : Int) := by omega
                          have hkx : k5 < r.ats.length := by have := HNX.out; omega
                          obtain ⟨ad', Bt2, dt2, e', -, d0, d1, d2, hT2⟩ := HA.out k5 hkx
                          injection e' with e'
                          subst e'
                          replace d0 := HX1.out.cell d0; replace d1 := HX1.out.cell d1; replace d2 := HX1.out.cell d2
                          have HD1 := Lib.hid d1
                          replace d0 := hx8.cell d0; replace d1 := hx8.cell d1
                          have htk : r.ats.take (k5 + 1) = r.ats.take k5 ++ [r.ats[k5]] := List.take_succ_eq_append_getElem hkx
                          have HSK : Hid (isNt r.ats i r.ats[k5] = false → l5 = ((r.ats.take (k5 + 1)).filter (isNt r.ats i)).map (ntOf names)) := Lib.hid (fun h => by rw [htk, List.filter_append, List.filter_cons, h]; simpa using HE5.out)
                          have HAD : Hid (isNt r.ats i r.ats[k5] = true → l5 ++ [ntOf names r.ats[k5]] = ((r.ats.take (k5 + 1)).filter (isNt r.ats i)).map (ntOf names)) := Lib.hid (fun h => by rw [htk, List.filter_append, List.filter_cons, h, HE5.out]; simp)
                          have hin : isNt r.ats i r.ats[k5] = (r.ats[k5].neg && decide (guardI r.ats r.ats[k5] = some i)) := rfl
                          have hgr : guardR r.ats r.ats[k5] = ((guardI r.ats r.ats[k5]).map (fun i : Nat => (i : Int))).getD (-1) := rfl
                          have hnm : ntOf names r.ats[k5] = ⟨r.ats[k5].rel, r.ats[k5].terms.map (numI names), r.ats[k5].terms.map Tm.vl⟩ := rfl
                          have hG := fun V hV => HGD.out V hV k5 hkx
                          have hli := HL.out _ (List.getElem_mem hkx)
                          have hcvk := HCOV.out _ (List.getElem_mem hkx)
                          have hczk := HCZ.out _ (List.getElem_mem hkx)
                          obtain ⟨gi, hgi⟩ : ∃ g, g = guardI r.ats r.ats[k5] := ⟨_, rfl⟩
                          obtain ⟨gv, hgv⟩ : ∃ g, g = guardR r.ats r.ats[k5] := ⟨_, rfl⟩
                          rw [← hgi] at hin hgr
                          rw [← hgv] at hgr hG
                          obtain ⟨isn, hisn⟩ : ∃ b, b = isNt r.ats i r.ats[k5] := ⟨_, rfl⟩
                          rw [← hisn] at hin HSK HAD
                          obtain ⟨a2, ha2⟩ : ∃ x, x = r.ats[k5] := ⟨_, rfl⟩
                          rw [← ha2] at d0 d1 d2 HD1 hT2 HAD hin hnm hli hcvk hczk
                          obtain ⟨ng2, rl2, ts2⟩ := a2
                          simp only at d0 d1 d2 HD1 hT2 hin hnm hli hcvk hczk
                          obtain ⟨nt2, hnt2⟩ : ∃ m, m = ts2.length := ⟨_, rfl⟩
                          rw [← hnt2] at d2 hli
                          have HD2 := Lib.hid d2
                          have HT2 := Lib.hid hT2.2; have HIN := Lib.hid hin; have HGR := Lib.hid hgr; have HNM2 := Lib.hid hnm; have HG := Lib.hid hG; have HCV2 := Lib.hid hcvk; have HCZ2 := Lib.hid hczk; have HNT2 := Lib.hid hnt2
                          clear htk hin hgr hnm hG hcvk hczk hgi hgv hisn ha2 hT2 hnt2 d2 hrn hrb hfr hx8
                          rcases ng2 with _ | _
                          · have HS := Lib.hid (HSK.out (by rw [HIN.out]; rfl))
                            go_wp2_with fail
                            go_roundw
                            case rel => exact ⟨k5 + 1, km, _, l5, css5, by omega, by go_num, HN5.out, HS, by omega, HB8.out, HF8.out, hws⟩
                            case measure => simp [intOf]; omega
                          · by_cases hgg : gi = some i
                            · have HY := Lib.hid (HAD.out (by rw [HIN.out, hgg]; simp))
                              rw [HNM2.out] at HY
                              have hb : ((gv : Int) != (i : Int)) = false := by rw [HGR.out, hgg]; simp
                              clear hgg
                              go_wp2_with fail
                              refine (HG.out _ (HX1.out.trans HX8.out)).mono ?_
                              rintro e w9 ⟨x, rfl, he9, rfl⟩
                              have HX9 := Lib.hid (HX8.out.trans he9); have HN9 := Lib.hid (HN5.out.ext he9); have HB9 := Lib.hid (HB8.out.ext he9); have HF9 := Lib.hid (HF8.out.ext he9)
                              have hsz9 : W8.heap.size ≤ w9.heap.size := he9.size
                              replace r0 := he9.cell r0; replace d1 := he9.cell d1
                              clear he9 r1 d0
                              go_upto_region 35 with fail
                              have kn := Bk.new w9 139 [.string rl2, .slice none 0 0, .slice none 0 0]
                              change Bk (w9.alloc (.cells #[.string rl2, .slice none 0 0, .slice none 0 0] 139)) _ _ _ at kn
                              have hx10 : Ext w9 (w9.alloc (.cells #[.string rl2, .slice none 0 0, .slice none 0 0] 139)) := (Ext.refl w9).alloc _
                              generalize (w9.alloc (.cells #[.string rl2, .slice none 0 0, .slice none 0 0] 139)) = w10 at *
                              have hw10 : w9.heap.size < w10.heap.size := kn.lt
                              have hw19 : w1.heap.size ≤ w9.heap.size := HX9.out.size
                              obtain ⟨bn, hbn⟩ : ∃ b, b = w9.heap.size := ⟨_, rfl⟩
                              rw [← hbn] at kn ⊢
                              have hbn1 : w9.heap.size ≤ bn := by omega
                              have hbn2 : bn < w10.heap.size := by omega
                              have HNB : Hid (NB w10 w10.heap.size bn rl2 (.slice none 0 0) (.slice none 0 0) 0 0 [] []) := Lib.hid ⟨kn, World.ownsRow_nil _ _ _ _, World.ownsRow_nil _ _ _ _⟩
                              have HX10 := Lib.hid hx10
                              clear kn hx10 hbn r0 d1
                              go_wp2_with fail
                              go_loopw [18] (fun t wr => ∃ (j : Nat) (u v : Value), j ≤ nt2 ∧ t = .int .i64 (j : Int) ∧ NB wr w10.heap.size bn rl2 u v j j ((ts2.take j).map (numI names)) ((ts2.take j).map Tm.vl) ∧ Fr (fun b => b = bn) w10 wr) (fun t _ => nt2 - (intOf t).toNat)
                              case atStart => exact ⟨0, _, _, Nat.zero_le _, rfl, HNB.out, Fr.refl _ _⟩
                              case round =>
                                obtain ⟨j, u, v, hj, rfl, hnb, hf6⟩ := hrel
                                obtain ⟨Aw, cw, rfl⟩ := own_slice hnb.ru
                                obtain ⟨Ax, cx, rfl⟩ := own_slice hnb.rv
                                obtain ⟨W11, rfl⟩ : ∃ W : World, W = wr := ⟨_, rfl⟩
                                have HN6 := Lib.hid hnb; have HF6 := Lib.hid hf6
                                have hx911 : Ext w9 W11 := hf6.new HX10.out (fun b hb => by omega)
                                have hx11 : Ext w1 W11 := HX9.out.trans hx911
                                have HX911 := Lib.hid hx911; have HX11 := Lib.hid hx11
                                have hsz11 : w10.heap.size ≤ W11.heap.size := hf6.size
                                have r0 := (HKR.out.ext hx11).cell (i := 0) (by simp)
                                simp only [List.getElem_cons_zero, List.getElem_cons_succ] at r0
                                have d2 := hx11.cell HD2.out
                                by_cases hjl : j < nt2
                                · have j1 : (0 : Int) ≤ (j : Int) := by omega
                                  have j2 : (j : Int) < (nt2 : Int) := by omega
                                  have hjt : j < ts2.length := by have := HNT2.out; omega
                                  obtain ⟨adt, rfl, -, e0, e1, e2, e3⟩ := HT2.out.term hjt
                                  replace e0 := hx11.cell (HX1.out.cell e0); replace e1 := hx11.cell (HX1.out.cell e1); replace e2 := hx11.cell (HX1.out.cell e2); replace e3 := hx11.cell (HX1.out.cell e3)
                                  have htk : ts2.take (j + 1) = ts2.take j ++ [ts2[j]] := List.take_succ_eq_append_getElem hjt
                                  have hcv := HCV2.out _ (List.getElem_mem hjt)
                                  have hcz := HCZ2.out _ (List.getElem_mem hjt)
                                  obtain ⟨t, ht⟩ : ∃ t, t = ts2[j] := ⟨_, rfl⟩
                                  rw [← ht] at e0 e1 e2 e3 htk hcv hcz
                                  obtain ⟨tv, tk, ti, tst⟩ := t
                                  simp only at e0 e1 e2 e3 hcv hcz
                                  have HTK1 : Hid ((ts2.take (j + 1)).map (numI names) = (ts2.take j).map (numI names) ++ [numI names ⟨tv, tk, ti, tst⟩]) := Lib.hid (by rw [htk]; simp)
                                  have HTK2 : Hid ((ts2.take (j + 1)).map Tm.vl = (ts2.take j).map Tm.vl ++ [⟨tk, ti, tst⟩]) := Lib.hid (by rw [htk]; simp [Tm.vl])
                                  clear htk ht hnb hf6 hx911 hx11
                                  go_upto_region 39 with fail
                                  have kt := Bk.new W11 136 [.string tv, .int .i64 tk, .int .i64 ti, .string tst]
                                  change Bk (W11.alloc (.cells #[.string tv, .int .i64 tk, .int .i64 ti, .string tst] 136)) _ _ _ at kt
                                  have hx12 : Ext W11 (W11.alloc (.cells #[.string tv, .int .i64 tk, .int .i64 ti, .string tst] 136)) := (Ext.refl W11).alloc _
                                  generalize (W11.alloc (.cells #[.string tv, .int .i64 tk, .int .i64 ti, .string tst] 136)) = W12 at *
                                  have t0 := kt.cell (i := 0) (by simp)
                                  simp only [List.getElem_cons_zero, List.getElem_cons_succ] at t0
                                  have HN12 := Lib.hid (HN6.out.ext hx12); have HF12 := Lib.hid (HF6.out.ext hx12); have HKT := Lib.hid kt; have HX12 := Lib.hid (HX11.out.trans hx12)
                                  have hsz12 : W11.heap.size < W12.heap.size := kt.lt
                                  clear kt hx12 r0 d2 e0 e1 e2 e3
                                  by_cases hv : tv = ⟨#[]⟩
                                  · have hve := var_eq hv
                                    have hnum : numI names ⟨tv, tk, ti, tst⟩ = -1 := if_pos hv
                                    rw [hnum] at HTK1
                                    have b1 := HN12.out.bk.cell (i := 1) (by simp)
                                    simp only [List.getElem_cons_zero, List.getElem_cons_succ] at b1
                                    clear hv hnum hcv hcz
                                    go_upto_region 41 with (first
                                      | (at_builtin; refine wpList_append_at rfl _ _ 31 rfl w10.heap.size 3 i0 (.int .i64 0) 1 8 Tryz.underlying31 HI0.out.1 HI0.out.2.1 HI0.out.2.2.1 HI0.out.2.2.2 rfl (by omega) (.slice Aw j cw) j (((ts2.take j).map (numI names)).map I64) rfl (HN12.out.ru.alloc _) ⟨W12.heap.size, 0, none⟩ 1 1 [.int .i64 (-1)] rfl rfl (laid_news W12 _ _) (by simp [Value.oneCell']) (by simp only [maxLen]; omega) (by omega) (by simp; omega) ?_; intro v8 w8 hr8 hg8 hl8; obtain ⟨A8, c8, e8⟩ := own_slice hr8; subst e8; have hb8' := HN12.out.ext ((Ext.refl W12).alloc (.cells #[.int .i64 (-1)] 3)); have hb8 := hb8'.bkU hg8; have q8 := hb8.cell (i := 1) (by simp); have f8 := hb8.free 1; simp at q8; have hkt8 := (HKT.out.ext ((Ext.refl W12).alloc (.cells #[.int .i64 (-1)] 3))).fr (grown_fr hg8) (fun e => own_bk hb8'.ru (HKT.out.ext ((Ext.refl W12).alloc (.cells #[.int .i64 (-1)] 3))) (by decide) e rfl); have HP8 := Lib.hid (hb8'.putU (x := -1) hr8 hg8); have HF8 := Lib.hid (((HF12.out.alloc (.cells #[.int .i64 (-1)] 3)).grown hg8 (fun b hb => .inr (own_ge hb8'.ru hb))).setCell (p := ⟨bn, 1, none⟩) (.inl rfl) (.slice A8 (j + 1) c8)); have HKT8 : Hid (Bk (w8.setCell ⟨bn, 1, none⟩ (.slice A8 (j + 1) c8)) W11.heap.size 136 [.string tv, .int .i64 tk, .int .i64 ti, .string tst]) := Lib.hid (hkt8.fr ((Fr.refl (fun k => k = bn) w8).setCell (p := ⟨bn, 1, none⟩) (.inl rfl) _) (by omega)); clear hb8' hb8 hr8 hg8 hl8 hkt8))
                                    have hZ : w10.heap.size ≤ (w8.setCell ⟨bn, 1, none⟩ (.slice A8 (j + 1) c8)).heap.size := HF8.out.size
                                    generalize (w8.setCell ⟨bn, 1, none⟩ (.slice A8 (j + 1) c8)) = Z at *
                                    have z2 := HP8.out.bk.cell (i := 2) (by simp)
                                    have s1 := HKT8.out.cell (i := 1) (by simp); have s2 := HKT8.out.cell (i := 2) (by simp); have s3 := HKT8.out.cell (i := 3) (by simp)
                                    simp only [List.getElem_cons_zero, List.getElem_cons_succ] at z2 s1 s2 s3
                                    clear q8 f8 b1 t0
                                    go_wp2_with (first
                                      | (at_builtin; refine wpList_append_at rfl _ _ 48 rfl w10.heap.size 83 v0 (.agg #[.int .i64 0, .int .i64 0, .string ⟨#[]⟩]) 3 32 Tryz.underlying48 HV0.out.1 HV0.out.2.1 HV0.out.2.2.1 HV0.out.2.2.2 rfl (by omega) (.slice Ax j cx) j (vcells ((ts2.take j).map Tm.vl)) rfl (HP8.out.rv.alloc _) ⟨Z.heap.size, 0, none⟩ 1 1 [.int .i64 tk, .int .i64 ti, .string tst] rfl rfl (laid_news Z _ _) (by simp [Value.oneCell']) (by simp only [maxLen]; omega) (by omega) (by simp; omega) ?_; intro v9 w9' hr9 hg9 hl9; obtain ⟨A9, c9, e9⟩ := own_slice hr9; subst e9; have hb9' := HP8.out.ext ((Ext.refl Z).alloc (.cells #[.int .i64 tk, .int .i64 ti, .string tst] 83)); have hb9 := hb9'.bkV hg9; have q9 := hb9.cell (i := 2) (by simp); have f9 := hb9.free 2; simp at q9; have HP9 := Lib.hid (hb9'.putV (x := ⟨tk, ti, tst⟩) hr9 hg9); have HF9' := Lib.hid (((HF8.out.alloc (.cells #[.int .i64 tk, .int .i64 ti, .string tst] 83)).grown hg9 (fun b hb => .inr (own_ge hb9'.rv hb))).setCell (p := ⟨bn, 2, none⟩) (.inl rfl) (.slice A9 (j + 1) c9)); clear hb9' hb9 hr9 hg9 hl9))
                                    go_roundw
                                    case rel => exact ⟨j + 1, _, _, by omega, by go_num, by rw [HTK1.out, HTK2.out]; exact HP9.out, HF9'.out⟩
                                    case measure => simp [intOf]; omega
                                  · have hve := var_ne hv
                                    have hm := hcv hv
                                    obtain ⟨rfl, rfl, rfl⟩ := hcz hv
                                    obtain ⟨x, hx⟩ : ∃ x, x = idxL names tv := ⟨_, rfl⟩
                                    have hnum : numI names ⟨tv, 0, 0, ⟨#[]⟩⟩ = x := by
                                      rw [hx]
                                      unfold numI idxL
                                      rw [if_neg hv, if_pos hm, if_pos hm]
                                    rw [hnum] at HTK1
                                    have HIDX := Lib.hid (fun (V : World) (hV : Ext W12 V) => index_ref (s := tv) (HN.out.ext (HX1.out.trans (HX12.out.trans hV))) (by omega))
                                    rw [← hx] at HIDX
                                    have b1 := HN12.out.bk.cell (i := 1) (by simp)
                                    simp only [List.getElem_cons_zero, List.getElem_cons_succ] at b1
                                    clear hv hnum hcv hcz hm hx
                                    go_upto_region 42 with fail
                                    refine wp_then ?_
                                    intro KK hKK
                                    go_cut [] (fun wx => NBc w10 w10.heap.size bn rl2 (.slice Ax j cx) (j + 1) j ((ts2.take j).map (numI names) ++ [x]) ((ts2.take j).map Tm.vl) wx)
                                    case first =>
                                      clear hKK HN HA HA0 HC HL HCOV HCZ HCV HNX HNM HCX HGD HJ0 HP0 HS0 HT0 HV0 HKR HX1 HE HX HRW HTS HT HSR HNT HKA HX2 HRW2 HX3 HRW3 HKA3 HX23 HRB HVS HCS HB HF HX4 HVR2 HCR2 HSS HFS HB3 HF3 HX5 HK5 HS3 HF3' HFS4 HB7 HF7 HX7 HF4' HTK1 HTK2 HX12 HKT HN6 HF6 HX911 HX11 HNB HX10 HX9 HN9 HB9 HF9 HY HD1 HD2
                                      go_region_law (first
                                        | (refine step_append_at (by rfl) _ _ _ (by rfl) w10.heap.size 3 i0 (.int .i64 0) 1 8 Tryz.underlying31 HI0.out.1 HI0.out.2.1 HI0.out.2.2.1 HI0.out.2.2.2 rfl (by omega) (.slice Aw j cw) j (((ts2.take j).map (numI names)).map I64) (by rfl) (by exact own_ext' HN12.out.ru (((Ext.refl W12).drew.trans HEI.out).alloc _)) ⟨wi.heap.size, 0, none⟩ 1 1 [.int .i64 x] (by rfl) (by rfl) (by exact laid_news wi _ _) (by simp [Value.oneCell']) (by simp only [maxLen]; omega) (by omega) (by have := HEI.out.size; simp at this ⊢; omega) ?_; intro v8 w8 hr8 hg8 hl8; obtain ⟨A8, c8, e8⟩ := own_slice hr8; subst e8; have hb8' := HN12.out.ext (((Ext.refl W12).drew.trans HEI.out).alloc (.cells #[.int .i64 x] 3)); have hb8 := hb8'.bkU hg8; have q8 := hb8.cell (i := 1) (by simp); have f8 := hb8.free 1; simp at q8; have HP8 := Lib.hid (hb8'.putU (x := x) hr8 hg8); have HF8 := Lib.hid (((HF12.out.ext (((Ext.refl W12).drew.trans HEI.out).alloc (.cells #[.int .i64 x] 3))).grown hg8 (fun b hb => .inr (own_ge hb8'.ru hb))).setCell (p := ⟨bn, 1, none⟩) (.inl rfl) (.slice A8 (j + 1) c8)); clear hb8' hb8 hr8 hg8 hl8)
                                        | (go_simp; (with_reducible refine (HIDX.out W12.drew (Ext.refl W12).drew).mono ?_); rintro e wi ⟨xv, rfl, hei, rfl⟩; have HEI := Lib.hid hei; (try (replace b1 := hei.cell ((Ext.refl W12).drew.cell b1); have b1a := ((Ext.refl wi).alloc (.cells #[.int .i64 x] 3)).cell b1)); clear hei; go_wp2_with fail))
                                      all_goals
                                        go_wp2_with fail
                                        go_meet
                                        exact ⟨_, _, HP8.out, HF8.out⟩
                                    case rest =>
                                      obtain ⟨A8, c8, hp8, hf8⟩ := hcut
                                      obtain ⟨Z, rfl⟩ : ∃ Z : World, Z = wc := ⟨_, rfl⟩
                                      have HP8 := Lib.hid hp8; have HF8 := Lib.hid hf8
                                      have hZ : w10.heap.size ≤ Z.heap.size := hf8.size
                                      rw [hKK]
                                      clear hKK hp8 hf8 b1 t0
                                      have z2 := HP8.out.bk.cell (i := 2) (by simp)
                                      simp only [List.getElem_cons_zero, List.getElem_cons_succ] at z2
                                      go_wp2_with (first
                                        | (at_builtin; refine wpList_append_at rfl _ _ 48 rfl w10.heap.size 83 v0 (.agg #[.int .i64 0, .int .i64 0, .string ⟨#[]⟩]) 3 32 Tryz.underlying48 HV0.out.1 HV0.out.2.1 HV0.out.2.2.1 HV0.out.2.2.2 rfl (by omega) (.slice Ax j cx) j (vcells ((ts2.take j).map Tm.vl)) rfl (HP8.out.rv.alloc _) ⟨Z.heap.size, 0, none⟩ 1 1 [.int .i64 0, .int .i64 0, .string ⟨#[]⟩] rfl rfl (laid_news Z _ _) (by simp [Value.oneCell']) (by simp only [maxLen]; omega) (by omega) (by simp; omega) ?_; intro v9 w9' hr9 hg9 hl9; obtain ⟨A9, c9, e9⟩ := own_slice hr9; subst e9; have hb9' := HP8.out.ext ((Ext.refl Z).alloc (.cells #[.int .i64 0, .int .i64 0, .string ⟨#[]⟩] 83)); have hb9 := hb9'.bkV hg9; have q9 := hb9.cell (i := 2) (by simp); have f9 := hb9.free 2; simp at q9; have HP9 := Lib.hid (hb9'.putV (x := ⟨0, 0, ⟨#[]⟩⟩) hr9 hg9); have HF9' := Lib.hid (((HF8.out.alloc (.cells #[.int .i64 0, .int .i64 0, .string ⟨#[]⟩] 83)).grown hg9 (fun b hb => .inr (own_ge hb9'.rv hb))).setCell (p := ⟨bn, 2, none⟩) (.inl rfl) (.slice A9 (j + 1) c9)); clear hb9' hb9 hr9 hg9 hl9))
                                      go_roundw
                                      case rel => exact ⟨j + 1, _, _, by omega, by go_num, by rw [HTK1.out, HTK2.out]; exact HP9.out, HF9'.out⟩
                                      case measure => simp [intOf]; omega
                                · obtain rfl : j = nt2 := by omega
                                  have hdj : ¬ (j : Int) < (j : Int) := by omega
                                  have et : ts2.take j = ts2 := List.take_of_length_le (by have := HNT2.out; omega)
                                  rw [et] at HN6
                                  have HN11 := Lib.hid (HN9.out.ext hx911); have HB11 := Lib.hid (HB9.out.ext hx911); have HF11 := Lib.hid (HF9.out.ext hx911)
                                  have HOW2 : Hid (∀ b, (Value.slice An5 km cn5).ownBlock = some b → W7.heap.size ≤ b ∧ b < w9.heap.size) := Lib.hid (fun b hb => HN9.out.own.lt b hb)
                                  have hi1 := (Ins.of_own HN6.out.ru).mono (G := fun b => W7.heap.size ≤ b ∧ (Value.slice An5 km cn5).ownBlock ≠ some b) (fun b _ hb => ⟨by omega, fun e => by have h1 := HOW2.out b e; have h2 := hb.2; omega⟩)
                                  have hi2 := ((Rw.of_flat (cells := Vl.cells) (sz := 3) (hl := fun _ => rfl) HN6.out.rv).sl (by decide)).mono (G := fun b => W7.heap.size ≤ b ∧ (Value.slice An5 km cn5).ownBlock ≠ some b) (by decide) (fun b _ hb => ⟨by omega, fun e => by have h1 := HOW2.out b e; omega⟩)
                                  have HI1 := Lib.hid hi1; have HI2 : Hid (Sl rdVl (fun b => W7.heap.size ≤ b ∧ (Value.slice An5 km cn5).ownBlock ≠ some b) W11 (.slice Ax j cx) (ts2.map Tm.vl)) := Lib.hid hi2
                                  have g5 := HB11.out.bk.cell (i := 5) (by simp)
                                  have y0 := HN6.out.bk.cell (i := 0) (by simp); have y1 := HN6.out.bk.cell (i := 1) (by simp); have y2 := HN6.out.bk.cell (i := 2) (by simp)
                                  simp only [List.getElem_cons_zero, List.getElem_cons_succ] at g5 y0 y1 y2
                                  clear et hnb hf6 hx911 hx11 hi1 hi2
                                  go_wp2_with (first
                                    | (at_builtin; refine wpList_append_at rfl _ _ 75 rfl W7.heap.size 139 t0 (.agg #[.string ⟨#[]⟩, .slice none 0 0, .slice none 0 0]) 3 64 Tryz.underlying75 HT0.out.1 HT0.out.2.1 HT0.out.2.2.1 HT0.out.2.2.2 rfl (by omega) (.slice An5 km cn5) km css5.flatten rfl (HN11.out.own.alloc _) ⟨W11.heap.size, 0, none⟩ 1 1 [.string rl2, .slice Aw j cw, .slice Ax j cx] rfl rfl (laid_news W11 _ _) (by simp [Value.oneCell']) (by simp only [maxLen]; omega) (by omega) (by simp; omega) ?_; intro v8 w8 hr8 hg8 hl8; obtain ⟨A8, c8, e8⟩ := own_slice hr8; subst e8; have hxa := (Ext.refl W11).alloc (.cells #[.string rl2, .slice Aw j cw, .slice Ax j cx] 139); have hrw8 := Rw.more (x := (⟨rl2, ts2.map (numI names), ts2.map Tm.vl⟩ : Nt)) HN11.out hxa ⟨_, _, rfl, HI1.out.ext hxa, HI2.out.ext hxa⟩ hr8 hg8 hl8; have hrb8 := (HB11.out.ext hxa).fr2 (grown_fr hg8) (fun e => by have := HOW2.out _ e; omega) (fun k hk e => by have h1 := HOW2.out _ e; have h2 := HOWN.out k hk; omega); have q8 := hrb8.bk.cell (i := 5) (by simp); have f8 := hrb8.bk.free 5; simp at q8; have HRW8 := Lib.hid (hrw8.fr ((Fr.refl (fun k => k = gb) w8).setCell (p := ⟨gb, 5, none⟩) (.inl rfl) (.slice A8 (km + 1) c8)) (fun k hk e => by omega)); have HRB8 := Lib.hid (hrb8.putN (.slice A8 (km + 1) c8)); have HF8' := Lib.hid ((((HF11.out.alloc (.cells #[.string rl2, .slice Aw j cw, .slice Ax j cx] 139))).grown hg8 (fun b hb => .inr (by have := HOW2.out b hb; omega))).setCell (p := ⟨gb, 5, none⟩) (.inl rfl) (.slice A8 (km + 1) c8)); have hsz8 : W11.heap.size ≤ w8.heap.size := by { have h1 := hg8.size; simp at h1; omega }; clear hxa hrw8 hrb8 hr8 hg8 hl8))
                                  go_roundw
                                  case rel => exact ⟨k5 + 1, km + 1, _, _, _, by omega, by go_num, HRW8.out, HY, by omega, HRB8.out, HF8'.out, by simp; omega⟩
                                  case measure => simp [intOf]; omega
                            · have HS := Lib.hid (HSK.out (by rw [HIN.out]; simp [hgg]))
                              have hb : ((gv : Int) != (i : Int)) = true := by
                                rw [HGR.out, bne_iff_ne]
                                rcases gi with _ | g
                                · simp
                                · intro h
                                  apply hgg
                                  have h' : g = i := by { simp at h; omega }
                                  rw [h']
                              clear hgg
                              go_wp2_with fail
                              refine (HG.out _ (HX1.out.trans HX8.out)).mono ?_
                              rintro e w9 ⟨x, rfl, he9, rfl⟩
                              have HN9 := Lib.hid (HN5.out.ext he9); have HB9 := Lib.hid (HB8.out.ext he9); have HF9 := Lib.hid (HF8.out.ext he9)
                              have hsz9 : W8.heap.size ≤ w9.heap.size := he9.size
                              clear he9
                              go_wp2_with fail
                              go_roundw
                              case rel => exact ⟨k5 + 1, km, _, l5, css5, by omega, by go_num, HN9.out, HS, by omega, HB9.out, HF9.out, by omega⟩
                              case measure => simp [intOf]; omega
                      · obtain rfl : k5 = n := by omega
                        have hdk5 : ¬ (k5 : Int) < (k5 : Int) := by omega
                        have et : r.ats.take k5 = r.ats := List.take_of_length_le (by have := HNX.out; omega)
                        rw [et] at HE5
                        have HNS : Hid (l5 = notsL names r.ats i) := Lib.hid HE5.out
                        have HL2 : Hid (l ++ [⟨rl, upL (vrR names ts) names.length, upL (clR names ts) names.length, upL (samAt ts) ts.length, upL (conAt ts) ts.length ++ upL (cndAt ts r.cds) r.cds.length, notsL names r.ats i⟩] = upL (srcR names r) (i + 1)) := Lib.hid (by rw [upL_some (HSR.out.trans (if_neg (by simp))), HE.out])
                        have hx28 : Ext w2 W8 := hfr.new HX23.out (fun b hb => by omega)
                        have HR8 := Lib.hid (HRW2.out.ext hx28)
                        have HOW3 : Hid (∀ b, (Value.slice Au k cu).ownBlock = some b → w1.heap.size ≤ b ∧ b < w2.heap.size) := Lib.hid (fun b hb => HRW2.out.own.lt b hb)
                        have hi1 := (Ins.of_own hrb.rv).mono (G := fun b => w1.heap.size ≤ b ∧ (Value.slice Au k cu).ownBlock ≠ some b) (fun b _ hb => ⟨by have := hb.2; omega, fun e => by have h1 := HOW3.out b e; have h2 := hb.2; omega⟩)
                        have hi2 := (Ins.of_own hrb.rc).mono (G := fun b => w1.heap.size ≤ b ∧ (Value.slice Au k cu).ownBlock ≠ some b) (fun b _ hb => ⟨by have := hb.2; omega, fun e => by have h1 := HOW3.out b e; have h2 := hb.2; omega⟩)
                        have hi3 := ((Rw.of_flat (cells := Pi.cells) (sz := 2) (hl := fun _ => rfl) hrb.rs).sl (by decide)).mono (G := fun b => w1.heap.size ≤ b ∧ (Value.slice Au k cu).ownBlock ≠ some b) (by decide) (fun b _ hb => ⟨by omega, fun e => by have h1 := HOW3.out b e; omega⟩)
                        have hi4 := ((Rw.of_flat (cells := Fl.cells) (sz := 5) (hl := fun _ => rfl) hrb.rf).sl (by decide)).mono (G := fun b => w1.heap.size ≤ b ∧ (Value.slice Au k cu).ownBlock ≠ some b) (by decide) (fun b _ hb => ⟨by omega, fun e => by have h1 := HOW3.out b e; omega⟩)
                        have hi5 := (hrn.sl (by decide)).mono (G := fun b => w1.heap.size ≤ b ∧ (Value.slice Au k cu).ownBlock ≠ some b) (by decide) (fun b _ hb => ⟨by omega, fun e => by have h1 := HOW3.out b e; omega⟩)
                        rw [HVR2.out] at hi1
                        rw [HCR2.out] at hi2
                        rw [HNS.out] at hi5
                        have HI3 : Hid (Sl rdPi (fun b => w1.heap.size ≤ b ∧ (Value.slice Au k cu).ownBlock ≠ some b) W8 (.slice As ns es) (upL (samAt ts) ts.length)) := Lib.hid (by rw [← HS3.out]; exact hi3)
                        have HI4 : Hid (Sl rdFl (fun b => w1.heap.size ≤ b ∧ (Value.slice Au k cu).ownBlock ≠ some b) W8 (.slice Af4 nf4 ef4) (upL (conAt ts) ts.length ++ upL (cndAt ts r.cds) r.cds.length)) := Lib.hid (by rw [← HF4'.out]; exact hi4)
                        have HI1 := Lib.hid hi1; have HI2 := Lib.hid hi2; have HI5 := Lib.hid hi5
                        have g0 := hrb.bk.cell (i := 0) (by simp); have g1 := hrb.bk.cell (i := 1) (by simp); have g2 := hrb.bk.cell (i := 2) (by simp); have g3 := hrb.bk.cell (i := 3) (by simp); have g4 := hrb.bk.cell (i := 4) (by simp); have g5 := hrb.bk.cell (i := 5) (by simp)
                        simp only [List.getElem_cons_zero, List.getElem_cons_succ] at g0 g1 g2 g3 g4 g5
                        clear et hrn hrb hfr hx8 hx28 hi1 hi2 hi3 hi4 hi5 r1
                        go_wp2_with (first
                          | (at_builtin; refine wpList_append_at rfl _ _ 68 rfl w1.heap.size 77 s0 (.agg #[.string ⟨#[]⟩, .slice none 0 0, .slice none 0 0, .slice none 0 0, .slice none 0 0, .slice none 0 0]) 6 136 Tryz.underlying68 HS0.out.1 HS0.out.2.1 HS0.out.2.2.1 HS0.out.2.2.2 rfl (by omega) (.slice Au k cu) k css.flatten rfl (HR8.out.own.alloc _) ⟨W8.heap.size, 0, none⟩ 1 1 [.string rl, .slice Av nv cv, .slice Ac nv ca, .slice As ns es, .slice Af4 nf4 ef4, .slice An5 km cn5] rfl rfl (laid_news W8 _ _) (by simp [Value.oneCell']) (by simp only [maxLen]; omega) (by omega) (by simp; omega) ?_; intro v8 w8 hr8 hg8 hl8; obtain ⟨A8, c8, e8⟩ := own_slice hr8; subst e8; have hxa := (Ext.refl W8).alloc (.cells #[.string rl, .slice Av nv cv, .slice Ac nv ca, .slice As ns es, .slice Af4 nf4 ef4, .slice An5 km cn5] 77); have HRW8 := Lib.hid (Rw.more (x := (⟨rl, upL (vrR names ts) names.length, upL (clR names ts) names.length, upL (samAt ts) ts.length, upL (conAt ts) ts.length ++ upL (cndAt ts r.cds) r.cds.length, notsL names r.ats i⟩ : Src)) HR8.out hxa ⟨_, _, _, _, _, rfl, HI1.out.ext hxa, HI2.out.ext hxa, HI3.out.ext hxa, HI4.out.ext hxa, HI5.out.ext hxa⟩ hr8 hg8 hl8); have HX8' := Lib.hid ((HX8.out.trans hxa).grown hg8 (fun b hb => (HOW3.out b hb).1)); clear hxa hr8 hg8 hl8))
                        go_roundw
                        case rel => exact ⟨i + 1, k + 1, _, _, by omega, by go_num, HRW8.out, HL2, by omega, HX8'.out⟩
                        case measure => simp [intOf]; omega
      · have HL2 : Hid (l = upL (srcR names r) (i + 1)) := Lib.hid (by rw [upL_none (by rw [HSR.out, if_pos rfl])]; exact HE.out)
        go_wp2_with fail
        go_roundw
        case rel => exact ⟨i + 1, k, l, css, by omega, by go_num, HRW2.out, HL2, by omega, HX2.out⟩
        case measure => simp [intOf]; omega
    · obtain rfl : i = n := by omega
      have hdi : ¬ (i : Int) < (i : Int) := by omega
      have HQ : Hid (Sl rdSrc (fun k => w.heap.size ≤ k) W (.slice Au k cu) (upL (srcR names r) r.ats.length)) := Lib.hid (by
        have h := (hrw.sl (by decide)).mono (G := fun k => w.heap.size ≤ k) (by decide) (fun q _ hq => by omega)
        rw [HE.out, HNX.out] at h
        exact h)
      clear hrw hx
      go_wp2_with fail
      go_ret
      exact Ret.mk (HX1.out.trans HX.out) HQ.out
end Go.Proofs.YtmmmdinncmbjkaaGreat
