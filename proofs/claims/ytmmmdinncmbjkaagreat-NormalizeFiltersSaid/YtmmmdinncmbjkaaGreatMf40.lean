/- Contracts: normalize.exclude in full. -/
import Derived.Test.YtmmmdinncmbjkaaGreatMf39
namespace Go.Proofs.YtmmmdinncmbjkaaGreat
open Go.RowKit Go.Maps
/-- The column of a variable of a negated atom. -/
def colX (vars : List Int) (v : Int) : Int := if v = -1 then -1 else idxI vars v
/-- What exclude answers where it finds the relation and the columns. -/
def ExcPost (F : Nat → Prop) (ar : Int) (rows : List (List Vl)) (cols : List Int) (B2 : Option Addr) (m2 d2 : Nat) (w : World) (e : Ending) (w' : World) : Prop :=
  Ext w w' ∧ ∃ R cr C cc, e = .returned (.tuple #[.agg #[.int .i64 ar, .slice R rows.length cr, .slice C cols.length cc, .slice B2 m2 d2], .int .i64 0]) ∧ Sl rdRow F w' (.slice R rows.length cr) rows ∧ Ins (fun k => w.heap.size ≤ k) w' (.slice C cols.length cc) cols
/-- An exclusion that is being built: its columns are an own row. -/
structure XB (w : World) (base g : Nat) (ar : Int) (R K v : Value) (j : Nat) (xs : List Int) : Prop where
  bk : Bk w g 149 [.int .i64 ar, R, v, K]
  row : w.ownsRow base 3 1 v j (xs.map I64)
section
variable {w w8 : World} {base g j : Nat} {ar : Int} {R K v v8 : Value} {xs : List Int}
theorem XB.ext (h : XB w base g ar R K v j xs) (he : Ext w w8) : XB w8 base g ar R K v j xs := ⟨h.bk.ext he, own_ext' h.row he⟩
theorem XB.bkV (h : XB w base g ar R K v j xs) (hg : w.grownBy w8 v.ownBlock) : Bk w8 g 149 [.int .i64 ar, R, v, K] := h.bk.fr (grown_fr hg) (fun e => own_bk h.row h.bk (by decide) e rfl)
theorem XB.put (h : XB w base g ar R K v j xs) {x : Int} (hr : w8.ownsRow base 3 1 v8 (j + 1) (xs.map I64 ++ [.int .i64 x])) (hg : w.grownBy w8 v.ownBlock) : XB (w8.setCell ⟨g, 2, none⟩ v8) base g ar R K v8 (j + 1) (xs ++ [x]) := by
  have hb8 := h.bkV hg
  have hs : Fr (fun k => k = g) w8 (w8.setCell ⟨g, 2, none⟩ v8) := (Fr.refl (fun k => k = g) w8).setCell (p := ⟨g, 2, none⟩) (.inl rfl) _
  refine ⟨by simpa using hb8.set 2 v8, ?_⟩
  rw [List.map_append]
  exact own_fr hr hs (fun k hk => own_bk hr hb8 (by decide) hk)
end
set_option maxRecDepth 20000 in
set_option maxHeartbeats 6400000 in
theorem exclude_yes {F G : Nat → Prop} {w : World} {b n : Nat} {m : Dm} {rl yl : ByteArray} {A1 A2 A3 A4 A5 B1 B2 : Option Addr} {n1 n2 n3 n4 n5 c1 c2 c3 c4 c5 m1 d1 d2 : Nat} {vars ys : List Int} {x : En} (hD : DbB F w b n m) (hs : yl.size ≤ maxLen) (hsome : m yl = some x) (har : x.rel.ar = (m1 : Int)) (hV : Ins G w (.slice A1 n1 c1) vars) (hY : Ins G w (.slice B1 m1 d1) ys) (hn1 : n1 ≤ 1048576) (hm1 : m1 ≤ 1048576) (hin : ∀ y ∈ ys, y = -1 ∨ 0 ≤ idxI vars y) :
    Calls Tryz.prog 50 #[.agg #[.string rl, .slice A1 n1 c1, .slice A2 n2 c2, .slice A3 n3 c3, .slice A4 n4 c4, .slice A5 n5 c5], .agg #[.string yl, .slice B1 m1 d1, .slice B2 m1 d2], .agg #[.map (some b)]] w (ExcPost F x.rel.ar x.rel.rows (ys.map (colX vars)) B2 m1 d2 w) := by
  obtain ⟨i0, hi0, hz0, hz1, hz2⟩ := info_parts info_int
  have HI0 := Lib.hid (And.intro hi0 (And.intro hz0 (And.intro hz1 hz2))); clear hi0 hz0 hz1 hz2
  have hml : m1 = ys.length := by obtain ⟨A', c', e, -⟩ := hY; injection e
  have HML := Lib.hid hml; clear hml
  have HD := Lib.hid (hD.mono (G := fun k => F k ∧ k < w.heap.size) (fun k h1 h2 => ⟨h2, h1⟩)); have HV := Lib.hid hV; have HY := Lib.hid hY; have HIN := Lib.hid hin
  have k4 := four_blk w 36 50 26 149 [.string rl, .slice A1 n1 c1, .slice A2 n2 c2, .slice A3 n3 c3, .slice A4 n4 c4, .slice A5 n5 c5] [.string yl, .slice B1 m1 d1, .slice B2 m1 d2] [.map (some b)] [.int .i64 0, .slice none 0 0, .slice none 0 0, .slice none 0 0]
  obtain ⟨v1, hv1⟩ : ∃ v, v = (((w.alloc (.cells #[.string rl, .slice A1 n1 c1, .slice A2 n2 c2, .slice A3 n3 c3, .slice A4 n4 c4, .slice A5 n5 c5] 36)).alloc (.cells #[.string yl, .slice B1 m1 d1, .slice B2 m1 d2] 50)).alloc (.cells #[.map (some b)] 26)).alloc (.cells #[.int .i64 0, .slice none 0 0, .slice none 0 0, .slice none 0 0] 149) := ⟨_, rfl⟩
  change Bk ((((w.alloc (.cells #[.string rl, .slice A1 n1 c1, .slice A2 n2 c2, .slice A3 n3 c3, .slice A4 n4 c4, .slice A5 n5 c5] 36)).alloc (.cells #[.string yl, .slice B1 m1 d1, .slice B2 m1 d2] 50)).alloc (.cells #[.map (some b)] 26)).alloc (.cells #[.int .i64 0, .slice none 0 0, .slice none 0 0, .slice none 0 0] 149)) _ _ _ ∧ Bk ((((w.alloc (.cells #[.string rl, .slice A1 n1 c1, .slice A2 n2 c2, .slice A3 n3 c3, .slice A4 n4 c4, .slice A5 n5 c5] 36)).alloc (.cells #[.string yl, .slice B1 m1 d1, .slice B2 m1 d2] 50)).alloc (.cells #[.map (some b)] 26)).alloc (.cells #[.int .i64 0, .slice none 0 0, .slice none 0 0, .slice none 0 0] 149)) _ _ _ ∧ Bk ((((w.alloc (.cells #[.string rl, .slice A1 n1 c1, .slice A2 n2 c2, .slice A3 n3 c3, .slice A4 n4 c4, .slice A5 n5 c5] 36)).alloc (.cells #[.string yl, .slice B1 m1 d1, .slice B2 m1 d2] 50)).alloc (.cells #[.map (some b)] 26)).alloc (.cells #[.int .i64 0, .slice none 0 0, .slice none 0 0, .slice none 0 0] 149)) _ _ _ ∧ Bk ((((w.alloc (.cells #[.string rl, .slice A1 n1 c1, .slice A2 n2 c2, .slice A3 n3 c3, .slice A4 n4 c4, .slice A5 n5 c5] 36)).alloc (.cells #[.string yl, .slice B1 m1 d1, .slice B2 m1 d2] 50)).alloc (.cells #[.map (some b)] 26)).alloc (.cells #[.int .i64 0, .slice none 0 0, .slice none 0 0, .slice none 0 0] 149)) _ _ _ at k4
  rw [← hv1] at k4
  have hx : Ext w v1 := by rw [hv1]; exact ((((Ext.refl w).alloc _).alloc _).alloc _).alloc _
  obtain ⟨Q, hQ⟩ : ∃ Q, Q = ExcPost F x.rel.ar x.rel.rows (ys.map (colX vars)) B2 m1 d2 w := ⟨_, rfl⟩
  rw [← hQ]
  have HQ := Lib.hid hQ
  clear hD hV hY hin hQ
  go_enter Tryz.func50, Tryz.ntmps50
  go_upto_region 1 with fail
  rw [← hv1]
  clear hv1
  obtain ⟨ka, kb, kc, kd⟩ := k4
  have p0 := kb.cell (i := 0) (by simp); have p1 := kb.cell (i := 1) (by simp); have p2 := kb.cell (i := 2) (by simp); have q0 := kc.cell (i := 0) (by simp)
  simp only [List.getElem_cons_zero, List.getElem_cons_succ] at p0 p1 p2 q0
  have HX := Lib.hid hx; have HKD := Lib.hid kd; have HKA := Lib.hid ka; have HKB := Lib.hid kb
  have hlt := kd.lt
  clear ka kb kc kd
  go_wp2_with fail
  refine (relation_any (HD.out.ext hx) hs).mono ?_
  rintro e w2 ⟨he2, ⟨hnone, rfl⟩ | ⟨x', A, c, hsome', rfl, hsl⟩⟩
  · rw [hsome] at hnone; cases hnone
  · rw [hsome] at hsome'; injection hsome' with hxx; subst hxx
    have HSL := Lib.hid hsl
    have HKD2 := Lib.hid (HKD.out.ext he2); have HX2 := Lib.hid (HX.out.trans he2)
    have HKA2 := Lib.hid (HKA.out.ext he2); have HKB2 := Lib.hid (HKB.out.ext he2)
    obtain ⟨nr, hnr⟩ : ∃ a, a = x.rel.rows.length := ⟨_, rfl⟩
    rw [har] at HQ ⊢
    rw [← hnr] at HSL ⊢
    have HNR := Lib.hid hnr
    have hb : ((m1 : Int) != (m1 : Int)) = false := by simp
    replace p1 := he2.cell p1; replace p2 := he2.cell p2
    clear he2 hx p0 q0 hnr hsome hsl
    go_upto_region 4 with fail
    have kr := Bk.new w2 54 [.int .i64 (m1 : Int), .slice A nr c]
    change Bk (w2.alloc (.cells #[.int .i64 (m1 : Int), .slice A nr c] 54)) _ _ _ at kr
    have hx3 : Ext w2 (w2.alloc (.cells #[.int .i64 (m1 : Int), .slice A nr c] 54)) := (Ext.refl w2).alloc _
    generalize (w2.alloc (.cells #[.int .i64 (m1 : Int), .slice A nr c] 54)) = w3 at *
    replace p1 := hx3.cell p1; replace p2 := hx3.cell p2
    have r0 := kr.cell (i := 0) (by simp); have r1 := kr.cell (i := 1) (by simp)
    simp only [List.getElem_cons_zero, List.getElem_cons_succ] at r0 r1
    have HX23 := Lib.hid hx3; have HX3 := Lib.hid (HX2.out.trans hx3); have HKD3 := Lib.hid (HKD2.out.ext hx3); have HKA3 := Lib.hid (HKA2.out.ext hx3); have HKR3 := Lib.hid kr
    clear hx3 kr
    go_region_held3 (fun V => Ext w3 V ∧ V.cell? ⟨w.heap.size + 1, 1, none⟩ = some (.slice B1 m1 d1) ∧ V.cell? ⟨w.heap.size + 1, 2, none⟩ = some (.slice B2 m1 d2) ∧ V.cell? ⟨w2.heap.size, 0, none⟩ = some (.int .i64 (m1 : Int)) ∧ V.cell? ⟨w2.heap.size, 1, none⟩ = some (.slice A nr c))
      ((refine (fun he => ⟨he, Ext.cell he p1, Ext.cell he p2, Ext.cell he r0, Ext.cell he r1⟩) ?_; repeat (first | exact Ext.refl _ | exact (Ext.refl _).drew | refine Ext.drew ?_ | refine Ext.trans ?_ (by assumption))))
      (first
        | (go_at_call 11; (with_reducible refine arity_any.mono ?_); rintro e wi ⟨yv, rfl, hei, rfl⟩))
    have hfin := And.left (b := _ ∧ _) (by assumption)
    obtain ⟨X, rfl⟩ : ∃ X : World, X = wi := ⟨_, rfl⟩
    replace p1 := hfin.cell p1; replace p2 := hfin.cell p2; replace r0 := hfin.cell r0; replace r1 := hfin.cell r1
    have HX5 := Lib.hid (HX3.out.trans hfin); have HKA5 := Lib.hid (HKA3.out.ext hfin); have HKD5 := Lib.hid (HKD3.out.ext hfin); have HSL5 := Lib.hid (HSL.out.ext ((show Ext w2 w3 from HX23.out).trans hfin))
    have hwX : w.heap.size + 3 < X.heap.size := HKD5.out.lt
    clear hfin hei hb
    go_upto_region 7 with fail
    have ke := Bk.new X 149 [.int .i64 (m1 : Int), .slice A nr c, .slice none 0 0, .slice B2 m1 d2]
    change Bk (X.alloc (.cells #[.int .i64 (m1 : Int), .slice A nr c, .slice none 0 0, .slice B2 m1 d2] 149)) _ _ _ at ke
    have hx6 : Ext X (X.alloc (.cells #[.int .i64 (m1 : Int), .slice A nr c, .slice none 0 0, .slice B2 m1 d2] 149)) := (Ext.refl X).alloc _
    generalize (X.alloc (.cells #[.int .i64 (m1 : Int), .slice A nr c, .slice none 0 0, .slice B2 m1 d2] 149)) = w6 at *
    have hg6 := ke.lt
    obtain ⟨g, hgg⟩ : ∃ g, g = X.heap.size := ⟨_, rfl⟩
    rw [← hgg] at ke hg6 ⊢
    have hgX : X.heap.size ≤ g := by omega
    have HXB0 : Hid (XB w6 w6.heap.size g (m1 : Int) (.slice A nr c) (.slice B2 m1 d2) (.slice none 0 0) 0 []) := Lib.hid ⟨ke, World.ownsRow_nil _ _ _ _⟩
    have HX6 := Lib.hid hx6
    replace p1 := hx6.cell p1
    clear ke hx6 hgg p2 r0 r1
    go_wp2_with fail
    clear p1
    go_loopw [47] (fun t wr => ∃ (j : Nat) (v : Value), j ≤ m1 ∧ t = .int .i64 (j : Int) ∧ XB wr w6.heap.size g (m1 : Int) (.slice A nr c) (.slice B2 m1 d2) v j ((ys.take j).map (colX vars)) ∧ Fr (fun b => b = g) w6 wr) (fun t _ => m1 - (intOf t).toNat)
    case atStart => exact ⟨0, _, Nat.zero_le _, rfl, HXB0.out, Fr.refl _ _⟩
    case round =>
      obtain ⟨j, v, hj, rfl, hxb, hfr⟩ := hrel
      obtain ⟨Av, cv, rfl⟩ := own_slice hxb.row
      obtain ⟨W, rfl⟩ : ∃ W : World, W = wr := ⟨_, rfl⟩
      have HXB := Lib.hid hxb; have HF := Lib.hid hfr
      have hxW : Ext X W := hfr.new HX6.out (fun b hb => by omega)
      have HXW := Lib.hid (HX5.out.trans hxW)
      have HXXW := Lib.hid hxW
      have h6W : w6.heap.size ≤ W.heap.size := hfr.size
      by_cases hlt : j < m1
      · have j1 : (0 : Int) ≤ (j : Int) := by omega
        have j2 : (j : Int) < (m1 : Int) := by omega
        have hjy : j < ys.length := by have := HML.out; omega
        obtain ⟨A9, c9, e9, -, hcl⟩ := HY.out
        injection e9 with e9 e9b e9c
        subst e9
        clear e9b e9c
        obtain ⟨ady, rfl, -, n0⟩ := hcl.int hjy
        replace n0 := HXW.out.cell n0
        have hin := HIN.out _ (List.getElem_mem hjy)
        have htk : ys.take (j + 1) = ys.take j ++ [ys[j]] := List.take_succ_eq_append_getElem hjy
        obtain ⟨y, hy⟩ : ∃ y, y = ys[j] := ⟨_, rfl⟩
        rw [← hy] at n0 hin htk
        have b2 := HXB.out.bk.cell (i := 2) (by simp)
        have a1 := (HKA5.out.ext hxW).cell (i := 1) (by simp)
        simp only [List.getElem_cons_zero, List.getElem_cons_succ] at b2 a1
        by_cases hy1 : y = -1
        · subst hy1
          have HTK : Hid ((ys.take (j + 1)).map (colX vars) = (ys.take j).map (colX vars) ++ [-1]) := Lib.hid (by rw [htk]; simp [colX])
          clear hcl hin htk hy hxb hfr hxW a1
          go_wp2_with (first
            | (at_builtin; refine wpList_append_at rfl _ _ 31 rfl w6.heap.size 3 i0 (.int .i64 0) 1 8 Tryz.underlying31 HI0.out.1 HI0.out.2.1 HI0.out.2.2.1 HI0.out.2.2.2 rfl (by omega) (.slice Av j cv) j (((ys.take j).map (colX vars)).map I64) rfl (HXB.out.row.alloc _) ⟨W.heap.size, 0, none⟩ 1 1 [.int .i64 (-1)] rfl rfl (laid_news W _ _) (by simp [Value.oneCell']) (by simp only [maxLen]; omega) (by omega) (by simp; omega) ?_; intro v8 w8 hr8 hg8 hl8; obtain ⟨A8, c8, e8⟩ := own_slice hr8; subst e8; have hb8' := HXB.out.ext ((Ext.refl W).alloc (.cells #[.int .i64 (-1)] 3)); have hb8 := hb8'.bkV hg8; have q8 := hb8.cell (i := 2) (by simp); have f8 := hb8.free 2; simp at q8; have HP8 := Lib.hid (hb8'.put (x := (-1)) hr8 hg8); have HF8 := Lib.hid (((HF.out.alloc (.cells #[.int .i64 (-1)] 3)).grown hg8 (fun b hb => .inr (own_ge hb8'.row hb))).setCell (p := ⟨g, 2, none⟩) (.inl rfl) (.slice A8 (j + 1) c8)); clear hb8' hb8 hr8 hg8 hl8))
          go_roundw
          case rel => exact ⟨j + 1, _, by omega, by go_num, by rw [HTK.out]; exact HP8.out, HF8.out⟩
          case measure => simp [intOf]; omega
        · have hz0 : 0 ≤ idxI vars y := hin.resolve_left hy1
          have hb : (y != (-1 : Int)) = true := by simpa using hy1
          have hcx : colX vars y = idxI vars y := if_neg hy1
          have HIX := Lib.hid (index_int (v := y) (HV.out.ext HXW.out) (by omega))
          obtain ⟨z, hz⟩ : ∃ z, z = idxI vars y := ⟨_, rfl⟩
          rw [← hz] at hz0 hcx HIX
          have HTK : Hid ((ys.take (j + 1)).map (colX vars) = (ys.take j).map (colX vars) ++ [z]) := Lib.hid (by rw [htk]; simp [hcx])
          have hz1 : ¬ z < 0 := by omega
          clear hcl hin htk hy hxb hfr hxW hy1 hcx hz
          go_wp2_with fail
          refine HIX.out.mono ?_
          rintro e w9 ⟨rfl, rfl⟩
          go_wp2_with (first
            | (at_builtin; refine wpList_append_at rfl _ _ 31 rfl w6.heap.size 3 i0 (.int .i64 0) 1 8 Tryz.underlying31 HI0.out.1 HI0.out.2.1 HI0.out.2.2.1 HI0.out.2.2.2 rfl (by omega) (.slice Av j cv) j (((ys.take j).map (colX vars)).map I64) rfl (HXB.out.row.alloc _) ⟨W.heap.size, 0, none⟩ 1 1 [.int .i64 z] rfl rfl (laid_news W _ _) (by simp [Value.oneCell']) (by simp only [maxLen]; omega) (by omega) (by simp; omega) ?_; intro v8 w8 hr8 hg8 hl8; obtain ⟨A8, c8, e8⟩ := own_slice hr8; subst e8; have hb8' := HXB.out.ext ((Ext.refl W).alloc (.cells #[.int .i64 z] 3)); have hb8 := hb8'.bkV hg8; have q8 := hb8.cell (i := 2) (by simp); have f8 := hb8.free 2; simp at q8; have HP8 := Lib.hid (hb8'.put (x := z) hr8 hg8); have HF8 := Lib.hid (((HF.out.alloc (.cells #[.int .i64 z] 3)).grown hg8 (fun b hb => .inr (own_ge hb8'.row hb))).setCell (p := ⟨g, 2, none⟩) (.inl rfl) (.slice A8 (j + 1) c8)); clear hb8' hb8 hr8 hg8 hl8))
          go_roundw
          case rel => exact ⟨j + 1, _, by omega, by go_num, by rw [HTK.out]; exact HP8.out, HF8.out⟩
          case measure => simp [intOf]; omega
      · obtain rfl : j = m1 := by omega
        have hdj : ¬ (j : Int) < (j : Int) := by omega
        have et : ys.take j = ys := List.take_of_length_le (by have := HML.out; omega)
        rw [et] at HXB
        have HKDW := Lib.hid (HKD5.out.ext hxW)
        have g0 := HXB.out.bk.cell (i := 0) (by simp); have g1 := HXB.out.bk.cell (i := 1) (by simp); have g2 := HXB.out.bk.cell (i := 2) (by simp); have g3 := HXB.out.bk.cell (i := 3) (by simp)
        have f0 := HKDW.out.free 0; have f1 := HKDW.out.free 1; have f2 := HKDW.out.free 2; have f3 := HKDW.out.free 3
        have b0 := HKDW.out.cell (i := 0) (by simp); have b1 := HKDW.out.cell (i := 1) (by simp); have b2 := HKDW.out.cell (i := 2) (by simp); have b3 := HKDW.out.cell (i := 3) (by simp)
        simp only [List.getElem_cons_zero, List.getElem_cons_succ] at g0 g1 g2 g3 b0 b1 b2 b3
        clear et hxb hfr hxW
        go_wp2_with fail
        have kz : Bk ((((W.setCell ⟨w.heap.size + 1 + 1 + 1, 0, none⟩ (.int .i64 (j : Int))).setCell ⟨w.heap.size + 1 + 1 + 1, 1, none⟩ (.slice A nr c)).setCell ⟨w.heap.size + 1 + 1 + 1, 2, none⟩ (.slice Av j cv)).setCell ⟨w.heap.size + 1 + 1 + 1, 3, none⟩ (.slice B2 j d2)) (w.heap.size + 1 + 1 + 1) 149 [.int .i64 (j : Int), .slice A nr c, .slice Av j cv, .slice B2 j d2] := ((((HKDW.out).set 0 _).set 1 _).set 2 _).set 3 _
        have hst : Fr (fun k => k = w.heap.size + 1 + 1 + 1) W ((((W.setCell ⟨w.heap.size + 1 + 1 + 1, 0, none⟩ (.int .i64 (j : Int))).setCell ⟨w.heap.size + 1 + 1 + 1, 1, none⟩ (.slice A nr c)).setCell ⟨w.heap.size + 1 + 1 + 1, 2, none⟩ (.slice Av j cv)).setCell ⟨w.heap.size + 1 + 1 + 1, 3, none⟩ (.slice B2 j d2)) := ((((Fr.refl (fun k => k = w.heap.size + 1 + 1 + 1) W).setCell (p := ⟨w.heap.size + 1 + 1 + 1, 0, none⟩) (.inl rfl) _).setCell (p := ⟨w.heap.size + 1 + 1 + 1, 1, none⟩) (.inl rfl) _).setCell (p := ⟨w.heap.size + 1 + 1 + 1, 2, none⟩) (.inl rfl) _).setCell (p := ⟨w.heap.size + 1 + 1 + 1, 3, none⟩) (.inl rfl) _
        generalize ((((W.setCell ⟨w.heap.size + 1 + 1 + 1, 0, none⟩ (.int .i64 (j : Int))).setCell ⟨w.heap.size + 1 + 1 + 1, 1, none⟩ (.slice A nr c)).setCell ⟨w.heap.size + 1 + 1 + 1, 2, none⟩ (.slice Av j cv)).setCell ⟨w.heap.size + 1 + 1 + 1, 3, none⟩ (.slice B2 j d2)) = wz at *
        have z0 := kz.cell (i := 0) (by simp); have z1 := kz.cell (i := 1) (by simp); have z2 := kz.cell (i := 2) (by simp); have z3 := kz.cell (i := 3) (by simp)
        simp only [List.getElem_cons_zero, List.getElem_cons_succ] at z0 z1 z2 z3
        refine bodyPost_ret (v := .tuple #[.agg #[.int .i64 (j : Int), .slice A nr c, .slice Av j cv, .slice B2 j d2], .int .i64 0]) (by simp [results, Tryz.results50, go_sem, z0, z1, z2, z3]) rfl ?_
        rw [HQ.out]
        have hrow := Ins.of_own HXB.out.row
        have hsl := HSL5.out.ext HXXW.out
        refine ⟨hst.new HXW.out (fun b hb => by omega), A, c, Av, cv, ?_, ?_, ?_⟩
        · rw [← HNR.out, List.length_map, ← HML.out]
        · rw [← HNR.out]
          exact (hsl.fr hst (fun k hk => by omega)).mono (by decide) (fun k _ hk => hk.1)
        · rw [List.length_map, ← HML.out]
          exact (hrow.fr hst (fun k hk => by omega)).mono (fun k _ hk => by omega)
end Go.Proofs.YtmmmdinncmbjkaaGreat
