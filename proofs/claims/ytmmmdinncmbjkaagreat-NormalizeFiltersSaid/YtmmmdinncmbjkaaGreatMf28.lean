/- Contract: relation.build at rows of one's own. Contracts: Relation.filter, Search, Len. Contracts: value.Holds, Relation.Select, Relation.SelectSame. -/
import Derived.Test.YtmmmdinncmbjkaaGreatMf27
namespace Go.Proofs.YtmmmdinncmbjkaaGreat
open Go.RowKit Go.Maps
/-- What build makes of rows. -/
def BuildPost (base : Nat) (v : Value) (a : Int) (rows : List (List Vl)) (w : World) (e : Ending) (w' : World) : Prop :=
  Fr (fun k => v.ownBlock = some k) w w' ∧ ∃ A k c rows', e = .returned (.tuple #[.agg #[.int .i64 a, .slice A k c], .int .i64 0]) ∧ SoR rows' ∧ (∀ r, r ∈ rows' ↔ r ∈ rows) ∧ Sl rdRow (fun k => base ≤ k) w' (.slice A k c) rows'
set_option maxRecDepth 20000 in
set_option maxHeartbeats 3200000 in
theorem build_own {F : Nat → Prop} {w : World} {base n : Nat} {v : Value} {a : Int} {us : List Value} {rows : List (List Vl)} (h : OwR F w base v n us rows) (hr : ∀ x ∈ rows, x.length ≤ 1048576) (hn : n ≤ 65536) :
    Calls Tryz.prog 78 #[.int .i64 a, v] w (BuildPost base v a rows w) := by
  have hnu := h.num
  have hln := h.len
  rcases h.own.2 with ⟨rfl, rfl⟩ | ⟨g, cap, cur, rfl, hb, hc, hnc, -⟩
  · obtain rfl : rows = [] := List.length_eq_zero_iff.1 (by omega)
    refine build_empty.mono ?_
    rintro e w' ⟨he, rfl⟩
    exact ⟨he.fr _, none, 0, 0, [], rfl, List.Pairwise.nil, fun _ => Iff.rfl, Sl.nil _ _ _⟩
  · rcases Nat.eq_zero_or_pos n with rfl | hn0
    · obtain rfl : rows = [] := List.length_eq_zero_iff.1 (by omega)
      refine build_empty.mono ?_
      rintro e w' ⟨he, rfl⟩
      exact ⟨he.fr _, _, 0, cap, [], rfl, List.Pairwise.nil, fun _ => Iff.rfl, ⟨_, _, rfl, Nat.zero_le _, fun i hi => by simp at hi⟩⟩
    · have hgl : g < w.heap.size := (Array.getElem?_eq_some_iff.1 hc).1
      have HIS := Lib.hid (fun (V : World) (hV : Ext w V) => issorted_own (h.ext hV) hr (by omega))
      have HSO := Lib.hid (fun (V : World) (hV : Ext w V) => sort_own_rows (h.ext hV) hr (by omega))
      have H := Lib.hid h; have HR := Lib.hid hr; have HNU := Lib.hid hnu; have HLN := Lib.hid hln
      have kb := Bk.new w 54 [.int .i64 0, .slice none 0 0]
      have hx : Ext w (w.alloc (.cells #[.int .i64 0, .slice none 0 0] 54)) := (Ext.refl w).alloc _
      clear h hr hnu hln hc
      go_enter Tryz.func78, Tryz.ntmps78
      go_upto_region 1 with fail
      change Bk (w.alloc (.cells #[.int .i64 0, .slice none 0 0] 54)) _ _ _ at kb
      generalize (w.alloc (.cells #[.int .i64 0, .slice none 0 0] 54)) = w1 at *
      have HKB := Lib.hid kb; have HX := Lib.hid hx
      clear kb hx
      go_wp2_with fail
      refine (HIS.out _ HX.out).mono ?_
      rintro e w2 ⟨b, rfl, hasc, hg2⟩
      have HAS := Lib.hid hasc; have HX2 := Lib.hid (HX.out.trans hg2.ext); have HKB2 := Lib.hid (HKB.out.ext hg2.ext)
      clear hasc hg2
      go_upto_if 9 with fail
      go_cut [] (fun wx => Fr (fun k => k = g) w wx ∧ Bk wx w.heap.size 54 [.int .i64 0, .slice none 0 0] ∧ ∃ us' rows', AscR rows' ∧ rows'.Perm rows ∧ OwR F wx base (.slice (some ⟨g, 0, none⟩) n cap) n us' rows')
      case first =>
        rcases b with _ | _
        · go_wp2_with fail
          refine (HSO.out _ HX2.out).mono ?_
          rintro e w3 ⟨rfl, hg3, hres⟩
          have HF3 := Lib.hid ((HX2.out.fr (fun k => k = g)).comp (grown_fr hg3) (fun k hk => .inl (by injection hk with hk; exact hk.symm)))
          have HK3 := Lib.hid (HKB2.out.fr (grown_fr hg3) (fun e => by injection e with e; omega))
          have HRS := Lib.hid hres
          clear hg3 hres
          go_wp2_with fail
          go_meet
          exact ⟨HF3.out, HK3.out, HRS.out⟩
        · go_wp2_with fail
          go_meet
          exact ⟨HX2.out.fr _, HKB2.out, _, _, HAS.out (by trivial), List.Perm.refl _, H.out.ext HX2.out⟩
      case rest =>
        obtain ⟨hf3, hk3, us1, rows1, has1, hpm1, how1⟩ := hcut
        have HC := Lib.hid (compact_own how1 (fun x hx => HR.out x (hpm1.mem_iff.1 hx)) (by omega) hn0)
        have HRL : Hid (∀ x ∈ cptR rows1, x.length ≤ 1048576) := Lib.hid (fun x hx => HR.out x (hpm1.mem_iff.1 (cptR_mem.1 hx)))
        have HSO2 := Lib.hid (cptR_so has1)
        have HME : Hid (∀ r, r ∈ cptR rows1 ↔ r ∈ rows) := Lib.hid (fun r => by rw [cptR_mem, hpm1.mem_iff])
        have HF3 := Lib.hid hf3; have HK3 := Lib.hid hk3
        have HPL : Hid ((cptR rows1).length ≤ n) := Lib.hid (by
          have h1 := keepL_le rows1 rows1.length
          have h2 := hpm1.length_eq
          have h3 := HNU.out; have h4 := HLN.out
          unfold cptR
          rw [List.length_map]
          omega)
        clear hf3 hk3 has1 hpm1 how1
        obtain ⟨rows2, hr2⟩ : ∃ l, l = cptR rows1 := ⟨_, rfl⟩
        rw [← hr2] at HRL HSO2 HME HPL
        have HR2 := Lib.hid hr2
        clear hr2
        go_wp2_with fail
        refine HC.out.mono ?_
        rintro e w4 ⟨hf4, p, us2, rfl, how2⟩
        rw [← HR2.out] at how2
        have hpl2 : p ≤ n := by have := how2.num; have := how2.len; have := HPL.out; omega
        have hp6 : (p : Int) ≤ 65536 := by omega
        have hf5 := HF3.out.trans hf4
        have HF5 := Lib.hid hf5; have HK4 := Lib.hid (HK3.out.fr hf4 (by omega)); have HO2 := Lib.hid how2
        have HPN := Lib.hid how2.num; have HPR := Lib.hid how2.len
        clear hf4 hf5 how2
        go_wp2_with fail
        go_loopw [20] (fun t wr => ∃ (i : Nat) (cur : List Value), i ≤ p ∧ t = .int .i64 (i : Int) ∧ Hid (wr.ownsRow base 81 1 (.slice (some ⟨g, 0, none⟩) p cap) p cur) ∧ Hid (∀ j (h : j < rows2.length) (h' : j < cur.length), (j < i → Sl rdVl (fun k => w.heap.size < k) wr cur[j] rows2[j]) ∧ (i ≤ j → Sl rdVl (fun k => F k ∧ k ≠ g) wr cur[j] rows2[j])) ∧ Fr (fun k => k = g) w4 wr) (fun t _ => p - (intOf t).toNat)
        case atStart => exact ⟨0, us2, Nat.zero_le _, rfl, Lib.hid HO2.out.own, Lib.hid (fun j h h' => ⟨fun h0 => by omega, fun _ => (HO2.out.rd j h h').mono (by decide) (fun k _ hk => ⟨hk.1, fun e => hk.2 (by rw [e]; rfl)⟩)⟩), Fr.refl _ _⟩
        case round =>
          obtain ⟨i, cur, hi, rfl, HOW, HRD, hfr⟩ := hrel
          obtain ⟨W, rfl⟩ : ∃ W : World, W = wr := ⟨_, rfl⟩
          have HF := Lib.hid hfr
          have hcl : cur.length = p := by have := HOW.out.1; omega
          have HCL := Lib.hid hcl
          by_cases hlt : i < p
          · have i1 : (0 : Int) ≤ (i : Int) := by omega
            have i2 : (i : Int) < (p : Int) := by omega
            have hir : i < rows2.length := by have := HPN.out; have := HPR.out; omega
            have hic : i < cur.length := by omega
            have r1 := (HRD.out i hir hic).2 (Nat.le_refl _)
            obtain ⟨x, hx⟩ : ∃ x, x = cur[i] := ⟨_, rfl⟩
            obtain ⟨c1, f1⟩ := own_cell1 HOW.out (i := i) (u := x) (by rw [hx]; exact List.getElem?_eq_getElem hic)
            rw [← hx] at r1
            obtain ⟨A1, d1, rfl⟩ := r1.sl
            have HCN := Lib.hid (clone_row r1 (HRL.out _ (List.getElem_mem hir)))
            obtain ⟨n1, hn1⟩ : ∃ q, q = rows2[i].length := ⟨_, rfl⟩
            rw [← hn1] at c1 HCN
            have hlW : w.heap.size < W.heap.size := by have := hfr.size; have := HK4.out.lt; omega
            have HIR := Lib.hid hir
            clear hx r1 hn1 hfr hcl
            go_wp2_with fail
            refine HCN.out.mono ?_
            rintro e w5 ⟨y, rfl, he5, A5, c5, rfl, hy⟩
            replace c1 := he5.cell c1
            have ho5 := own_ext' HOW.out he5
            have f5 := (own_cell1 ho5 (i := i) (u := cur[i]) (List.getElem?_eq_getElem hic)).2
            have hy2 := hy.mono (G := fun k => w.heap.size < k) (by decide) (fun k _ hk => by omega)
            have hf6 := (HF.out.ext he5).setCell (p := ⟨g, i, none⟩) (.inl rfl) (.slice A5 n1 c5)
            have ho6 := own_setc ho5 (i := i) (by omega) (.slice A5 n1 c5)
            have hst : Fr (fun k => k = g) w5 (w5.setCell ⟨g, i, none⟩ (.slice A5 n1 c5)) := (Fr.refl (fun k => k = g) w5).setCell (p := ⟨g, i, none⟩) (.inl rfl) _
            have HF6 := Lib.hid hf6; have HO6 := Lib.hid ho6
            have HRD6 : Hid (∀ j (h : j < rows2.length) (h' : j < (cur.set i (.slice A5 n1 c5)).length), (j < i + 1 → Sl rdVl (fun k => w.heap.size < k) (w5.setCell ⟨g, i, none⟩ (.slice A5 n1 c5)) (cur.set i (.slice A5 n1 c5))[j] rows2[j]) ∧ (i + 1 ≤ j → Sl rdVl (fun k => F k ∧ k ≠ g) (w5.setCell ⟨g, i, none⟩ (.slice A5 n1 c5)) (cur.set i (.slice A5 n1 c5))[j] rows2[j])) := Lib.hid (fun j h h' => by
              have h'' : j < cur.length := by simpa using h'
              have hj := HRD.out j h h''
              by_cases hji : j = i
              · subst hji
                refine ⟨fun _ => ?_, fun h0 => by omega⟩
                rw [List.getElem_set_self]
                exact hy2.fr hst (fun k hk e => by omega)
              · rw [List.getElem_set_ne (fun e => hji e.symm)]
                exact ⟨fun h0 => ((hj.1 (by omega)).ext he5).fr hst (fun k hk e => by omega), fun h0 => ((hj.2 (by omega)).ext he5).fr hst (fun k hk e => hk.2 e)⟩)
            clear he5 ho5 hy hy2 hf6 ho6 hst
            go_wp2_with fail
            go_roundw
            case rel => exact ⟨i + 1, _, by omega, by go_num, HO6, HRD6, HF6.out⟩
            case measure => simp [intOf]; omega
          · obtain rfl : i = p := by omega
            have hdi : ¬ (i : Int) < (i : Int) := by omega
            have HRES : Hid (Sl rdRow (fun k => base ≤ k ∧ k ≠ w.heap.size) W (.slice (some ⟨g, 0, none⟩) i cap) rows2) := Lib.hid (by
              have h1 : OwR (fun k => w.heap.size < k) W base (.slice (some ⟨g, 0, none⟩) i cap) i cur rows2 := ⟨HOW.out, by have := HPN.out; have := HPR.out; omega, fun j h h' => ((HRD.out j h h').1 (by omega)).mono (by decide) (fun k _ hk => ⟨hk, fun e => by
                have e2 : g = k := by injection e
                omega⟩)⟩
              exact h1.sl (fun k hk => by
                have e2 : g = k := by injection hk
                exact ⟨by omega, by omega⟩) (fun k hk => ⟨by omega, by omega⟩))
            have hk9 := HK4.out.fr hfr (by omega)
            have b0 := hk9.cell (i := 0) (by simp); have b1 := hk9.cell (i := 1) (by simp)
            have f0 := hk9.free 0; have f1 := hk9.free 1
            simp only [List.getElem_cons_zero, List.getElem_cons_succ] at b0 b1
            have HF9 := Lib.hid (HF5.out.trans hfr)
            have HK9 := Lib.hid hk9
            clear hfr hcl hk9
            go_wp2_with fail
            have kz : Bk ((W.setCell ⟨w.heap.size, 0, none⟩ (.int .i64 a)).setCell ⟨w.heap.size, 1, none⟩ (.slice (some ⟨g, 0, none⟩) i cap)) w.heap.size 54 [.int .i64 a, .slice (some ⟨g, 0, none⟩) i cap] := (HK9.out.set 0 _).set 1 _
            have hst : Fr (fun k => k = w.heap.size) W ((W.setCell ⟨w.heap.size, 0, none⟩ (.int .i64 a)).setCell ⟨w.heap.size, 1, none⟩ (.slice (some ⟨g, 0, none⟩) i cap)) := ((Fr.refl (fun k => k = w.heap.size) W).setCell (p := ⟨w.heap.size, 0, none⟩) (.inl rfl) _).setCell (p := ⟨w.heap.size, 1, none⟩) (.inl rfl) _
            generalize ((W.setCell ⟨w.heap.size, 0, none⟩ (.int .i64 a)).setCell ⟨w.heap.size, 1, none⟩ (.slice (some ⟨g, 0, none⟩) i cap)) = wz at *
            have z0 := kz.cell (i := 0) (by simp); have z1 := kz.cell (i := 1) (by simp)
            simp only [List.getElem_cons_zero, List.getElem_cons_succ] at z0 z1
            refine bodyPost_ret (v := .tuple #[.agg #[.int .i64 a, .slice (some ⟨g, 0, none⟩) i cap], .int .i64 0]) (by simp [results, Tryz.results78, go_sem, z0, z1]) rfl ⟨(HF9.out.comp hst (fun k hk => .inr (by omega))).mono (fun k _ hk => by rw [hk]; rfl), _, _, _, rows2, rfl, HSO2.out, HME.out, ?_⟩
            exact (HRES.out.fr hst (fun k hk => hk.2)).mono (by decide) (fun k _ hk => hk.1)
end Go.Proofs.YtmmmdinncmbjkaaGreat
namespace Go.Proofs.YtmmmdinncmbjkaaGreat
open Go.RowKit Go.Maps
theorem OwR.more {F : Nat → Prop} {w wb w9 : World} {base n : Nat} {v v9 u : Value} {us : List Value} {rows : List (List Vl)} {x : List Vl} (h : OwR F w base v n us rows) (he : Ext w wb) (hx : Sl rdVl F wb u x) (hF : ∀ k, F k → k < base) (hr : w9.ownsRow base 81 1 v9 (n + 1) (us ++ [u])) (hg : wb.grownBy w9 v.ownBlock) : OwR F w9 base v9 (n + 1) (us ++ [u]) (rows ++ [x]) := by
  have h9 : ∀ k, F k → v9.ownBlock ≠ some k := fun k hk e => by
    have h1 := own_ge hr e
    have h2 := hF k hk
    omega
  have h0 : ∀ k, F k → v.ownBlock ≠ some k := fun k hk e => by
    have h1 := own_ge h.own e
    have h2 := hF k hk
    omega
  have hl := h.len
  refine ⟨hr, by simp [hl], fun i hi hi' => ?_⟩
  rcases Nat.lt_or_ge i rows.length with hx' | hx'
  · rw [List.getElem_append_left hx', List.getElem_append_left (by omega)]
    exact ((((h.rd i hx' (by omega)).ext he).fr (grown_fr hg) (fun k hk e => h0 k hk.1 e))).mono (by decide) (fun k _ hk => ⟨hk.1, h9 k hk.1⟩)
  · have e : i = rows.length := by simp at hi; omega
    subst e
    rw [List.getElem_append_right (Nat.le_refl _), List.getElem_append_right (by omega)]
    simp only [hl, Nat.sub_self, List.getElem_cons_zero]
    exact (hx.fr (grown_fr hg) (fun k hk e => h0 k hk e)).mono (by decide) (fun k _ hk => ⟨hk, h9 k hk⟩)
theorem OwR.nil (F : Nat → Prop) (w : World) (base : Nat) : OwR F w base (.slice none 0 0) 0 [] [] := ⟨World.ownsRow_nil _ _ _ _, rfl, fun i h => by simp at h⟩
/-- A relation as a result. -/
def RelP (G : Nat → Prop) (a : Int) (rows : List (List Vl)) (w : World) (e : Ending) (w' : World) : Prop :=
  Ext w w' ∧ ∃ A k c, e = .returned (.agg #[.int .i64 a, .slice A k c]) ∧ Sl rdRow G w' (.slice A k c) rows
set_option maxRecDepth 20000 in
set_option maxHeartbeats 3200000 in
theorem filter_any {F : Nat → Prop} {w : World} {A : Option Addr} {n c : Nat} {a : Int} {rows : List (List Vl)} {g : Nat} {cb : Array Value} {keep : List Vl → Bool} (h : Sl rdRow F w (.slice A n c) rows) (hn : n ≤ 1048576) (eg : ∀ args w, (callFunc g args).run Tryz.prog w = .ok (.enter g args) w)
    (hk : ∀ V, Ext w V → ∀ x ∈ rows, ∀ B d, Sl rdVl F V (.slice B x.length d) x → Calls Tryz.prog g (#[.slice B x.length d] ++ cb) V (fun e w' => e = .returned (.bool (keep x)) ∧ Ext V w')) :
    Calls Tryz.prog 101 #[.agg #[.int .i64 a, .slice A n c], .func (.func g) #[] cb] w (RelP (fun k => F k ∨ w.heap.size ≤ k) a (rows.filter keep) w) := by
  have hnl := h.cap.1
  have HA := Lib.hid h; have HNL := Lib.hid hnl; have HK := Lib.hid hk
  have k2 := two_blk w 54 54 [.int .i64 a, .slice A n c] [.int .i64 0, .slice none 0 0]
  have hx : Ext w ((w.alloc (.cells #[.int .i64 a, .slice A n c] 54)).alloc (.cells #[.int .i64 0, .slice none 0 0] 54)) := ((Ext.refl w).alloc _).alloc _
  obtain ⟨p0, hp0, hx0, hx1, hx2⟩ := info_parts info_row
  have HP0 := Lib.hid (And.intro hp0 (And.intro hx0 (And.intro hx1 hx2))); clear hp0 hx0 hx1 hx2
  clear h hnl hk
  go_enter Tryz.func101, Tryz.ntmps101
  go_upto_region 1 with fail
  change Bk ((w.alloc (.cells #[.int .i64 a, .slice A n c] 54)).alloc (.cells #[.int .i64 0, .slice none 0 0] 54)) _ _ _ ∧ Bk ((w.alloc (.cells #[.int .i64 a, .slice A n c] 54)).alloc (.cells #[.int .i64 0, .slice none 0 0] 54)) _ _ _ at k2
  generalize ((w.alloc (.cells #[.int .i64 a, .slice A n c] 54)).alloc (.cells #[.int .i64 0, .slice none 0 0] 54)) = w1 at *
  obtain ⟨ka, kb⟩ := k2
  have hlt1 := kb.lt
  have a1 := ka.cell (i := 1) (by simp)
  simp only [List.getElem_cons_zero, List.getElem_cons_succ] at a1
  have HKA := Lib.hid ka; have HKB := Lib.hid kb; have HX := Lib.hid hx
  clear ka kb hx
  go_wp2_with fail
  clear a1
  go_loopw [5, 10] (fun u t wr => ∃ (i k : Nat) (us : List Value), i ≤ n ∧ k ≤ i ∧ t = .int .i64 (i : Int) ∧ Hid (OwR (fun b => F b ∧ b < w.heap.size) wr w1.heap.size u k us ((rows.take i).filter keep)) ∧ Ext w1 wr) (fun _ t _ => n - (intOf t).toNat)
  case atStart => exact ⟨0, 0, [], Nat.zero_le _, Nat.le_refl _, rfl, Lib.hid (OwR.nil _ _ _), Ext.refl _⟩
  case round =>
    obtain ⟨i, k, us, hi, hki, rfl, HOW, hxr⟩ := hrel
    obtain ⟨Au, cu, rfl⟩ := own_slice HOW.out.own
    obtain ⟨W, rfl⟩ : ∃ W : World, W = wr := ⟨_, rfl⟩
    have HXR := Lib.hid hxr
    have a0 := (HKA.out.ext hxr).cell (i := 0) (by simp); have a1 := (HKA.out.ext hxr).cell (i := 1) (by simp)
    simp only [List.getElem_cons_zero, List.getElem_cons_succ] at a0 a1
    by_cases hlt : i < n
    · have i1 : (0 : Int) ≤ (i : Int) := by omega
      have i2 : (i : Int) < (n : Int) := by omega
      have hir : i < rows.length := by have := HNL.out; omega
      obtain ⟨ad, B, d, rfl, -, c0, hrow⟩ := HA.out.row hir
      replace c0 := hxr.cell (HX.out.cell c0)
      have hmem := List.getElem_mem hir
      have HCL := Lib.hid (fun (V : World) (hV : Ext w V) => HK.out V hV _ hmem B d (hrow.ext hV))
      have hro := hrow.mono (G := fun b => F b ∧ b < w.heap.size) (by decide) (fun q hq hf => ⟨hf, hq⟩)
      have hty : keep rows[i] = true → (rows.take (i + 1)).filter keep = (rows.take i).filter keep ++ [rows[i]] := fun e => by rw [List.take_succ_eq_append_getElem hir, List.filter_append]; simp [e]
      have htn : keep rows[i] = false → (rows.take (i + 1)).filter keep = (rows.take i).filter keep := fun e => by rw [List.take_succ_eq_append_getElem hir, List.filter_append]; simp [e]
      obtain ⟨x, hx⟩ : ∃ x, x = rows[i] := ⟨_, rfl⟩
      rw [← hx] at c0 hro hty htn HCL
      have HTY := Lib.hid hty; have HTN := Lib.hid htn; have HRO := Lib.hid hro
      obtain ⟨nx, hnx⟩ : ∃ q, q = x.length := ⟨_, rfl⟩
      rw [← hnx] at c0 HCL HRO
      clear hx hmem hrow hro hty htn hnx hir hxr
      go_wp2_with fail
      refine (HCL.out _ (HX.out.trans HXR.out)).mono ?_
      rintro e w2 ⟨rfl, he2⟩
      replace a1 := he2.cell a1; replace c0 := he2.cell c0
      have HX2 := Lib.hid (HXR.out.trans he2)
      have HOW2 := Lib.hid (HOW.out.ext he2)
      have hsz2 := HX2.out.size
      clear he2
      rcases hkx : keep x with _ | _
      · have HT := Lib.hid (HTN.out hkx)
        clear hkx a1 c0
        go_wp2_with fail
        go_roundw
        case rel => exact ⟨i + 1, k, us, by omega, by omega, by go_num, Lib.hid (by rw [HT.out]; exact HOW2.out), HX2.out⟩
        case measure => simp [intOf]; omega
      · have HT := Lib.hid (HTY.out hkx)
        have HRO2 := Lib.hid (HRO.out.ext ((HX.out.trans HX2.out).alloc (.cells #[.slice B nx d] 81)))
        clear hkx
        go_wp2_with (first
          | (at_builtin; refine wpList_append_at rfl _ _ 52 rfl w1.heap.size 81 p0 (.slice none 0 0) 1 24 Tryz.underlying52 HP0.out.1 HP0.out.2.1 HP0.out.2.2.1 HP0.out.2.2.2 rfl (by omega) (.slice Au k cu) k us rfl (HOW2.out.own.alloc _) ⟨w2.heap.size, 0, none⟩ 1 1 [.slice B nx d] rfl rfl (laid_news w2 _ _) (by simp [Value.oneCell']) (by simp only [maxLen]; omega) (by omega) (by simp; omega) ?_; intro v8 w8 hr8 hg8 hl8; obtain ⟨A8, c8, e8⟩ := own_slice hr8; subst e8; have HOW8 := Lib.hid (OwR.more HOW2.out ((Ext.refl w2).alloc _) HRO2.out (fun q hq => by omega) hr8 hg8); have HX8 := Lib.hid ((HX2.out.alloc _).grown hg8 (fun b hb => own_ge HOW2.out.own hb)); clear hr8 hg8 hl8))
        clear a1 c0
        go_roundw
        case rel => exact ⟨i + 1, k + 1, _, by omega, by omega, by go_num, Lib.hid (by rw [HT.out]; exact HOW8.out), HX8.out⟩
        case measure => simp [intOf]; omega
    · obtain rfl : i = n := by omega
      have hdi : ¬ (i : Int) < (i : Int) := by omega
      have et : rows.take i = rows := List.take_of_length_le (by have := HNL.out; omega)
      have HRES : Hid (Sl rdRow (fun b => (F b ∨ w.heap.size ≤ b) ∧ b ≠ w.heap.size + 1) W (.slice Au k cu) (rows.filter keep)) := Lib.hid (by
        have h1 := HOW.out
        rw [et] at h1
        exact h1.sl (fun q hq => by have h2 := own_ge h1.own hq; exact ⟨.inr (by omega), by omega⟩) (fun q hq => ⟨.inl hq.1, by omega⟩))
      have hk9 := HKB.out.ext hxr
      have b0 := hk9.cell (i := 0) (by simp); have b1 := hk9.cell (i := 1) (by simp)
      have f0 := hk9.free 0; have f1 := hk9.free 1
      simp only [List.getElem_cons_zero, List.getElem_cons_succ] at b0 b1
      have HK9 := Lib.hid hk9; have HXW := Lib.hid (HX.out.trans hxr)
      clear et hk9 hxr a1
      go_wp2_with fail
      have kz : Bk ((W.setCell ⟨w.heap.size + 1, 0, none⟩ (.int .i64 a)).setCell ⟨w.heap.size + 1, 1, none⟩ (.slice Au k cu)) (w.heap.size + 1) 54 [.int .i64 a, .slice Au k cu] := (HK9.out.set 0 _).set 1 _
      have hst : Fr (fun k => k = w.heap.size + 1) W ((W.setCell ⟨w.heap.size + 1, 0, none⟩ (.int .i64 a)).setCell ⟨w.heap.size + 1, 1, none⟩ (.slice Au k cu)) := ((Fr.refl (fun k => k = w.heap.size + 1) W).setCell (p := ⟨w.heap.size + 1, 0, none⟩) (.inl rfl) _).setCell (p := ⟨w.heap.size + 1, 1, none⟩) (.inl rfl) _
      generalize ((W.setCell ⟨w.heap.size + 1, 0, none⟩ (.int .i64 a)).setCell ⟨w.heap.size + 1, 1, none⟩ (.slice Au k cu)) = wz at *
      have z0 := kz.cell (i := 0) (by simp); have z1 := kz.cell (i := 1) (by simp)
      simp only [List.getElem_cons_zero, List.getElem_cons_succ] at z0 z1
      exact bodyPost_ret (v := .agg #[.int .i64 a, .slice Au k cu]) (by simp [results, Tryz.results101, go_sem, z0, z1]) rfl ⟨hst.new HXW.out (fun q hq => by omega), _, _, _, rfl, (HRES.out.fr hst (fun q hq => hq.2)).mono (by decide) (fun q _ hq => hq.1)⟩
end Go.Proofs.YtmmmdinncmbjkaaGreat
namespace Go.Proofs.YtmmmdinncmbjkaaGreat
open Go.RowKit Go.Maps
/-- Whether a comparison holds, by the sign of the two values. -/
def holdI (op c : Int) : Bool := if op = 0 then c == 0 else if op = 1 then c != 0 else if op = 2 then decide (c < 0) else if op = 3 then decide (c ≤ 0) else if op = 4 then decide (0 < c) else decide (0 ≤ c)
def okV (a : Vl) : Bool := valB a.kind a.int a.str
def HoldsPost (a : Vl) (op : Int) (b : Vl) (w : World) (e : Ending) (w' : World) : Prop :=
  Ext w w' ∧ ((0 ≤ op ∧ op ≤ 5 ∧ okV a = true ∧ okV b = true ∧ e = .returned (.tuple #[.bool (holdI op (cmpV a b)), .int .i64 0])) ∨ (∃ c, c ≠ 0 ∧ (op < 0 ∨ 5 < op ∨ okV a = false ∨ okV b = false) ∧ e = .returned (.tuple #[.bool false, .int .i64 c])))
abbrev vagg (a : Vl) : Value := .agg #[.int .i64 a.kind, .int .i64 a.int, .string a.str]
set_option maxRecDepth 20000 in
set_option maxHeartbeats 3200000 in
theorem holds_any {w : World} {a b : Vl} {op : Int} (ha : a.str.size ≤ maxLen) (hb : b.str.size ≤ maxLen) :
    Calls Tryz.prog 100 #[vagg a, .int .i64 op, vagg b] w (HoldsPost a op b w) := by
  have HV := Lib.hid (fun (V : World) => vcomp_any a b V)
  have HA := Lib.hid (fun (V : World) => vvalid_any a.kind a.int a.str V ha)
  have HB := Lib.hid (fun (V : World) => vvalid_any b.kind b.int b.str V hb)
  obtain ⟨z, hz⟩ : ∃ z, z = cmpV a b := ⟨_, rfl⟩
  obtain ⟨oa, hoa⟩ : ∃ z, z = okV a := ⟨_, rfl⟩
  obtain ⟨ob, hob⟩ : ∃ z, z = okV b := ⟨_, rfl⟩
  have hoa' : oa = valB a.kind a.int a.str := hoa
  have hob' : ob = valB b.kind b.int b.str := hob
  have HQ := Lib.hid (fun (V : World) (e : Ending) (h : Ext w V ∧ ((0 ≤ op ∧ op ≤ 5 ∧ oa = true ∧ ob = true ∧ e = .returned (.tuple #[.bool (holdI op z), .int .i64 0])) ∨ (∃ c, c ≠ 0 ∧ (op < 0 ∨ 5 < op ∨ oa = false ∨ ob = false) ∧ e = .returned (.tuple #[.bool false, .int .i64 c])))) => (show HoldsPost a op b w e V by
    unfold HoldsPost
    rw [← hz, ← hoa, ← hob]
    exact h))
  rw [← hz] at HV
  rw [← hoa'] at HA
  rw [← hob'] at HB
  clear hz hoa hob hoa' hob' ha hb
  obtain ⟨ak, ai, as'⟩ := a
  obtain ⟨bk, bi, bs⟩ := b
  unfold vagg
  simp only at HV HA HB ⊢
  have k2 := two_blk w 83 83 [.int .i64 ak, .int .i64 ai, .string as'] [.int .i64 bk, .int .i64 bi, .string bs]
  have hx : Ext w ((w.alloc (.cells #[.int .i64 ak, .int .i64 ai, .string as'] 83)).alloc (.cells #[.int .i64 bk, .int .i64 bi, .string bs] 83)) := ((Ext.refl w).alloc _).alloc _
  go_enter Tryz.func100, Tryz.ntmps100
  go_upto_region 1 with fail
  change Bk ((w.alloc (.cells #[.int .i64 ak, .int .i64 ai, .string as'] 83)).alloc (.cells #[.int .i64 bk, .int .i64 bi, .string bs] 83)) _ _ _ ∧ Bk ((w.alloc (.cells #[.int .i64 ak, .int .i64 ai, .string as'] 83)).alloc (.cells #[.int .i64 bk, .int .i64 bi, .string bs] 83)) _ _ _ at k2
  generalize ((w.alloc (.cells #[.int .i64 ak, .int .i64 ai, .string as'] 83)).alloc (.cells #[.int .i64 bk, .int .i64 bi, .string bs] 83)) = w1 at *
  obtain ⟨ka, kb⟩ := k2
  have a0 := ka.cell (i := 0) (by simp); have a1 := ka.cell (i := 1) (by simp); have a2 := ka.cell (i := 2) (by simp)
  have b0 := kb.cell (i := 0) (by simp); have b1 := kb.cell (i := 1) (by simp); have b2 := kb.cell (i := 2) (by simp)
  simp only [List.getElem_cons_zero, List.getElem_cons_succ] at a0 a1 a2 b0 b1 b2
  have HX := Lib.hid hx
  clear ka kb hx
  by_cases h0 : op < 0
  · clear a0 a1 a2 b0 b1 b2
    go_wp2_with fail
    go_ret2
    exact HQ.out _ _ ⟨HX.out, .inr ⟨2, by decide, .inl h0, rfl⟩⟩
  by_cases h5 : 5 < op
  · clear a0 a1 a2 b0 b1 b2
    go_wp2_with fail
    go_ret2
    exact HQ.out _ _ ⟨HX.out, .inr ⟨2, by decide, .inr (.inl h5), rfl⟩⟩
  go_wp2_with fail
  refine (HA.out _).mono ?_
  rintro e w2 ⟨y, rfl, he2, rfl⟩
  replace a0 := he2.cell a0; replace a1 := he2.cell a1; replace a2 := he2.cell a2; replace b0 := he2.cell b0; replace b1 := he2.cell b1; replace b2 := he2.cell b2
  have HX2 := Lib.hid (HX.out.trans he2)
  clear he2
  rcases oa with _ | _
  · clear a0 a1 a2 b0 b1 b2
    go_wp2_with fail
    go_ret2
    exact HQ.out _ _ ⟨HX2.out, .inr ⟨4, by decide, .inr (.inr (.inl (by trivial))), rfl⟩⟩
  go_wp2_with fail
  refine (HB.out _).mono ?_
  rintro e w3 ⟨y, rfl, he3, rfl⟩
  replace a0 := he3.cell a0; replace a1 := he3.cell a1; replace a2 := he3.cell a2; replace b0 := he3.cell b0; replace b1 := he3.cell b1; replace b2 := he3.cell b2
  have HX3 := Lib.hid (HX2.out.trans he3)
  clear he3
  rcases ob with _ | _
  · clear a0 a1 a2 b0 b1 b2
    go_wp2_with fail
    go_ret2
    exact HQ.out _ _ ⟨HX3.out, .inr ⟨4, by decide, .inr (.inr (.inr (by trivial))), rfl⟩⟩
  go_wp2_with fail
  refine (HV.out _).mono ?_
  rintro e w4 ⟨rfl, hg⟩
  have HX4 := Lib.hid (HX3.out.trans hg.ext)
  clear hg a0 a1 a2 b0 b1 b2
  have hop : op = 0 ∨ op = 1 ∨ op = 2 ∨ op = 3 ∨ op = 4 ∨ op = 5 := by omega
  clear h0 h5
  rcases hop with rfl | rfl | rfl | rfl | rfl | rfl
  all_goals
    go_wp2_with fail
    go_ret2
    exact HQ.out _ _ ⟨HX4.out, .inl ⟨by decide, by decide, by trivial, by trivial, rfl⟩⟩
theorem okV_size {a : Vl} (h : okV a = true) : a.str.size ≤ maxLen := by
  unfold okV valB at h
  split at h
  · rw [decide_eq_true_eq] at h
    rw [h]
    exact Nat.zero_le _
  · split at h
    · rw [decide_eq_true_eq] at h
      simp only [maxLen]
      omega
    · cases h
theorem four_blk2 (w : World) (t1 t2 t3 t4 t5 : TypeId) (c1 c2 c3 c4 c5 : List Value) : Bk (((((w.alloc (.cells c1.toArray t1)).alloc (.cells c2.toArray t2)).alloc (.cells c3.toArray t3)).alloc (.cells c4.toArray t4)).alloc (.cells c5.toArray t5)) w.heap.size t1 c1 ∧ Bk (((((w.alloc (.cells c1.toArray t1)).alloc (.cells c2.toArray t2)).alloc (.cells c3.toArray t3)).alloc (.cells c4.toArray t4)).alloc (.cells c5.toArray t5)) (w.heap.size + 1) t2 c2 ∧ Bk (((((w.alloc (.cells c1.toArray t1)).alloc (.cells c2.toArray t2)).alloc (.cells c3.toArray t3)).alloc (.cells c4.toArray t4)).alloc (.cells c5.toArray t5)) (w.heap.size + 1 + 1) t3 c3 ∧ Bk (((((w.alloc (.cells c1.toArray t1)).alloc (.cells c2.toArray t2)).alloc (.cells c3.toArray t3)).alloc (.cells c4.toArray t4)).alloc (.cells c5.toArray t5)) (w.heap.size + 1 + 1 + 1) t4 c4 ∧ Bk (((((w.alloc (.cells c1.toArray t1)).alloc (.cells c2.toArray t2)).alloc (.cells c3.toArray t3)).alloc (.cells c4.toArray t4)).alloc (.cells c5.toArray t5)) (w.heap.size + 1 + 1 + 1 + 1) t5 c5 := by
  obtain ⟨h1, h2, h3, h4⟩ := four_blk w t1 t2 t3 t4 c1 c2 c3 c4
  refine ⟨h1.alloc _, h2.alloc _, h3.alloc _, h4.alloc _, ?_⟩
  have h := Bk.new ((((w.alloc (.cells c1.toArray t1)).alloc (.cells c2.toArray t2)).alloc (.cells c3.toArray t3)).alloc (.cells c4.toArray t4)) t5 c5
  have e : ((((w.alloc (.cells c1.toArray t1)).alloc (.cells c2.toArray t2)).alloc (.cells c3.toArray t3)).alloc (.cells c4.toArray t4)).heap.size = w.heap.size + 1 + 1 + 1 + 1 := by simp
  rw [e] at h
  exact h
/-- A relation and no error. -/
def RelOk (G : Nat → Prop) (a : Int) (rows : List (List Vl)) (w : World) (e : Ending) (w' : World) : Prop :=
  Ext w w' ∧ ∃ A k c, e = .returned (.tuple #[.agg #[.int .i64 a, .slice A k c], .int .i64 0]) ∧ Sl rdRow G w' (.slice A k c) rows
set_option maxRecDepth 20000 in
set_option maxHeartbeats 3200000 in
theorem selectf_any {F : Nat → Prop} {w : World} {B : Option Addr} {d g1 g2 g3 m : Nat} {col : Nat} {op : Int} {v : Vl} {xs : List Vl} (k1 : Bk w g1 3 [.int .i64 (col : Int)]) (k2 : Bk w g2 3 [.int .i64 op]) (k3 : Bk w g3 83 [.int .i64 v.kind, .int .i64 v.int, .string v.str]) (h : Sl rdVl F w (.slice B m d) xs) (hc : col < xs.length) (hm : m ≤ 1048576) (h0 : 0 ≤ op) (h5 : op ≤ 5) (hv : okV v = true) (hx : okV xs[col] = true) :
    Calls Tryz.prog 102 #[.slice B m d, .pointer (some ⟨g1, 0, none⟩), .pointer (some ⟨g2, 0, none⟩), .pointer (some ⟨g3, 0, none⟩)] w (fun e w' => e = .returned (.bool (holdI op (cmpV xs[col] v))) ∧ Ext w w') := by
  have hml := h.cap.1
  have i1 : (0 : Int) ≤ (col : Int) := by omega
  have i2 : (col : Int) < (m : Int) := by omega
  obtain ⟨ad, rfl, -, c0, c1, c2⟩ := h.vl hc
  have HH := Lib.hid (fun (V : World) => holds_any (w := V) (a := xs[col]) (b := v) (op := op) (okV_size hx) (okV_size hv))
  have HOK := Lib.hid (And.intro hv hx)
  obtain ⟨x, hxe⟩ : ∃ x, x = xs[col] := ⟨_, rfl⟩
  rw [← hxe] at c0 c1 c2 HH HOK ⊢
  obtain ⟨xk, xi, xs'⟩ := x
  obtain ⟨vk, vi, vs⟩ := v
  unfold vagg at HH
  simp only at c0 c1 c2 HH k3
  have a1 := k1.cell (i := 0) (by simp); have a2 := k2.cell (i := 0) (by simp); have b0 := k3.cell (i := 0) (by simp); have b1 := k3.cell (i := 1) (by simp); have b2 := k3.cell (i := 2) (by simp)
  simp only [List.getElem_cons_zero, List.getElem_cons_succ] at a1 a2 b0 b1 b2
  clear k1 k2 k3 h hv hx hxe hml hc
  go_enter Tryz.func102, Tryz.ntmps102
  go_upto_region 1 with fail
  go_region_held3 (fun V => Ext w V ∧ V.cell? ⟨g1, 0, none⟩ = some (.int .i64 (col : Int)) ∧ V.cell? ⟨g2, 0, none⟩ = some (.int .i64 op) ∧ V.cell? ⟨g3, 0, none⟩ = some (.int .i64 vk) ∧ V.cell? ⟨g3, 1, none⟩ = some (.int .i64 vi) ∧ V.cell? ⟨g3, 2, none⟩ = some (.string vs) ∧ V.cell? (ad.add (col * 3)) = some (.int .i64 xk) ∧ V.cell? ⟨(ad.add (col * 3)).block, (ad.add (col * 3)).off + 1, none⟩ = some (.int .i64 xi) ∧ V.cell? ⟨(ad.add (col * 3)).block, (ad.add (col * 3)).off + 2, none⟩ = some (.string xs'))
    ((refine (fun he => ⟨he, Ext.cell he a1, Ext.cell he a2, Ext.cell he b0, Ext.cell he b1, Ext.cell he b2, Ext.cell he c0, Ext.cell he c1, Ext.cell he c2⟩) ?_; repeat (first | exact Ext.refl _ | exact (Ext.refl _).drew | refine Ext.drew ?_ | refine Ext.trans ?_ (by assumption))))
    (first
      | (go_at_call 100; (with_reducible refine (HH.out _).mono ?_); rintro e wi ⟨hei, ⟨-, -, -, -, rfl⟩ | ⟨_, -, hbad, -⟩⟩ <;> (try (exfalso; rcases hbad with h | h | h | h; exact absurd h (by omega); exact absurd h (by omega); exact absurd (HOK.out.2.symm.trans h) (by decide); exact absurd (HOK.out.1.symm.trans h) (by decide)))))
  have hfin := And.left (b := _ ∧ _) (by assumption)
  have HX := Lib.hid hfin
  clear hfin hei a1 a2 b0 b1 b2 c0 c1 c2
  go_wp2_with fail
  go_ret
  exact ⟨rfl, HX.out⟩
set_option maxRecDepth 20000 in
set_option maxHeartbeats 3200000 in
theorem select_any {F : Nat → Prop} {w : World} {A : Option Addr} {n c : Nat} {a op : Int} {col : Nat} {v : Vl} {rows : List (List Vl)} (h : Sl rdRow F w (.slice A n c) rows) (hn : n ≤ 1048576) (hr : ∀ x ∈ rows, x.length ≤ 1048576) (hc : ∀ x ∈ rows, ∃ hc : col < x.length, okV x[col] = true) (ha : (col : Int) < a) (h0 : 0 ≤ op) (h5 : op ≤ 5) (hv : okV v = true) :
    Calls Tryz.prog 75 #[.agg #[.int .i64 a, .slice A n c], .int .i64 (col : Int), .int .i64 op, vagg v] w (RelOk (fun k => F k ∨ w.heap.size ≤ k) a (rows.filter (fun x => holdI op (cmpV (x.getD col ⟨0, 0, ⟨#[]⟩⟩) v))) w) := by
  have h' := h.mono (G := fun k => F k ∧ k < w.heap.size) (by decide) (fun k hk hf => ⟨hf, hk⟩)
  have HA := Lib.hid h'; have HR := Lib.hid hr; have HC := Lib.hid hc; have HVO := Lib.hid hv
  have HH := Lib.hid (fun (V : World) => holds_any (w := V) (a := v) (b := v) (op := op) (okV_size hv) (okV_size hv))
  have i0 : ¬ (col : Int) < 0 := by omega
  have i1 : ¬ a ≤ (col : Int) := by omega
  obtain ⟨vv, hvv⟩ : ∃ x, x = v := ⟨_, rfl⟩
  have HVV := Lib.hid hvv
  rw [← hvv] at HH
  obtain ⟨vk, vi, vs⟩ := vv
  have k5 := four_blk2 w 54 3 3 83 54 [.int .i64 a, .slice A n c] [.int .i64 (col : Int)] [.int .i64 op] [.int .i64 vk, .int .i64 vi, .string vs] [.int .i64 0, .slice none 0 0]
  obtain ⟨w1, hw1⟩ : ∃ W, W = (((((w.alloc (.cells #[.int .i64 a, .slice A n c] 54)).alloc (.cells #[.int .i64 (col : Int)] 3)).alloc (.cells #[.int .i64 op] 3)).alloc (.cells #[.int .i64 vk, .int .i64 vi, .string vs] 83)).alloc (.cells #[.int .i64 0, .slice none 0 0] 54)) := ⟨_, rfl⟩
  change Bk (((((w.alloc (.cells #[.int .i64 a, .slice A n c] 54)).alloc (.cells #[.int .i64 (col : Int)] 3)).alloc (.cells #[.int .i64 op] 3)).alloc (.cells #[.int .i64 vk, .int .i64 vi, .string vs] 83)).alloc (.cells #[.int .i64 0, .slice none 0 0] 54)) _ _ _ ∧ Bk (((((w.alloc (.cells #[.int .i64 a, .slice A n c] 54)).alloc (.cells #[.int .i64 (col : Int)] 3)).alloc (.cells #[.int .i64 op] 3)).alloc (.cells #[.int .i64 vk, .int .i64 vi, .string vs] 83)).alloc (.cells #[.int .i64 0, .slice none 0 0] 54)) _ _ _ ∧ Bk (((((w.alloc (.cells #[.int .i64 a, .slice A n c] 54)).alloc (.cells #[.int .i64 (col : Int)] 3)).alloc (.cells #[.int .i64 op] 3)).alloc (.cells #[.int .i64 vk, .int .i64 vi, .string vs] 83)).alloc (.cells #[.int .i64 0, .slice none 0 0] 54)) _ _ _ ∧ Bk (((((w.alloc (.cells #[.int .i64 a, .slice A n c] 54)).alloc (.cells #[.int .i64 (col : Int)] 3)).alloc (.cells #[.int .i64 op] 3)).alloc (.cells #[.int .i64 vk, .int .i64 vi, .string vs] 83)).alloc (.cells #[.int .i64 0, .slice none 0 0] 54)) _ _ _ ∧ Bk (((((w.alloc (.cells #[.int .i64 a, .slice A n c] 54)).alloc (.cells #[.int .i64 (col : Int)] 3)).alloc (.cells #[.int .i64 op] 3)).alloc (.cells #[.int .i64 vk, .int .i64 vi, .string vs] 83)).alloc (.cells #[.int .i64 0, .slice none 0 0] 54)) _ _ _ at k5
  rw [← hw1] at k5
  have hx : Ext w w1 := by rw [hw1]; exact (((((Ext.refl w).alloc _).alloc _).alloc _).alloc _).alloc _
  unfold vagg at HH ⊢
  rw [← hvv]
  simp only at HH ⊢
  clear h h' hr hc hv hvv ha
  go_enter Tryz.func75, Tryz.ntmps75
  go_upto_region 1 with fail
  rw [← hw1]
  clear hw1
  obtain ⟨ka, kb, kc, kd, ke⟩ := k5
  have HKA := Lib.hid ka; have HKB := Lib.hid kb; have HKC := Lib.hid kc; have HKD := Lib.hid kd; have HKE := Lib.hid ke; have HX := Lib.hid hx
  have a0 := ka.cell (i := 0) (by simp); have b0 := kb.cell (i := 0) (by simp); have c0 := kc.cell (i := 0) (by simp); have d0 := kd.cell (i := 0) (by simp); have d1 := kd.cell (i := 1) (by simp); have d2 := kd.cell (i := 2) (by simp)
  simp only [List.getElem_cons_zero, List.getElem_cons_succ] at a0 b0 c0 d0 d1 d2
  clear ka kb kc kd ke hx
  go_wp2_with fail
  refine (HH.out _).mono ?_
  rintro e w2 ⟨he2, ⟨-, -, -, -, rfl⟩ | ⟨_, -, hbad, -⟩⟩
  · have HX2 := Lib.hid (HX.out.trans he2); have HKE2 := Lib.hid (HKE.out.ext he2)
    have a0 := (HKA.out.ext he2).cell (i := 0) (by simp); have a1 := (HKA.out.ext he2).cell (i := 1) (by simp)
    simp only [List.getElem_cons_zero, List.getElem_cons_succ] at a0 a1
    have HF := Lib.hid (filter_any (w := w2) (A := A) (n := n) (c := c) (a := a) (g := 102) (cb := #[.pointer (some ⟨w.heap.size + 1, 0, none⟩), .pointer (some ⟨w.heap.size + 1 + 1, 0, none⟩), .pointer (some ⟨w.heap.size + 1 + 1 + 1, 0, none⟩)]) (keep := fun x => holdI op (cmpV (x.getD col ⟨0, 0, ⟨#[]⟩⟩) v)) (HA.out.ext HX2.out) hn (enters_of Tryz.func102 (by kernel_rfl) rfl)
      (fun V hV x hx B d hrow => by
        obtain ⟨hcx, hok⟩ := HC.out x hx
        have hgd : x.getD col ⟨0, 0, ⟨#[]⟩⟩ = x[col] := by simp [List.getElem?_eq_getElem hcx]
        rw [hgd]
        refine selectf_any ((HKB.out.ext he2).ext hV) ((HKC.out.ext he2).ext hV) (by have := (HKD.out.ext he2).ext hV; rw [← HVV.out]; exact this) hrow hcx (HR.out x hx) h0 h5 HVO.out hok))
    clear he2 b0 c0 d0 d1 d2
    go_wp2_with fail
    refine HF.out.mono ?_
    rintro e w3 ⟨he3, A3, k3, c3, rfl, hsl⟩
    have HK3 := Lib.hid (HKE2.out.ext he3); have HX3 := Lib.hid (HX2.out.trans he3)
    have hgt : w.heap.size ≤ w2.heap.size := HX2.out.size
    have hek := HKE2.out.lt
    have HS3 := Lib.hid (hsl.mono (G := fun k => (F k ∨ w.heap.size ≤ k) ∧ k ≠ w.heap.size + 1 + 1 + 1 + 1) (by decide) (fun q hq hf => by
      rcases hf with hf | hf
      · exact ⟨.inl hf.1, by omega⟩
      · exact ⟨.inr (by omega), by omega⟩))
    have b0 := HK3.out.cell (i := 0) (by simp); have b1 := HK3.out.cell (i := 1) (by simp)
    have f0 := HK3.out.free 0; have f1 := HK3.out.free 1
    simp only [List.getElem_cons_zero, List.getElem_cons_succ] at b0 b1
    clear he3 hsl a0 a1
    go_wp2_with fail
    have kz : Bk ((w3.setCell ⟨w.heap.size + 1 + 1 + 1 + 1, 0, none⟩ (.int .i64 a)).setCell ⟨w.heap.size + 1 + 1 + 1 + 1, 1, none⟩ (.slice A3 k3 c3)) (w.heap.size + 1 + 1 + 1 + 1) 54 [.int .i64 a, .slice A3 k3 c3] := (HK3.out.set 0 _).set 1 _
    have hst : Fr (fun k => k = w.heap.size + 1 + 1 + 1 + 1) w3 ((w3.setCell ⟨w.heap.size + 1 + 1 + 1 + 1, 0, none⟩ (.int .i64 a)).setCell ⟨w.heap.size + 1 + 1 + 1 + 1, 1, none⟩ (.slice A3 k3 c3)) := ((Fr.refl (fun k => k = w.heap.size + 1 + 1 + 1 + 1) w3).setCell (p := ⟨w.heap.size + 1 + 1 + 1 + 1, 0, none⟩) (.inl rfl) _).setCell (p := ⟨w.heap.size + 1 + 1 + 1 + 1, 1, none⟩) (.inl rfl) _
    generalize ((w3.setCell ⟨w.heap.size + 1 + 1 + 1 + 1, 0, none⟩ (.int .i64 a)).setCell ⟨w.heap.size + 1 + 1 + 1 + 1, 1, none⟩ (.slice A3 k3 c3)) = wz at *
    have z0 := kz.cell (i := 0) (by simp); have z1 := kz.cell (i := 1) (by simp)
    simp only [List.getElem_cons_zero, List.getElem_cons_succ] at z0 z1
    exact bodyPost_ret (v := .tuple #[.agg #[.int .i64 a, .slice A3 k3 c3], .int .i64 0]) (by simp [results, Tryz.results75, go_sem, z0, z1]) rfl ⟨hst.new HX3.out (fun q hq => by omega), _, _, _, rfl, by rw [HVV.out]; exact (HS3.out.fr hst (fun q hq => hq.2)).mono (by decide) (fun q _ hq => hq.1)⟩
  · exfalso
    rcases hbad with h | h | h | h
    · omega
    · omega
    · rw [HVV.out, HVO.out] at h; cases h
    · rw [HVV.out, HVO.out] at h; cases h
set_option maxRecDepth 20000 in
set_option maxHeartbeats 3200000 in
theorem samef_any {F : Nat → Prop} {w : World} {B : Option Addr} {d g1 g2 m : Nat} {i j : Nat} {xs : List Vl} (k1 : Bk w g1 3 [.int .i64 (i : Int)]) (k2 : Bk w g2 3 [.int .i64 (j : Int)]) (h : Sl rdVl F w (.slice B m d) xs) (hi : i < xs.length) (hj : j < xs.length) (hm : m ≤ 1048576) :
    Calls Tryz.prog 103 #[.slice B m d, .pointer (some ⟨g1, 0, none⟩), .pointer (some ⟨g2, 0, none⟩)] w (fun e w' => e = .returned (.bool (cmpV xs[i] xs[j] == 0)) ∧ Ext w w') := by
  have hml := h.cap.1
  have i1 : (0 : Int) ≤ (i : Int) := by omega
  have i2 : (i : Int) < (m : Int) := by omega
  have j1 : (0 : Int) ≤ (j : Int) := by omega
  have j2 : (j : Int) < (m : Int) := by omega
  obtain ⟨ad, rfl, -, c0, c1, c2⟩ := h.vl hi
  obtain ⟨ad', e', -, d0, d1, d2⟩ := h.vl hj
  injection e' with e'
  subst e'
  have HH := Lib.hid (fun (V : World) => vcomp_any xs[i] xs[j] V)
  obtain ⟨x, hxe⟩ : ∃ x, x = xs[i] := ⟨_, rfl⟩
  obtain ⟨y, hye⟩ : ∃ x, x = xs[j] := ⟨_, rfl⟩
  rw [← hxe] at c0 c1 c2
  rw [← hye] at d0 d1 d2
  rw [← hxe, ← hye] at HH
  rw [← hxe, ← hye]
  obtain ⟨z, hz⟩ : ∃ z, z = cmpV x y := ⟨_, rfl⟩
  rw [← hz] at HH ⊢
  obtain ⟨xk, xi, xs'⟩ := x
  obtain ⟨yk, yi, ys'⟩ := y
  simp only at c0 c1 c2 d0 d1 d2 HH
  have a1 := k1.cell (i := 0) (by simp); have a2 := k2.cell (i := 0) (by simp)
  simp only [List.getElem_cons_zero, List.getElem_cons_succ] at a1 a2
  clear k1 k2 h hxe hye hz hml hi hj
  go_enter Tryz.func103, Tryz.ntmps103
  go_upto_region 1 with fail
  go_region_held3 (fun V => Ext w V ∧ V.cell? ⟨g1, 0, none⟩ = some (.int .i64 (i : Int)) ∧ V.cell? ⟨g2, 0, none⟩ = some (.int .i64 (j : Int)) ∧ V.cell? (ad.add (i * 3)) = some (.int .i64 xk) ∧ V.cell? ⟨(ad.add (i * 3)).block, (ad.add (i * 3)).off + 1, none⟩ = some (.int .i64 xi) ∧ V.cell? ⟨(ad.add (i * 3)).block, (ad.add (i * 3)).off + 2, none⟩ = some (.string xs') ∧ V.cell? (ad.add (j * 3)) = some (.int .i64 yk) ∧ V.cell? ⟨(ad.add (j * 3)).block, (ad.add (j * 3)).off + 1, none⟩ = some (.int .i64 yi) ∧ V.cell? ⟨(ad.add (j * 3)).block, (ad.add (j * 3)).off + 2, none⟩ = some (.string ys'))
    ((refine (fun he => ⟨he, Ext.cell he a1, Ext.cell he a2, Ext.cell he c0, Ext.cell he c1, Ext.cell he c2, Ext.cell he d0, Ext.cell he d1, Ext.cell he d2⟩) ?_; repeat (first | exact Ext.refl _ | exact (Ext.refl _).drew | refine Ext.drew ?_ | refine Ext.trans ?_ (by assumption))))
    (first
      | (go_at_call 97; (with_reducible refine (HH.out _).mono ?_); rintro e wi ⟨rfl, hgi⟩; have hei := Gr.ext hgi))
  have hfin := And.left (b := _ ∧ _) (by assumption)
  have HX := Lib.hid hfin
  clear hfin hei hgi a1 a2 c0 c1 c2 d0 d1 d2
  go_wp2_with fail
  go_ret
  exact ⟨rfl, HX.out⟩
set_option maxRecDepth 20000 in
set_option maxHeartbeats 3200000 in
theorem selsame_any {F : Nat → Prop} {w : World} {A : Option Addr} {n c : Nat} {a : Int} {i j : Nat} {rows : List (List Vl)} (h : Sl rdRow F w (.slice A n c) rows) (hn : n ≤ 1048576) (hr : ∀ x ∈ rows, x.length ≤ 1048576 ∧ i < x.length ∧ j < x.length) (hi : (i : Int) < a) (hj : (j : Int) < a) :
    Calls Tryz.prog 76 #[.agg #[.int .i64 a, .slice A n c], .int .i64 (i : Int), .int .i64 (j : Int)] w (RelOk (fun k => F k ∨ w.heap.size ≤ k) a (rows.filter (fun x => cmpV (x.getD i ⟨0, 0, ⟨#[]⟩⟩) (x.getD j ⟨0, 0, ⟨#[]⟩⟩) == 0)) w) := by
  have h' := h.mono (G := fun k => F k ∧ k < w.heap.size) (by decide) (fun k hk hf => ⟨hf, hk⟩)
  have HA := Lib.hid h'; have HR := Lib.hid hr
  have i0 : ¬ (i : Int) < 0 := by omega
  have i1 : ¬ a ≤ (i : Int) := by omega
  have j0 : ¬ (j : Int) < 0 := by omega
  have j1 : ¬ a ≤ (j : Int) := by omega
  have k5 := four_blk w 54 3 3 54 [.int .i64 a, .slice A n c] [.int .i64 (i : Int)] [.int .i64 (j : Int)] [.int .i64 0, .slice none 0 0]
  obtain ⟨w1, hw1⟩ : ∃ W, W = ((((w.alloc (.cells #[.int .i64 a, .slice A n c] 54)).alloc (.cells #[.int .i64 (i : Int)] 3)).alloc (.cells #[.int .i64 (j : Int)] 3)).alloc (.cells #[.int .i64 0, .slice none 0 0] 54)) := ⟨_, rfl⟩
  change Bk ((((w.alloc (.cells #[.int .i64 a, .slice A n c] 54)).alloc (.cells #[.int .i64 (i : Int)] 3)).alloc (.cells #[.int .i64 (j : Int)] 3)).alloc (.cells #[.int .i64 0, .slice none 0 0] 54)) _ _ _ ∧ Bk ((((w.alloc (.cells #[.int .i64 a, .slice A n c] 54)).alloc (.cells #[.int .i64 (i : Int)] 3)).alloc (.cells #[.int .i64 (j : Int)] 3)).alloc (.cells #[.int .i64 0, .slice none 0 0] 54)) _ _ _ ∧ Bk ((((w.alloc (.cells #[.int .i64 a, .slice A n c] 54)).alloc (.cells #[.int .i64 (i : Int)] 3)).alloc (.cells #[.int .i64 (j : Int)] 3)).alloc (.cells #[.int .i64 0, .slice none 0 0] 54)) _ _ _ ∧ Bk ((((w.alloc (.cells #[.int .i64 a, .slice A n c] 54)).alloc (.cells #[.int .i64 (i : Int)] 3)).alloc (.cells #[.int .i64 (j : Int)] 3)).alloc (.cells #[.int .i64 0, .slice none 0 0] 54)) _ _ _ at k5
  rw [← hw1] at k5
  have hx : Ext w w1 := by rw [hw1]; exact ((((Ext.refl w).alloc _).alloc _).alloc _).alloc _
  clear h h' hr hi hj
  go_enter Tryz.func76, Tryz.ntmps76
  go_upto_region 1 with fail
  rw [← hw1]
  clear hw1
  obtain ⟨ka, kb, kc, ke⟩ := k5
  have hek := ke.lt
  have HF := Lib.hid (filter_any (w := w1) (A := A) (n := n) (c := c) (a := a) (g := 103) (cb := #[.pointer (some ⟨w.heap.size + 1, 0, none⟩), .pointer (some ⟨w.heap.size + 1 + 1, 0, none⟩)]) (keep := fun x => cmpV (x.getD i ⟨0, 0, ⟨#[]⟩⟩) (x.getD j ⟨0, 0, ⟨#[]⟩⟩) == 0) (HA.out.ext hx) hn (enters_of Tryz.func103 (by kernel_rfl) rfl)
    (fun V hV x hx B d hrow => by
      obtain ⟨hl, hci, hcj⟩ := HR.out x hx
      have e1 : x.getD i ⟨0, 0, ⟨#[]⟩⟩ = x[i] := by simp [List.getElem?_eq_getElem hci]
      have e2 : x.getD j ⟨0, 0, ⟨#[]⟩⟩ = x[j] := by simp [List.getElem?_eq_getElem hcj]
      rw [e1, e2]
      exact samef_any (kb.ext hV) (kc.ext hV) hrow hci hcj hl))
  have a0 := ka.cell (i := 0) (by simp); have a1 := ka.cell (i := 1) (by simp); have b0 := kb.cell (i := 0) (by simp); have c0 := kc.cell (i := 0) (by simp)
  simp only [List.getElem_cons_zero, List.getElem_cons_succ] at a0 a1 b0 c0
  have HKE := Lib.hid ke; have HX := Lib.hid hx
  clear ka kb kc ke hx
  go_wp2_with fail
  refine HF.out.mono ?_
  rintro e w3 ⟨he3, A3, k3, c3, rfl, hsl⟩
  have HK3 := Lib.hid (HKE.out.ext he3); have HX3 := Lib.hid (HX.out.trans he3)
  have hgt : w.heap.size ≤ w1.heap.size := HX.out.size
  have HS3 := Lib.hid (hsl.mono (G := fun k => (F k ∨ w.heap.size ≤ k) ∧ k ≠ w.heap.size + 1 + 1 + 1) (by decide) (fun q hq hf => by
    rcases hf with hf | hf
    · exact ⟨.inl hf.1, by omega⟩
    · exact ⟨.inr (by omega), by omega⟩))
  clear he3 hsl a0 a1 b0 c0
  have b0 := HK3.out.cell (i := 0) (by simp); have b1 := HK3.out.cell (i := 1) (by simp)
  have f0 := HK3.out.free 0; have f1 := HK3.out.free 1
  simp only [List.getElem_cons_zero, List.getElem_cons_succ] at b0 b1
  go_wp2_with fail
  have kz : Bk ((w3.setCell ⟨w.heap.size + 1 + 1 + 1, 0, none⟩ (.int .i64 a)).setCell ⟨w.heap.size + 1 + 1 + 1, 1, none⟩ (.slice A3 k3 c3)) (w.heap.size + 1 + 1 + 1) 54 [.int .i64 a, .slice A3 k3 c3] := (HK3.out.set 0 _).set 1 _
  have hst : Fr (fun k => k = w.heap.size + 1 + 1 + 1) w3 ((w3.setCell ⟨w.heap.size + 1 + 1 + 1, 0, none⟩ (.int .i64 a)).setCell ⟨w.heap.size + 1 + 1 + 1, 1, none⟩ (.slice A3 k3 c3)) := ((Fr.refl (fun k => k = w.heap.size + 1 + 1 + 1) w3).setCell (p := ⟨w.heap.size + 1 + 1 + 1, 0, none⟩) (.inl rfl) _).setCell (p := ⟨w.heap.size + 1 + 1 + 1, 1, none⟩) (.inl rfl) _
  generalize ((w3.setCell ⟨w.heap.size + 1 + 1 + 1, 0, none⟩ (.int .i64 a)).setCell ⟨w.heap.size + 1 + 1 + 1, 1, none⟩ (.slice A3 k3 c3)) = wz at *
  have z0 := kz.cell (i := 0) (by simp); have z1 := kz.cell (i := 1) (by simp)
  simp only [List.getElem_cons_zero, List.getElem_cons_succ] at z0 z1
  exact bodyPost_ret (v := .tuple #[.agg #[.int .i64 a, .slice A3 k3 c3], .int .i64 0]) (by simp [results, Tryz.results76, go_sem, z0, z1]) rfl ⟨hst.new HX3.out (fun q hq => by omega), _, _, _, rfl, (HS3.out.fr hst (fun q hq => hq.2)).mono (by decide) (fun q _ hq => hq.1)⟩
end Go.Proofs.YtmmmdinncmbjkaaGreat
