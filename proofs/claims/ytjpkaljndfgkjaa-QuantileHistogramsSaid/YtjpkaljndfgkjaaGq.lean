/- Contracts: sort.Search for any predicate; row.Search; Rank of an array of rows. -/
import Derived.Test.YtjpkaljndfgkjaaGl
namespace Go.Proofs.Ytjpkaljndfgkjaa.R
open Go.RowKit Go.Maps

theorem three_blk (w : World) (t u v : TypeId) (cs ds es : List Value) : Bk (((w.alloc (.cells cs.toArray t)).alloc (.cells ds.toArray u)).alloc (.cells es.toArray v)) w.heap.size t cs ∧ Bk (((w.alloc (.cells cs.toArray t)).alloc (.cells ds.toArray u)).alloc (.cells es.toArray v)) (w.heap.size + 1) u ds ∧ Bk (((w.alloc (.cells cs.toArray t)).alloc (.cells ds.toArray u)).alloc (.cells es.toArray v)) (w.heap.size + 1 + 1) v es := by
  obtain ⟨h1, h2⟩ := two_blk w t u cs ds
  refine ⟨h1.alloc _, h2.alloc _, ?_⟩
  have h := Bk.new ((w.alloc (.cells cs.toArray t)).alloc (.cells ds.toArray u)) v es
  have e : ((w.alloc (.cells cs.toArray t)).alloc (.cells ds.toArray u)).heap.size = w.heap.size + 1 + 1 := by simp
  rw [e] at h
  exact h
/-- The bisection, with fuel. -/
def bsr (p : Nat → Bool) : Nat → Nat → Nat → Nat
  | 0, i, _ => i
  | k + 1, i, j => if i < j then (if p ((i + j) / 2) = true then bsr p k i ((i + j) / 2) else bsr p k ((i + j) / 2 + 1) j) else i
theorem bsr_le (p : Nat → Bool) : ∀ (k i j : Nat), i ≤ j → bsr p k i j ≤ j
  | 0, _, _, h => h
  | k + 1, i, j, h => by
    unfold bsr
    split
    · split
      · have := bsr_le p k i ((i + j) / 2) (by omega); omega
      · exact bsr_le p k ((i + j) / 2 + 1) j (by omega)
    · exact h
set_option maxRecDepth 20000 in
set_option maxHeartbeats 1600000 in
theorem searchf_any {F G : Nat → Prop} {w : World} {A B : Option Addr} {n c m d g0 g1 g2 : Nat} {rows : List (List Vl)} {r : List Vl} (k0 : Bk w g0 22 [.slice A n c]) (k1 : Bk w g1 29 [.slice B m d]) (k2 : Bk w g2 30 [.slice none 0 0]) (hA : Sl rdRow F w (.slice A n c) rows) (hB : Sl rdVl G w (.slice B m d) r) (hm : m ≤ 1048576) (hr : ∀ x ∈ rows, x.length ≤ 1048576) {i : Nat} (hi : i < n) (hn : n ≤ 1048576) :
    Calls Try.prog 66 #[.int .i64 (i : Int), .pointer (some ⟨g0, 0, none⟩), .pointer (some ⟨g1, 0, none⟩), .pointer (some ⟨g2, 0, none⟩)] w (fun e w' => e = .returned (.bool (decide (0 ≤ cmpR (rows.getD i []) r))) ∧ Gr w w') := by
  have hnl := hA.cap.1
  have hix : i < rows.length := by omega
  have i1 : (0 : Int) ≤ (i : Int) := by omega
  have i2 : (i : Int) < (n : Int) := by omega
  obtain ⟨ad, C, dc, rfl, -, a0, hrow⟩ := hA.row hix
  have hrl := hr _ (List.getElem_mem hix)
  have hgd : rows.getD i [] = rows[i] := by simp [List.getElem?_eq_getElem hix]
  rw [hgd]
  obtain ⟨x, hx⟩ : ∃ x, x = rows[i] := ⟨_, rfl⟩
  rw [← hx] at a0 hrow hrl ⊢
  have HC := Lib.hid (fun (V : World) (hV : Gr w V) => rcompby_any (w := V) (hrow.ext hV.ext) (hB.ext hV.ext) hrl hm)
  obtain ⟨z, hz⟩ : ∃ z, z = cmpR x r := ⟨_, rfl⟩
  rw [← hz] at HC ⊢
  obtain ⟨nx, hnx⟩ : ∃ z, z = x.length := ⟨_, rfl⟩
  rw [← hnx] at a0 HC
  have b0 := k0.cell (i := 0) (by simp); have b1 := k1.cell (i := 0) (by simp); have b2 := k2.cell (i := 0) (by simp)
  simp only [List.getElem_cons_zero] at b0 b1 b2
  clear k0 k1 k2 hA hB hr hnl hix hrl hgd hx hrow hz hnx
  go_enter Try.func66, Try.ntmps66
  go_upto_region 1 with fail
  go_region_held3 (fun V => Gr w V ∧ V.cell? ⟨g0, 0, none⟩ = some (.slice (some ad) n c) ∧ V.cell? ⟨g1, 0, none⟩ = some (.slice B m d) ∧ V.cell? ⟨g2, 0, none⟩ = some (.slice none 0 0) ∧ V.cell? (ad.add i) = some (.slice C nx dc))
    ((refine (fun he => ⟨he, Gr.cell he b0, Gr.cell he b1, Gr.cell he b2, Gr.cell he a0⟩) ?_; repeat (first | exact Gr.refl _ | exact (Gr.refl _).drew | refine Gr.drew ?_ | refine Gr.trans ?_ (by assumption))))
    (first
      | (go_at_call 55; (with_reducible refine (HC.out _ (And.left (by assumption))).mono ?_); rintro e wi ⟨rfl, hei⟩))
  have hfin := And.left (b := _ ∧ _) (by assumption)
  have HX := Lib.hid hfin
  clear hfin hei b0 b1 b2 a0
  go_wp2_with fail
  go_ret
  exact ⟨rfl, HX.out⟩
/-- What is left of the bisection. -/
def BsR (p : Nat → Bool) (r i j : Nat) : Prop := ∃ k, j ≤ i + k ∧ r = bsr p k i j
set_option maxRecDepth 20000 in
set_option maxHeartbeats 1600000 in
theorem search_gen {w : World} {n g : Nat} {cb : Array Value} {p : Nat → Bool} (eg : ∀ args w, (callFunc g args).run Try.prog w = .ok (.enter g args) w) (hn : n ≤ 1048576) (hf : ∀ V : World, Gr w V → ∀ i : Nat, i < n → Calls Try.prog g (#[.int .i64 (i : Int)] ++ cb) V (fun e w' => e = .returned (.bool (p i)) ∧ Gr V w')) :
    Calls Try.prog 65 #[.int .i64 (n : Int), .func (.func g) #[] cb] w (fun e w' => e = .returned (.int .i64 (bsr p n 0 n : Int)) ∧ Gr w w') := by
  obtain ⟨r, hr⟩ : ∃ r, r = bsr p n 0 n := ⟨_, rfl⟩
  rw [← hr]
  have HR := Lib.hid hr; have HF := Lib.hid hf
  clear hr hf
  go_enter Try.func65, Try.ntmps65
  go_wp2_with fail
  go_loopw [5, 6] (fun s t wr => ∃ i j : Nat, i ≤ j ∧ j ≤ n ∧ s = .int .i64 (i : Int) ∧ t = .int .i64 (j : Int) ∧ BsR p r i j ∧ Gr w wr) (fun s t _ => (intOf t - intOf s).toNat)
  case atStart => exact ⟨0, n, Nat.zero_le _, Nat.le_refl _, rfl, rfl, ⟨n, by omega, HR.out⟩, Gr.refl _⟩
  case round =>
    obtain ⟨i, j, hij, hjn, rfl, rfl, ⟨k, hk, he⟩, hg⟩ := hrel
    have HE := Lib.hid he
    clear he
    obtain ⟨W, rfl⟩ : ∃ W : World, W = wr := ⟨_, rfl⟩
    have HG := Lib.hid hg
    clear hg HR
    by_cases hlt : i < j
    · obtain ⟨k', rfl⟩ : ∃ k', k = k' + 1 := ⟨k - 1, by omega⟩
      have hst : bsr p (k' + 1) i j = if p ((i + j) / 2) = true then bsr p k' i ((i + j) / 2) else bsr p k' ((i + j) / 2 + 1) j := by
        conv => lhs; unfold bsr
        rw [if_pos hlt]
      have hc := HF.out W HG.out ((i + j) / 2) (by omega)
      rw [show (((i + j) / 2 : Nat) : Int) = ((i : Int) + (j : Int)) / 2 by omega] at hc
      obtain ⟨b, hb⟩ : ∃ b, b = p ((i + j) / 2) := ⟨_, rfl⟩
      rw [← hb] at hc hst
      have HC := Lib.hid hc; have HST := Lib.hid hst
      clear hc hb hst
      rcases b with _ | _
      · go_wp2_with (go_at_fn g; refine HC.out.mono ?_; rintro e w' ⟨rfl, hg2⟩)
        have HG2 := Lib.hid (HG.out.trans hg2)
        clear hg2
        go_roundw
        case rel => exact ⟨(i + j) / 2 + 1, j, by omega, hjn, by first | rfl | go_num | (congr 1; omega), rfl, ⟨k', by omega, by rw [HE.out, HST.out]; rfl⟩, HG2.out⟩
        case measure => simp [intOf]; omega
      · go_wp2_with (go_at_fn g; refine HC.out.mono ?_; rintro e w' ⟨rfl, hg2⟩)
        have HG2 := Lib.hid (HG.out.trans hg2)
        clear hg2
        go_roundw
        case rel => exact ⟨i, (i + j) / 2, by omega, by omega, rfl, by first | rfl | go_num | (congr 1; omega), ⟨k', by omega, by rw [HE.out, HST.out]; rfl⟩, HG2.out⟩
        case measure => simp [intOf]; omega
    · have hend : Hid (r = i) := Lib.hid (by
        rw [HE.out]
        rcases k with _ | k
        · rfl
        · unfold bsr
          rw [if_neg hlt])
      go_wp2_with fail
      go_ret
      exact ⟨by rw [hend.out]; rfl, HG.out⟩
/-- Where a search ends among rows, and whether the row lies there. -/
def lowB (l : List (List Vl)) (r : List Vl) : Nat := bsr (fun i => decide (0 ≤ cmpR (l.getD i []) r)) l.length 0 l.length
def hasB (l : List (List Vl)) (r : List Vl) : Bool := match l[lowB l r]? with
  | some x => cmpR x r == 0
  | none => false
theorem lowB_le (l : List (List Vl)) (r : List Vl) : lowB l r ≤ l.length := bsr_le _ _ _ _ (Nat.zero_le _)
def SrPost (l : List (List Vl)) (r : List Vl) (w : World) (e : Ending) (w' : World) : Prop := Ext w w' ∧ e = .returned (.tuple #[.int .i64 (lowB l r : Int), .bool (hasB l r)])
theorem searchn_any {F G : Nat → Prop} {w : World} {A B : Option Addr} {n c m d g0 g1 g2 : Nat} {rows : List (List Vl)} {r : List Vl} (k0 : Bk w g0 22 [.slice A n c]) (k1 : Bk w g1 29 [.slice B m d]) (k2 : Bk w g2 30 [.slice none 0 0]) (hA : Sl rdRow F w (.slice A n c) rows) (hB : Sl rdVl G w (.slice B m d) r) (hm : m ≤ 1048576) (hr : ∀ x ∈ rows, x.length ≤ 1048576) (hn : n ≤ 1048576) :
    Calls Try.prog 65 #[.int .i64 (n : Int), .func (.func 66) #[] #[.pointer (some ⟨g0, 0, none⟩), .pointer (some ⟨g1, 0, none⟩), .pointer (some ⟨g2, 0, none⟩)]] w (fun e w' => e = .returned (.int .i64 (lowB rows r : Int)) ∧ Gr w w') := by
  have hnl := hA.cap.1
  have h := search_gen (w := w) (n := n) (g := 66) (cb := #[.pointer (some ⟨g0, 0, none⟩), .pointer (some ⟨g1, 0, none⟩), .pointer (some ⟨g2, 0, none⟩)]) (p := fun i => decide (0 ≤ cmpR (rows.getD i []) r)) (enters_of Try.func66 (by kernel_rfl) rfl) hn (fun V hV i hi => by
    have h1 := searchf_any (k0.ext hV.ext) (k1.ext hV.ext) (k2.ext hV.ext) (hA.ext hV.ext) (hB.ext hV.ext) hm hr hi hn
    exact h1)
  rw [hnl] at h ⊢
  exact h
set_option maxRecDepth 20000 in
set_option maxHeartbeats 1600000 in
theorem rsearch_any {F G : Nat → Prop} {w : World} {A B : Option Addr} {n c m d : Nat} {rows : List (List Vl)} {r : List Vl} (hA : Sl rdRow F w (.slice A n c) rows) (hB : Sl rdVl G w (.slice B m d) r) (hm : m ≤ 1048576) (hr : ∀ x ∈ rows, x.length ≤ 1048576) (hn : n ≤ 1048576) :
    Calls Try.prog 46 #[.slice A n c, .slice B m d, .slice none 0 0] w (SrPost rows r w) := by
  have hnl := hA.cap.1
  have k3 := three_blk w 22 29 30 [.slice A n c] [.slice B m d] [.slice none 0 0]
  have hx : Ext w (((w.alloc (.cells #[.slice A n c] 22)).alloc (.cells #[.slice B m d] 29)).alloc (.cells #[.slice none 0 0] 30)) := (((Ext.refl w).alloc _).alloc _).alloc _
  have HA := Lib.hid hA; have HB := Lib.hid hB; have HR := Lib.hid hr; have HNL := Lib.hid hnl
  have hlow := lowB_le rows r
  rw [← hnl] at hlow
  clear hA hB hr hnl
  go_enter Try.func46, Try.ntmps46
  go_upto_region 1 with fail
  change Bk (((w.alloc (.cells #[.slice A n c] 22)).alloc (.cells #[.slice B m d] 29)).alloc (.cells #[.slice none 0 0] 30)) _ _ _ ∧ Bk (((w.alloc (.cells #[.slice A n c] 22)).alloc (.cells #[.slice B m d] 29)).alloc (.cells #[.slice none 0 0] 30)) _ _ _ ∧ Bk (((w.alloc (.cells #[.slice A n c] 22)).alloc (.cells #[.slice B m d] 29)).alloc (.cells #[.slice none 0 0] 30)) _ _ _ at k3
  generalize (((w.alloc (.cells #[.slice A n c] 22)).alloc (.cells #[.slice B m d] 29)).alloc (.cells #[.slice none 0 0] 30)) = w1 at *
  obtain ⟨ka, kb, kc⟩ := k3
  have HC := Lib.hid (searchn_any ka kb kc (HA.out.ext hx) (HB.out.ext hx) hm HR.out hn)
  have a0 := ka.cell (i := 0) (by simp); have b0 := kb.cell (i := 0) (by simp)
  simp only [List.getElem_cons_zero] at a0 b0
  have HX := Lib.hid hx
  clear ka kb kc hx
  go_wp2_with fail
  refine HC.out.mono ?_
  rintro e w2 ⟨rfl, hg⟩
  replace a0 := hg.cell a0; replace b0 := hg.cell b0
  have HX2 := Lib.hid (HX.out.trans hg.ext)
  obtain ⟨q, hq⟩ : ∃ q, q = lowB rows r := ⟨_, rfl⟩
  have HQ := Lib.hid hq
  rw [← hq] at hlow ⊢
  clear hg hq
  by_cases hlt : q < n
  · have hix : q < rows.length := by have := HNL.out; omega
    have i1 : (0 : Int) ≤ (q : Int) := by omega
    have i2 : (q : Int) < (n : Int) := by omega
    obtain ⟨ad, C, dc, rfl, -, c0, hrow⟩ := HA.out.row hix
    have hrl := HR.out _ (List.getElem_mem hix)
    have HAS : Hid (hasB rows r = (cmpR rows[q] r == 0)) := Lib.hid (by
      unfold hasB
      rw [← HQ.out, List.getElem?_eq_getElem hix])
    obtain ⟨x, hx⟩ : ∃ x, x = rows[q] := ⟨_, rfl⟩
    rw [← hx] at c0 hrow hrl HAS
    obtain ⟨nx, hnx⟩ : ∃ z, z = x.length := ⟨_, rfl⟩
    have HE := Lib.hid (fun (V : World) (hV : Ext w2 V) => requal_any (w := V) (hrow.ext (HX2.out.trans hV)) (HB.out.ext (HX2.out.trans hV)) hrl hm)
    rw [← hnx] at c0 HE
    replace c0 := HX2.out.cell c0
    obtain ⟨z, hz⟩ : ∃ z, z = (cmpR x r == 0) := ⟨_, rfl⟩
    rw [← hz] at HE HAS
    clear hx hrow hrl hnx hz
    go_upto_region 2 with fail
    go_region_held3 (fun V => Ext w2 V ∧ V.cell? ⟨w.heap.size, 0, none⟩ = some (.slice (some ad) n c) ∧ V.cell? ⟨w.heap.size + 1, 0, none⟩ = some (.slice B m d) ∧ V.cell? (ad.add q) = some (.slice C nx dc))
      ((refine (fun he => ⟨he, Ext.cell he a0, Ext.cell he b0, Ext.cell he c0⟩) ?_; repeat (first | exact Ext.refl _ | exact (Ext.refl _).drew | refine Ext.drew ?_ | refine Ext.trans ?_ (by assumption))))
      (first
        | (go_at_call 13; (with_reducible refine (HE.out _ (And.left (by assumption))).mono ?_); rintro e wi ⟨rfl, hgi⟩; have hei := Gr.ext hgi))
    have hfin := And.left (b := _ ∧ _) (by assumption)
    have HXF := Lib.hid (HX2.out.trans hfin)
    clear hfin hei hgi a0 b0 c0
    go_wp2_with fail
    go_ret2
    exact ⟨HXF.out, by rw [HAS.out, ← HQ.out]; rfl⟩
  · have i2 : ¬ (q : Int) < (n : Int) := by omega
    have HAS : Hid (hasB rows r = false) := Lib.hid (by
      unfold hasB
      rw [← HQ.out, List.getElem?_eq_none (by have := HNL.out; omega)])
    go_upto_region 2 with fail
    go_quiet (fail)
    have HXQ := Lib.hid (HX2.out.drewN nq)
    generalize (w2.drewN nq) = Y at *
    clear a0 b0
    go_wp2_with fail
    go_ret2
    exact ⟨HXQ.out, by rw [HAS.out, ← HQ.out]; rfl⟩
end Go.Proofs.Ytjpkaljndfgkjaa.R
