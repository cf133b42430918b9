/- Contracts: row.clone, row.Sort with no directions. -/
import Derived.Test.YtjpkaljndfgkjaaGi
namespace Go.Proofs.Ytjpkaljndfgkjaa.R
open Go.RowKit Go.Maps

/-- All rows, in memory of one's own. -/
def RowsPost (n : Nat) (rows : List (List Vl)) (w : World) (e : Ending) (w' : World) : Prop := Ext w w' ∧ ∃ g us, w.heap.size ≤ g ∧ e = .returned (.slice (some ⟨g, 0, none⟩) n n) ∧ OwR (fun k => g < k) w' g (.slice (some ⟨g, 0, none⟩) n n) n us rows
set_option maxRecDepth 20000 in
set_option maxHeartbeats 3200000 in
theorem clone_any {F : Nat → Prop} {w : World} {A : Option Addr} {n c : Nat} {rows : List (List Vl)} (hA : Sl rdRow F w (.slice A n c) rows) (hr : ∀ x ∈ rows, x.length ≤ 1048576) (hn : n ≤ 1048576) :
    Calls Try.prog 52 #[.slice A n c] w (RowsPost n rows w) := by
  have hnl := hA.cap.1
  have HA := Lib.hid hA; have HR := Lib.hid hr; have HNL := Lib.hid hnl
  obtain ⟨p0, hp0, hx0, hx1, hx2⟩ := info_parts info_row
  clear hA hr hnl
  go_enter Try.func52, Try.ntmps52
  go_upto_region 1 with fail
  obtain ⟨w2, hrun, hown, hgrow⟩ := run_make_full (P := Try.prog) w w.heap.size 22 29 p0 (.slice none 0 0) 1 Try.underlying22 hp0 hx0 hx1 .i64 .i64 n (by rw [hx2]; omega) (by simp only [maxLen]; omega) (Nat.le_refl _)
  have hwg : w.heap.size < w2.heap.size := by
    rcases hown.2 with ⟨h0, -⟩ | ⟨g', cap', cur, e, hb, hc, -⟩
    · cases h0
    · injection e with e1
      injection e1 with e1
      injection e1 with e1
      have := (Array.getElem?_eq_some_iff.1 hc).1
      omega
  have hX2 : Ext w w2 := (Ext.refl w).grown hgrow (fun k hk => by cases hk)
  obtain ⟨cur0, hcur0⟩ : ∃ l, l = (madeCells (Value.cells (.slice none 0 0)) (n * 1)).toList := ⟨_, rfl⟩
  rw [← hcur0] at hown
  have HOWN := Lib.hid hown; have HX2 := Lib.hid hX2
  obtain ⟨g, hg⟩ : ∃ g, g = w.heap.size := ⟨_, rfl⟩
  rw [← hg] at HOWN hrun hwg
  have hwgl : w.heap.size ≤ g := by omega
  have HWG := Lib.hid hwgl
  clear hp0 hx0 hx1 hx2 hown hgrow hX2 hcur0 hg
  go_upto_region 2 with fail
  clear hrun
  go_wp2_with fail
  go_loopw [10] (fun t wr => ∃ (j : Nat) (cur : List Value), j ≤ n ∧ t = .int .i64 (j : Int) ∧ Hid (wr.ownsRow g 29 1 (.slice (some ⟨g, 0, none⟩) n n) n cur) ∧ Hid (∀ q (h : q < rows.length) (h' : q < cur.length), q < j → Sl rdVl (fun k => g < k) wr cur[q] rows[q]) ∧ Fr (fun b => b = g) w2 wr) (fun t _ => n - (intOf t).toNat)
  case atStart => exact ⟨0, cur0, Nat.zero_le _, rfl, HOWN, Lib.hid (fun q h h' h0 => by omega), Fr.refl _ _⟩
  case round =>
    obtain ⟨j, cur, hj, rfl, HOW, HRD, hfr⟩ := hrel
    obtain ⟨W3, rfl⟩ : ∃ W : World, W = wr := ⟨_, rfl⟩
    have HF := Lib.hid hfr
    have hxw : Ext w W3 := hfr.new HX2.out (fun b hb => by omega)
    have HXW := Lib.hid hxw
    have hgl : g < W3.heap.size := by have := hfr.size; omega
    by_cases hlt : j < n
    · have i1 : (0 : Int) ≤ (j : Int) := by omega
      have i2 : (j : Int) < (n : Int) := by omega
      have hjr : j < rows.length := by have := HNL.out; omega
      obtain ⟨ad, B, e, rfl, -, c0, hrow⟩ := HA.out.row hjr
      replace c0 := hxw.cell c0
      have hlen := HR.out _ (List.getElem_mem hjr)
      obtain ⟨xr, hxr⟩ : ∃ q, q = rows[j]'hjr := ⟨_, rfl⟩
      rw [← hxr] at c0 hrow hlen
      have HXRJ := Lib.hid hxr
      have HP := Lib.hid (fun (V : World) (hV : Ext w V) => clone_row (w := V) (hrow.ext hV) hlen)
      obtain ⟨⟨o0, p0⟩, f0⟩ := own_cellS HOW.out (i := j) (by omega)
      obtain ⟨nx, hnx⟩ : ∃ q, q = xr.length := ⟨_, rfl⟩
      rw [← hnx] at c0 HP
      clear hrow hlen hnx hxr hfr hxw
      go_wp2_with fail
      refine (HP.out _ HXW.out).mono ?_
      rintro e w5 ⟨y, rfl, he5, A5, c5, rfl, hy⟩
      replace p0 := he5.cell p0
      have ho5 := own_ext' HOW.out he5
      have f5 := (own_cellS ho5 (i := j) (by omega)).2
      have hy2 := hy.mono (G := fun k => g < k) (by decide) (fun k _ hk => by omega)
      have hf6 := (HF.out.ext he5).setCell (p := ⟨g, j, none⟩) (.inl rfl) (.slice A5 nx c5)
      have ho6 := own_setc ho5 (i := j) (by omega) (.slice A5 nx c5)
      have hst : Fr (fun k => k = g) w5 (w5.setCell ⟨g, j, none⟩ (.slice A5 nx c5)) := (Fr.refl (fun k => k = g) w5).setCell (p := ⟨g, j, none⟩) (.inl rfl) _
      have HF6 := Lib.hid hf6; have HO6 := Lib.hid ho6
      have HRD6 : Hid (∀ q (h : q < rows.length) (h' : q < (cur.set j (.slice A5 nx c5)).length), q < j + 1 → Sl rdVl (fun k => g < k) (w5.setCell ⟨g, j, none⟩ (.slice A5 nx c5)) (cur.set j (.slice A5 nx c5))[q] rows[q]) := Lib.hid (fun q h h' h0 => by
        by_cases hqj : q = j
        · subst hqj
          rw [List.getElem_set_self, ← HXRJ.out]
          exact hy2.fr hst (fun k hk e => by omega)
        · rw [List.getElem_set_ne (fun e => hqj e.symm)]
          exact ((HRD.out q h (by simpa using h') (by omega)).ext he5).fr hst (fun k hk e => by omega))
      clear he5 ho5 hy hy2 hf6 ho6 hst f0 c0
      go_wp2_with fail
      go_roundw
      case rel => exact ⟨j + 1, _, by omega, by go_num, HO6, HRD6, HF6.out⟩
      case measure => simp [intOf]; omega
    · obtain rfl : j = n := by omega
      have hdj : ¬ (j : Int) < (j : Int) := by omega
      have HQ : Hid (RowsPost j rows w (.returned (.slice (some ⟨g, 0, none⟩) j j)) W3) := Lib.hid ⟨HXW.out, g, cur, HWG.out, rfl, HOW.out, by have := HOW.out.1; have := HNL.out; omega, fun q h h' => (HRD.out q h h' (by have := HNL.out; omega)).mono (by decide) (fun k _ hk => ⟨hk, fun e => by
        have e2 : g = k := by injection e
        omega⟩)⟩
      clear hfr hxw
      go_wp2_with fail
      go_ret
      exact HQ.out
/-- Sort's comparison, where no directions are given. -/
theorem cmpc_any {F G : Nat → Prop} {w : World} {gb : Nat} {A B : Option Addr} {n c m d : Nat} {xs ys : List Vl} (hbox : w.cell? ⟨gb, 0, none⟩ = some (.slice none 0 0)) (hA : Sl rdVl F w (.slice A n c) xs) (hB : Sl rdVl G w (.slice B m d) ys) (hn : n ≤ 1048576) (hm : m ≤ 1048576) :
    Calls Try.prog 54 #[.slice A n c, .slice B m d, .pointer (some ⟨gb, 0, none⟩)] w (fun e w' => e = .returned (.int .i64 (cmpR xs ys)) ∧ Gr w w') := by
  have H := Lib.hid (rcompby_any hA hB hn hm)
  obtain ⟨z, hz⟩ : ∃ z, z = cmpR xs ys := ⟨_, rfl⟩
  rw [← hz] at H ⊢
  clear hA hB hz
  go_enter Try.func54, Try.ntmps54
  go_wp2_with fail
  refine H.out.mono ?_
  rintro e w1 ⟨rfl, hg⟩
  have HG := Lib.hid hg
  clear hg
  go_wp2_with fail
  go_ret
  exact ⟨rfl, HG.out⟩
/-- What Sort leaves: the rows, in another order, in memory of their own. -/
def SortPost (n : Nat) (rows : List (List Vl)) (w : World) (e : Ending) (w' : World) : Prop := Ext w w' ∧ ∃ g us rows', w.heap.size ≤ g ∧ e = .returned (.slice (some ⟨g, 0, none⟩) n n) ∧ rows'.Perm rows ∧ OwR (fun k => g < k) w' g (.slice (some ⟨g, 0, none⟩) n n) n us rows'
section
variable {F : Nat → Prop} {w : World} {g : Nat}
theorem PrV.swo : Go.Sort.SWO (Go.Proofs.ltOf (PrV.cf (F := F) (w := w) (g := g))) where
  irrefl x := by
    unfold Go.Proofs.ltOf PrV.cf
    rw [cmp_row.self]
    rfl
  trans x y z h1 h2 := by
    unfold Go.Proofs.ltOf PrV.cf at *
    rw [decide_eq_true_eq] at *
    exact cmp_row.trans _ _ _ h1 h2
  ntrans x y z h1 h2 := by
    unfold Go.Proofs.ltOf PrV.cf at *
    rw [decide_eq_false_iff_not] at *
    intro h3
    have a1 := cmp_row.anti x.row y.row
    have a2 := cmp_row.anti y.row z.row
    have a3 := cmp_row.anti x.row z.row
    have := cmp_row.le_trans (a := z.row) (b := y.row) (d := x.row) (by omega) (by omega)
    omega
end
theorem sorted_own {F : Nat → Prop} {w : World} {base n g cap gb : Nat} {us : List Value} {rows : List (List Vl)} (h : OwR F w base (.slice (some ⟨g, 0, none⟩) n cap) n us rows) (hbox : w.cell? ⟨gb, 0, none⟩ = some (.slice none 0 0)) (hne : gb ≠ g) (hr : ∀ x ∈ rows, x.length ≤ 1048576) (hn : n ≤ 1048576) :
    Calls Try.prog 53 #[.slice (some ⟨g, 0, none⟩) n cap, .func (.func 54) #[] #[.pointer (some ⟨gb, 0, none⟩)]] w (fun e w' => e = .returned (.tuple #[]) ∧ w.grownBy w' (some g) ∧ ∃ us' rows', rows'.Perm rows ∧ OwR F w' base (.slice (some ⟨g, 0, none⟩) n cap) n us' rows') := by
  obtain ⟨l, hl1, hl2⟩ := h.prs hr
  have hnu := h.num
  have hll : l.length = n := by rw [hnu, ← hl1, List.length_map]
  rcases h.own.2 with ⟨h0, -⟩ | ⟨g', cap', cur, e, hb, hc, h1, h2, h3, h4⟩
  · cases h0
  injection e with e1 e2 e3
  injection e1 with e1
  injection e1 with e1
  subst e1 e3
  rw [Nat.mul_one] at h4
  have hh := holds_own (l := l) PrV.enc hc (by rw [hll, hl1, ← h4])
  have hlt : g < w.heap.size := (Array.getElem?_eq_some_iff.1 hc).1
  have hcl : Go.Proofs.CmpLays1 Try.prog 54 #[.pointer (some ⟨gb, 0, none⟩)] (PrV.enc (F := F) (w := w) (g := g)) PrV.cf g 0 l.toArray.size w := by
    intro m os dk _ x y
    have hf := grown_fr (fr_sorted (w := w) (g := g) PrV.enc m dk os)
    obtain ⟨⟨v1, r1⟩, q1, l1⟩ := x
    obtain ⟨⟨v2, r2⟩, q2, l2⟩ := y
    simp only at q1 l1 q2 l2
    have k1 := q1.fr hf (fun k hk e => hk.2 e)
    have k2 := q2.fr hf (fun k hk e => hk.2 e)
    obtain ⟨A, c, rfl⟩ := k1.sl
    obtain ⟨B, d, rfl⟩ := k2.sl
    exact cmpc_any (hf.cell hbox (fun e => hne (by injection e with e; exact e.symm))) k1 k2 l1 l2
  have hcon := sortStable_any (cap := cap) (d0 := l.toArray) (enc := PrV.enc (F := F) (w := w) (g := g)) ⟨PrV.one, hh, hlt⟩ (enters_of Try.func54 (by kernel_rfl) rfl) hcl PrV.swo ⟨_, rfl, Go.Sort.permIn_refl _ _ _, Go.Proofs.SW.start hh⟩ (by simp; omega)
  rw [show l.toArray.size = n by simp [hll]] at hcon
  refine hcon.mono ?_
  rintro e w' ⟨rfl, d', hsz, ⟨-, -, hperm⟩, m, os, rfl⟩
  have hds : d'.size = n := by rw [hsz]; simp [hll]
  have hx1 : (d'.extract 0 n).toList = d'.toList := by rw [← hds]; simp
  have hx2 : (l.toArray.extract 0 n).toList = l := by rw [← hll]; simp
  rw [show l.toArray.size = n by simp [hll], hx1, hx2] at hperm
  have hg : w.grownBy (Go.Proofs.sortWorld PrV.enc w g 0 m d' os) (some g) := fr_sorted _ _ _ _
  refine ⟨rfl, hg, d'.toList.map PrV.enc, d'.toList.map PrV.row, ?_, own_sorted _ hds hb hc h1 h2 h3, by simp, fun i hi hi' => ?_⟩
  · rw [← hl2]
    exact hperm.map _
  · rw [List.getElem_map, List.getElem_map]
    exact (d'.toList[i]'(by simpa using hi)).2.1.fr (grown_fr hg) (fun k hk e => hk.2 e)
set_option maxRecDepth 20000 in
set_option maxHeartbeats 1600000 in
theorem sort_any {F : Nat → Prop} {w : World} {A : Option Addr} {n c : Nat} {rows : List (List Vl)} (hA : Sl rdRow F w (.slice A n c) rows) (hr : ∀ x ∈ rows, x.length ≤ 1048576) (hn : n ≤ 1048576) :
    Calls Try.prog 30 #[.slice A n c, .slice none 0 0] w (SortPost n rows w) := by
  have kb := Bk.new w 30 [.slice none 0 0]
  have hx : Ext w (w.alloc (.cells #[.slice none 0 0] 30)) := (Ext.refl w).alloc _
  change Bk (w.alloc (.cells #[.slice none 0 0] 30)) _ _ _ at kb
  have HCL := Lib.hid (clone_any (hA.ext hx) hr hn)
  have HR := Lib.hid hr
  go_enter Try.func30, Try.ntmps30
  go_upto_region 1 with fail
  generalize (w.alloc (.cells #[.slice none 0 0] 30)) = w1 at *
  have HKB := Lib.hid kb; have HX := Lib.hid hx
  have hw1 : w.heap.size < w1.heap.size := kb.lt
  clear kb hx hA hr
  go_wp2_with fail
  refine HCL.out.mono ?_
  rintro e w2 ⟨he2, g, us, hg, rfl, how⟩
  have HOW := Lib.hid how; have HE := Lib.hid he2
  have hbx := (HKB.out.ext he2).cell (i := 0) (by simp)
  simp only [List.getElem_cons_zero] at hbx
  have HBX := Lib.hid hbx
  clear how he2 hbx
  go_wp2_with fail
  refine (sorted_own HOW.out HBX.out (by omega) HR.out hn).mono ?_
  rintro e w3 ⟨rfl, hgr, us', rows', hp, ho⟩
  have HQ : Hid (SortPost n rows w (.returned (.slice (some ⟨g, 0, none⟩) n n)) w3) := Lib.hid ⟨(HX.out.trans HE.out).grown hgr (fun k hk => by injection hk with hk; omega), g, us', rows', by omega, rfl, hp, ho⟩
  clear hgr hp ho
  go_wp2_with fail
  go_ret
  exact HQ.out
end Go.Proofs.Ytjpkaljndfgkjaa.R
