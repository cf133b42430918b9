/- Contract: numbers.atoms. -/
import Derived.Test.YtiahaofjmcjdiaaDoorHa
namespace Go.Proofs.YtiahaofjmcjdiaaDoor
open Go.RowKit

theorem info_int : (Tryd.prog.info? 3).map (fun i => (i.zero, i.size, i.bytes)) = some (some (.int .i64 0), 1, 8) := by kernel_rfl
theorem info_ratom : (Tryd.prog.info? 58).map (fun i => (i.zero, i.size, i.bytes)) = some (some (.agg #[.string ⟨#[]⟩, .slice none 0 0]), 2, 40) := by kernel_rfl

/-- After i atoms. -/
structure AtI (w wr : World) (base g : Nat) (v : Value) (ts : List Tm) (xs : List At) (i : Nat) (t vn : Value) (ws : List Value) : Prop where
  num : NumB wr base g vn (tabT ts (allT (xs.take i)))
  fr : Fr (fun k => k = g ∨ v.ownBlock = some k) w wr
  land : vn.ownBlock = v.ownBlock ∨ ∀ k, vn.ownBlock = some k → w.heap.size ≤ k
  row : wr.ownsRow w.heap.size 58 2 t i (rcells ((xs.take i).map (rat (tabT ts (allT (xs.take i))))) ws)
  len : ws.length = i
  ins : ∀ j (h : j < xs.length) (h' : j < ws.length), Ins (fun k => w.heap.size ≤ k ∧ vn.ownBlock ≠ some k ∧ t.ownBlock ≠ some k) wr ws[j] ((xs[j]).terms.map (numT (tabT ts (allT (xs.take i)))))

theorem AtI.start {w w1 : World} {base g : Nat} {v : Value} {ts : List Tm} {xs : List At} (h : NumB w base g v ts) (he : Ext w w1) : AtI w w1 base g v ts xs 0 (.slice none 0 0) v [] :=
  ⟨h.ext he, he.fr _, .inl rfl, World.ownsRow_nil _ _ _ _, rfl, fun j _ h => by simp at h⟩

theorem allT_take {xs : List At} {i : Nat} (h : i < xs.length) : allT (xs.take (i + 1)) = allT (xs.take i) ++ xs[i].terms := by
  unfold allT
  rw [List.take_succ_eq_append_getElem h, List.flatMap_append, List.flatMap_cons, List.flatMap_nil, List.append_nil]
theorem allT_le {xs : List At} (i : Nat) : (allT (xs.take i)).length ≤ (allT xs).length := by
  have h : xs = xs.take i ++ xs.drop i := (List.take_append_drop i xs).symm
  have e : allT xs = allT (xs.take i) ++ allT (xs.drop i) := by simp only [allT]; rw [← List.flatMap_append, ← h]
  rw [e]; simp
theorem mem_allT {xs : List At} {j i : Nat} (hj : j < xs.length) (hji : j < i) {t : Tm} (ht : t ∈ xs[j].terms) : t ∈ allT (xs.take i) := by
  refine List.mem_flatMap.2 ⟨xs[j], ?_, ht⟩
  exact List.mem_take_iff_getElem.2 ⟨j, by omega, rfl⟩

/-- What atoms leaves. -/
def AtomsPost (base g : Nat) (v : Value) (ts : List Tm) (xs : List At) (w : World) (e : Ending) (w' : World) : Prop :=
  ∃ x v', e = .returned x ∧ NumB w' base g v' (tabT ts (allT xs)) ∧ Fr (fun k => k = g ∨ v.ownBlock = some k) w w' ∧ (v'.ownBlock = v.ownBlock ∨ ∀ k, v'.ownBlock = some k → w.heap.size ≤ k) ∧
    Ras (fun k => w.heap.size ≤ k ∧ v'.ownBlock ≠ some k) w' x (xs.map (rat (tabT ts (allT xs))))

theorem AtI.done {w wr : World} {base g : Nat} {v t vn : Value} {ts : List Tm} {xs : List At} {ws : List Value} {i : Nat} (h : AtI w wr base g v ts xs i t vn ws) (hi : i = xs.length) : AtomsPost base g v ts xs w (.returned t) wr := by
  subst hi
  obtain ⟨h1, h2, h3, h4, h5, h6⟩ := h
  rw [List.take_length] at h1 h4 h6
  refine ⟨t, vn, rfl, h1, h2, h3, ?_⟩
  obtain ⟨A, c, rfl, hc, hcl⟩ := Cl.of_own h4
  refine ⟨A, c, ws, by simp, by simpa using hc, by simpa using h5, hcl.mono (fun k _ hk => ⟨hk.2, own_ne h4 h1.row (by decide) hk.1⟩), fun j hj hj' => ?_⟩
  simp only [List.getElem_map, rat]
  exact (h6 j (by simpa using hj) hj').mono (fun k _ hk => ⟨hk.1, hk.2.1⟩)

theorem AtI.step {w wr wx wb w9 : World} {base g B i m : Nat} {v t t' vn vm vi : Value} {ts : List Tm} {xs : List At} {ws : List Value} (hix : i < xs.length) (hg : g < w.heap.size) (h : AtI w wr base g v ts xs i t vn ws)
    (hnum : NumB wx base g vm (tabT (tabT ts (allT (xs.take i))) xs[i].terms)) (hB : wr.heap.size ≤ B) (hrow : wx.ownsRow B 3 1 vi m ((xs[i].terms.map (numT (tabT (tabT ts (allT (xs.take i))) xs[i].terms))).map I64))
    (hfr : Fr (fun k => k = g ∨ vn.ownBlock = some k) wr wx) (hland : vm.ownBlock = vn.ownBlock ∨ ∀ k, vm.ownBlock = some k → wr.heap.size ≤ k) (he : Ext wx wb)
    (hap : w9.ownsRow w.heap.size 58 2 t' (i + 1) (rcells ((xs.take i).map (rat (tabT ts (allT (xs.take i))))) ws ++ [.string xs[i].rel, vi])) (hgr : wb.grownBy w9 t.ownBlock) (hL : Lands wb t t') : AtI w w9 base g v ts xs (i + 1) t' vm (ws ++ [vi]) := by
  have eT : tabT (tabT ts (allT (xs.take i))) xs[i].terms = tabT ts (allT (xs.take (i + 1))) := by rw [allT_take hix, tabT_append]
  rw [eT] at hnum hrow
  have hp : tabT ts (allT (xs.take i)) <+: tabT ts (allT (xs.take (i + 1))) := by rw [← eT]; exact tabT_pre _ _
  have htg : ∀ k, t.ownBlock = some k → k ≠ g := fun k hk => own_bk h.row h.num.cell (by decide) hk
  have htv : ∀ k, t.ownBlock = some k → vn.ownBlock ≠ some k := fun k hk => own_ne h.row h.num.row (by decide) hk
  have htw : ∀ k, t.ownBlock = some k → w.heap.size ≤ k ∧ k < wr.heap.size := fun k hk => h.row.lt k hk
  have hrx := own_fr h.row hfr (fun k hk hs => by rcases hs with hs | hs; exact htg k hk hs; exact htv k hk hs)
  have hwr : w.heap.size ≤ wr.heap.size := h.fr.size
  have hxb : wx.heap.size ≤ wb.heap.size := he.size
  have hrx2 : wr.heap.size ≤ wx.heap.size := hfr.size
  have hvi := own_fr (hrow.kept (row := none) (w' := wb) ⟨he.os, he.tape, he.output, he.size, fun _ hk _ => he.heap hk⟩ (by cases vi.ownBlock <;> simp)) (grown_fr hgr) (fun k hk hs => own_ne hrow hrx (by decide) hk hs)
  refine ⟨?_, ?_, ?_, ?_, by simp [h.len], ?_⟩
  · exact (hnum.ext he).fr (grown_fr hgr) (fun hs => htg g hs rfl) (fun k hk hs => own_ne hnum.row hrx (by decide) hk hs)
  · refine Fr.comp ((h.fr.comp hfr (fun k hk => ?_)).ext he) (grown_fr hgr) (fun k hk => .inr (htw k hk).1)
    rcases hk with hk | hk
    · exact .inl (.inl hk)
    · rcases h.land with hl | hl
      · exact .inl (.inr (hl ▸ hk))
      · exact .inr (hl k hk)
  · rcases hland with hl | hl
    · rw [hl]; exact h.land
    · exact .inr (fun k hk => by have := hl k hk; omega)
  · rw [List.take_succ_eq_append_getElem hix, List.map_append, List.map_cons, List.map_nil, rcells_snoc (by simp [h.len]; omega)]
    have e : (xs.take i).map (rat (tabT ts (allT (xs.take i)))) = (xs.take i).map (rat (tabT ts (allT (xs.take (i + 1))))) := List.map_congr_left (fun a ha => by
      obtain ⟨j, hj, rfl⟩ := List.mem_take_iff_getElem.1 ha
      exact (rat_pre (fun u hu => tabT_mem (mem_allT (by omega) (by omega) hu)) hp).symm)
    rw [List.take_succ_eq_append_getElem hix] at e
    rw [← e]
    exact hap
  · intro j hj hj'
    rw [List.length_append, h.len] at hj'
    by_cases hji : j < i
    · rw [List.getElem_append_left (by rw [h.len]; exact hji)]
      have h0 := h.ins j hj (by rw [h.len]; exact hji)
      have e : xs[j].terms.map (numT (tabT ts (allT (xs.take i)))) = xs[j].terms.map (numT (tabT ts (allT (xs.take (i + 1))))) := List.map_congr_left (fun u hu => (numT_pre (tabT_mem (mem_allT hj hji hu)) hp).symm)
      rw [e] at h0
      have h1 := h0.mono (G := fun k => (w.heap.size ≤ k ∧ vn.ownBlock ≠ some k ∧ t.ownBlock ≠ some k) ∧ k < wr.heap.size) (fun k hk hF => ⟨hF, hk⟩)
      have h2 := ((h1.fr hfr (fun k hk hs => by rcases hs with hs | hs; (have := hk.1.1; omega); exact hk.1.2.1 hs)).ext he).fr (grown_fr hgr) (fun k hk hs => hk.1.2.2 hs)
      refine h2.mono (fun k _ hk => ⟨hk.1.1, ?_, ?_⟩)
      · rcases hland with hl | hl
        · rw [hl]; exact hk.1.2.1
        · intro e; have := hl k e; omega
      · rcases hL with hl | hl
        · rw [hl]; exact hk.1.2.2
        · rw [hl]; intro e; injection e with e; omega
    · obtain rfl : j = i := by simp at hj'; omega
      rw [List.getElem_append_right (by rw [h.len]; omega)]
      simp only [h.len, Nat.sub_self, List.getElem_cons_zero]
      refine (Ins.of_own hvi).mono (fun k _ hk => ⟨by omega, ?_, own_ne hvi hap (by decide) hk.1⟩)
      exact own_ne hrow hnum.row (by decide) hk.1

/-- After j terms of an atom. -/
structure InI (wr wx : World) (base g B b : Nat) (vn : Value) (T0 : List Tm) (rel : ByteArray) (l : List Tm) (j : Nat) (vi vm : Value) : Prop where
  num : NumB wx base g vm (tabT T0 (l.take j))
  bk : Bk wx b 58 [.string rel, vi]
  row : wx.ownsRow B 3 1 vi j (((l.take j).map (numT (tabT T0 (l.take j)))).map I64)
  fr : Fr (fun k => k = g ∨ vn.ownBlock = some k) wr wx
  land : vm.ownBlock = vn.ownBlock ∨ ∀ k, vm.ownBlock = some k → wr.heap.size ≤ k
  size : B ≤ wx.heap.size

theorem InI.step {wr wx wx1 wa wb w9 : World} {base g B b j : Nat} {vn vi vm va v9 : Value} {T0 : List Tm} {rel : ByteArray} {l : List Tm} (hjl : j < l.length) (h : InI wr wx base g B b vn T0 rel l j vi vm) (hb : wr.heap.size ≤ b) (hBr : wr.heap.size ≤ B) (e1 : Ext wx wx1)
    (hna : NumB wa base g va (addT (tabT T0 (l.take j)) l[j])) (hfa : Fr (fun k => k = g ∨ vm.ownBlock = some k) wx1 wa) (hla : va.ownBlock = vm.ownBlock ∨ ∀ k, va.ownBlock = some k → wx1.heap.size ≤ k) (e2 : Ext wa wb)
    (hap : w9.ownsRow B 3 1 v9 (j + 1) (((l.take j).map (numT (tabT T0 (l.take j)))).map I64 ++ [I64 (numT (tabT T0 (l.take j)) l[j])])) (hgr : wb.grownBy w9 vi.ownBlock) :
    InI wr (w9.setCell ⟨b, 1, none⟩ v9) base g B b vn T0 rel l (j + 1) v9 va := by
  have eT : tabT T0 (l.take (j + 1)) = addT (tabT T0 (l.take j)) l[j] := by rw [List.take_succ_eq_append_getElem hjl, tabT_snoc]
  have hgx : g < wx.heap.size := h.num.cell.lt
  have hbx : b < wx.heap.size := h.bk.lt
  have s1 := e1.size; have s2 := hfa.size; have s3 := e2.size; have s4 := h.fr.size
  have hbg : b ≠ g := h.bk.ne (o := [vm].toArray) h.num.cell (by decide)
  have hbm : vm.ownBlock ≠ some b := fun e => own_bk h.num.row h.bk (by decide) e rfl
  have hbi : vi.ownBlock ≠ some b := fun e => own_bk h.row h.bk (by decide) e rfl
  have hri : ∀ k, vi.ownBlock = some k → B ≤ k ∧ k < wx.heap.size := fun k hk => h.row.lt k hk
  have higx : ∀ k, vi.ownBlock = some k → k ≠ g := fun k hk => own_bk h.row h.num.cell (by decide) hk
  have hivm : ∀ k, vi.ownBlock = some k → vm.ownBlock ≠ some k := fun k hk => own_ne h.row h.num.row (by decide) hk
  have hk0 : Bk wb b 58 [.string rel, vi] := (((h.bk.ext e1).fr hfa (fun hs => by rcases hs with hs | hs; exact hbg hs; exact hbm hs))).ext e2
  have hk9 : Bk w9 b 58 [.string rel, vi] := hk0.fr (grown_fr hgr) (fun hs => hbi hs)
  have hn9 : NumB w9 base g va (addT (tabT T0 (l.take j)) l[j]) := (hna.ext e2).fr (grown_fr hgr) (fun hs => higx g hs rfl) (fun k hk hs => by
    rcases hla with hl | hl
    · exact hivm k hs (hl ▸ hk)
    · have := hl k hk; have := (hri k hs).2; omega)
  have hset : Fr (fun k => k = b) w9 (w9.setCell ⟨b, 1, none⟩ v9) := Fr.setCell (S := fun k => k = b) (Fr.refl _ w9) (p := ⟨b, 1, none⟩) (.inl rfl) v9
  refine ⟨?_, ?_, ?_, ?_, ?_, ?_⟩
  · rw [eT]
    exact hn9.fr hset (fun e => hbg e.symm) (fun k hk e => by
      subst e
      exact own_bk hn9.row hk9 (by decide) hk rfl)
  · exact hk9.set 1 v9
  · rw [eT, List.take_succ_eq_append_getElem hjl, List.map_append, List.map_append]
    have e3 : (l.take j).map (numT (addT (tabT T0 (l.take j)) l[j])) = (l.take j).map (numT (tabT T0 (l.take j))) := List.map_congr_left (fun u hu => numT_pre (tabT_mem hu) (addT_pre _ _))
    rw [e3]
    simp only [List.map_cons, List.map_nil, numT_add]
    exact own_fr hap hset (fun k hk e => by
      subst e
      exact own_bk hap hk9 (by decide) hk rfl)
  · refine Fr.setCell (Fr.comp (((h.fr.ext e1).comp hfa (fun k hk => ?_)).ext e2) (grown_fr hgr) (fun k hk => .inr (by have := (hri k hk).1; omega))) (.inr hb) _
    rcases hk with hk | hk
    · exact .inl (.inl hk)
    · rcases h.land with hl | hl
      · exact .inl (.inr (hl ▸ hk))
      · exact .inr (hl k hk)
  · rcases hla with hl | hl
    · rw [hl]; exact h.land
    · exact .inr (fun k hk => by have := hl k hk; omega)
  · have := hgr.size
    have : w9.heap.size ≤ (w9.setCell ⟨b, 1, none⟩ v9).heap.size := hset.size
    have := h.size
    omega

set_option maxRecDepth 20000 in
set_option maxHeartbeats 1600000 in
theorem atoms_any {F : Nat → Prop} {w : World} {base g nc cc : Nat} {v sv : Value} {Ac : Option Addr} {ts : List Tm} {xs : List At} (h : NumB w base g v ts) (hr : Ats F w sv xs) (hF : ∀ k, F k → k ≠ g ∧ v.ownBlock ≠ some k) (hl : ts.length + (allT xs).length ≤ 1048576) (hn : xs.length ≤ 1048576) (hbase : base ≤ w.heap.size) (hFW : ∀ k, F k → k < w.heap.size) :
    Calls Tryd.prog 11 #[.pointer (some ⟨g, 0, none⟩), .agg #[sv, .slice Ac nc cc]] w (AtomsPost base g v ts xs w) := by
  obtain ⟨A, c, vs, rfl, hc, hvs, hcl, hts⟩ := hr
  obtain ⟨n, hnn⟩ : ∃ n, n = xs.length := ⟨_, rfl⟩
  rw [← hnn] at hn hc ⊢
  have HN := Lib.hid hnn; have HVS := Lib.hid hvs; have HCL := Lib.hid hcl; have HTS := Lib.hid hts; have HF := Lib.hid hF; have HH := Lib.hid h; have HL := Lib.hid hl
  clear hnn hvs hcl hts hF h hl
  go_enter Tryd.func11, Tryd.ntmps11
  go_wp2_with fail
  have hx1 : Ext w (w.alloc (.cells #[.slice A n c, .slice Ac nc cc] 25)) := (Ext.refl w).alloc _
  generalize (w.alloc (.cells #[.slice A n c, .slice Ac nc cc] 25)) = w1 at *
  go_loopw [5, 14] (fun t q wr => ∃ (i : Nat) (vn : Value) (ws : List Value), i ≤ n ∧ q = .int .i64 (i : Int) ∧ AtI w wr base g v ts xs i t vn ws) (fun _ q _ => n - (intOf q).toNat)
  case atStart => exact ⟨0, v, [], Nat.zero_le _, rfl, AtI.start HH.out hx1⟩
  case round =>
    clear hx1
    obtain ⟨i, vn, ws, hi, rfl, hI⟩ := hrel
    obtain ⟨wo, rfl⟩ : ∃ wo : World, wo = wr := ⟨_, rfl⟩
    have HI := Lib.hid hI
    by_cases hlt : i < n
    · have i1 : (0 : Int) ≤ (i : Int) := by omega
      have i2 : (i : Int) < (n : Int) := by omega
      have hix : i < xs.length := by have := HN.out; omega
      have hiv : i < vs.length := by have := HVS.out; omega
      obtain ⟨ad, rfl, hFa, c0, c1, c2⟩ := HCL.out.atom (i := i) hix hiv
      have hnS : ∀ k, F k → ¬ (k = g ∨ v.ownBlock = some k) := fun k hk h => by rcases h with h | h; exact (HF.out k hk).1 h; exact (HF.out k hk).2 h
      replace c0 := hI.fr.cell c0 (by rw [block_add]; exact hnS _ hFa)
      replace c1 := hI.fr.cell c1 (by simp only [block_add]; exact hnS _ hFa)
      replace c2 := hI.fr.cell c2 (by simp only [block_add]; exact hnS _ hFa)
      have htn := (HTS.out i hix hiv).fr hI.fr hnS
      obtain ⟨a, ha⟩ : ∃ a, a = xs[i] := ⟨_, rfl⟩
      rw [← ha] at c0 c1 htn
      obtain ⟨At', ct, htv, hct, htcl⟩ := htn
      rw [htv] at c2
      have HA := Lib.hid ha; have HTC := Lib.hid htcl; have HNS := Lib.hid hnS
      have HFW := Lib.hid hFW
      obtain ⟨nt, hnt⟩ : ∃ nt, nt = a.terms.length := ⟨_, rfl⟩
      rw [← hnt] at c2 hct
      have HNT := Lib.hid hnt
      have hnt2 : nt ≤ 1048576 := by
        have h1 := allT_le (xs := xs) (i + 1)
        rw [allT_take hix, List.length_append, ← ha] at h1
        have := HL.out; omega
      obtain ⟨At2, ct2, rfl⟩ := own_slice hI.row
      clear htcl hnS ha htv hnt hI hFa
      go_wp2_with fail
      have hx2 : Ext wo ((wo.alloc (.cells #[.bool a.neg, .string a.rel, .slice At' nt ct] 61)).alloc (.cells #[.string a.rel, .slice none 0 0] 58)) := ((Ext.refl wo).alloc _).alloc _
      have kb : Bk ((wo.alloc (.cells #[.bool a.neg, .string a.rel, .slice At' nt ct] 61)).alloc (.cells #[.string a.rel, .slice none 0 0] 58)) (wo.heap.size + 1) 58 [.string a.rel, .slice none 0 0] := by
        have h := Bk.new (wo.alloc (.cells #[.bool a.neg, .string a.rel, .slice At' nt ct] 61)) 58 [.string a.rel, .slice none 0 0]
        rw [show (wo.alloc (.cells #[.bool a.neg, .string a.rel, .slice At' nt ct] 61)).heap.size = wo.heap.size + 1 by simp] at h
        exact h
      generalize ((wo.alloc (.cells #[.bool a.neg, .string a.rel, .slice At' nt ct] 61)).alloc (.cells #[.string a.rel, .slice none 0 0] 58)) = V at *
      obtain ⟨T0, hT0⟩ : ∃ T0, T0 = tabT ts (allT (xs.take i)) := ⟨_, rfl⟩
      have HT0 := Lib.hid hT0
      clear hT0 c0 c1 c2
      go_loopw [24] (fun q wx => ∃ (j : Nat) (vi vm : Value), j ≤ nt ∧ q = .int .i64 (j : Int) ∧ InI wo wx base g (wo.heap.size + 1 + 1) (wo.heap.size + 1) vn T0 a.rel a.terms j vi vm) (fun q _ => nt - (intOf q).toNat)
      case atStart => exact ⟨0, .slice none 0 0, vn, Nat.zero_le _, rfl, by rw [HT0.out]; exact HI.out.num.ext hx2, kb, World.ownsRow_nil _ _ _ _, hx2.fr _, .inl rfl, by have := kb.lt; omega⟩
      case round =>
        clear kb
        obtain ⟨j, vi, vm, hj, rfl, hJ⟩ := hrel
        by_cases hjt : j < nt
        · have j1 : (0 : Int) ≤ (j : Int) := by omega
          have j2 : (j : Int) < (nt : Int) := by omega
          have hjl : j < a.terms.length := by have := HNT.out; omega
          obtain ⟨ad2, rfl, hF2, d0, d1, d2, d3⟩ := HTC.out.term (i := j) hjl
          have hnS2 : ∀ k, F k → ¬ (k = g ∨ vn.ownBlock = some k) := fun k hk h => by
            rcases h with h | h
            · exact HNS.out k hk (.inl h)
            · rcases HI.out.land with hl | hl
              · exact HNS.out k hk (.inr (hl ▸ h))
              · exact absurd (HFW.out k hk) (by have := hl k h; omega)
          replace d0 := hJ.fr.cell d0 (by rw [block_add]; exact hnS2 _ hF2)
          replace d1 := hJ.fr.cell d1 (by simp only [block_add]; exact hnS2 _ hF2)
          replace d2 := hJ.fr.cell d2 (by simp only [block_add]; exact hnS2 _ hF2)
          replace d3 := hJ.fr.cell d3 (by simp only [block_add]; exact hnS2 _ hF2)
          obtain ⟨x, hx⟩ : ∃ x, x = a.terms[j] := ⟨_, rfl⟩
          rw [← hx] at d0 d1 d2 d3
          have HX := Lib.hid hx
          obtain ⟨Ai, ci, rfl⟩ := own_slice hJ.row
          have HJ := Lib.hid hJ
          have hbb := hJ.bk.lt
          have hbd := hJ.bk.cell (i := 1) (by simp)
          simp only [List.getElem_cons_zero, List.getElem_cons_succ] at hbd
          clear hx hF2 hnS2 hJ
          go_upto_region 9 with fail
          obtain ⟨i0, hi0, hz0, hz1, hz2⟩ := info_parts info_int
          have HI0 := Lib.hid (And.intro hi0 (And.intro hz0 (And.intro hz1 hz2))); clear hi0 hz0 hz1 hz2
          have kt := Bk.new wr 47 [.string x.var, .int .i64 x.kind, .int .i64 x.int, .string x.str]
          change Bk (wr.alloc (.cells #[.string x.var, .int .i64 x.kind, .int .i64 x.int, .string x.str] 47)) _ _ _ at kt
          have hx3 : Ext wr (wr.alloc (.cells #[.string x.var, .int .i64 x.kind, .int .i64 x.int, .string x.str] 47)) := (Ext.refl wr).alloc _
          generalize (wr.alloc (.cells #[.string x.var, .int .i64 x.kind, .int .i64 x.int, .string x.str] 47)) = wy at *
          have s0 := kt.cell (i := 0) (by simp)
          have s1 := kt.cell (i := 1) (by simp)
          have s2 := kt.cell (i := 2) (by simp)
          have s3 := kt.cell (i := 3) (by simp)
          simp only [List.getElem_cons_zero, List.getElem_cons_succ] at s0 s1 s2 s3
          have hbk := HJ.out.bk.ext hx3
          have hbd2 := hx3.cell hbd
          have hny := HJ.out.num.ext hx3
          have hry := HJ.out.row.kept (row := none) (w' := wy) ⟨hx3.os, hx3.tape, hx3.output, hx3.size, fun _ hk _ => hx3.heap hk⟩ (by cases (Value.slice Ai j ci).ownBlock <;> simp)
          have hdr : Ext wy wy.drew := (Ext.refl wy).drew
          have HBK := Lib.hid (hbk.ext hdr); have HNY := Lib.hid (hny.ext hdr)
          have HRY := Lib.hid (hry.kept (row := none) (w' := wy.drew) ⟨hdr.os, hdr.tape, hdr.output, hdr.size, fun _ hk _ => hdr.heap hk⟩ (by cases (Value.slice Ai j ci).ownBlock <;> simp))
          have htl : (tabT T0 (a.terms.take j)).length ≤ 1048576 := by
            have h1 := tabT_length T0 (a.terms.take j)
            have h2 := tabT_length ts (allT (xs.take i))
            have h3 := allT_le (xs := xs) (i + 1)
            rw [allT_take hix, List.length_append, ← HA.out] at h3
            rw [← HT0.out] at h2
            have h4 := HL.out
            simp only [List.length_take] at h1
            omega
          have hby : base ≤ wy.drew.heap.size := by
            have h1 := HI.out.fr.size; have h2 := HJ.out.fr.size; have h3 := hx3.size; have h4 := hdr.size; omega
          have hbn : ¬ (wo.heap.size + 1 = g ∨ vm.ownBlock = some (wo.heap.size + 1)) := fun h => by
            rcases h with h | h
            · exact (HJ.out.bk.ne (o := [vm].toArray) HJ.out.num.cell (by decide)) h
            · exact own_bk HJ.out.num.row HJ.out.bk (by decide) h rfl
          have hin : ∀ k, (Value.slice Ai j ci).ownBlock = some k → ¬ (k = g ∨ vm.ownBlock = some k) := fun k hk h => by
            rcases h with h | h
            · exact own_bk HJ.out.row HJ.out.num.cell (by decide) hk h
            · exact own_ne HJ.out.row HJ.out.num.row (by decide) hk h
          have hib : (Value.slice Ai j ci).ownBlock ≠ some (wo.heap.size + 1) := fun e => own_bk HJ.out.row HJ.out.bk (by decide) e rfl
          have hwB : wo.heap.size + 1 + 1 ≤ wy.drew.heap.size := by have h1 := HJ.out.size; have h3 := hx3.size; have h4 := hdr.size; omega
          have HBN := Lib.hid hbn; have HIN := Lib.hid hin; have HIB := Lib.hid hib; have HDR := Lib.hid (hx3.trans hdr)
          clear kt hbk hny hry d0 d1 d2 d3 hbd hbn hin hib hdr
          go_region_law (first
            | (refine step_append_at (by rfl) _ _ _ (by rfl) (wo.heap.size + 1 + 1) 3 i0 (.int .i64 0) 1 8 Tryd.underlying38 HI0.out.1 HI0.out.2.1 HI0.out.2.2.1 HI0.out.2.2.2 rfl (by omega) (.slice Ai j ci) j (((a.terms.take j).map (numT (tabT T0 (a.terms.take j)))).map I64) (by rfl) (by exact HRA.out.alloc _) ⟨wa.heap.size, 0, none⟩ 1 1 [I64 zn] (by rfl) (by rfl) (by exact laid_news wa _ _) (by simp [Value.oneCell']) (by simp only [maxLen]; omega) (by omega) (by simp; omega) ?_; intro v9 w9 hrow9 hgr9 hland9; obtain ⟨A9, c9, rfl⟩ := own_slice hrow9; have hb9 : Bk w9 (wo.heap.size + 1) 58 [.string a.rel, .slice Ai j ci] := Bk.fr (by exact HBA.out.alloc _) (grown_fr hgr9) (fun e => HIB.out e); have q9 := hb9.cell (i := 1) (by simp); have f9 := hb9.free 1; simp only [List.getElem_cons_zero, List.getElem_cons_succ] at q9; have HR9 := Lib.hid hrow9; have HG9 := Lib.hid hgr9; clear hrow9 hgr9 hland9 hb9)
            | (go_simp; refine (of_any (t := x) (w := wy.drew) (v := vm) HNY.out htl hby).mono ?_; rintro e wa ⟨zn, va, rfl, hzn, hna, hfa, hla⟩; have hba : Bk wa (wo.heap.size + 1) 58 [.string a.rel, .slice Ai j ci] := Bk.fr HBK.out hfa (fun h => HBN.out h); have qa := hba.cell (i := 1) (by simp); simp only [List.getElem_cons_zero, List.getElem_cons_succ] at qa; have hlta := hba.lt; have HBA := Lib.hid hba; have HRA := Lib.hid (own_fr HRY.out hfa (fun k hk h => HIN.out k hk h)); have hwa : wo.heap.size + 1 + 1 ≤ wa.heap.size := (Nat.le_trans hwB hfa.size); have HZN := Lib.hid hzn; have HNA := Lib.hid hna; have HFA := Lib.hid hfa; have HLA := Lib.hid hla; clear hzn hna hfa hla hba; go_wp2_with fail))
          all_goals
            clear q9 f9 qa s0 s1 s2 s3 hbd2
            go_wp2_with fail
            go_roundw
            case rel =>
              refine ⟨j + 1, .slice A9 (j + 1) c9, va, by omega, by go_num, ?_⟩
              have hap := HR9.out
              rw [HZN.out] at hap
              have hxj := HX.out
              subst hxj
              exact InI.step hjl HJ.out (by omega) (by omega) HDR.out HNA.out HFA.out HLA.out ((Ext.refl wa).alloc _) hap (by exact HG9.out)
            case measure => simp [intOf]; omega
        · obtain rfl : j = nt := by omega
          have hjj : ¬ (j : Int) < (j : Int) := by omega
          obtain ⟨Ai, ci, rfl⟩ := own_slice hJ.row
          have hbd := hJ.bk.cell (i := 0) (by simp)
          have hbd1 := hJ.bk.cell (i := 1) (by simp)
          simp only [List.getElem_cons_zero, List.getElem_cons_succ] at hbd hbd1
          obtain ⟨i0, hi0, hz0, hz1, hz2⟩ := info_parts info_ratom
          have HI0 := Lib.hid (And.intro hi0 (And.intro hz0 (And.intro hz1 hz2))); clear hi0 hz0 hz1 hz2
          have hrx : wr.ownsRow w.heap.size 58 2 (.slice At2 i ct2) i (rcells ((xs.take i).map (rat (tabT ts (allT (xs.take i))))) ws) := own_fr HI.out.row hJ.fr (fun k hk h => by
            rcases h with h | h
            · exact own_bk HI.out.row HI.out.num.cell (by decide) hk h
            · exact own_ne HI.out.row HI.out.num.row (by decide) hk h)
          have hww : w.heap.size ≤ wr.heap.size := Nat.le_trans HI.out.fr.size hJ.fr.size
          have HRX := Lib.hid hrx; have HJ := Lib.hid hJ
          clear hrx hJ
          go_wp2_with (first | (at_builtin; refine wpList_append_at rfl _ _ 36 rfl w.heap.size 58 i0 (.agg #[.string ⟨#[]⟩, .slice none 0 0]) 2 40 Tryd.underlying36 HI0.out.1 HI0.out.2.1 HI0.out.2.2.1 HI0.out.2.2.2 rfl (by omega) _ i (rcells ((xs.take i).map (rat (tabT ts (allT (xs.take i))))) ws) rfl (HRX.out.alloc _) ⟨wr.heap.size, 0, none⟩ 1 1 [.string a.rel, .slice Ai j ci] rfl rfl (laid_news wr _ _) (by simp [Value.oneCell']) ?c3 ?c4 ?c5 ?_))
          case c3 => simp only [maxLen]; omega
          case c4 => omega
          case c5 => omega
          intro v' w' hr' hgr hland
          have hst : AtI w w' base g v ts xs (i + 1) v' vm (ws ++ [.slice Ai j ci]) := by
            obtain ⟨q1, q2, q3, q4, q5, q6⟩ := HJ.out
            have et : a.terms.take j = a.terms := by rw [HNT.out]; exact List.take_length
            rw [et, HT0.out] at q1 q3
            try rw [← List.map_take] at hr'
            have hxa := HA.out
            subst hxa
            exact AtI.step (B := wo.heap.size + 1 + 1) (wb := wr.alloc (.cells #[.string xs[i].rel, .slice Ai j ci] 58)) hix HH.out.cell.lt HI.out q1 (by omega) q3 q4 q5 ((Ext.refl wr).alloc _) (by exact hr') (by exact hgr) (by exact hland)
          have HST := Lib.hid hst
          clear hr' hgr hland hst
          go_wp2_with fail
          go_roundw
          case rel => exact ⟨i + 1, vm, _, by omega, by go_num, HST.out⟩
          case measure => simp [intOf]; omega
    · obtain rfl : i = n := by omega
      have hdn : ¬ (i : Int) < (i : Int) := by omega
      go_wp2_with fail
      go_ret
      exact HI.out.done HN.out
end Go.Proofs.YtiahaofjmcjdiaaDoor
