/- Contracts: slices.IndexFunc at rows, by a closure. Contracts: slices.DeleteFunc at rows of one's own, by a closure. Contracts: normalize.remaining. Contracts: slices.Index at ints. -/
import Derived.Test.YtmmmdinncmbjkaaGreatMf38
namespace Go.Proofs.YtmmmdinncmbjkaaGreat
open Go.RowKit Go.Maps
/-- The places below k where q holds. -/
def kpL (q : Nat → Bool) (k : Nat) : List Nat := (List.range k).filter q
theorem kpL_yes {q : Nat → Bool} {k : Nat} (h : q k = true) : kpL q (k + 1) = kpL q k ++ [k] := by
  unfold kpL
  rw [List.range_succ, List.filter_append]
  simp [h]
theorem kpL_no {q : Nat → Bool} {k : Nat} (h : q k = false) : kpL q (k + 1) = kpL q k := by
  unfold kpL
  rw [List.range_succ, List.filter_append]
  simp [h]
theorem kpL_all {q : Nat → Bool} {k : Nat} (h : ∀ i, i < k → q i = true) : kpL q k = List.range k := List.filter_eq_self.2 (fun i hi => h i (List.mem_range.1 hi))
theorem kpL_lt {q : Nat → Bool} {k i : Nat} (h : i ∈ kpL q k) : i < k := List.mem_range.1 (List.mem_filter.1 h).1
theorem kpL_filter {α : Type} (p : α → Bool) (d : α) (l : List α) : (kpL (fun i => p (l.getD i d)) l.length).map (fun i => l.getD i d) = l.filter p := by
  unfold kpL
  have h1 : (List.range l.length).map (fun i => l.getD i d) = l := by
    apply List.ext_getElem
    · simp
    · intro i h1 h2
      simp [List.getElem?_eq_getElem h2]
  conv => rhs; rw [← h1]
  rw [List.filter_map]
  rfl
/-- The closure tells B of every row, in every world where the block g alone has turned. -/
def TellsB (F : Nat → Prop) (g gx : Nat) (B : List Vl → Bool) (rows : List (List Vl)) (w : World) : Prop := ∀ V, Fr (fun k => k = g) w V → ∀ x ∈ rows, ∀ A d, Sl rdVl (fun k => F k ∧ k ≠ g) V (.slice A x.length d) x → Calls Tryz.prog 80 #[.slice A x.length d, .pointer (some ⟨gx, 0, none⟩)] V (Ret (fun y _ => y = .bool (B x)) V)
/-- The first place where B holds. -/
def FirB (B : List Vl → Bool) (rows : List (List Vl)) (v : Value) : Prop := (v = .int .i64 (-1) ∧ ∀ x ∈ rows, B x = false) ∨ ∃ i : Nat, i < rows.length ∧ v = .int .i64 (i : Int) ∧ B (rows.getD i []) = true ∧ ∀ j, j < i → B (rows.getD j []) = false
set_option maxRecDepth 20000 in
set_option maxHeartbeats 1600000 in
theorem index_row {F : Nat → Prop} {w : World} {g gx cap n base : Nat} {us : List Value} {rows : List (List Vl)} {B : List Vl → Bool} (h : OwR F w base (.slice (some ⟨g, 0, none⟩) n cap) n us rows) (hT : TellsB F g gx B rows w) (hn : n ≤ 1048576) :
    Calls Tryz.prog 107 #[.slice (some ⟨g, 0, none⟩) n cap, .func (.func 80) #[] #[.pointer (some ⟨gx, 0, none⟩)]] w (Ret (fun y _ => FirB B rows y) w) := by
  have hnu := h.num
  have hln := h.len
  have H := Lib.hid h; have HNU := Lib.hid hnu; have HLN := Lib.hid hln; have HT := Lib.hid hT
  clear h hnu hln hT
  go_enter Tryz.func107, Tryz.ntmps107
  go_wp2_with fail
  go_loopw [8] (fun q wr => ∃ i : Nat, i ≤ n ∧ q = .int .i64 (i : Int) ∧ Hid (∀ j, j < i → B (rows.getD j []) = false) ∧ Hid (Ext w wr)) (fun q _ => n - (intOf q).toNat)
  case atStart => exact ⟨0, Nat.zero_le _, rfl, Lib.hid (fun j hj => absurd hj (by omega)), Lib.hid (Ext.refl _)⟩
  case round =>
    obtain ⟨i, hi, rfl, HGO, HXW⟩ := hrel
    obtain ⟨W, rfl⟩ : ∃ W : World, W = wr := ⟨_, rfl⟩
    by_cases hlt : i < n
    · have i1 : (0 : Int) ≤ (i : Int) := by omega
      have i2 : (i : Int) < (n : Int) := by omega
      have hiu : i < us.length := by have := HNU.out; omega
      have hir : i < rows.length := by have := HLN.out; omega
      have HW := H.out.ext HXW.out
      obtain ⟨x1, hx1⟩ : ∃ x, x = us[i] := ⟨_, rfl⟩
      have c1 := (own_cell1 HW.own (i := i) (u := x1) (by rw [hx1]; exact List.getElem?_eq_getElem hiu)).1
      have r1 := HW.rd i hir hiu
      rw [← hx1] at r1
      obtain ⟨A1, d1, rfl⟩ := r1.sl
      have hmem := List.getElem_mem hir
      have HC := Lib.hid (HT.out W (HXW.out.fr _) _ hmem A1 d1 (r1.mono (by decide) (fun k _ hk => ⟨hk.1, fun e => hk.2 (by rw [e]; rfl)⟩)))
      have hgd : rows.getD i [] = rows[i] := by simp [List.getElem?_eq_getElem hir]
      obtain ⟨x, hxx⟩ : ∃ x, x = rows[i] := ⟨_, rfl⟩
      rw [← hxx] at c1 HC hgd
      have HGD := Lib.hid hgd
      obtain ⟨z, hz⟩ : ∃ z, z = B x := ⟨_, rfl⟩
      rw [← hz] at HC
      have HZ := Lib.hid hz
      obtain ⟨nx, hnx⟩ : ∃ z, z = x.length := ⟨_, rfl⟩
      rw [← hnx] at c1 HC
      clear hx1 HW r1 hmem hgd hxx hz hnx hiu
      go_wp2_with fail
      refine HC.out.mono ?_
      rintro e w2 ⟨y, rfl, he2, rfl⟩
      have HX2 := Lib.hid (HXW.out.trans he2)
      clear he2 c1
      rcases z with _ | _
      · have HG2 : Hid (∀ j, j < i + 1 → B (rows.getD j []) = false) := Lib.hid (fun j hj => by
          rcases Nat.lt_or_ge j i with h | h
          · exact HGO.out j h
          · obtain rfl : j = i := by omega
            rw [HGD.out]; exact HZ.out.symm)
        go_wp2_with fail
        go_roundw
        case rel => exact ⟨i + 1, by omega, by go_num, HG2, HX2⟩
        case measure => simp [intOf]; omega
      · go_wp2_with fail
        go_ret
        exact Ret.mk HX2.out (.inr ⟨i, hir, rfl, by rw [HGD.out]; exact HZ.out.symm, HGO.out⟩)
    · obtain rfl : i = n := by omega
      have hdn : ¬ (i : Int) < (i : Int) := by omega
      have HA : Hid (∀ x ∈ rows, B x = false) := Lib.hid (fun x hx => by
        obtain ⟨j, hj, rfl⟩ := List.getElem_of_mem hx
        have h1 := HGO.out j (by have := HNU.out; have := HLN.out; omega)
        simpa [List.getElem?_eq_getElem hj] using h1)
      go_wp2_with fail
      go_ret
      exact Ret.mk HXW.out (.inl ⟨rfl, HA.out⟩)
end Go.Proofs.YtmmmdinncmbjkaaGreat
namespace Go.Proofs.YtmmmdinncmbjkaaGreat
open Go.RowKit Go.Maps
/-- What DeleteFunc leaves of rows. -/
def DfPost (F : Nat → Prop) (base g cap : Nat) (rows : List (List Vl)) (w : World) (e : Ending) (w' : World) : Prop :=
  Fr (fun k => k = g) w w' ∧ ∃ p us', e = .returned (.slice (some ⟨g, 0, none⟩) p cap) ∧ OwR F w' base (.slice (some ⟨g, 0, none⟩) p cap) p us' rows
set_option maxRecDepth 20000 in
set_option maxHeartbeats 3200000 in
theorem delf_own {F : Nat → Prop} {w : World} {base n g gx cap : Nat} {us : List Value} {rows : List (List Vl)} {B : List Vl → Bool} (h : OwR F w base (.slice (some ⟨g, 0, none⟩) n cap) n us rows) (hT : TellsB F g gx B rows w) (hn : n ≤ 1048576) :
    Calls Tryz.prog 79 #[.slice (some ⟨g, 0, none⟩) n cap, .func (.func 80) #[] #[.pointer (some ⟨gx, 0, none⟩)]] w (DfPost F base g cap (rows.filter (fun x => !B x)) w) := by
  have hnu := h.num
  have hln := h.len
  have hnc : n ≤ cap := by
    rcases h.own.2 with ⟨h0, -⟩ | ⟨g', cap', cur, e, hb, hc, h1, -⟩
    · cases h0
    · injection e with e1 e2 e3
      omega
  have HI := Lib.hid (index_row h hT hn)
  have H := Lib.hid h; have HNU := Lib.hid hnu; have HLN := Lib.hid hln; have HT := Lib.hid hT
  clear h hnu hln hT
  go_enter Tryz.func79, Tryz.ntmps79
  go_wp2_with fail
  refine HI.out.mono ?_
  rintro e w2 ⟨y, rfl, he2, hfir⟩
  have HX2 := Lib.hid he2
  rcases hfir with ⟨rfl, hno⟩ | ⟨i, hir, rfl, hyes, hbe⟩
  · have HNO := Lib.hid hno
    clear hno he2
    go_wp2_with fail
    go_ret
    refine ⟨HX2.out.fr _, n, us, rfl, ?_⟩
    rw [show rows.filter (fun x => !B x) = rows from List.filter_eq_self.2 (fun x hx => by rw [HNO.out x hx]; rfl)]
    exact H.out.ext HX2.out
  · have hin : i < n := by have := HNU.out; have := HLN.out; omega
    have g1 : ((i : Int) == -1) = false := beq_eq_false_iff_ne.2 (by omega)
    obtain ⟨q, hq⟩ : ∃ q : Nat → Bool, q = fun t => !B (rows.getD t []) := ⟨_, rfl⟩
    have HQ := Lib.hid hq
    have hu0 : kpL q (i + 1) = List.range i := by
      rw [kpL_no (by rw [hq]; simp only [hyes]; rfl), kpL_all (fun j hj => by rw [hq]; simp only [hbe j hj]; rfl)]
    have HST : Hid ((us.take i) = (kpL q (i + 1)).map (fun j => us.getD j default)) := Lib.hid (by
      rw [hu0]
      apply List.ext_getElem
      · have := HNU.out
        simp
        omega
      · intro j h1 h2
        have h3 : j < us.length := by rw [List.length_take] at h1; omega
        simp [List.getElem?_eq_getElem h3])
    have HLK : Hid ((kpL q (i + 1)).length = i) := Lib.hid (by rw [hu0]; simp)
    have HH2 := Lib.hid (H.out.ext he2)
    clear hq hu0 hyes hbe he2 hir
    go_wp2_with fail
    go_loopw [5, 6] (fun t s wr => ∃ (j p : Nat) (cur : List Value), j ≤ n ∧ s = .int .i64 (j : Int) ∧ t = .int .i64 (p : Int) ∧ p + 1 ≤ j ∧ Hid ((kpL q j).length = p) ∧ Hid (wr.ownsRow base 81 1 (.slice (some ⟨g, 0, none⟩) n cap) n cur) ∧ Hid (cur.take p = (kpL q j).map (fun j => us.getD j default)) ∧ Hid (∀ t, j ≤ t → cur[t]? = us[t]?) ∧ Hid (Fr (fun k => k = g) w wr)) (fun _ s _ => n - (intOf s).toNat)
    case atStart => exact ⟨i + 1, i, us, by omega, by go_num, rfl, Nat.le_refl _, HLK, Lib.hid HH2.out.own, HST, Lib.hid (fun _ _ => rfl), Lib.hid (HX2.out.fr _)⟩
    case round =>
      obtain ⟨j, p, cur, hj, rfl, rfl, hpj, HLEN, HOW, HTK, HSM, HFR⟩ := hrel
      obtain ⟨W, rfl⟩ : ∃ W : World, W = wr := ⟨_, rfl⟩
      have hcl : cur.length = n := by have := HOW.out.1; omega
      have HCL := Lib.hid hcl
      by_cases hlt : j < n
      · have i1 : (0 : Int) ≤ (j : Int) := by omega
        have i2 : (j : Int) < (n : Int) := by omega
        have p1 : (0 : Int) ≤ (p : Int) := by omega
        have p2 : (p : Int) < (n : Int) := by omega
        have hiu : j < us.length := by have := HNU.out; omega
        have hir : j < rows.length := by have := HLN.out; omega
        obtain ⟨x1, hx1⟩ : ∃ x, x = us[j] := ⟨_, rfl⟩
        have c1 := (own_cell1 HOW.out (i := j) (u := x1) (by rw [hx1, HSM.out _ (Nat.le_refl _)]; exact List.getElem?_eq_getElem hiu)).1
        have r1 := H.out.rd j hir hiu
        rw [← hx1] at r1
        obtain ⟨A1, d1, rfl⟩ := r1.sl
        have hmem := List.getElem_mem hir
        have HC := Lib.hid (HT.out W HFR.out _ hmem A1 d1 ((r1.fr HFR.out (fun k hk e => hk.2 (by rw [e]; rfl))).mono (by decide) (fun k _ hk => ⟨hk.1, fun e => hk.2 (by rw [e]; rfl)⟩)))
        have hgd : rows.getD j [] = rows[j] := by simp [List.getElem?_eq_getElem hir]
        have hxu : us.getD j default = .slice A1 rows[j].length d1 := by
          rw [List.getD_eq_getElem?_getD, List.getElem?_eq_getElem hiu, ← hx1]
          rfl
        obtain ⟨x, hxx⟩ : ∃ x, x = rows[j] := ⟨_, rfl⟩
        rw [← hxx] at c1 HC hgd hxu
        obtain ⟨z, hz⟩ : ∃ z, z = B x := ⟨_, rfl⟩
        rw [← hz] at HC
        have HZ : Hid (q j = !z) := Lib.hid (by rw [HQ.out]; simp only [hgd]; rw [hz])
        obtain ⟨nx, hnx⟩ : ∃ z, z = x.length := ⟨_, rfl⟩
        rw [← hnx] at c1 HC hxu
        have HXU := Lib.hid hxu
        clear hx1 r1 hmem hgd hxx hz hnx hiu hir hcl hxu
        go_wp2_with fail
        refine HC.out.mono ?_
        rintro e w3 ⟨y, rfl, he3, rfl⟩
        have HF3 := Lib.hid (HFR.out.ext he3); have HO3 := Lib.hid (own_ext' HOW.out he3)
        clear he3 c1
        rcases z with _ | _
        · have HK2 := Lib.hid (kpL_yes (q := q) (k := j) (by rw [HZ.out]; rfl))
          obtain ⟨cp, fp⟩ := own_cell1 HO3.out (i := p) (u := cur[p]'(by have := HCL.out; omega)) (List.getElem?_eq_getElem _)
          obtain ⟨up, hup⟩ : ∃ x, x = cur[p]'(by have := HCL.out; omega) := ⟨_, rfl⟩
          rw [← hup] at cp
          clear hup
          go_wp2_with fail
          have hf4 := HF3.out.setCell (p := ⟨g, p, none⟩) (.inl rfl) (.slice A1 nx d1)
          have ho4 := own_setc HO3.out (i := p) (by omega) (.slice A1 nx d1)
          have HF4 := Lib.hid hf4; have HO4 := Lib.hid ho4
          have HL4 : Hid ((kpL q (j + 1)).length = p + 1) := Lib.hid (by rw [HK2.out, List.length_append, HLEN.out]; rfl)
          have HT4 : Hid ((cur.set p (.slice A1 nx d1)).take (p + 1) = (kpL q (j + 1)).map (fun j => us.getD j default)) := Lib.hid (by
            rw [HK2.out, List.map_append, ← HTK.out]
            have hpl : p < (cur.set p (Value.slice A1 nx d1)).length := by rw [List.length_set, HCL.out]; omega
            rw [List.take_succ_eq_append_getElem hpl, List.take_set_of_le (Nat.le_refl _)]
            simp only [List.getElem_set_self, List.map_cons, List.map_nil, HXU.out])
          have HS4 : Hid (∀ t, j + 1 ≤ t → (cur.set p (.slice A1 nx d1))[t]? = us[t]?) := Lib.hid (fun t ht => by
            rw [List.getElem?_set_ne (by omega)]
            exact HSM.out t (by omega))
          clear hf4 ho4
          go_roundw
          case rel => exact ⟨j + 1, p + 1, _, by omega, by go_num, by go_num, by omega, HL4, HO4, HT4, HS4, HF4⟩
          case measure => simp [intOf]; omega
        · have HK2 := Lib.hid (kpL_no (q := q) (k := j) (by rw [HZ.out]; rfl))
          go_wp2_with fail
          go_roundw
          case rel => exact ⟨j + 1, p, cur, by omega, by go_num, rfl, by omega, Lib.hid (by rw [HK2.out, HLEN.out]), HO3, Lib.hid (by rw [HK2.out, HTK.out]), Lib.hid (fun t ht => HSM.out t (by omega)), HF3⟩
          case measure => simp [intOf]; omega
      · obtain rfl : j = n := by omega
        have hdk : ¬ (j : Int) < (j : Int) := by omega
        have hpn : p < j := by omega
        obtain ⟨us', hw4, ht4, hf4⟩ := own_setCells (List.replicate (j - p) (.slice none 0 0)) p HOW.out (by simp; omega)
        have hclr : ∀ ty, (Builtin.clear_ #[52] ty #[.slice (some ⟨g, p, none⟩) (j - p) (cap - p)]).run Tryz.prog W = .ok (.tuple #[]) (W.setCells g p (List.replicate (j - p) (.slice none 0 0))) := fun ty => Lib.run_clear_slice W _ 81 ty (.slice none 0 0) Tryz.underlying52 zero_row rfl rfl g p (j - p) (cap - p) (by omega) (fun t ht => by
          rw [(own_cell1 HOW.out (i := p + t) (u := cur[p + t]'(by omega)) (List.getElem?_eq_getElem _)).1]; rfl) (fun t ht => (own_cell1 HOW.out (i := p + t) (u := cur[p + t]'(by omega)) (List.getElem?_eq_getElem _)).2)
        obtain ⟨W3, hW3⟩ : ∃ W3, W3 = W.setCells g p (List.replicate (j - p) (.slice none 0 0)) := ⟨_, rfl⟩
        rw [← hW3] at hw4 hf4 hclr
        have HRES : Hid (DfPost F base g cap (rows.filter (fun x => !B x)) w (.returned (.slice (some ⟨g, 0, none⟩) p cap)) W3) := Lib.hid (by
          have hrl : rows.length = j := by have := HNU.out; have := HLN.out; omega
          have hf5 := HFR.out.trans hf4
          have e1 : us'.take p = (kpL q j).map (fun j => us.getD j default) := by rw [ht4, HTK.out]
          have e2 : rows.filter (fun x => !B x) = (kpL q j).map (fun j => rows.getD j []) := by
            rw [← kpL_filter (fun x => !B x) [] rows, hrl, HQ.out]
          refine ⟨hf5, p, us'.take p, rfl, own_cut hw4 (by omega), ?_, fun t ht ht' => ?_⟩
          · rw [e1, e2, List.length_map, List.length_map]
          · have hql : t < (kpL q j).length := by rw [e1, List.length_map] at ht'; exact ht'
            have hlt2 := kpL_lt (List.getElem_mem hql)
            have h7 : (us'.take p)[t] = us.getD ((kpL q j)[t]) default := by
              simp only [e1, List.getElem_map]
            have h8 : (rows.filter (fun x => !B x))[t] = rows.getD ((kpL q j)[t]) [] := by
              simp only [e2, List.getElem_map]
            rw [h7, h8, List.getD_eq_getElem?_getD, List.getD_eq_getElem?_getD, List.getElem?_eq_getElem (show (kpL q j)[t] < us.length by have := HNU.out; omega), List.getElem?_eq_getElem (show (kpL q j)[t] < rows.length by omega)]
            exact (H.out.rd _ (by omega) (by have := HNU.out; omega)).fr hf5 (fun z hz e => hz.2 (by rw [e]; rfl)))
        have p1 : (0 : Int) ≤ (p : Int) := by omega
        have p2 : (p : Int) ≤ (j : Int) := by omega
        have p3 : (p : Int) ≤ (cap : Int) := by omega
        have p4 : ¬ cap = p := by omega
        clear hcl hw4 ht4 hf4 hW3
        go_wp2_with fail
        go_ret
        exact HRES.out
end Go.Proofs.YtmmmdinncmbjkaaGreat
namespace Go.Proofs.YtmmmdinncmbjkaaGreat
open Go.RowKit Go.Maps
/-- What remaining answers. -/
def RmPost (G : Nat → Prop) (a : Int) (p : List Vl → Bool) (rows : List (List Vl)) (w : World) (e : Ending) (w' : World) : Prop :=
  Ext w w' ∧ ∃ A k c rows', e = .returned (.tuple #[.agg #[.int .i64 a, .slice A k c], .int .i64 0]) ∧ SoR rows' ∧ (∀ r, r ∈ rows' ↔ r ∈ rows ∧ p r = false) ∧ Sl rdRow G w' (.slice A k c) rows'
set_option maxRecDepth 20000 in
set_option maxHeartbeats 3200000 in
theorem remaining_any {F G : Nat → Prop} {w : World} {A E : Option Addr} {n c ne ce : Nat} {a : Int} {rows : List (List Vl)} {es : List Ex} (hA : Sl rdRow F w (.slice A n c) rows) (hS : SoR rows) (hE : Sl rdEx G w (.slice E ne ce) es) (hx : ∀ x ∈ es, ExOk a.toNat x) (hn : n ≤ 65536) (hne : ne ≤ 1048576) (h0 : 0 ≤ a) (h32 : a ≤ 32) (hac : ∀ x ∈ rows, accE a x = 0) (hz : ∀ x ∈ rows, ∀ v ∈ x, v.str.size ≤ maxLen) :
    Calls Tryz.prog 53 #[.agg #[.int .i64 a, .slice A n c], .slice E ne ce] w (RmPost (fun k => F k ∨ w.heap.size ≤ k) a (fun r => es.any (exB r)) rows w) := by
  have hnl := hA.cap.1; have hel := hE.cap.1
  have hA' := hA.mono (G := fun k => F k ∧ k < w.heap.size) (by decide) (fun k hk hf => ⟨hf, hk⟩)
  have hE' := hE.mono (G := fun k => G k ∧ k < w.heap.size) (by decide) (fun k hk hf => ⟨hf, hk⟩)
  have HA := Lib.hid hA'; have HE := Lib.hid hE'; have HX0 := Lib.hid hx; have HAC := Lib.hid hac; have HZ := Lib.hid hz; have HNL := Lib.hid hnl; have HEL := Lib.hid hel; have HS := Lib.hid hS
  have k3 := three_blk w 54 147 54 [.int .i64 a, .slice A n c] [.slice E ne ce] [.int .i64 0, .slice none 0 0]
  have hx1 : Ext w (((w.alloc (.cells #[.int .i64 a, .slice A n c] 54)).alloc (.cells #[.slice E ne ce] 147)).alloc (.cells #[.int .i64 0, .slice none 0 0] 54)) := (((Ext.refl w).alloc _).alloc _).alloc _
  clear hnl hel hA hE hA' hE' hx hac hz hS
  go_enter Tryz.func53, Tryz.ntmps53
  go_upto_region 1 with fail
  change Bk (((w.alloc (.cells #[.int .i64 a, .slice A n c] 54)).alloc (.cells #[.slice E ne ce] 147)).alloc (.cells #[.int .i64 0, .slice none 0 0] 54)) _ _ _ ∧ Bk (((w.alloc (.cells #[.int .i64 a, .slice A n c] 54)).alloc (.cells #[.slice E ne ce] 147)).alloc (.cells #[.int .i64 0, .slice none 0 0] 54)) _ _ _ ∧ Bk (((w.alloc (.cells #[.int .i64 a, .slice A n c] 54)).alloc (.cells #[.slice E ne ce] 147)).alloc (.cells #[.int .i64 0, .slice none 0 0] 54)) _ _ _ at k3
  generalize (((w.alloc (.cells #[.int .i64 a, .slice A n c] 54)).alloc (.cells #[.slice E ne ce] 147)).alloc (.cells #[.int .i64 0, .slice none 0 0] 54)) = w1 at *
  obtain ⟨ka, kb, kc⟩ := k3
  have a0 := ka.cell (i := 0) (by simp); have a1 := ka.cell (i := 1) (by simp); have b0 := kb.cell (i := 0) (by simp)
  simp only [List.getElem_cons_zero, List.getElem_cons_succ] at a0 a1 b0
  have hlt1 : w.heap.size + 1 + 1 < w1.heap.size := kc.lt
  have HX := Lib.hid hx1; have HKB := Lib.hid kb; have HKC := Lib.hid kc
  clear ka kb kc hx1
  by_cases h00 : ne = 0
  · subst h00
    have HES : Hid (es = []) := Lib.hid (List.length_eq_zero_iff.1 HEL.out.symm)
    have q0 := HKC.out.cell (i := 0) (by simp); have q1 := HKC.out.cell (i := 1) (by simp); have f0 := HKC.out.free 0; have f1 := HKC.out.free 1
    simp only [List.getElem_cons_zero, List.getElem_cons_succ] at q0 q1
    go_wp2_with fail
    have kz : Bk ((w1.setCell ⟨w.heap.size + 1 + 1, 0, none⟩ (.int .i64 a)).setCell ⟨w.heap.size + 1 + 1, 1, none⟩ (.slice A n c)) (w.heap.size + 1 + 1) 54 [.int .i64 a, .slice A n c] := (HKC.out.set 0 _).set 1 _
    have hst : Fr (fun k => k = w.heap.size + 1 + 1) w1 ((w1.setCell ⟨w.heap.size + 1 + 1, 0, none⟩ (.int .i64 a)).setCell ⟨w.heap.size + 1 + 1, 1, none⟩ (.slice A n c)) := ((Fr.refl (fun k => k = w.heap.size + 1 + 1) w1).setCell (p := ⟨w.heap.size + 1 + 1, 0, none⟩) (.inl rfl) _).setCell (p := ⟨w.heap.size + 1 + 1, 1, none⟩) (.inl rfl) _
    generalize ((w1.setCell ⟨w.heap.size + 1 + 1, 0, none⟩ (.int .i64 a)).setCell ⟨w.heap.size + 1 + 1, 1, none⟩ (.slice A n c)) = wz at *
    have z0 := kz.cell (i := 0) (by simp); have z1 := kz.cell (i := 1) (by simp)
    simp only [List.getElem_cons_zero, List.getElem_cons_succ] at z0 z1
    exact bodyPost_ret (v := .tuple #[.agg #[.int .i64 a, .slice A n c], .int .i64 0]) (by simp [results, Tryz.results53, go_sem, z0, z1]) rfl ⟨hst.new HX.out (fun q hq => by omega), A, n, c, rows, rfl, HS.out, (fun r => by rw [HES.out]; simp), ((HA.out.ext HX.out).fr hst (fun q hq => by omega)).mono (by decide) (fun q _ hq => .inl hq.1)⟩
  · have g0 : ((ne : Int) == 0) = false := beq_eq_false_iff_ne.2 (by omega)
    have HRW := Lib.hid (rows_any (a := a) (HA.out.ext HX.out) (fun x hx => by have := acc_len (HAC.out x hx); omega) (by omega))
    clear h00
    go_wp2_with fail
    refine HRW.out.mono ?_
    rintro e w2 ⟨he2, g, us, hg, rfl, how⟩
    have HX2 := Lib.hid (HX.out.trans he2); have HKB2 := Lib.hid (HKB.out.ext he2); have HKC2 := Lib.hid (HKC.out.ext he2)
    replace a0 := he2.cell a0; replace a1 := he2.cell a1
    have HOW := Lib.hid how
    have hT : TellsB (fun k => g < k) g (w.heap.size + 1) (fun r => es.any (exB r)) rows w2 := fun V hV x hx A' d' hsl => by
      have hl := acc_len (HAC.out x hx)
      exact remain_row (HKB2.out.fr hV (by omega)) hsl ((HE.out.ext HX2.out).fr hV (fun k hk => by have := hk.2; omega)) (fun y hy => by
        have e : x.length = a.toNat := by omega
        rw [e]; exact HX0.out y hy) hne (by omega)
    have HDF := Lib.hid (delf_own how hT (by omega))
    clear he2 how hT b0
    go_wp2_with fail
    refine HDF.out.mono ?_
    rintro e w3 ⟨hf3, p, us', rfl, how3⟩
    have hgne : w.heap.size ≠ g := by omega
    replace a0 := hf3.cell a0 hgne; replace a1 := hf3.cell a1 hgne
    have hx3 : Ext w w3 := hf3.new HX2.out (fun q hq => by omega)
    have HX3 := Lib.hid hx3; have HKC3 := Lib.hid (HKC2.out.fr hf3 (by omega)); have HOW3 := Lib.hid how3
    have hsz3 : g < w3.heap.size ∨ True := .inr trivial
    clear hf3 hx3 how3 hsz3
    go_wp2_with fail
    refine arity_any.mono ?_
    rintro e w4 ⟨yv, rfl, he4, rfl⟩
    have HX4 := Lib.hid (HX3.out.trans he4); have HKC4 := Lib.hid (HKC3.out.ext he4); have HOW4 := Lib.hid (HOW3.out.ext he4)
    have hpl : p ≤ n := by
      have h1 := HOW4.out.num; have h2 := HOW4.out.len
      have h3 := List.length_filter_le (fun x => !(es.any (exB x))) rows
      have h4 := HNL.out
      omega
    have HOF := Lib.hid (relof_any (a := a) (HOW4.out.sl (G := fun k => g ≤ k) (fun k hk => by simp [Value.ownBlock] at hk; omega) (fun k hk => by omega)) h0 h32 (fun x hx => HAC.out x (List.mem_filter.1 hx).1) (by omega) (fun x hx => HZ.out x (List.mem_filter.1 hx).1))
    clear he4 a0 a1
    go_wp2_with fail
    refine HOF.out.mono ?_
    rintro e w5 ⟨he5, P, k, cc, rows', rfl, hso, hmem, hsl⟩
    have HX5 := Lib.hid (HX4.out.trans he5); have HKC5 := Lib.hid (HKC4.out.ext he5)
    have HSO := Lib.hid hso; have HME := Lib.hid hmem
    have hw4 : w1.heap.size ≤ w4.heap.size ∨ True := .inr trivial
    have hw5 : w.heap.size + 1 + 1 < w4.heap.size := HKC4.out.lt
    have HSL := Lib.hid (hsl.mono (G := fun q => w4.heap.size ≤ q) (by decide) (fun q _ hq => hq))
    have q0 := HKC5.out.cell (i := 0) (by simp); have q1 := HKC5.out.cell (i := 1) (by simp); have f0 := HKC5.out.free 0; have f1 := HKC5.out.free 1
    simp only [List.getElem_cons_zero, List.getElem_cons_succ] at q0 q1
    clear he5 hso hmem hsl hw4
    go_wp2_with fail
    have kz : Bk ((w5.setCell ⟨w.heap.size + 1 + 1, 0, none⟩ (.int .i64 a)).setCell ⟨w.heap.size + 1 + 1, 1, none⟩ (.slice P k cc)) (w.heap.size + 1 + 1) 54 [.int .i64 a, .slice P k cc] := (HKC5.out.set 0 _).set 1 _
    have hst : Fr (fun k => k = w.heap.size + 1 + 1) w5 ((w5.setCell ⟨w.heap.size + 1 + 1, 0, none⟩ (.int .i64 a)).setCell ⟨w.heap.size + 1 + 1, 1, none⟩ (.slice P k cc)) := ((Fr.refl (fun k => k = w.heap.size + 1 + 1) w5).setCell (p := ⟨w.heap.size + 1 + 1, 0, none⟩) (.inl rfl) _).setCell (p := ⟨w.heap.size + 1 + 1, 1, none⟩) (.inl rfl) _
    generalize ((w5.setCell ⟨w.heap.size + 1 + 1, 0, none⟩ (.int .i64 a)).setCell ⟨w.heap.size + 1 + 1, 1, none⟩ (.slice P k cc)) = wz at *
    have z0 := kz.cell (i := 0) (by simp); have z1 := kz.cell (i := 1) (by simp)
    simp only [List.getElem_cons_zero, List.getElem_cons_succ] at z0 z1
    exact bodyPost_ret (v := .tuple #[.agg #[.int .i64 a, .slice P k cc], .int .i64 0]) (by simp [results, Tryz.results53, go_sem, z0, z1]) rfl ⟨hst.new HX5.out (fun q hq => by omega), P, k, cc, rows', rfl, HSO.out, (fun r => by rw [HME.out r, List.mem_filter]; simp), (HSL.out.fr hst (fun q hq => by omega)).mono (by decide) (fun q _ hq => .inr (by omega))⟩
end Go.Proofs.YtmmmdinncmbjkaaGreat
namespace Go.Proofs.YtmmmdinncmbjkaaGreat
open Go.RowKit Go.Maps
/-- The first place of an int, or -1. -/
def idxI (l : List Int) (v : Int) : Int := match l.findIdx? (fun x => x == v) with
  | some i => (i : Int)
  | none => -1
theorem idxI_no {l : List Int} {v : Int} (h : ∀ j (hj : j < l.length), l[j] ≠ v) : idxI l v = -1 := by
  unfold idxI
  rw [List.findIdx?_eq_none_iff.2 (fun x hx => by
    obtain ⟨j, hj, rfl⟩ := List.getElem_of_mem hx
    simpa using h j hj)]
theorem idxI_at {l : List Int} {v : Int} {i : Nat} (hi : i < l.length) (he : l[i] = v) (h : ∀ j (hj : j < l.length), j < i → l[j] ≠ v) : idxI l v = (i : Int) := by
  unfold idxI
  rw [List.findIdx?_eq_some_iff_getElem.2 ⟨hi, by simpa using he, fun j hj => by simpa using h j (by omega) hj⟩]
set_option maxRecDepth 20000 in
set_option maxHeartbeats 800000 in
theorem index_int {F : Nat → Prop} {w : World} {A : Option Addr} {n c : Nat} {l : List Int} {v : Int} (h : Ins F w (.slice A n c) l) (hl : n ≤ 1048576) :
    Calls Tryz.prog 73 #[.slice A n c, .int .i64 v] w (fun e w' => e = .returned (.int .i64 (idxI l v)) ∧ w = w') := by
  obtain ⟨A', c', e, -, hat⟩ := h
  injection e with e1 e2 e3
  subst e1
  have HN := Lib.hid e2; have HAT := Lib.hid hat
  obtain ⟨r, hr⟩ : ∃ r, r = idxI l v := ⟨_, rfl⟩
  rw [← hr]
  have HR := Lib.hid hr
  clear hat e2 e3 hr
  go_enter Tryz.func73, Tryz.ntmps73
  go_wp2_with fail
  go_loopw [8] (fun q wr => ∃ i : Nat, i ≤ n ∧ q = .int .i64 (i : Int) ∧ Hid (∀ j (h : j < l.length), j < i → l[j] ≠ v) ∧ w = wr) (fun q _ => n - (intOf q).toNat)
  case atStart => exact ⟨0, Nat.zero_le _, rfl, Lib.hid (fun _ _ h => absurd h (by omega)), by trivial⟩
  case round =>
    obtain ⟨i, hi, rfl, HGO, rfl⟩ := hrel
    by_cases hlt : i < n
    · have i1 : (0 : Int) ≤ (i : Int) := by omega
      have i2 : (i : Int) < (n : Int) := by omega
      have hix : i < l.length := by have := HN.out; omega
      obtain ⟨ad, rfl, -, c0⟩ := HAT.out.int hix
      by_cases he : l[i] = v
      · have HV : Hid (r = (i : Int)) := Lib.hid (by rw [HR.out]; exact idxI_at hix he HGO.out)
        rw [he] at c0
        clear he hix
        go_wp2_with fail
        go_ret
        exact ⟨by rw [HV.out]; rfl, rfl⟩
      · obtain ⟨x, hx⟩ : ∃ x, x = l[i] := ⟨_, rfl⟩
        rw [← hx] at c0 he
        have hne : (v == x) = false := beq_eq_false_iff_ne.2 (fun e => he e.symm)
        have HG2 : Hid (∀ j (h : j < l.length), j < i + 1 → l[j] ≠ v) := Lib.hid (fun j hj hji => by
          rcases Nat.lt_or_ge j i with h | h
          · exact HGO.out j hj h
          · obtain rfl : j = i := by omega
            rw [← hx]; exact he)
        clear he hx hix
        go_wp2_with fail
        go_roundw
        case rel => exact ⟨i + 1, by omega, by go_num, HG2, by trivial⟩
        case measure => simp [intOf]; omega
    · obtain rfl : i = n := by omega
      have hdn : ¬ (i : Int) < (i : Int) := by omega
      have HV : Hid (r = -1) := Lib.hid (by rw [HR.out]; exact idxI_no (fun j hj => HGO.out j hj (by have := HN.out; omega)))
      go_wp2_with fail
      go_ret
      exact ⟨by rw [HV.out]; rfl, rfl⟩
end Go.Proofs.YtmmmdinncmbjkaaGreat
