/- Contract: slices.CompactFunc at sorted rows of one's own. -/
import Derived.Test.YtmmmdinncmbjkaaGreatMf26
namespace Go.Proofs.YtmmmdinncmbjkaaGreat
open Go.RowKit Go.Maps
theorem own_setc {w : World} {base n g cap sz : Nat} {E : TypeId} {us : List Value} (h : w.ownsRow base E sz (.slice (some ⟨g, 0, none⟩) n cap) n us) {i : Nat} (hi : i < n * sz) (u : Value) : (w.setCell ⟨g, i, none⟩ u).ownsRow base E sz (.slice (some ⟨g, 0, none⟩) n cap) n (us.set i u) := by
  obtain ⟨hl, h⟩ := h
  refine ⟨by simpa using hl, ?_⟩
  rcases h with ⟨h0, -⟩ | ⟨g', cap', cur, e, hb, hc, h1, h2, h3, h4⟩
  · cases h0
  injection e with e1 e2 e3
  injection e1 with e1
  injection e1 with e1
  subst e1 e3
  refine .inr ⟨g, cap, cur.setIfInBounds i u, rfl, hb, ?_, h1, h2, by simpa using h3, ?_⟩
  · simp [World.setCell, Array.getElem?_modify, hc]
  · rw [Array.toList_setIfInBounds, List.take_set, h4]
theorem own_setCells {base n g cap : Nat} {E : TypeId} (vs : List Value) : ∀ {w : World} {us : List Value} (o : Nat), w.ownsRow base E 1 (.slice (some ⟨g, 0, none⟩) n cap) n us → o + vs.length ≤ n → ∃ us', (w.setCells g o vs).ownsRow base E 1 (.slice (some ⟨g, 0, none⟩) n cap) n us' ∧ us'.take o = us.take o ∧ Fr (fun k => k = g) w (w.setCells g o vs) := by
  induction vs with
  | nil => exact fun {w us} o h _ => ⟨us, h, rfl, Fr.refl _ _⟩
  | cons v vs ih =>
    intro w us o h ho
    simp only [List.length_cons] at ho
    obtain ⟨us', h1, h2, h3⟩ := ih (o + 1) (own_setc h (i := o) (by omega) v) (by omega)
    refine ⟨us', h1, ?_, ((Fr.refl (fun k => k = g) w).setCell (p := ⟨g, o, none⟩) (.inl rfl) v).trans h3⟩
    have h4 := congrArg (List.take o) h2
    rw [List.take_take, List.take_take, Nat.min_eq_left (by omega), List.take_set_of_le (Nat.le_refl _)] at h4
    exact h4
theorem own_cut {w : World} {base n g cap : Nat} {E : TypeId} {us : List Value} (h : w.ownsRow base E 1 (.slice (some ⟨g, 0, none⟩) n cap) n us) {p : Nat} (hp : p ≤ n) : w.ownsRow base E 1 (.slice (some ⟨g, 0, none⟩) p cap) p (us.take p) := by
  obtain ⟨hl, h⟩ := h
  refine ⟨by rw [List.length_take, hl]; omega, ?_⟩
  rcases h with ⟨h0, -⟩ | ⟨g', cap', cur, e, hb, hc, h1, h2, h3, h4⟩
  · cases h0
  injection e with e1 e2 e3
  injection e1 with e1
  injection e1 with e1
  subst e1 e3
  refine .inr ⟨g, cap, cur, rfl, hb, hc, by omega, h2, h3, ?_⟩
  rw [← h4, List.take_take, Nat.min_eq_left (by omega), Nat.mul_one]
theorem own_cell1 {w : World} {base n g cap : Nat} {E : TypeId} {us : List Value} (h : w.ownsRow base E 1 (.slice (some ⟨g, 0, none⟩) n cap) n us) {i : Nat} {u : Value} (hi : us[i]? = some u) : w.cell? ⟨g, i, none⟩ = some u ∧ w.frozen? ⟨g, i, none⟩ = false := by
  obtain ⟨hl, h⟩ := h
  rcases h with ⟨h0, -⟩ | ⟨g', cap', cur, e, hb, hc, h1, h2, h3, h4⟩
  · cases h0
  injection e with e1 e2 e3
  injection e1 with e1
  injection e1 with e1
  subst e1 e3
  refine ⟨?_, by simp [World.frozen?, hc]⟩
  obtain ⟨hil, -⟩ := List.getElem?_eq_some_iff.1 hi
  rw [← h4, List.getElem?_take_of_lt (by omega), Array.getElem?_toList] at hi
  simp [World.cell?, hc, hi]
/-- Whether a row differs from the one ahead of it. -/
def keepB (rows : List (List Vl)) (i : Nat) : Bool := decide (i = 0) || !(cmpR (rows.getD i []) (rows.getD (i - 1) []) == 0)
def keepL (rows : List (List Vl)) (k : Nat) : List Nat := (List.range k).filter (keepB rows)
theorem keepL_yes {rows : List (List Vl)} {k : Nat} (h : keepB rows k = true) : keepL rows (k + 1) = keepL rows k ++ [k] := by
  unfold keepL
  rw [List.range_succ, List.filter_append]
  simp [h]
theorem keepL_no {rows : List (List Vl)} {k : Nat} (h : keepB rows k = false) : keepL rows (k + 1) = keepL rows k := by
  unfold keepL
  rw [List.range_succ, List.filter_append]
  simp [h]
theorem keepL_all {rows : List (List Vl)} : ∀ {k : Nat}, (∀ i, i < k → keepB rows i = true) → keepL rows k = List.range k
  | 0, _ => rfl
  | k + 1, h => by rw [keepL_yes (h k (by omega)), keepL_all (fun i hi => h i (by omega)), List.range_succ]
theorem keepL_lt {rows : List (List Vl)} {k i : Nat} (h : i ∈ keepL rows k) : i < k := List.mem_range.1 (List.mem_filter.1 h).1
theorem keepL_le (rows : List (List Vl)) (k : Nat) : (keepL rows k).length ≤ k := by
  have := List.length_filter_le (keepB rows) (List.range k)
  rw [List.length_range] at this
  exact this
/-- The rows without repetitions next to each other. -/
def cptR (rows : List (List Vl)) : List (List Vl) := (keepL rows rows.length).map (fun i => rows.getD i [])
theorem asc_le {rows : List (List Vl)} (h : AscR rows) {i j : Nat} (hij : i ≤ j) (hj : j < rows.length) : cmpR (rows.getD i []) (rows.getD j []) ≤ 0 := by
  rcases Nat.lt_or_ge i j with h1 | h1
  · have h2 := List.pairwise_iff_getElem.1 h i j (by omega) hj h1
    simpa [List.getElem?_eq_getElem hj, List.getElem?_eq_getElem (show i < rows.length by omega)] using h2
  · obtain rfl : i = j := by omega
    rw [cmp_row.self]
    exact Int.le_refl 0
theorem cptR_so {rows : List (List Vl)} (h : AscR rows) : SoR (cptR rows) := by
  unfold SoR cptR
  rw [List.pairwise_map]
  have h1 : (keepL rows rows.length).Pairwise (fun a b => a < b ∧ b < rows.length ∧ keepB rows b = true) := by
    unfold keepL
    rw [List.pairwise_filter]
    refine (List.pairwise_lt_range (n := rows.length)).imp_of_mem (fun {a b} ha hb hab _ hk => ⟨hab, List.mem_range.1 hb, hk⟩)
  refine h1.imp (fun {a b} ⟨hab, hb, hk⟩ => ?_)
  have h2 := asc_le h (i := a) (j := b - 1) (by omega) (by omega)
  have h3 := asc_le h (i := b - 1) (j := b) (by omega) hb
  have h4 : cmpR (rows.getD b []) (rows.getD (b - 1) []) ≠ 0 := by
    unfold keepB at hk
    simp only [Bool.or_eq_true, decide_eq_true_eq, Bool.not_eq_true'] at hk
    rcases hk with hk | hk
    · omega
    · simpa using hk
  have h5 := cmp_row.anti (rows.getD (b - 1) []) (rows.getD b [])
  exact cmp_row.le_lt h2 (by omega)
theorem cptR_mem {rows : List (List Vl)} {r : List Vl} : r ∈ cptR rows ↔ r ∈ rows := by
  unfold cptR
  rw [List.mem_map]
  constructor
  · rintro ⟨i, hi, rfl⟩
    have h1 := keepL_lt hi
    rw [List.getD_eq_getElem?_getD, List.getElem?_eq_getElem h1]
    exact List.getElem_mem h1
  · intro hr
    obtain ⟨i, hi, rfl⟩ := List.getElem_of_mem hr
    have key : ∀ j, j < rows.length → ∃ a ∈ keepL rows rows.length, rows.getD a [] = rows.getD j [] := by
      intro j
      induction j with
      | zero => exact fun hj => ⟨0, List.mem_filter.2 ⟨List.mem_range.2 hj, rfl⟩, rfl⟩
      | succ j ih =>
        intro hj
        rcases hk : keepB rows (j + 1) with _ | _
        · obtain ⟨a, ha, e⟩ := ih (by omega)
          refine ⟨a, ha, ?_⟩
          unfold keepB at hk
          simp only [Bool.or_eq_false_iff, Bool.not_eq_false', beq_iff_eq] at hk
          rw [e]
          have h1 := hk.2
          rw [cmp_row.eq] at h1
          simpa using h1.symm
        · exact ⟨j + 1, List.mem_filter.2 ⟨List.mem_range.2 hj, hk⟩, rfl⟩
    obtain ⟨a, ha, e⟩ := key i hi
    refine ⟨a, ha, ?_⟩
    rw [e, List.getD_eq_getElem?_getD, List.getElem?_eq_getElem hi]
    rfl
theorem zero_row (w : World) : (zeroValue 81).run Tryz.prog w = .ok (.slice none 0 0) w := by kernel_rfl
/-- What CompactFunc leaves of rows. -/
def CptPost (F : Nat → Prop) (base g cap : Nat) (rows : List (List Vl)) (w : World) (e : Ending) (w' : World) : Prop :=
  Fr (fun k => k = g) w w' ∧ ∃ p us', e = .returned (.slice (some ⟨g, 0, none⟩) p cap) ∧ OwR F w' base (.slice (some ⟨g, 0, none⟩) p cap) p us' (cptR rows)
set_option maxRecDepth 20000 in
set_option maxHeartbeats 3200000 in
theorem compact_own {F : Nat → Prop} {w : World} {base n g cap : Nat} {us : List Value} {rows : List (List Vl)} (h : OwR F w base (.slice (some ⟨g, 0, none⟩) n cap) n us rows) (hr : ∀ x ∈ rows, x.length ≤ 1048576) (hn : n ≤ 1048576) (hn0 : 0 < n) :
    Calls Tryz.prog 106 #[.slice (some ⟨g, 0, none⟩) n cap, .func (.func 70) #[] #[]] w (CptPost F base g cap rows w) := by
  have hnu := h.num
  have hln := h.len
  have H := Lib.hid h; have HR := Lib.hid hr; have HNU := Lib.hid hnu; have HLN := Lib.hid hln
  have HG : Hid (g < w.heap.size) := Lib.hid (by
    rcases h.own.2 with ⟨h0, -⟩ | ⟨g', cap', cur, e, hb, hc, -⟩
    · cases h0
    · injection e with e1
      injection e1 with e1
      injection e1 with e1
      rw [e1]
      exact (Array.getElem?_eq_some_iff.1 hc).1)
  have hnc : n ≤ cap := by
    rcases h.own.2 with ⟨h0, -⟩ | ⟨g', cap', cur, e, hb, hc, h1, -⟩
    · cases h0
    · injection e with e1 e2 e3
      omega
  clear h hr hnu hln
  by_cases h2 : n < 2
  · obtain rfl : n = 1 := by omega
    go_enter Tryz.func106, Tryz.ntmps106
    go_wp2_with fail
    go_ret
    refine ⟨Fr.refl _ _, 1, us, rfl, ?_⟩
    have e : cptR rows = rows := by
      have hl : rows.length = 1 := by have := HNU.out; have := HLN.out; omega
      match rows, hl with
      | [r], _ => rfl
    rw [e]
    exact H.out
  have h2' : ¬ (n : Int) < 2 := by omega
  clear h2
  go_enter Tryz.func106, Tryz.ntmps106
  go_wp2_with fail
  go_loopw [5] (fun t wr => ∃ i : Nat, 1 ≤ i ∧ i ≤ n ∧ t = .int .i64 (i : Int) ∧ Hid (∀ j, j < i → keepB rows j = true) ∧ Gr w wr) (fun t _ => n - (intOf t).toNat)
  case atStart => exact ⟨1, Nat.le_refl _, by omega, rfl, Lib.hid (fun j hj => by obtain rfl : j = 0 := (by omega); rfl), Gr.refl _⟩
  case round =>
    obtain ⟨i, hi1, hi, rfl, HK, hgr⟩ := hrel
    obtain ⟨W, rfl⟩ : ∃ W : World, W = wr := ⟨_, rfl⟩
    have HX := Lib.hid hgr
    have HW := Lib.hid (H.out.ext hgr.ext)
    by_cases hlt : i < n
    · have i1 : (0 : Int) ≤ (i : Int) := by omega
      have i2 : (i : Int) < (n : Int) := by omega
      have i3 : (0 : Int) ≤ (i : Int) - 1 := by omega
      have i4 : (i : Int) - 1 < (n : Int) := by omega
      have i5 : (1 : Int) ≤ (i : Int) := by omega
      have hs : IntKind.i64.wrap ((i : Int) - 1) = (i : Int) - 1 := IntWalk.i64_in _ (by omega)
      have hs2 : ((i : Int) - 1).toNat = i - 1 := by omega
      have hiu : i < us.length := by have := HNU.out; omega
      have hir : i < rows.length := by have := HLN.out; omega
      obtain ⟨x1, hx1⟩ : ∃ x, x = us[i] := ⟨_, rfl⟩
      obtain ⟨x0, hx0⟩ : ∃ x, x = us[i - 1] := ⟨_, rfl⟩
      have c1 := (own_cell1 HW.out.own (i := i) (u := x1) (by rw [hx1]; exact List.getElem?_eq_getElem hiu)).1
      have c0 := (own_cell1 HW.out.own (i := i - 1) (u := x0) (by rw [hx0]; exact List.getElem?_eq_getElem (by omega))).1
      have r1 := HW.out.rd i hir hiu
      have r0 := HW.out.rd (i - 1) (by omega) (by omega)
      rw [← hx1] at r1
      rw [← hx0] at r0
      obtain ⟨A1, d1, rfl⟩ := r1.sl
      obtain ⟨A0, d0, rfl⟩ := r0.sl
      have l1 := HR.out _ (List.getElem_mem hir)
      have l0 := HR.out _ (List.getElem_mem (show i - 1 < rows.length by omega))
      have HE := Lib.hid (fun (V : World) (hV : Ext W V) => requal_any (w := V) (r1.ext hV) (r0.ext hV) l1 l0)
      have hkb : keepB rows i = !(cmpR rows[i] rows[i - 1] == 0) := by
        unfold keepB
        rw [decide_eq_false (by omega)]
        simp [List.getElem?_eq_getElem hir, List.getElem?_eq_getElem (show i - 1 < rows.length by omega)]
      obtain ⟨z, hz⟩ : ∃ z, z = (cmpR rows[i] rows[i - 1] == 0) := ⟨_, rfl⟩
      rw [← hz] at hkb HE
      obtain ⟨n1, hn1⟩ : ∃ k, k = rows[i].length := ⟨_, rfl⟩
      obtain ⟨n0, hn0'⟩ : ∃ k, k = rows[i - 1].length := ⟨_, rfl⟩
      rw [← hn1] at c1 HE
      rw [← hn0'] at c0 HE
      have HKB := Lib.hid hkb
      clear hx1 hx0 r1 r0 l1 l0 hkb hz hn1 hn0' hgr hiu hir
      go_upto_region 6 with fail
      go_region_held3 (fun V => Gr W V ∧ V.cell? ⟨g, i, none⟩ = some (.slice A1 n1 d1) ∧ V.cell? ⟨g, i - 1, none⟩ = some (.slice A0 n0 d0))
        ((refine (fun he => ⟨he, Gr.cell he c1, Gr.cell he c0⟩) ?_; repeat (first | exact Gr.refl _ | exact (Gr.refl _).drew | refine Gr.drew ?_ | refine Gr.trans ?_ (by assumption))))
        (first
          | (go_at_call 70; (with_reducible refine (HE.out _ (Gr.ext (And.left (by assumption)))).mono ?_); rintro e wi ⟨rfl, hei⟩))
      have hfin := And.left (b := _ ∧ _) (by assumption)
      obtain ⟨X, rfl⟩ : ∃ X : World, X = wi := ⟨_, rfl⟩
      have HX2 := Lib.hid (HX.out.trans hfin)
      clear hfin hei c1 c0
      rcases z with _ | _
      · have HK2 : Hid (∀ j, j < i + 1 → keepB rows j = true) := Lib.hid (fun j hj => by
          rcases Nat.lt_or_ge j i with h1 | h1
          · exact HK.out j h1
          · obtain rfl : j = i := by omega
            rw [HKB.out]; rfl)
        clear hs hs2
        go_wp2_with fail
        go_roundw
        case rel => exact ⟨i + 1, by omega, by omega, by go_num, HK2, HX2.out⟩
        case measure => simp [intOf]; omega
      · have HX3 := Lib.hid (H.out.ext HX2.out.ext)
        have hcp : ¬ cap = i := by omega
        have hcp2 : (i : Int) ≤ (cap : Int) := by omega
        have hsz : g < X.heap.size := by have := HG.out; have := HX2.out.ext.size; omega
        have hu0 : keepL rows (i + 1) = List.range i := by
          rw [keepL_no (by rw [HKB.out]; rfl), keepL_all HK.out]
        have HST : Hid ((us.take i) = (keepL rows (i + 1)).map (fun j => us.getD j default)) := Lib.hid (by
          rw [hu0]
          apply List.ext_getElem
          · have := HNU.out
            simp
            omega
          · intro j h1 h2
            have h3 : j < us.length := by rw [List.length_take] at h1; omega
            simp [List.getElem?_eq_getElem h3])
        have HLK : Hid ((keepL rows (i + 1)).length = i) := Lib.hid (by rw [hu0]; simp)
        clear hs hs2 hu0
        go_upto_block 2 with fail
        obtain ⟨m, hm⟩ : ∃ m, m = n - i := ⟨_, rfl⟩
        obtain ⟨cm, hcm⟩ : ∃ m, m = cap - i := ⟨_, rfl⟩
        rw [← hm, ← hcm]
        have hm1 : i + m ≤ n := by omega
        have hm2 : n ≤ i + m := by omega
        have hm3 : 1 ≤ m := by omega
        have hm4 : m ≤ cm := by omega
        clear hm hcm
        go_wp2_with fail
        go_loopw [5, 7] (fun t s wr => ∃ (k p : Nat) (cur : List Value), 1 ≤ k ∧ k ≤ m ∧ s = .int .i64 (k : Int) ∧ t = .int .i64 (p : Int) ∧ p + 1 ≤ i + k ∧ Hid ((keepL rows (i + k)).length = p) ∧ Hid (wr.ownsRow base 81 1 (.slice (some ⟨g, 0, none⟩) n cap) n cur) ∧ Hid (cur.take p = (keepL rows (i + k)).map (fun j => us.getD j default)) ∧ Hid (∀ j, i + k - 1 ≤ j → cur[j]? = us[j]?) ∧ Fr (fun k => k = g) w wr) (fun _ s _ => n - (intOf s).toNat)
        case atStart => exact ⟨1, i, us, Nat.le_refl _, hm3, rfl, rfl, by omega, HLK, Lib.hid HX3.out.own, HST, Lib.hid (fun _ _ => rfl), HX2.out.ext.fr _⟩
        case round =>
          obtain ⟨k, p, cur, hk1, hk, rfl, rfl, hpk, HLEN, HOW, HTK, HSM, hfr⟩ := hrel
          obtain ⟨W2, rfl⟩ : ∃ W : World, W = wr := ⟨_, rfl⟩
          have HF := Lib.hid hfr
          have HW2 := Lib.hid (H.out.fr hfr)
          by_cases hkl : k < m
          · have k1 : (0 : Int) ≤ (k : Int) := by omega
            have k2 : (k : Int) < (m : Int) := by omega
            have k3 : (0 : Int) ≤ (k : Int) - 1 := by omega
            have k4 : (k : Int) - 1 < (m : Int) := by omega
            have k5 : (1 : Int) ≤ (k : Int) := by omega
            have p1 : (0 : Int) ≤ (p : Int) := by omega
            have p2 : (p : Int) < (n : Int) := by omega
            have hs : IntKind.i64.wrap ((k : Int) - 1) = (k : Int) - 1 := IntWalk.i64_in _ (by omega)
            have hs2 : ((k : Int) - 1).toNat = k - 1 := by omega
            have hiu : i + k < us.length := by have := HNU.out; omega
            have hir : i + k < rows.length := by have := HLN.out; omega
            have hju : i + (k - 1) < us.length := by omega
            have hjr : i + (k - 1) < rows.length := by omega
            obtain ⟨x1, hx1⟩ : ∃ x, x = us[i + k] := ⟨_, rfl⟩
            obtain ⟨x0, hx0⟩ : ∃ x, x = us[i + (k - 1)] := ⟨_, rfl⟩
            have hcl : cur.length = n := by have := HOW.out.1; omega
            have c1 := (own_cell1 HOW.out (i := i + k) (u := x1) (by rw [hx1, HSM.out _ (by omega)]; exact List.getElem?_eq_getElem hiu)).1
            have c0 := (own_cell1 HOW.out (i := i + (k - 1)) (u := x0) (by rw [hx0, HSM.out _ (by omega)]; exact List.getElem?_eq_getElem hju)).1
            obtain ⟨cp, fp⟩ := own_cell1 HOW.out (i := p) (u := cur[p]'(by omega)) (List.getElem?_eq_getElem _)
            have r1 := H.out.rd (i + k) hir hiu
            have r0 := H.out.rd (i + (k - 1)) hjr hju
            rw [← hx1] at r1
            rw [← hx0] at r0
            obtain ⟨A2, d2, rfl⟩ := r1.sl
            obtain ⟨A3, d3, rfl⟩ := r0.sl
            have l1 := HR.out _ (List.getElem_mem hir)
            have l0 := HR.out _ (List.getElem_mem hjr)
            replace r1 := r1.fr hfr (fun q hq e => hq.2 (by rw [e]; rfl))
            replace r0 := r0.fr hfr (fun q hq e => hq.2 (by rw [e]; rfl))
            have HE2 := Lib.hid (fun (V : World) (hV : Ext W2 V) => requal_any (w := V) (r1.ext hV) (r0.ext hV) l1 l0)
            have hkb : keepB rows (i + k) = !(cmpR rows[i + k] rows[i + (k - 1)] == 0) := by
              unfold keepB
              rw [decide_eq_false (by omega)]
              have e : i + k - 1 = i + (k - 1) := by omega
              simp [List.getElem?_eq_getElem hir, e, List.getElem?_eq_getElem hjr]
            obtain ⟨z, hz⟩ : ∃ z, z = (cmpR rows[i + k] rows[i + (k - 1)] == 0) := ⟨_, rfl⟩
            rw [← hz] at hkb HE2
            obtain ⟨n2, hn2⟩ : ∃ q, q = rows[i + k].length := ⟨_, rfl⟩
            obtain ⟨n3, hn3⟩ : ∃ q, q = rows[i + (k - 1)].length := ⟨_, rfl⟩
            rw [← hn2] at c1 HE2
            rw [← hn3] at c0 HE2
            have hxu : us.getD (i + k) default = .slice A2 n2 d2 := by
              rw [List.getD_eq_getElem?_getD, List.getElem?_eq_getElem hiu, ← hx1, hn2]
              rfl
            have HKB2 := Lib.hid hkb; have HXU := Lib.hid hxu; have HCL := Lib.hid hcl
            obtain ⟨up, hup⟩ : ∃ x, x = cur[p]'(by omega) := ⟨_, rfl⟩
            rw [← hup] at cp
            have HUP : Hid (cur[p]? = some up) := Lib.hid (by rw [hup]; exact List.getElem?_eq_getElem _)
            clear hx1 hx0 r1 r0 l1 l0 hkb hz hn2 hn3 hfr hiu hir hju hjr hxu hcl hup
            go_upto_region 11 with fail
            go_region_held3 (fun V => Gr W2 V ∧ V.cell? ⟨g, i + k, none⟩ = some (.slice A2 n2 d2) ∧ V.cell? ⟨g, i + (k - 1), none⟩ = some (.slice A3 n3 d3))
              ((refine (fun he => ⟨he, Gr.cell he c1, Gr.cell he c0⟩) ?_; repeat (first | exact Gr.refl _ | exact (Gr.refl _).drew | refine Gr.drew ?_ | refine Gr.trans ?_ (by assumption))))
              (first
                | (go_at_call 70; (with_reducible refine (HE2.out _ (Gr.ext (And.left (by assumption)))).mono ?_); rintro e wi ⟨rfl, hei⟩))
            have hfin := And.left (b := _ ∧ _) (by assumption)
            obtain ⟨X2, rfl⟩ : ∃ X : World, X = wi := ⟨_, rfl⟩
            have HFX := Lib.hid (HF.out.ext hfin.ext); have HOX := Lib.hid (own_ext' HOW.out hfin.ext)
            replace c1 := hfin.cell c1
            replace cp := hfin.cell cp
            have fx := (own_cell1 HOX.out HUP.out).2
            clear hfin hei c0 fp hs hs2
            rcases z with _ | _
            · have HK2 := Lib.hid (keepL_yes (by rw [HKB2.out]; rfl))
              go_wp2_with fail
              have hf3 := HFX.out.setCell (p := ⟨g, p, none⟩) (.inl rfl) (.slice A2 n2 d2)
              have ho3 := own_setc HOX.out (i := p) (by omega) (.slice A2 n2 d2)
              have HF3 := Lib.hid hf3; have HO3 := Lib.hid ho3
              have HL3 : Hid ((keepL rows (i + (k + 1))).length = p + 1) := Lib.hid (by rw [show i + (k + 1) = i + k + 1 by omega, HK2.out, List.length_append, HLEN.out]; rfl)
              have HT3 : Hid ((cur.set p (.slice A2 n2 d2)).take (p + 1) = (keepL rows (i + (k + 1))).map (fun j => us.getD j default)) := Lib.hid (by
                rw [show i + (k + 1) = i + k + 1 by omega, HK2.out, List.map_append, ← HTK.out]
                have hpl : p < (cur.set p (Value.slice A2 n2 d2)).length := by rw [List.length_set, HCL.out]; omega
                rw [List.take_succ_eq_append_getElem hpl, List.take_set_of_le (Nat.le_refl _)]
                simp only [List.getElem_set_self, List.map_cons, List.map_nil, HXU.out])
              have HS3 : Hid (∀ j, i + (k + 1) - 1 ≤ j → (cur.set p (.slice A2 n2 d2))[j]? = us[j]?) := Lib.hid (fun j hj => by
                rw [List.getElem?_set_ne (by omega)]
                exact HSM.out j (by omega))
              clear hf3 ho3
              go_roundw
              case rel => exact ⟨k + 1, p + 1, _, by omega, by omega, by go_num, by go_num, by omega, HL3, HO3, HT3, HS3, HF3.out⟩
              case measure => simp [intOf]; omega
            · have HK2 := Lib.hid (keepL_no (rows := rows) (k := i + k) (by rw [HKB2.out]; rfl))
              go_wp2_with fail
              have HL3 : Hid ((keepL rows (i + (k + 1))).length = p) := Lib.hid (by rw [show i + (k + 1) = i + k + 1 by omega, HK2.out, HLEN.out])
              have HT3 : Hid (cur.take p = (keepL rows (i + (k + 1))).map (fun j => us.getD j default)) := Lib.hid (by rw [show i + (k + 1) = i + k + 1 by omega, HK2.out, HTK.out])
              have HS3 : Hid (∀ j, i + (k + 1) - 1 ≤ j → cur[j]? = us[j]?) := Lib.hid (fun j hj => HSM.out j (by omega))
              go_roundw
              case rel => exact ⟨k + 1, p, cur, by omega, by omega, by go_num, rfl, by omega, HL3, HOX, HT3, HS3, HFX.out⟩
              case measure => simp [intOf]; omega
          · obtain rfl : k = m := by omega
            have hdk : ¬ (k : Int) < (k : Int) := by omega
            have hin : i + k = n := by omega
            have hpn : p < n := by omega
            have hcl : cur.length = n := by have := HOW.out.1; omega
            obtain ⟨us', hw4, ht4, hf4⟩ := own_setCells (List.replicate (n - p) (.slice none 0 0)) p HOW.out (by simp; omega)
            have hclr : ∀ ty, (Builtin.clear_ #[52] ty #[.slice (some ⟨g, p, none⟩) (n - p) (cap - p)]).run Tryz.prog W2 = .ok (.tuple #[]) (W2.setCells g p (List.replicate (n - p) (.slice none 0 0))) := fun ty => Lib.run_clear_slice W2 _ 81 ty (.slice none 0 0) Tryz.underlying52 zero_row rfl rfl g p (n - p) (cap - p) (by omega) (fun j hj => by
              rw [(own_cell1 HOW.out (i := p + j) (u := cur[p + j]'(by omega)) (List.getElem?_eq_getElem _)).1]; rfl) (fun j hj => (own_cell1 HOW.out (i := p + j) (u := cur[p + j]'(by omega)) (List.getElem?_eq_getElem _)).2)
            obtain ⟨W3, hW3⟩ : ∃ W3, W3 = W2.setCells g p (List.replicate (n - p) (.slice none 0 0)) := ⟨_, rfl⟩
            rw [← hW3] at hw4 hf4 hclr
            have HRES : Hid (CptPost F base g cap rows w (.returned (.slice (some ⟨g, 0, none⟩) p cap)) W3) := Lib.hid (by
              have hrl : rows.length = i + k := by have := HNU.out; have := HLN.out; omega
              have hf5 := hfr.trans hf4
              have e1 : us'.take p = (keepL rows (i + k)).map (fun j => us.getD j default) := by rw [ht4, HTK.out]
              refine ⟨hf5, p, us'.take p, rfl, own_cut hw4 (by omega), ?_, fun q hq hq' => ?_⟩
              · rw [e1]
                unfold cptR
                rw [hrl, List.length_map, List.length_map]
              · have hql : q < (keepL rows (i + k)).length := by rw [e1, List.length_map] at hq'; exact hq'
                have hlt2 := keepL_lt (List.getElem_mem hql)
                have h7 : (us'.take p)[q] = us.getD ((keepL rows (i + k))[q]) default := by
                  simp only [e1, List.getElem_map]
                have h8 : (cptR rows)[q] = rows.getD ((keepL rows (i + k))[q]) [] := by
                  unfold cptR
                  simp only [hrl, List.getElem_map]
                rw [h7, h8, List.getD_eq_getElem?_getD, List.getD_eq_getElem?_getD, List.getElem?_eq_getElem (show (keepL rows (i + k))[q] < us.length by have := HNU.out; omega), List.getElem?_eq_getElem (show (keepL rows (i + k))[q] < rows.length by omega)]
                exact (H.out.rd _ (by omega) (by have := HNU.out; omega)).fr hf5 (fun z hz e => hz.2 (by rw [e]; rfl)))
            have p1 : (0 : Int) ≤ (p : Int) := by omega
            have p2 : (p : Int) ≤ (n : Int) := by omega
            have p3 : (p : Int) ≤ (cap : Int) := by omega
            have p4 : ¬ cap = p := by omega
            clear hin hcl hw4 ht4 hf4 hW3 hfr
            go_wp2_with fail
            go_ret
            exact HRES.out
    · obtain rfl : i = n := by omega
      have hdi : ¬ (i : Int) < (i : Int) := by omega
      clear hgr
      go_wp2_with fail
      go_ret
      refine ⟨HX.out.ext.fr _, i, us, rfl, ?_⟩
      have e : cptR rows = rows := by
        unfold cptR
        have hl : rows.length = i := by have := HNU.out; have := HLN.out; omega
        rw [hl, keepL_all HK.out]
        apply List.ext_getElem
        · simp [hl]
        · intro j h1 h2
          simp [List.getElem?_eq_getElem h2]
      rw [e]
      exact HW.out
end Go.Proofs.YtmmmdinncmbjkaaGreat
