/- Contracts: the reference's Index, first, guard, Vars. -/
import Derived.Test.YtmmmdinncmbjkaaOa
namespace Go.Proofs.Ytmmmdinncmbjkaa
open Go.RowKit Go.Maps

/-- The place of a name, or -1. -/
def idxL (l : List ByteArray) (s : ByteArray) : Int := if s ∈ l then (posN l s : Int) else -1
theorem pos_char : ∀ {l : List ByteArray} {s : ByteArray} {i : Nat} (hi : i < l.length), (∀ j (_ : j < i) (_ : j < l.length), l[j] ≠ s) → l[i] = s → posN l s = i
  | a :: l, s, 0, hi, _, h => if_pos h
  | a :: l, s, i + 1, hi, h0, h => by
    have h1 : a ≠ s := h0 0 (by omega) (by simp)
    have h2 := pos_char (l := l) (s := s) (i := i) (by simpa using hi) (fun j hj hl => h0 (j + 1) (by omega) (by simpa using hl)) (by simpa using h)
    exact (if_neg h1).trans (by rw [h2])
theorem idxL_at {l : List ByteArray} {s : ByteArray} {i : Nat} (hi : i < l.length) (h0 : ∀ j (_ : j < i) (_ : j < l.length), l[j] ≠ s) (h1 : l[i] = s) : idxL l s = (i : Int) := by
  unfold idxL
  rw [if_pos (h1 ▸ List.getElem_mem hi), pos_char hi h0 h1]
theorem idxL_no {l : List ByteArray} {s : ByteArray} (h0 : ∀ j (_ : j < l.length), l[j] ≠ s) : idxL l s = -1 := by
  refine if_neg (fun h => ?_)
  obtain ⟨j, hj, e⟩ := List.getElem_of_mem h
  exact h0 j hj e
theorem str_eq {a b : ByteArray} (h : a = b) : (a.toList == b.toList) = true := by rw [h]; simp
theorem str_ne {a b : ByteArray} (h : a ≠ b) : (a.toList == b.toList) = false := by
  have : a.toList ≠ b.toList := fun e => h (toList_inj' e)
  simpa using this
set_option maxRecDepth 20000 in
set_option maxHeartbeats 1600000 in
theorem index_ref {F : Nat → Prop} {w : World} {A : Option Addr} {n c : Nat} {l : List ByteArray} {s : ByteArray} (h : Strs F w (.slice A n c) l) (hn : n ≤ 1048576) :
    Calls Try.prog 25 #[.slice A n c, .string s] w (Ret (fun x _ => x = .int .i64 (idxL l s)) w) := by
  obtain ⟨A', c', e, -, hcl⟩ := h
  injection e with e1 e2 e3
  subst e1 e3
  have HCL := Lib.hid hcl; have HN := Lib.hid e2
  clear hcl e2
  go_enter Try.func25, Try.ntmps25
  go_wp2_with fail
  go_loopw [5] (fun t wr => ∃ i : Nat, i ≤ n ∧ t = .int .i64 (i : Int) ∧ Hid (∀ j (_ : j < i) (_ : j < l.length), l[j] ≠ s) ∧ Ext w wr) (fun t _ => n - (intOf t).toNat)
  case atStart => exact ⟨0, Nat.zero_le _, rfl, Lib.hid (fun j hj => by omega), Ext.refl _⟩
  case round =>
    obtain ⟨i, hi, rfl, HJ, hx⟩ := hrel
    have HX := Lib.hid hx
    by_cases hlt : i < n
    · have i1 : (0 : Int) ≤ (i : Int) := by omega
      have i2 : (i : Int) < (n : Int) := by omega
      have hil : i < l.length := by have := HN.out; omega
      obtain ⟨ad, rfl, -, c0⟩ := HCL.out.str hil
      replace c0 := hx.cell c0
      have h1 : l[i] = s → Hid (idxL l s = (i : Int)) := fun h => Lib.hid (idxL_at hil HJ.out h)
      have h2 : l[i] ≠ s → Hid (∀ j (_ : j < i + 1) (_ : j < l.length), l[j] ≠ s) := fun h => Lib.hid (fun j hj hl => by
        rcases Nat.lt_or_ge j i with h3 | h3
        · exact HJ.out j h3 hl
        · have : j = i := by omega
          subst this; exact h)
      obtain ⟨x, hxx⟩ : ∃ x, x = l[i] := ⟨_, rfl⟩
      rw [← hxx] at c0 h1 h2
      have H1 := Lib.hid h1; have H2 := Lib.hid h2
      clear hxx h1 h2 hx
      by_cases he : x = s
      · have HQ := H1.out he
        have hb := str_eq he
        clear he
        go_wp2_with fail
        go_ret
        exact Ret.mk HX.out (ret_i HQ.out)
      · have HJ2 := H2.out he
        have hb := str_ne he
        clear he
        go_wp2_with fail
        go_roundw
        case rel => exact ⟨i + 1, by omega, by go_num, HJ2, HX.out⟩
        case measure => simp [intOf]; omega
    · obtain rfl : i = n := by omega
      have hdi : ¬ (i : Int) < (i : Int) := by omega
      have HQ : Hid (idxL l s = -1) := Lib.hid (idxL_no (fun j hj => HJ.out j (by have := HN.out; omega) hj))
      clear hx
      go_wp2_with fail
      go_ret
      exact Ret.mk HX.out (ret_i HQ.out)
/-- The column of a variable, or -1. -/
def fstI (ts : List Tm) (s : ByteArray) : Int := if idxT ts s < ts.length then (idxT ts s : Int) else -1
theorem fstI_at {ts : List Tm} {s : ByteArray} {i : Nat} (hi : i < ts.length) (h0 : ∀ j (_ : j < i) (_ : j < ts.length), ts[j].var ≠ s) (h1 : ts[i].var = s) : fstI ts s = (i : Int) := by
  have e : idxT ts s = i := (List.findIdx_eq hi).2 ⟨by simpa using h1, fun j hj => by simpa using h0 j hj (by omega)⟩
  unfold fstI
  rw [e, if_pos hi]
theorem fstI_no {ts : List Tm} {s : ByteArray} (h0 : ∀ j (_ : j < ts.length), ts[j].var ≠ s) : fstI ts s = -1 := by
  refine if_neg (fun h => ?_)
  exact h0 _ h (idxT_at h)
theorem fstI_ge {ts : List Tm} {s : ByteArray} : 0 ≤ fstI ts s ↔ idxT ts s < ts.length := by
  unfold fstI
  by_cases h : idxT ts s < ts.length
  · rw [if_pos h]; exact ⟨fun _ => h, fun _ => by omega⟩
  · rw [if_neg h]; exact ⟨fun h1 => by omega, fun h1 => absurd h1 h⟩
theorem idxT_any {ts : List Tm} {s : ByteArray} : idxT ts s < ts.length ↔ ts.any (fun u => decide (u.var = s)) = true := by
  unfold idxT
  rw [List.findIdx_lt_length, List.any_eq_true]
set_option maxRecDepth 20000 in
set_option maxHeartbeats 1600000 in
theorem first_ref {F : Nat → Prop} {w : World} {A : Option Addr} {n c : Nat} {ng : Bool} {rl : ByteArray} {ts : List Tm} {s : ByteArray} (h : Ts F w (.slice A n c) ts) (hn : n ≤ 1048576) :
    Calls Try.prog 26 #[.agg #[.bool ng, .string rl, .slice A n c], .string s] w (Ret (fun x _ => x = .int .i64 (fstI ts s)) w) := by
  obtain ⟨A', c', e, -, hcl⟩ := h
  injection e with e1 e2 e3
  subst e1 e3
  have HCL := Lib.hid hcl; have HN := Lib.hid e2
  clear hcl e2
  go_enter Try.func26, Try.ntmps26
  go_upto_region 1 with fail
  have ka := Bk.new w 83 [.bool ng, .string rl, .slice A n c]
  change Bk (w.alloc (.cells #[.bool ng, .string rl, .slice A n c] 83)) _ _ _ at ka
  have hx1 : Ext w (w.alloc (.cells #[.bool ng, .string rl, .slice A n c] 83)) := (Ext.refl w).alloc _
  generalize (w.alloc (.cells #[.bool ng, .string rl, .slice A n c] 83)) = w1 at *
  have HKA := Lib.hid ka; have HX1 := Lib.hid hx1
  clear ka hx1
  go_wp2_with fail
  go_loopw [5] (fun t wr => ∃ i : Nat, i ≤ n ∧ t = .int .i64 (i : Int) ∧ Hid (∀ j (_ : j < i) (_ : j < ts.length), ts[j].var ≠ s) ∧ Ext w1 wr) (fun t _ => n - (intOf t).toNat)
  case atStart => exact ⟨0, Nat.zero_le _, rfl, Lib.hid (fun j hj => by omega), Ext.refl _⟩
  case round =>
    obtain ⟨i, hi, rfl, HJ, hx⟩ := hrel
    have HX := Lib.hid hx
    have a2 := (HKA.out.ext hx).cell (i := 2) (by simp)
    simp only [List.getElem_cons_zero, List.getElem_cons_succ] at a2
    by_cases hlt : i < n
    · have i1 : (0 : Int) ≤ (i : Int) := by omega
      have i2 : (i : Int) < (n : Int) := by omega
      have hil : i < ts.length := by have := HN.out; omega
      obtain ⟨ad, rfl, -, c0, -⟩ := HCL.out.term hil
      replace c0 := hx.cell (HX1.out.cell c0)
      have h1 : ts[i].var = s → Hid (fstI ts s = (i : Int)) := fun h => Lib.hid (fstI_at hil HJ.out h)
      have h2 : ts[i].var ≠ s → Hid (∀ j (_ : j < i + 1) (_ : j < ts.length), ts[j].var ≠ s) := fun h => Lib.hid (fun j hj hl => by
        rcases Nat.lt_or_ge j i with h3 | h3
        · exact HJ.out j h3 hl
        · have : j = i := by omega
          subst this; exact h)
      obtain ⟨x, hxx⟩ : ∃ x, x = ts[i].var := ⟨_, rfl⟩
      rw [← hxx] at c0 h1 h2
      have H1 := Lib.hid h1; have H2 := Lib.hid h2
      clear hxx h1 h2 hx
      by_cases he : x = s
      · have HQ := H1.out he
        have hb := str_eq he
        clear he
        go_wp2_with fail
        go_ret
        exact Ret.mk (HX1.out.trans HX.out) (ret_i HQ.out)
      · have HJ2 := H2.out he
        have hb := str_ne he
        clear he
        go_wp2_with fail
        go_roundw
        case rel => exact ⟨i + 1, by omega, by go_num, HJ2, HX.out⟩
        case measure => simp [intOf]; omega
    · obtain rfl : i = n := by omega
      have hdi : ¬ (i : Int) < (i : Int) := by omega
      have HQ : Hid (fstI ts s = -1) := Lib.hid (fstI_no (fun j hj => HJ.out j (by have := HN.out; omega) hj))
      clear hx
      go_wp2_with fail
      go_ret
      exact Ret.mk (HX1.out.trans HX.out) (ret_i HQ.out)
/-- The reference's guard. -/
def guardR (xs : List At) (a : At) : Int := ((guardI xs a).map (fun i : Nat => (i : Int))).getD (-1)
theorem guardR_at {xs : List At} {a : At} {i : Nat} (hi : i < xs.length) (h0 : ∀ j (_ : j < i) (_ : j < xs.length), gdB a xs[j] = false) (h1 : gdB a xs[i] = true) : guardR xs a = (i : Int) := by
  unfold guardR; rw [guard_here hi h0 h1]; rfl
theorem guardR_no {xs : List At} {a : At} (h0 : ∀ j (_ : j < xs.length), gdB a xs[j] = false) : guardR xs a = -1 := by
  unfold guardR; rw [guard_none h0]; rfl
def covP (a b : At) (k : Nat) : Bool := !b.neg && (a.terms.take k).all (fun t => decide (t.var = ⟨#[]⟩) || b.terms.any (fun u => decide (u.var = t.var)))
theorem covP_all {a b : At} : covP a b a.terms.length = gdB a b := by
  unfold covP gdB covB; rw [List.take_length]
theorem covP_snoc {a b : At} {k : Nat} (h : k < a.terms.length) : covP a b (k + 1) = (covP a b k && (decide (a.terms[k].var = ⟨#[]⟩) || b.terms.any (fun u => decide (u.var = a.terms[k].var)))) := by
  unfold covP
  rw [List.take_succ_eq_append_getElem h, List.all_append, Bool.and_assoc]
  simp
set_option maxRecDepth 20000 in
set_option maxHeartbeats 3200000 in
theorem guard_ref {F : Nat → Prop} {w : World} {A C : Option Addr} {n c nc cc k : Nat} {xs : List At} (hA : Ats F w (.slice A n c) xs) (hl : ∀ a ∈ xs, a.terms.length ≤ 1048576) (hk : k < xs.length) (hn : n ≤ 1048576) :
    Calls Try.prog 27 #[.agg #[.slice A n c, .slice C nc cc], .int .i64 (k : Int)] w (Ret (fun x _ => x = .int .i64 (guardR xs xs[k])) w) := by
  have hnx : n = xs.length := by
    obtain ⟨A', c', e⟩ := hA.sl
    injection e
  have hg0 := fun (i : Nat) (hi : i < xs.length) (h0 : ∀ j (_ : j < i) (_ : j < xs.length), gdB xs[k] xs[j] = false) (h1 : gdB xs[k] xs[i] = true) => guardR_at hi h0 h1
  have hg1 := fun (h0 : ∀ j (_ : j < xs.length), gdB xs[k] xs[j] = false) => guardR_no h0
  obtain ⟨ad, Bk0, dk, rfl, -, -, -, c2, hTk⟩ := hA.at2 k hk
  have hlk := hl _ (List.getElem_mem hk)
  have HA := Lib.hid hA.at2; have HN := Lib.hid hnx; have HL := Lib.hid hl
  obtain ⟨a, ha⟩ : ∃ a, a = xs[k] := ⟨_, rfl⟩
  rw [← ha] at c2 hTk hlk hg0 hg1 ⊢
  obtain ⟨na, hna⟩ : ∃ m, m = a.terms.length := ⟨_, rfl⟩
  rw [← hna] at c2 hlk
  have HTK := Lib.hid hTk.2; have HNA := Lib.hid hna; have HG0 := Lib.hid hg0; have HG1 := Lib.hid hg1
  have k1 : (0 : Int) ≤ (k : Int) := by omega
  have k2 : (k : Int) < (n : Int) := by omega
  clear hA hl hk hnx ha hTk hna hg0 hg1
  go_enter Try.func27, Try.ntmps27
  go_upto_region 1 with fail
  have kr := Bk.new w 48 [.slice (some ad) n c, .slice C nc cc]
  change Bk (w.alloc (.cells #[.slice (some ad) n c, .slice C nc cc] 48)) _ _ _ at kr
  have hx1 : Ext w (w.alloc (.cells #[.slice (some ad) n c, .slice C nc cc] 48)) := (Ext.refl w).alloc _
  generalize (w.alloc (.cells #[.slice (some ad) n c, .slice C nc cc] 48)) = w1 at *
  replace c2 := hx1.cell c2
  have HKR := Lib.hid kr; have HX1 := Lib.hid hx1; have HC2 := Lib.hid c2
  clear kr hx1 c2
  go_wp2_with fail
  go_loopw [5] (fun t wr => ∃ i : Nat, i ≤ n ∧ t = .int .i64 (i : Int) ∧ Hid (∀ j (_ : j < i) (_ : j < xs.length), gdB a xs[j] = false) ∧ Ext w1 wr) (fun t _ => n - (intOf t).toNat)
  case atStart => exact ⟨0, Nat.zero_le _, rfl, Lib.hid (fun j hj => by omega), Ext.refl _⟩
  case round =>
    obtain ⟨i, hi, rfl, HJ, hx⟩ := hrel
    obtain ⟨W, rfl⟩ : ∃ W : World, W = wr := ⟨_, rfl⟩
    have HX := Lib.hid hx
    have r0 := (HKR.out.ext hx).cell (i := 0) (by simp)
    simp only [List.getElem_cons_zero, List.getElem_cons_succ] at r0
    by_cases hlt : i < n
    · have i1 : (0 : Int) ≤ (i : Int) := by omega
      have i2 : (i : Int) < (n : Int) := by omega
      have hil : i < xs.length := by have := HN.out; omega
      obtain ⟨ad', Bi, di, e, -, d0, d1, d2, hTi⟩ := HA.out i hil
      injection e with e
      subst e
      replace d0 := hx.cell (HX1.out.cell d0); replace d1 := hx.cell (HX1.out.cell d1); replace d2 := hx.cell (HX1.out.cell d2)
      have hli := HL.out _ (List.getElem_mem hil)
      have h1 : gdB a xs[i] = true → Hid (guardR xs a = (i : Int)) := fun h => Lib.hid (HG0.out i hil HJ.out h)
      have h2 : gdB a xs[i] = false → Hid (∀ j (_ : j < i + 1) (_ : j < xs.length), gdB a xs[j] = false) := fun h => Lib.hid (fun j hj hl => by
        rcases Nat.lt_or_ge j i with h3 | h3
        · exact HJ.out j h3 hl
        · have : j = i := by omega
          subst this; exact h)
      obtain ⟨b, hb⟩ : ∃ b, b = xs[i] := ⟨_, rfl⟩
      rw [← hb] at d0 d1 d2 hTi hli h1 h2
      obtain ⟨nb, hnb⟩ : ∃ m, m = b.terms.length := ⟨_, rfl⟩
      rw [← hnb] at d2 hli
      have hts : Ts F w (.slice Bi nb di) b.terms := ⟨Bi, di, by rw [hnb], hTi.1, hTi.2⟩
      have HTS := Lib.hid hts; have H1 := Lib.hid h1; have H2 := Lib.hid h2
      have HP0 : Hid (covP a b 0 = !b.neg) := Lib.hid (by simp [covP])
      have HPF : Hid (covP a b na = gdB a b) := Lib.hid (by rw [HNA.out]; exact covP_all)
      obtain ⟨bn, hbn⟩ : ∃ x, x = b.neg := ⟨_, rfl⟩
      rw [← hbn] at d0 HP0
      obtain ⟨br, hbr⟩ : ∃ x, x = b.rel := ⟨_, rfl⟩
      rw [← hbr] at d1
      obtain ⟨v, hv⟩ : ∃ v, v = !bn := ⟨_, rfl⟩
      have HD0 := Lib.hid d0; have HD1 := Lib.hid d1; have HD2 := Lib.hid d2
      clear hb hTi hnb hts h1 h2 hbn hbr hx d1 d2
      rw [← hv] at HP0
      go_wp2_with fail
      go_loopw [6, 7, 8] (fun u t _ wr => ∃ j : Nat, j ≤ na ∧ t = .int .i64 (j : Int) ∧ u = .bool (covP a b j) ∧ Ext W wr) (fun _ t _ _ => na - (intOf t).toNat)
      case atStart => exact ⟨0, Nat.zero_le _, rfl, by rw [HP0.out, hv], Ext.refl _⟩
      case round =>
        obtain ⟨j, hj, rfl, rfl, hxj⟩ := hrel
        have HXJ := Lib.hid hxj
        have r0 := (HKR.out.ext (HX.out.trans hxj)).cell (i := 0) (by simp)
        simp only [List.getElem_cons_zero, List.getElem_cons_succ] at r0
        have c2 := hxj.cell (HX.out.cell HC2.out)
        by_cases hjl : j < na
        · have j1 : (0 : Int) ≤ (j : Int) := by omega
          have j2 : (j : Int) < (na : Int) := by omega
          have hjt : j < a.terms.length := by have := HNA.out; omega
          obtain ⟨adt, rfl, -, t0, -⟩ := HTK.out.term hjt
          replace t0 := hxj.cell (HX.out.cell (HX1.out.cell t0))
          have d0 := hxj.cell HD0.out; have d1 := hxj.cell HD1.out; have d2 := hxj.cell HD2.out
          have hsn := covP_snoc (a := a) (b := b) hjt
          have hge : 0 ≤ fstI b.terms a.terms[j].var ↔ b.terms.any (fun u => decide (u.var = a.terms[j].var)) = true := fstI_ge.trans idxT_any
          have hts : Calls Try.prog 26 #[.agg #[.bool bn, .string br, .slice Bi nb di], .string a.terms[j].var] wr (Ret (fun x _ => x = .int .i64 (fstI b.terms a.terms[j].var)) wr) := first_ref (HTS.out.ext (HX1.out.trans (HX.out.trans hxj))) hli
          obtain ⟨y, hy⟩ : ∃ y, y = a.terms[j].var := ⟨_, rfl⟩
          rw [← hy] at t0 hsn hge hts
          obtain ⟨p, hp⟩ : ∃ p, p = covP a b j := ⟨_, rfl⟩
          rw [← hp] at hsn ⊢
          obtain ⟨f, hf⟩ : ∃ f, f = fstI b.terms y := ⟨_, rfl⟩
          rw [← hf] at hge hts
          have HSN := Lib.hid hsn; have HGE := Lib.hid hge; have HFI := Lib.hid hts
          clear hsn hge hts hy hp hf hxj
          rcases p with _ | _
          · have HQ : Hid (covP a b (j + 1) = false) := Lib.hid (by rw [HSN.out]; rfl)
            go_wp2_with fail
            go_roundw
            case rel => exact ⟨j + 1, by omega, by go_num, by rw [HQ.out], HXJ.out⟩
            case measure => simp [intOf]; omega
          · by_cases hv0 : y = ⟨#[]⟩
            · have HQ : Hid (covP a b (j + 1) = true) := Lib.hid (by rw [HSN.out, hv0]; simp)
              have hb := var_eq hv0
              clear hv0
              go_wp2_with fail
              go_roundw
              case rel => exact ⟨j + 1, by omega, by go_num, by rw [HQ.out], HXJ.out⟩
              case measure => simp [intOf]; omega
            · have hb := var_ne hv0
              have HQ : Hid (covP a b (j + 1) = decide (0 ≤ f)) := Lib.hid (by
                rw [HSN.out, decide_eq_false hv0]
                simp only [Bool.true_and, Bool.false_or]
                exact bool_iff (by rw [← HGE.out]; simp))
              clear hv0
              go_wp2_with fail
              refine HFI.out.mono ?_
              rintro e w5 ⟨x, rfl, he5, rfl⟩
              have HX5 := Lib.hid (HXJ.out.trans he5)
              clear he5
              go_wp2_with fail
              go_roundw
              case rel => exact ⟨j + 1, by omega, by go_num, by rw [HQ.out], HX5.out⟩
              case measure => simp [intOf]; omega
        · obtain rfl : j = na := by omega
          have hdj : ¬ (j : Int) < (j : Int) := by omega
          obtain ⟨p, hp⟩ : ∃ p, p = covP a b j := ⟨_, rfl⟩
          rw [← hp]
          have hgd : p = gdB a b := hp.trans HPF.out
          have hx9 : Ext w1 wr := HX.out.trans hxj
          have HX9 := Lib.hid hx9
          have HP := Lib.hid hgd
          clear hp hgd hx9 hxj
          rcases p with _ | _
          · have HJ2 := H2.out HP.out.symm
            go_wp2_with fail
            go_roundw
            case rel => exact ⟨i + 1, by omega, by go_num, HJ2, HX9.out⟩
            case measure => simp [intOf]; omega
          · have HQ := H1.out HP.out.symm
            go_wp2_with fail
            go_ret
            exact Ret.mk (HX1.out.trans HX9.out) (ret_i HQ.out)
    · obtain rfl : i = n := by omega
      have hdi : ¬ (i : Int) < (i : Int) := by omega
      have HQ : Hid (guardR xs a = -1) := Lib.hid (HG1.out (fun j hj => HJ.out j (by have := HN.out; omega) hj))
      clear hx
      go_wp2_with fail
      go_ret
      exact Ret.mk (HX1.out.trans HX.out) (ret_i HQ.out)
end Go.Proofs.Ytmmmdinncmbjkaa
