/- Contracts of the reference: compare, Holds, Same, In, has. Contracts of the reference: Holds, Same, In, has. -/
import Derived.Test.YtmmmdinncmbjkaaGreatMf28
import Derived.Sort.Walk0
import Derived.Test.YtmmmdinncmbjkaaGreatMf29
namespace Go.Proofs.YtmmmdinncmbjkaaGreat
open Go.RowKit Go.Maps
theorem less_cmp : ∀ a b : List UInt8, Op.bytesLess a b = decide (Lib.compareBytes a b = -1)
  | [], [] => by simp [Op.bytesLess, Lib.compareBytes]
  | [], _ :: _ => by simp [Op.bytesLess, Lib.compareBytes]
  | _ :: _, [] => by simp [Op.bytesLess, Lib.compareBytes]
  | a :: l, b :: m => by
    unfold Op.bytesLess Lib.compareBytes
    rw [less_cmp l m]
    by_cases h1 : a < b
    · simp [h1]
    · by_cases h2 : b < a
      · have h3 : ¬ a = b := fun e => by rw [e] at h2; exact absurd h2 (by simp [UInt8.lt_iff_toNat_lt])
        simp [h1, h2, h3]
      · have h3 : a = b := UInt8.toNat_inj.1 (by rw [UInt8.lt_iff_toNat_lt] at h1 h2; omega)
        subst h3
        simp [h1]
theorem str_less (s t : ByteArray) : Op.bytesLess s.toList t.toList = decide (strC s t = -1) := by
  rw [less_cmp, Lib.toList_data, Lib.toList_data]
  rfl
/-- Two values side by side, as the reference compares them. -/
theorem cmpV_lt (ak bk ai bi : Int) (s t : ByteArray) (h : ak < bk) : cmpV ⟨ak, ai, s⟩ ⟨bk, bi, t⟩ = -1 := by
  unfold cmpV
  simp only
  rw [if_pos (by omega)]
  unfold Lib.compareInt
  rw [if_pos h]
theorem cmpV_gt (ak bk ai bi : Int) (s t : ByteArray) (h : bk < ak) : cmpV ⟨ak, ai, s⟩ ⟨bk, bi, t⟩ = 1 := by
  unfold cmpV
  simp only
  rw [if_pos (by omega)]
  unfold Lib.compareInt
  rw [if_neg (by omega), if_pos h]
theorem cmpV_ilt (k ai bi : Int) (s t : ByteArray) (h : ai < bi) : cmpV ⟨k, ai, s⟩ ⟨k, bi, t⟩ = -1 := by
  unfold cmpV
  simp only
  rw [if_neg (by omega), if_pos (by omega)]
  unfold Lib.compareInt
  rw [if_pos h]
theorem cmpV_igt (k ai bi : Int) (s t : ByteArray) (h : bi < ai) : cmpV ⟨k, ai, s⟩ ⟨k, bi, t⟩ = 1 := by
  unfold cmpV
  simp only
  rw [if_neg (by omega), if_pos (by omega)]
  unfold Lib.compareInt
  rw [if_neg (by omega), if_pos h]
theorem cmpV_str (k i : Int) (s t : ByteArray) : cmpV ⟨k, i, s⟩ ⟨k, i, t⟩ = strC s t := by
  unfold cmpV
  simp only
  rw [if_neg (by omega), if_neg (by omega)]
theorem retI22 {a b : Int} (h : a = b) : Ending.returned (.int .i64 a) = .returned (.int .i64 b) := by rw [h]
theorem two_bx (w : World) (t u : TypeId) (cs ds : List Value) : Ext w ((w.alloc (.cells cs.toArray t)).alloc (.cells ds.toArray u)) := ((Ext.refl w).alloc _).alloc _
set_option maxRecDepth 20000 in
set_option maxHeartbeats 3200000 in
theorem comp22 (a b : Vl) (w : World) :
    Calls Tryz.prog 46 #[vagg a, vagg b] w (fun e w' => e = .returned (.int .i64 (cmpV a b)) ∧ Ext w w') := by
  obtain ⟨ak, ai, s⟩ := a
  obtain ⟨bk, bi, t⟩ := b
  simp only [vagg]
  have heq := fun W => eq_val W ak bk ai bi s t
  obtain ⟨q, hq⟩ : ∃ q, q = ((ak == bk) && ((ai == bi) && (s == t))) := ⟨_, rfl⟩
  rw [← hq] at heq
  obtain ⟨z, hz⟩ : ∃ z, z = cmpV ⟨ak, ai, s⟩ ⟨bk, bi, t⟩ := ⟨_, rfl⟩
  rw [← hz]
  have HZ := Lib.hid hz
  clear hz
  rcases q with _ | _
  · rcases Int.lt_trichotomy ak bk with h | h | h
    · have HV : Hid (z = -1) := Lib.hid (by rw [HZ.out]; exact cmpV_lt _ _ _ _ _ _ h)
      have t1 : decide (ak < bk) = true := by simpa using h
      clear hq h HZ
      go_enter Tryz.func46, Tryz.ntmps46
      go_wp2_with fail
      go_ret
      exact ⟨retI22 HV.out.symm, two_bx _ _ _ _ _⟩
    · subst h
      rcases Int.lt_trichotomy ai bi with h | h | h
      · have HV : Hid (z = -1) := Lib.hid (by rw [HZ.out]; exact cmpV_ilt _ _ _ _ _ h)
        have t2 : decide (ai < bi) = true := by simpa using h
        clear hq h HZ
        go_enter Tryz.func46, Tryz.ntmps46
        go_wp2_with fail
        go_ret
        exact ⟨retI22 HV.out.symm, two_bx _ _ _ _ _⟩
      · subst h
        have hst : s ≠ t := fun e => by rw [e] at hq; simp [beq_toListBytes] at hq
        have hc : strC s t ≠ 0 := fun e => hst ((cmp_str.eq _ _).1 e)
        rcases cmp_str.val s t with h | h | h
        · have HV : Hid (z = -1) := Lib.hid (by rw [HZ.out, cmpV_str, h])
          have t3 : Op.bytesLess s.toList t.toList = true := by rw [str_less, h]; simp
          clear hq h HZ hst hc
          go_enter Tryz.func46, Tryz.ntmps46
          go_wp2_with fail
          go_ret
          exact ⟨retI22 HV.out.symm, two_bx _ _ _ _ _⟩
        · exact absurd h hc
        · have HV : Hid (z = 1) := Lib.hid (by rw [HZ.out, cmpV_str, h])
          have t3 : Op.bytesLess s.toList t.toList = false := by rw [str_less, h]; simp
          clear hq h HZ hst hc
          go_enter Tryz.func46, Tryz.ntmps46
          go_wp2_with fail
          go_ret
          exact ⟨retI22 HV.out.symm, two_bx _ _ _ _ _⟩
      · have HV : Hid (z = 1) := Lib.hid (by rw [HZ.out]; exact cmpV_igt _ _ _ _ _ h)
        have t2 : decide (ai < bi) = false := by simp; omega
        have t4 : (ai == bi) = false := by simp; omega
        clear hq h HZ
        go_enter Tryz.func46, Tryz.ntmps46
        go_wp2_with fail
        go_ret
        exact ⟨retI22 HV.out.symm, two_bx _ _ _ _ _⟩
    · have HV : Hid (z = 1) := Lib.hid (by rw [HZ.out]; exact cmpV_gt _ _ _ _ _ _ h)
      have t1 : decide (ak < bk) = false := by simp; omega
      have t4 : (ak == bk) = false := by simp; omega
      clear hq h HZ
      go_enter Tryz.func46, Tryz.ntmps46
      go_wp2_with fail
      go_ret
      exact ⟨retI22 HV.out.symm, two_bx _ _ _ _ _⟩
  · have HV : Hid (z = 0) := Lib.hid (by
      rw [HZ.out]
      simp only [Bool.true_eq, Bool.and_eq_true, beq_iff_eq] at hq
      obtain ⟨rfl, rfl, h3⟩ := hq
      rw [cmpV_str]
      refine (cmp_str.eq _ _).2 (Classical.byContradiction fun e => ?_)
      rw [beq_toListBytes, str_ne e] at h3
      cases h3)
    clear hq HZ
    go_enter Tryz.func46, Tryz.ntmps46
    go_wp2_with fail
    go_ret
    exact ⟨retI22 HV.out.symm, two_bx _ _ _ _ _⟩
end Go.Proofs.YtmmmdinncmbjkaaGreat
namespace Go.Proofs.YtmmmdinncmbjkaaGreat
open Go.RowKit Go.Maps
theorem vl_beq (a c b d : Int) (s t : ByteArray) : ((a == c) && ((b == d) && (s == t))) = decide ((⟨a, b, s⟩ : Vl) = ⟨c, d, t⟩) := by
  rw [beq_toListBytes]
  by_cases h : s = t
  · rw [str_eq h, Bool.eq_iff_iff]
    simp [h]
  · rw [str_ne h, Bool.eq_iff_iff]
    simp [h]
set_option maxRecDepth 20000 in
set_option maxHeartbeats 3200000 in
theorem holds22 (a b : Vl) (op : Int) (h0 : 0 ≤ op) (h5 : op ≤ 5) (w : World) :
    Calls Tryz.prog 23 #[vagg a, .int .i64 op, vagg b] w (Ret (fun x _ => x = .bool (holdI op (cmpV a b))) w) := by
  obtain ⟨ak, ai, s⟩ := a
  obtain ⟨bk, bi, t⟩ := b
  simp only [vagg]
  have HC := Lib.hid (fun W => comp22 ⟨ak, ai, s⟩ ⟨bk, bi, t⟩ W)
  simp only [vagg] at HC
  obtain ⟨z, hz⟩ : ∃ z, z = cmpV ⟨ak, ai, s⟩ ⟨bk, bi, t⟩ := ⟨_, rfl⟩
  rw [← hz] at HC ⊢
  clear hz
  have ht : op = 0 ∨ op = 1 ∨ op = 2 ∨ op = 3 ∨ op = 4 ∨ op = 5 := by omega
  clear h0 h5
  rcases ht with rfl | rfl | rfl | rfl | rfl | rfl
  all_goals
    go_enter Tryz.func23, Tryz.ntmps23
    go_wp2_with fail
    refine (HC.out _).mono ?_
    rintro e w2 ⟨rfl, he2⟩
    have HE := Lib.hid he2
    clear he2
    go_wp2_with fail
    go_ret
    exact Ret.mk ((two_bx _ _ _ _ _).trans HE.out) (by simp [holdI])
set_option maxRecDepth 20000 in
set_option maxHeartbeats 3200000 in
theorem same22 {F G : Nat → Prop} {w : World} {A B : Option Addr} {n c m d : Nat} {xs ys : List Vl} (h : Sl rdVl F w (.slice A n c) xs) (k : Sl rdVl G w (.slice B m d) ys) (hn : n ≤ 1048576) (hm : m ≤ 1048576) :
    Calls Tryz.prog 66 #[.slice A n c, .slice B m d] w (Ret (fun x _ => x = .bool (decide (xs = ys))) w) := by
  have hnx := h.cap.1
  have hny := k.cap.1
  by_cases hnm : n = m
  · subst hnm
    obtain ⟨q, hq⟩ : ∃ q, q = decide (xs = ys) := ⟨_, rfl⟩
    rw [← hq]
    have HQ := Lib.hid hq
    have HA := Lib.hid h; have HB := Lib.hid k; have HN := Lib.hid hnx; have HM := Lib.hid hny
    clear h k hnx hny hq
    go_enter Tryz.func66, Tryz.ntmps66
    go_wp2_with fail
    go_loopw [5] (fun t wr => ∃ i : Nat, i ≤ n ∧ t = .int .i64 (i : Int) ∧ Hid (xs.take i = ys.take i) ∧ Ext w wr) (fun t _ => n - (intOf t).toNat)
    case atStart => exact ⟨0, Nat.zero_le _, rfl, Lib.hid (by simp), Ext.refl _⟩
    case round =>
      obtain ⟨i, hi, rfl, HE, hx⟩ := hrel
      have HX := Lib.hid hx
      by_cases hlt : i < n
      · have i1 : (0 : Int) ≤ (i : Int) := by omega
        have i2 : (i : Int) < (n : Int) := by omega
        have hil : i < xs.length := by have := HN.out; omega
        have hjl : i < ys.length := by have := HM.out; omega
        obtain ⟨ad, rfl, -, c0, c1, c2⟩ := HA.out.vl hil
        obtain ⟨bd, rfl, -, d0, d1, d2⟩ := HB.out.vl hjl
        replace c0 := hx.cell c0; replace c1 := hx.cell c1; replace c2 := hx.cell c2; replace d0 := hx.cell d0; replace d1 := hx.cell d1; replace d2 := hx.cell d2
        have htx : xs.take (i + 1) = xs.take i ++ [xs[i]] := List.take_succ_eq_append_getElem hil
        have hty : ys.take (i + 1) = ys.take i ++ [ys[i]] := List.take_succ_eq_append_getElem hjl
        have HNE : Hid (xs[i] ≠ ys[i] → xs ≠ ys) := Lib.hid (fun h e => h (by subst e; rfl))
        obtain ⟨x, hxx⟩ : ∃ x, x = xs[i] := ⟨_, rfl⟩
        obtain ⟨y, hyy⟩ : ∃ y, y = ys[i] := ⟨_, rfl⟩
        rw [← hxx] at c0 c1 c2 htx HNE
        rw [← hyy] at d0 d1 d2 hty HNE
        have HTX := Lib.hid htx; have HTY := Lib.hid hty
        obtain ⟨kd, it, st⟩ := x
        obtain ⟨kd2, it2, st2⟩ := y
        simp only at c0 c1 c2 d0 d1 d2
        have heq := fun W => eq_val W kd kd2 it it2 st st2
        rw [vl_beq] at heq
        obtain ⟨r, hr⟩ : ∃ r, r = decide ((⟨kd, it, st⟩ : Vl) = ⟨kd2, it2, st2⟩) := ⟨_, rfl⟩
        rw [← hr] at heq
        have hqq : (⟨kd, it, st⟩ : Vl) = ⟨kd2, it2, st2⟩ ↔ r = true := by rw [hr]; exact decide_eq_true_iff.symm
        clear hxx hyy hx htx hty hr
        rcases r with _ | _
        · have HV : Hid (q = false) := Lib.hid (by rw [HQ.out]; exact decide_eq_false (HNE.out (fun e => by simpa using hqq.1 e)))
          clear hqq
          go_upto_region 6 with fail
          go_quiet (fail)
          have HXQ := Lib.hid (HX.out.drewN nq)
          generalize (wr.drewN nq) = w2 at *
          clear heq
          go_wp2_with fail
          go_ret
          exact Ret.mk HXQ.out (by rw [HV.out]; rfl)
        · have HE2 : Hid (xs.take (i + 1) = ys.take (i + 1)) := Lib.hid (by rw [HTX.out, HTY.out, HE.out, hqq.2 rfl])
          clear hqq
          go_upto_region 6 with fail
          go_quiet (fail)
          have HXQ := Lib.hid (HX.out.drewN nq)
          generalize (wr.drewN nq) = w2 at *
          clear heq
          go_wp2_with fail
          go_roundw
          case rel => exact ⟨i + 1, by omega, by go_num, HE2, HXQ.out⟩
          case measure => simp [intOf]; omega
      · obtain rfl : i = n := by omega
        have hdi : ¬ (i : Int) < (i : Int) := by omega
        have HV : Hid (q = true) := Lib.hid (by
          rw [HQ.out]
          refine decide_eq_true ?_
          have h := HE.out
          rwa [List.take_of_length_le (by have := HN.out; omega), List.take_of_length_le (by have := HM.out; omega)] at h)
        clear hx
        go_wp2_with fail
        go_ret
        exact Ret.mk HX.out (by rw [HV.out]; rfl)
  · have hb : ((n : Int) != (m : Int)) = true := by rw [bne_iff_ne]; omega
    have hb2 : decide (xs = ys) = false := decide_eq_false (fun e => hnm (by rw [hnx, hny, e]))
    rw [hb2]
    clear h k hnx hny hnm
    go_enter Tryz.func66, Tryz.ntmps66
    go_wp2_with fail
    go_ret
    exact Ret.mk (Ext.refl _) rfl
set_option maxRecDepth 20000 in
set_option maxHeartbeats 3200000 in
theorem in22 {F G : Nat → Prop} {w : World} {A B : Option Addr} {n c m d : Nat} {rows : List (List Vl)} {r : List Vl} (h : Sl rdRow F w (.slice A n c) rows) (k : Sl rdVl G w (.slice B m d) r) (hn : n ≤ 1048576) (hm : m ≤ 1048576) (hr : ∀ x ∈ rows, x.length ≤ 1048576) :
    Calls Tryz.prog 44 #[.slice A n c, .slice B m d] w (Ret (fun x _ => x = .bool (decide (r ∈ rows))) w) := by
  have hnx := h.cap.1
  obtain ⟨q, hq⟩ : ∃ q, q = decide (r ∈ rows) := ⟨_, rfl⟩
  rw [← hq]
  have HQ := Lib.hid hq; have HA := Lib.hid h; have HB := Lib.hid k; have HN := Lib.hid hnx; have HR := Lib.hid hr
  clear h k hnx hq hr
  go_enter Tryz.func44, Tryz.ntmps44
  go_wp2_with fail
  go_loopw [5] (fun t wr => ∃ i : Nat, i ≤ n ∧ t = .int .i64 (i : Int) ∧ Hid (r ∉ rows.take i) ∧ Ext w wr) (fun t _ => n - (intOf t).toNat)
  case atStart => exact ⟨0, Nat.zero_le _, rfl, Lib.hid (by simp), Ext.refl _⟩
  case round =>
    obtain ⟨i, hi, rfl, HE, hx⟩ := hrel
    have HX := Lib.hid hx
    by_cases hlt : i < n
    · have i1 : (0 : Int) ≤ (i : Int) := by omega
      have i2 : (i : Int) < (n : Int) := by omega
      have hil : i < rows.length := by have := HN.out; omega
      obtain ⟨ad, D, e, rfl, -, c0, hs⟩ := HA.out.row hil
      replace c0 := hx.cell c0
      have hxl := HR.out _ (List.getElem_mem hil)
      have htx : rows.take (i + 1) = rows.take i ++ [rows[i]] := List.take_succ_eq_append_getElem hil
      have HSM := Lib.hid (fun (V : World) (hV : Ext w V) => same22 (hs.ext hV) (HB.out.ext hV) hxl hm)
      have HMM := Lib.hid (List.getElem_mem hil)
      obtain ⟨x, hxx⟩ : ∃ x, x = rows[i] := ⟨_, rfl⟩
      rw [← hxx] at c0 htx HSM HMM
      obtain ⟨lx, hlx⟩ : ∃ l, l = x.length := ⟨_, rfl⟩
      rw [← hlx] at c0 HSM
      have HTX := Lib.hid htx
      rcases hrb : decide (x = r) with _ | _
      · have HE2 : Hid (r ∉ rows.take (i + 1)) := Lib.hid (by
          rw [HTX.out, List.mem_append]
          rintro (h | h)
          · exact HE.out h
          · exact of_decide_eq_false hrb (List.mem_singleton.1 h).symm)
        rw [hrb] at HSM
        clear hxx hlx hx htx hs hrb hxl
        go_wp2_with fail
        refine (HSM.out _ HX.out).mono ?_
        rintro e2 w2 ⟨v, rfl, he2, rfl⟩
        have HX2 := Lib.hid (HX.out.trans he2)
        clear he2
        go_wp2_with fail
        go_roundw
        case rel => exact ⟨i + 1, by omega, by go_num, HE2, HX2.out⟩
        case measure => simp [intOf]; omega
      · have HV : Hid (q = true) := Lib.hid (by rw [HQ.out]; exact decide_eq_true (of_decide_eq_true hrb ▸ HMM.out))
        rw [hrb] at HSM
        clear hxx hlx hx htx hs hrb hxl
        go_wp2_with fail
        refine (HSM.out _ HX.out).mono ?_
        rintro e2 w2 ⟨v, rfl, he2, rfl⟩
        have HX2 := Lib.hid (HX.out.trans he2)
        clear he2
        go_wp2_with fail
        go_ret
        exact Ret.mk HX2.out (by rw [HV.out]; rfl)
    · obtain rfl : i = n := by omega
      have hdi : ¬ (i : Int) < (i : Int) := by omega
      have HV : Hid (q = false) := Lib.hid (by
        rw [HQ.out]
        refine decide_eq_false ?_
        have h := HE.out
        rwa [List.take_of_length_le (by have := HN.out; omega)] at h)
      clear hx
      go_wp2_with fail
      go_ret
      exact Ret.mk HX.out (by rw [HV.out]; rfl)
/-- A fact: a row of a relation. -/
structure Fc where
  rel : ByteArray
  row : List Vl
def rdFc : Rdg Fc where
  sz := 2
  R := fun F w cs x => ∃ u, cs = [.string x.rel, u] ∧ Sl rdVl F w u x.row
  len := fun ⟨_, e, _⟩ => by rw [e]; rfl
  fr := fun ⟨u, e, h⟩ hf hs => ⟨u, e, h.fr hf hs⟩
  mono := fun ⟨u, e, h⟩ hs => ⟨u, e, h.mono (by decide) hs⟩
theorem Sl.fc {F : Nat → Prop} {w : World} {A : Option Addr} {n c : Nat} {xs : List Fc} (h : Sl rdFc F w (.slice A n c) xs) {i : Nat} (hi : i < xs.length) : ∃ ad B d, A = some ad ∧ w.cell? (ad.add (i * 2)) = some (.string xs[i].rel) ∧ w.cell? ⟨(ad.add (i * 2)).block, (ad.add (i * 2)).off + 1, none⟩ = some (.slice B xs[i].row.length d) ∧ Sl rdVl F w (.slice B xs[i].row.length d) xs[i].row := by
  obtain ⟨ad, cs, h1, h2, h3, h4, h5⟩ := h.at hi
  obtain ⟨u, rfl, k1⟩ := h3
  obtain ⟨B, d, rfl⟩ := k1.sl
  exact ⟨ad, B, d, h1, h4 (by simp), h5 0 (by simp), k1⟩
/-- Whether the facts contain a row of a relation. -/
def hasFc (f : List Fc) (rl : ByteArray) (r : List Vl) : Bool := f.any (fun x => decide (x.rel = rl) && decide (x.row = r))
set_option maxRecDepth 20000 in
set_option maxHeartbeats 3200000 in
theorem has22 {F G : Nat → Prop} {w : World} {A B : Option Addr} {n c m d : Nat} {f : List Fc} {rl : ByteArray} {r : List Vl} (h : Sl rdFc F w (.slice A n c) f) (k : Sl rdVl G w (.slice B m d) r) (hn : n ≤ 1048576) (hm : m ≤ 1048576) (hr : ∀ x ∈ f, x.row.length ≤ 1048576) :
    Calls Tryz.prog 43 #[.slice A n c, .string rl, .slice B m d] w (Ret (fun x _ => x = .bool (hasFc f rl r)) w) := by
  have hnx := h.cap.1
  obtain ⟨q, hq⟩ : ∃ q, q = hasFc f rl r := ⟨_, rfl⟩
  rw [← hq]
  have HQ := Lib.hid hq; have HA := Lib.hid h; have HB := Lib.hid k; have HN := Lib.hid hnx; have HR := Lib.hid hr
  clear h k hnx hq hr
  go_enter Tryz.func43, Tryz.ntmps43
  go_wp2_with fail
  go_loopw [7] (fun t wr => ∃ i : Nat, i ≤ n ∧ t = .int .i64 (i : Int) ∧ Hid (hasFc (f.take i) rl r = false) ∧ Ext w wr) (fun t _ => n - (intOf t).toNat)
  case atStart => exact ⟨0, Nat.zero_le _, rfl, Lib.hid (by simp [hasFc]), Ext.refl _⟩
  case round =>
    obtain ⟨i, hi, rfl, HE, hx⟩ := hrel
    have HX := Lib.hid hx
    by_cases hlt : i < n
    · have i1 : (0 : Int) ≤ (i : Int) := by omega
      have i2 : (i : Int) < (n : Int) := by omega
      have hil : i < f.length := by have := HN.out; omega
      obtain ⟨ad, D, e, rfl, c0, c1, hs⟩ := HA.out.fc hil
      replace c0 := hx.cell c0; replace c1 := hx.cell c1
      have hxl := HR.out _ (List.getElem_mem hil)
      have htx : hasFc (f.take (i + 1)) rl r = (hasFc (f.take i) rl r || (decide (f[i].rel = rl) && decide (f[i].row = r))) := by
        unfold hasFc
        rw [List.take_succ_eq_append_getElem hil, List.any_append]
        simp
      have hall : (decide (f[i].rel = rl) && decide (f[i].row = r)) = true → hasFc f rl r = true := fun e => List.any_eq_true.2 ⟨_, List.getElem_mem hil, e⟩
      have HSM := Lib.hid (fun (V : World) (hV : Ext w V) => same22 (hs.ext hV) (HB.out.ext hV) hxl hm)
      obtain ⟨x, hxx⟩ : ∃ x, x = f[i] := ⟨_, rfl⟩
      rw [← hxx] at c0 c1 htx HSM hall
      obtain ⟨xl, xr⟩ := x
      simp only at c0 c1 htx HSM hall
      obtain ⟨lx, hlx⟩ : ∃ l, l = xr.length := ⟨_, rfl⟩
      rw [← hlx] at c1 HSM
      have HTX := Lib.hid htx; have HALL := Lib.hid hall
      by_cases hrl : xl = rl
      · have hbl := str_eq hrl
        rcases hrb : decide (xr = r) with _ | _
        · have HE2 : Hid (hasFc (f.take (i + 1)) rl r = false) := Lib.hid (by rw [HTX.out, HE.out, hrb]; simp)
          rw [hrb] at HSM
          clear hxx hlx hx htx hs hrb hxl hall hrl
          go_wp2_with fail
          refine (HSM.out _ HX.out).mono ?_
          rintro e2 w2 ⟨v, rfl, he2, rfl⟩
          have HX2 := Lib.hid (HX.out.trans he2)
          clear he2
          go_wp2_with fail
          go_roundw
          case rel => exact ⟨i + 1, by omega, by go_num, HE2, HX2.out⟩
          case measure => simp [intOf]; omega
        · have HV : Hid (q = true) := Lib.hid (by rw [HQ.out]; exact HALL.out (by rw [hrb, hrl]; simp))
          rw [hrb] at HSM
          clear hxx hlx hx htx hs hrb hxl hall hrl
          go_wp2_with fail
          refine (HSM.out _ HX.out).mono ?_
          rintro e2 w2 ⟨v, rfl, he2, rfl⟩
          have HX2 := Lib.hid (HX.out.trans he2)
          clear he2
          go_wp2_with fail
          go_ret
          exact Ret.mk HX2.out (by rw [HV.out]; rfl)
      · have hbl := str_ne hrl
        have HE2 : Hid (hasFc (f.take (i + 1)) rl r = false) := Lib.hid (by rw [HTX.out, HE.out, decide_eq_false hrl]; rfl)
        clear hxx hlx hx htx hs hxl hall hrl
        go_wp2_with fail
        go_roundw
        case rel => exact ⟨i + 1, by omega, by go_num, HE2, HX.out⟩
        case measure => simp [intOf]; omega
    · obtain rfl : i = n := by omega
      have hdi : ¬ (i : Int) < (i : Int) := by omega
      have HV : Hid (q = false) := Lib.hid (by
        rw [HQ.out]
        have h := HE.out
        rwa [List.take_of_length_le (by have := HN.out; omega)] at h)
      clear hx
      go_wp2_with fail
      go_ret
      exact Ret.mk HX.out (by rw [HV.out]; rfl)
end Go.Proofs.YtmmmdinncmbjkaaGreat
