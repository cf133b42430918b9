/- Contracts: nat.divLong, nat.DivMod. -/
import Derived.Test.YtjpkaljndfgkjaaDivD
namespace Go.Proofs.Ytjpkaljndfgkjaa
open Go.RowKit

/-- What divLong leaves: quotient and remainder, as rows of digits. -/
def DivPost (a b : Nat) (w : World) (e : Ending) (w' : World) : Prop :=
  ∃ q r, e = .returned (.tuple #[q, r]) ∧ Nv w' q (a / b) ∧ Nv w' r (a % b) ∧ Ext w w'

/-- What the loop of divLong keeps. -/
def DivInv (a b s m n gv gu gq : Nat) (pv : List Nat) (w : World) (t : Value) (wr : World) : Prop :=
  ∃ (k : Nat) (cu qs : List Nat), ((∃ j : Nat, t = .int .i64 (j : Int) ∧ k = j + 1) ∨ (t = .int .i64 (-1) ∧ k = 0)) ∧ k ≤ m - n + 1 ∧ cu.length = m + 1 ∧ Low cu ∧ qs.length = m - n + 1 - k ∧ Low qs ∧ a * 2 ^ s = val cu + val qs * 4294967296 ^ k * (b * 2 ^ s) ∧ val (cu.drop k) < b * 2 ^ s ∧ Bk wr gv 105 (pv.map U32) ∧ Bk wr gu 105 (cu.map U32) ∧ Bk wr gq 105 (((List.replicate (m - n + 1) 0).take k ++ qs).map U32 ++ []) ∧ Ext w wr

theorem digit_kept (P V g o B : Nat) (h1 : P / V ≤ g) (h2 : ¬ P < g * V) (hV : 0 < V) (ho : o + g * V = P + (if P < g * V then B else 0)) : P / V = g ∧ P = g * V + o ∧ o < V := by
  rw [if_neg h2] at ho
  have h3 : g ≤ P / V := (Nat.le_div_iff_mul_le hV).2 (by omega)
  have h4 : P / V = g := Nat.le_antisymm h1 h3
  have h5 := Nat.div_add_mod P V
  have h6 := Nat.mod_lt P hV
  rw [h4, Nat.mul_comm] at h5
  omega

theorem digit_back (P V g o B : Nat) (h2 : g ≤ P / V + 1) (hn : P < g * V) (hV : 0 < V) (hB : P < B) (ho : o + g * V = P + (if P < g * V then B else 0)) : P / V = g - 1 ∧ P = (g - 1) * V + (o + V) % B ∧ (o + V) % B < V := by
  rw [if_pos hn] at ho
  have h3 : P / V < g := (Nat.div_lt_iff_lt_mul hV).2 hn
  have h4 : P / V = g - 1 := by generalize P / V = x at *; omega
  have h5 := Nat.div_add_mod P V
  have h6 := Nat.mod_lt P hV
  rw [h4, Nat.mul_comm] at h5
  obtain ⟨k, rfl⟩ : ∃ k, g = k + 1 := ⟨g - 1, by omega⟩
  simp only [Nat.add_sub_cancel] at h4 h5 ⊢
  rw [Nat.add_mul, Nat.one_mul] at ho hn
  have h7 : o + V = (P % V) + B := by omega
  have h8 : (o + V) % B = P % V := by rw [h7, Nat.add_mod_right, Nat.mod_eq_of_lt (by omega)]
  rw [h8]
  exact ⟨h4, by omega, h6⟩

theorem DivInv.step {a b s m n gv gu gq j q : Nat} {pv cu qs part part' : List Nat} {w ws : World} (hjn : j + n ≤ m) (hcl : cu.length = m + 1) (hclow : Low cu) (hql : qs.length = m - n + 1 - (j + 1)) (hqlow : Low qs)
    (hU : a * 2 ^ s = val cu + val qs * 4294967296 ^ (j + 1) * (b * 2 ^ s)) (hcu : cu = cu.take j ++ part ++ cu.drop (j + n + 1)) (hpl : part.length = n + 1) (hpl' : part'.length = n + 1) (hlow' : Low part') (hpost : val (cu.drop (j + n + 1)) = 0)
    (hq : val part = q * (b * 2 ^ s) + val part') (hlt : val part' < b * 2 ^ s) (hqB : q < 4294967296) (hgv : gv ≠ gq) (hgu : gu ≠ gq) (hgw : w.heap.size ≤ gq)
    (hbv : Bk ws gv 105 (pv.map U32)) (hbu : Bk ws gu 105 (seg ((cu.take j).map U32) part' ((cu.drop (j + n + 1)).map U32))) (hbq : Bk ws gq 105 (((List.replicate (m - n + 1) 0).take (j + 1) ++ qs).map U32 ++ [])) (he : Ext w ws) :
    DivInv a b s m n gv gu gq pv w (.int .i64 ((j : Int) - 1)) (ws.setCell ⟨gq, j, none⟩ (.int .u32 (q : Int))) := by
  obtain ⟨r1, r2⟩ := div_round cu part part' qs (a * 2 ^ s) (b * 2 ^ s) j n q hcu (by omega) hpl hpl' hpost hq hU
  refine ⟨j, cu.take j ++ part' ++ cu.drop (j + n + 1), q :: qs, ?_, by omega, by simp; omega, (Low.append (Low.append (hclow.take _) hlow') (hclow.drop _)), by simp; omega, Low.cons hqB hqlow, r1, by rw [r2]; exact hlt, hbv.far hgv _, ?_, ?_, he.setCell hgw _⟩
  · rcases Nat.eq_zero_or_pos j with h | h
    · subst h; exact .inr ⟨rfl, rfl⟩
    · exact .inl ⟨j - 1, by rw [show ((j - 1 : Nat) : Int) = (j : Int) - 1 by omega], by omega⟩
  · have h := hbu.far (p := ⟨gq, j, none⟩) hgu (.int .u32 (q : Int))
    rw [List.map_append, List.map_append]; exact h
  · have h := hbq.set j (.int .u32 (q : Int))
    have e := row_set (List.replicate (m - n + 1) 0) qs [] (j + 1) q (by omega) (by simp; omega)
    rw [show j + 1 - 1 = j from rfl] at e
    rw [show (Value.int .u32 (q : Int)) = U32 q from rfl, e] at h
    exact h

set_option maxRecDepth 20000 in
set_option maxHeartbeats 1600000 in
theorem divLong_any {w : World} {u v : Value} {a b : Nat} (ha : Nz w u a) (hb : Nz w v b) (hn : 2 ≤ (dig b).length) (hla : (dig a).length ≤ 100000) (hle : b ≤ a) :
    Calls Try.prog 75 #[u, v] w (DivPost a b w) := by
  have hlen := dig_len_mono hle
  obtain ⟨B, n, cb, rfl, hnn, -, -, hlb, hB⟩ := Dg.parts hb
  obtain ⟨A, m, ca, rfl, hmm, -, -, hlA, hA⟩ := Dg.parts ha
  have HA := Lib.hid ha; have HBB := Lib.hid hb
  rw [← hnn] at hn hlen
  rw [← hmm] at hla hlen
  obtain ⟨ad, rfl, hcell⟩ := hB (n - 1) (by omega)
  have htop : (dig b).getD (n - 1) 0 ≠ 0 := by
    have ht := top_dig b ((dig b).getD (n - 1) 0) (by
      have : n - 1 < (dig b).length := by omega
      rw [List.getLast?_eq_getElem?, ← hnn]; simp [List.getD, this])
    exact ht
  have hdt := hlb.getD (n - 1)
  generalize htd : (dig b).getD (n - 1) 0 = td at *
  have HTD := Lib.hid htd; have HN := Lib.hid hnn; have HM := Lib.hid hmm
  clear htd hnn hmm ha hb hB hA hlb hlA
  have hi0 : (0 : Int) ≤ (n : Int) - 1 := by omega
  have hi1 : (n : Int) - 1 < (n : Int) := by omega
  have hi2 : ((n : Int) - 1).toNat = n - 1 := by omega
  go_enter Try.func75, Try.ntmps75
  go_wp2_with fail
  refine (Try.bits_LeadingZeros32 _ _ (by omega) (by omega)).mono ?_
  rintro e w' ⟨rfl, rfl⟩
  have hbl : Lib.bitLen (td : Int).toNat = blen td := by rw [Int.toNat_natCast, bitLen_eq td hdt]
  have hbd : blen td ≤ 32 := by rw [← bitLen_eq td hdt]; exact Lib.bitLen_le td 32 (by omega) (by omega)
  have hb1 : 1 ≤ blen td := by unfold blen; rw [if_neg htop]; omega
  rw [hbl]
  have hs : (32 : Int) - (blen td : Int) = ((32 - blen td : Nat) : Int) := by omega
  rw [hs]
  clear hbl hs
  generalize hS : 32 - blen td = s at *
  have hs32 : s < 32 := by omega
  have HS := Lib.hid hS; clear hS
  clear hcell
  go_wp2_with fail
  refine (shiftLeft_any HBB.out (by have := HN.out; omega) hs32).mono ?_
  rintro e w1 ⟨pv, rfl, hpl, hplow, hpv, hpb, he1⟩
  rw [← HN.out] at hpl ⊢
  rw [val_dig] at hpv
  have h1 := HA.out.ext he1
  go_wp2_with fail
  refine (shiftLeft_any h1 (by have := HM.out; omega) hs32).mono ?_
  rintro e w2 ⟨pu, rfl, hul, hulow, huv, hub, he2⟩
  rw [← HM.out] at hul ⊢
  rw [val_dig] at huv
  clear h1
  -- the plain facts
  have hnorm := norm_shift b n td s (blen td) (by omega) (by
      have e := val_top1 (dig b) (n - 1) (by have := HN.out; omega)
      rw [val_dig, HTD.out] at e; omega) (by
      have e := val_top1 (dig b) (n - 1) (by have := HN.out; omega)
      rw [val_dig, HTD.out] at e
      have m := val_lt ((low_dig b).take (n - 1))
      rw [List.length_take, Nat.min_eq_left (by have := HN.out; omega)] at m
      rw [Nat.mul_add]; omega) (by have := HS.out; omega) (two_pow_blen_le (by omega)) hb1 (lt_two_pow_blen td)
  rw [← hpv] at hnorm
  obtain ⟨hvt, hvd⟩ := val_take_of_lt (l := pv) (n := n) (by omega) hnorm.1
  have hvlow : Low (pv.take n) := hplow.take n
  have hvlen : (pv.take n).length = n := by simp; omega
  have hvtop := top_ge (pv.take n) n 2147483648 (by omega) hvlen hvlow (by rw [hvt]; exact hnorm.2)
  have hgv := fun (W : World) (h : Bk W w'.heap.size 105 (pv.map U32)) (i : Nat) (hi : i < n) => (show W.cell? ⟨w'.heap.size, i, none⟩ = some (.int .u32 (((pv.take n).getD i 0 : Nat) : Int)) from by
    rw [h.word (by omega)]; simp [hi])
  have hpb2 := hpb.ext he2
  have he3 := he1.trans he2
  have hs1 := he1.size
  have hs2 := he2.size
  have hg1 := hpb.lt
  have hg2 := hub.lt
  have hstart : val (pu.drop (m - n + 1)) < val (pv.take n) := by
    rw [hvt]
    have e := val_split pu (m - n + 1)
    rw [Nat.min_eq_left (by omega), huv] at e
    have hU : a * 2 ^ s < 4294967296 ^ (m - n + 1) * (4294967296 ^ (n - 1) * 2 ^ s) := by
      have h3 := val_lt (low_dig a)
      rw [val_dig, ← HM.out] at h3
      have h4 := Nat.mul_lt_mul_of_pos_right h3 (show 0 < 2 ^ s from Nat.pow_pos (by omega))
      rw [← Nat.mul_assoc, ← Nat.pow_add, show m - n + 1 + (n - 1) = m by omega]; exact h4
    have h5 : val (pu.drop (m - n + 1)) < 4294967296 ^ (n - 1) * 2 ^ s := by
      refine Nat.lt_of_mul_lt_mul_left (a := 4294967296 ^ (m - n + 1)) ?_
      omega
    have h6 : 4294967296 ^ (n - 1) * 2 ^ s ≤ 2147483648 * 4294967296 ^ (n - 1) := by
      rw [Nat.mul_comm]
      refine Nat.mul_le_mul_right _ ?_
      have : 2 ^ s ≤ 2 ^ 31 := Nat.pow_le_pow_right (by omega) (by omega)
      omega
    have := hnorm.2
    omega
  have PL : Hid ((val (pv.take n) = b * 2 ^ s) ∧ 2147483648 * 4294967296 ^ (n - 1) ≤ b * 2 ^ s ∧ b * 2 ^ s < 4294967296 ^ n) := ⟨by rw [hvt, hpv], by rw [← hpv]; exact hnorm.2, by rw [← hpv]; exact hnorm.1⟩
  have HGV := Lib.hid hgv; have HST := Lib.hid hstart; have HPL := Lib.hid hpl; have HUL := Lib.hid hul; have HUV := Lib.hid huv; have HPV := Lib.hid hpv; have HVL := Lib.hid hvlen; have HVLO := Lib.hid hvlow
  have HPB := Lib.hid hpb2; have HUB := Lib.hid hub
  clear hgv hstart hpl hul huv hpv hvlen hvlow hpb2 hub hpb hnorm hvt hvd he1 he2
  have hmk := fun W => make_row (P := Try.prog) 38 105 (.int .u32 0) 4 Try.underlying38 info_u32 rfl (m - n + 1) (by omega) (by omega) W
  rw [show ((m - n + 1 : Nat) : Int) = (m : Int) - n + 1 by omega] at hmk
  go_wp2_with fail
  clear hmk
  go_loopw [11] (fun t wr => DivInv a b s m n w'.heap.size w1.heap.size w2.heap.size pv w' t wr)
    (fun t _ => (intOf t + 1).toNat)
  case atStart =>
    refine ⟨m - n + 1, pu, [], .inl ⟨m - n, by go_num, rfl⟩, Nat.le_refl _, HUL.out, hulow, by simp, Low.nil, by simp [val, HUV.out], by have := HST.out; rw [PL.out.1] at this; exact this, HPB.out.alloc _, HUB.out.alloc _, ?_, he3.alloc _⟩
    have := Bk.new w2 105 (List.replicate (m - n + 1) (.int .u32 0))
    simpa [U32] using this
  case round =>
    obtain ⟨k, cu, qs, hkj, hk, hcl, hclow, hql, hqlow, hU, hlt, hbv, hbu, hbq, hext⟩ := hrel
    have HCL := Lib.hid hcl; have HQL := Lib.hid hql; have HU := Lib.hid hU; have HLT := Lib.hid hlt; have HBV := Lib.hid hbv; have HBU := Lib.hid hbu; have HBQ := Lib.hid hbq; clear hcl hql hU hlt hbv hbu hbq
    rcases hkj with ⟨j, rfl, rfl⟩ | ⟨rfl, rfl⟩
    · have hjn : j + n ≤ m := by omega
      -- the part
      have hparts : cu = cu.take j ++ (cu.drop j).take (n + 1) ++ cu.drop (j + n + 1) := by
        have h1 := (List.take_append_drop j cu).symm
        have h2 := (List.take_append_drop (n + 1) (cu.drop j)).symm
        rw [List.drop_drop, show j + (n + 1) = j + n + 1 by omega] at h2
        conv => lhs; rw [h1, h2]
        rw [List.append_assoc]
      have hpl : ((cu.drop j).take (n + 1)).length = n + 1 := by simp; have := HCL.out; omega
      have hplow : Low ((cu.drop j).take (n + 1)) := (hclow.drop j).take _
      have hpost : val (cu.drop (j + n + 1)) = 0 := by
        have h1 := HLT.out
        have h2 := (val_take_of_lt (l := cu.drop (j + 1)) (n := n) (by simp; have := HCL.out; omega) (by have := PL.out.2.2; omega)).2
        rw [List.drop_drop, show j + 1 + n = j + n + 1 by omega] at h2
        exact h2
      have hpv1 : val ((cu.drop j).take (n + 1)) = val (cu.drop j) := by
        have e := val_split (cu.drop j) (n + 1)
        rw [List.drop_drop, show j + (n + 1) = j + n + 1 by omega, hpost] at e
        simpa using e.symm
      have hplt : val ((cu.drop j).take (n + 1)) < 4294967296 * val (pv.take n) := by
        rw [hpv1, val_drop_succ cu j (by have := HCL.out; omega), PL.out.1]
        have h1 := HLT.out
        have h2 := hclow.getD j
        have h3 := Nat.mul_le_mul_left 4294967296 (Nat.succ_le_of_lt h1)
        rw [Nat.mul_succ] at h3
        omega
      generalize hpart : (cu.drop j).take (n + 1) = part at *
      have HPART := Lib.hid hparts; clear hparts hpart
      have hbus : Bk wr w1.heap.size 105 (seg ((cu.take j).map U32) part ((cu.drop (j + n + 1)).map U32)) := by
        have h := HBU.out
        rw [HPART.out, List.map_append, List.map_append] at h
        exact h
      have hprel : ((cu.take j).map U32).length = j := by simp; have := HCL.out; omega
      have hcu : ∀ i, i < n + 1 → wr.cell? ⟨w1.heap.size, j + i, none⟩ = some (.int .u32 ((part.getD i 0 : Nat) : Int)) := fun i hi => by
        rw [hbus.cellD (by rw [seg_length, hprel]; omega)]
        rw [seg, List.append_assoc, List.getD, List.getElem?_append_right (by omega), hprel, Nat.add_sub_cancel_left, List.getElem?_append_left (by simp; omega)]
        simp [List.getD, show i < part.length by omega]
      have HCU := Lib.hid hcu; have HBUS := Lib.hid hbus; have HPOST := Lib.hid hpost; have HPV1 := Lib.hid hpv1; have HPLT := Lib.hid hplt; have HPREL := Lib.hid hprel; have HPLE := Lib.hid hpl
      clear hcu hbus hpost hpv1 hplt hprel hpl
      have x1 : ((j : Int) + n + 1).toNat = j + n + 1 := by omega
      have x2 : j + n + 1 - j = n + 1 := by omega
      go_wp2_with fail
      refine (guessDigit_any hn (by omega) HPLE.out HVL.out hplow HVLO.out hvtop HPLT.out HCU.out (HGV.out wr HBV.out)).mono ?_
      rintro e wg ⟨g, rfl, hq1, hq2, hgB, hqt⟩
      have HQ := Lib.hid (And.intro hq1 hq2); clear hq1 hq2
      have heg := hqt.ext
      have hbus2 := HBUS.out.ext heg; have hbv2 := HBV.out.ext heg; have hbq2 := HBQ.out.ext heg
      go_wp2_with fail
      refine (subProduct_any hbus2 HPREL.out hplow HVLO.out HPLE.out HVL.out (by omega) (by omega) hgB (by omega) (HGV.out wg hbv2)).mono ?_
      rintro e ws ⟨out, rfl, hol, holow, hov, hbo, hms⟩
      have hbv3 := hms.bk hbv2 (by omega); have hbq3 := hms.bk hbq2 (by omega)
      have hes := (hext.trans heg).mod hms (by omega)
      clear hbus2 hbv2 hbq2
      have HOL := Lib.hid hol; have HOV := Lib.hid hov; have HBO := Lib.hid hbo; have HBV3 := Lib.hid hbv3; have HBQ3 := Lib.hid hbq3; have HES := Lib.hid hes
      clear hol hov hbo hbv3 hbq3 hes
      rcases Decidable.em (val part < g * val (pv.take n)) with hneg | hneg
      · have HNEG := Lib.hid hneg
        have hd : decide (val part < g * val (pv.take n)) = true := by simpa using hneg
        rw [hd]; clear hd hneg
        have hg1 : 1 ≤ g := by rcases Nat.eq_zero_or_pos g with h | h; · have := HNEG.out; rw [h, Nat.zero_mul] at this; omega
                               · exact h
        have hVp : 0 < val (pv.take n) := by have := PL.out.1; have h2 := PL.out.2.1; have : 0 < 4294967296 ^ (n - 1) := Nat.pow_pos (by omega); omega
        have hPB : val part < 4294967296 ^ (n + 1) := by have := val_lt hplow; rw [HPLE.out] at this; exact this
        obtain ⟨d1, d2, d3⟩ := digit_back _ _ _ _ _ HQ.out.2 HNEG.out hVp hPB HOV.out
        have HD := Lib.hid (And.intro d1 (And.intro d2 d3)); clear d1 d2 d3 hVp hPB
        go_wp2_with fail
        refine (addBack_any HBO.out HPREL.out holow HVLO.out HOL.out HVL.out (by omega) (by omega) (by omega) (HGV.out ws HBV3.out)).mono ?_
        rintro e wb ⟨out2, rfl, hol2, holow2, hov2, hbo2, hmb⟩
        have hbv4 := hmb.bk HBV3.out (by omega); have hbq4 := hmb.bk HBQ3.out (by omega)
        have hes4 := HES.out.mod hmb (by omega)
        have hgc : (g : Int) - 1 = ((g - 1 : Nat) : Int) := by omega
        have hfin := DivInv.step (q := g - 1) (part' := out2) hjn HCL.out hclow HQL.out hqlow HU.out HPART.out HPLE.out hol2 holow2 HPOST.out (by rw [← PL.out.1, hov2]; exact HD.out.2.1) (by rw [← PL.out.1, hov2]; exact HD.out.2.2) (by omega) (by omega) (by omega) (by omega) hbv4 hbo2 hbq4 hes4
        have hcq := hbq4.cellD (i := j) (by simp; have := HQL.out; omega)
        have hfq := hbq4.free j
        have HFIN := Lib.hid hfin
        clear hfin hol2 holow2 hov2 hbo2 hbv4 hbq4 hes4
        rw [hgc]
        go_wp2_with fail
        exact ⟨HFIN.out, by show ((j : Int) - 1 + 1).toNat < ((j : Int) + 1).toNat; omega⟩
      · have HNEG := Lib.hid hneg
        have hd : decide (val part < g * val (pv.take n)) = false := by simpa using hneg
        rw [hd]; clear hd hneg
        have hVp : 0 < val (pv.take n) := by have := PL.out.1; have h2 := PL.out.2.1; have : 0 < 4294967296 ^ (n - 1) := Nat.pow_pos (by omega); omega
        obtain ⟨d1, d2, d3⟩ := digit_kept _ _ _ _ _ HQ.out.1 HNEG.out hVp HOV.out
        clear hVp
        have hfin := DivInv.step (q := g) (part' := out) hjn HCL.out hclow HQL.out hqlow HU.out HPART.out HPLE.out HOL.out holow HPOST.out (by rw [← PL.out.1]; exact d2) (by rw [← PL.out.1]; exact d3) hgB (by omega) (by omega) (by omega) HBV3.out HBO.out HBQ3.out HES.out
        have hcq := HBQ3.out.cellD (i := j) (by simp; have := HQL.out; omega)
        have hfq := HBQ3.out.free j
        have HFIN := Lib.hid hfin
        clear hfin d1 d2 d3
        go_wp2_with fail
        exact ⟨HFIN.out, by show ((j : Int) - 1 + 1).toNat < ((j : Int) + 1).toNat; omega⟩
    · simp only [Nat.pow_zero, Nat.mul_one, List.drop_zero, List.take_zero, List.nil_append, List.append_nil, Nat.sub_zero] at HU HLT HBQ HQL
      obtain ⟨hrt, hrd⟩ := val_take_of_lt (l := cu) (n := n) (by have := HCL.out; omega) (by have := PL.out.2.2; have := HLT.out; omega)
      have hbr : Dg wr (.slice (some ⟨w1.heap.size, 0, none⟩) n (m + 1)) (cu.take n) :=
        Dg.of_parts (by simp; have := HCL.out; omega) (by omega) (by omega) (hclow.take n) (fun i hi => ⟨_, rfl, by
          have h := HBU.out.word (k := i) (by have := HCL.out; omega)
          rw [show (⟨w1.heap.size, 0, none⟩ : Addr).add i = ⟨w1.heap.size, i, none⟩ by simp only [Addr.add, Nat.zero_add]; split <;> simp_all]
          simpa [List.getD, List.getElem?_take, hi] using h⟩)
      have HBR := Lib.hid hbr; have HRT := Lib.hid hrt; clear hbr hrt hrd
      go_wp2_with fail
      refine (shiftRight_any HBR.out (by simp; omega) hs32).mono ?_
      rintro e wz ⟨vz, zs, rfl, hz, hzv, hez⟩
      obtain ⟨Z, zn, zc, rfl, -⟩ := Dg.parts hz
      go_wp2_with fail
      have hqd : Dg wz (.slice (some ⟨w2.heap.size, 0, none⟩) (m - n + 1) (m - n + 1)) qs := Bk.dg (HBQ.out.ext hez) hqlow (by have := HQL.out; omega) (by have := HQL.out; omega) (Nat.le_refl _)
      have hsp : 0 < 2 ^ s := Nat.pow_pos (by omega)
      have hb0 : 0 < b * 2 ^ s := by have := HLT.out; omega
      have hqv : val qs = a / b := by
        have h1 : a * 2 ^ s / (b * 2 ^ s) = val qs := by
          rw [HU.out, Nat.mul_comm (val qs), Nat.add_mul_div_left _ _ hb0, Nat.div_eq_of_lt HLT.out, Nat.zero_add]
        rw [← h1, Nat.mul_div_mul_right _ _ hsp]
      have hrv : val zs = a % b := by
        have h1 : a * 2 ^ s % (b * 2 ^ s) = val cu := by
          rw [HU.out, Nat.mul_comm (val qs), Nat.add_mul_mod_self_left, Nat.mod_eq_of_lt HLT.out]
        rw [hzv, HRT.out, ← h1, Nat.mul_mod_mul_right, Nat.mul_div_cancel _ hsp]
      refine bodyPost_ret (v := .tuple #[.slice (some ⟨w2.heap.size, 0, none⟩) (m - n + 1) (m - n + 1), .slice Z zn zc]) ?_ rfl ⟨_, _, rfl, ⟨qs, hqd, hqv⟩, ⟨zs, hz, hrv⟩, hext.trans hez⟩
      simp [results, Try.results75, go_sem]
end Go.Proofs.Ytjpkaljndfgkjaa
