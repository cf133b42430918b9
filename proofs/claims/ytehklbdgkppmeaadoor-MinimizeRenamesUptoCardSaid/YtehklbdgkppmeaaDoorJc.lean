/- Words for queries; contracts: minimize.pure, ordinalref25.Query. -/
import Derived.Test.YtehklbdgkppmeaaDoorJb
namespace Go.Proofs.YtehklbdgkppmeaaDoor
open Go.RowKit Go.Maps

/-- A rule: its atoms, the number of its conditions. -/
structure Ru where
  ats : List At
  nc : Nat
/-- A slice of rules. -/
def Rus (F : Nat → Prop) (w : World) (v : Value) (rs : List Ru) : Prop :=
  ∃ A c, v = .slice A rs.length c ∧ rs.length ≤ c ∧ ∀ i (hi : i < rs.length), ∃ ad B n d C e, A = some ad ∧ F ad.block ∧ w.cell? (ad.add (i * 2)) = some (.slice B n d) ∧ w.cell? ⟨(ad.add (i * 2)).block, (ad.add (i * 2)).off + 1, none⟩ = some (.slice C rs[i].nc e) ∧ Ats F w (.slice B n d) rs[i].ats ∧ Cns F w (.slice C rs[i].nc e) rs[i].nc
theorem Rus.ext {F : Nat → Prop} {w w' : World} {v : Value} {rs : List Ru} (h : Rus F w v rs) (he : Ext w w') : Rus F w' v rs := by
  obtain ⟨A, c, h1, h2, h3⟩ := h
  refine ⟨A, c, h1, h2, fun i hi => ?_⟩
  obtain ⟨ad, B, n, d, C, e, e1, e2, e3, e4, e5, e6⟩ := h3 i hi
  exact ⟨ad, B, n, d, C, e, e1, e2, he.cell e3, he.cell e4, e5.ext he, e6.ext he⟩
theorem Rus.sl {F : Nat → Prop} {w : World} {v : Value} {rs : List Ru} (h : Rus F w v rs) : ∃ A c, v = .slice A rs.length c := let ⟨A, c, e, _⟩ := h; ⟨A, c, e⟩
theorem Rus.at2 {F : Nat → Prop} {w : World} {A : Option Addr} {n c : Nat} {rs : List Ru} (h : Rus F w (.slice A n c) rs) : ∀ i (hi : i < rs.length), ∃ ad B n d C e, A = some ad ∧ F ad.block ∧ w.cell? (ad.add (i * 2)) = some (.slice B n d) ∧ w.cell? ⟨(ad.add (i * 2)).block, (ad.add (i * 2)).off + 1, none⟩ = some (.slice C rs[i].nc e) ∧ Ats F w (.slice B n d) rs[i].ats ∧ Cns F w (.slice C rs[i].nc e) rs[i].nc := by
  obtain ⟨A', c', e, -, hh⟩ := h
  injection e with e1 e2 e3
  subst e1
  exact hh
def okRu (hd : List ByteArray) (r : Ru) : Prop := pureL r.ats r.nc = true ∧ ∀ v ∈ hd, v ∈ varsT (allT r.ats)
instance (hd : List ByteArray) (r : Ru) : Decidable (okRu hd r) := by unfold okRu; infer_instance
def PureQ (hd : List ByteArray) (ag : Int) (rs : List Ru) : Prop := ag = 0 ∧ 1 ≤ rs.length ∧ rs.length ≤ 3 ∧ hd.Nodup ∧ ∀ r ∈ rs, okRu hd r
instance (hd : List ByteArray) (ag : Int) (rs : List Ru) : Decidable (PureQ hd ag rs) := by unfold PureQ; infer_instance
def pureQ (hd : List ByteArray) (ag : Int) (rs : List Ru) : Bool := decide (PureQ hd ag rs)
theorem pureQ_no {hd : List ByteArray} {ag : Int} {rs : List Ru} (h : ¬ PureQ hd ag rs) : pureQ hd ag rs = false := decide_eq_false h
theorem pureQ_yes {hd : List ByteArray} {ag : Int} {rs : List Ru} (h : PureQ hd ag rs) : pureQ hd ag rs = true := decide_eq_true h
theorem ok_step {hd : List ByteArray} {rs : List Ru} {i : Nat} (h : ∀ j (h : j < rs.length), j < i → okRu hd rs[j]) (hi : i < rs.length) (h1 : okRu hd rs[i]) : ∀ j (h : j < rs.length), j < i + 1 → okRu hd rs[j] := fun j hj hji => by
  rcases Nat.lt_or_ge j i with h2 | h2
  · exact h j hj h2
  · obtain rfl : j = i := by omega
    exact h1
theorem nodup_snoc {l : List ByteArray} {s : ByteArray} (h : l.Nodup) (hs : s ∉ l) : (l ++ [s]).Nodup := List.nodup_append.2 ⟨h, by simp, fun a ha b hb e => hs (by rw [List.mem_singleton.1 hb] at e; rw [← e]; exact ha)⟩
theorem not_nodup {hd : List ByteArray} {i : Nat} (hi : i < hd.length) (h : hd[i] ∈ hd.take i) : ¬ hd.Nodup := fun hn => by
  have h1 : (hd.take (i + 1)).Nodup := List.Sublist.nodup (List.take_sublist _ _) hn
  rw [List.take_succ_eq_append_getElem hi] at h1
  exact (List.nodup_append.1 h1).2.2 _ h _ (by simp) rfl

set_option maxRecDepth 20000 in
set_option maxHeartbeats 3200000 in
theorem mpure_any {F : Nat → Prop} {w : World} {vh vr : Value} {ag : Int} {av : ByteArray} {O : Option Addr} {no co : Nat} {hd : List ByteArray} {rs : List Ru} (hH : Strs F w vh hd) (hR : Rus F w vr rs) (hbd : ∀ r ∈ rs, Bd r.ats) (hhs : ∀ v ∈ hd, v.size ≤ 1048576) (hhl : hd.length ≤ 1000000) (hrl : rs.length ≤ 1000000) :
    Calls Tryd.prog 39 #[.agg #[vh, .int .i64 ag, .string av, vr, .slice O no co]] w (Ret (fun x _ => x = .bool (pureQ hd ag rs)) w) := by
  obtain ⟨B, d, rfl⟩ := hR.sl
  obtain ⟨A, c, rfl, hcA, hclA⟩ := hH
  obtain ⟨nh, hnh⟩ : ∃ n, n = hd.length := ⟨_, rfl⟩
  obtain ⟨nr, hnr⟩ : ∃ n, n = rs.length := ⟨_, rfl⟩
  rw [← hnh] at hcA hhl ⊢
  rw [← hnr] at hR hrl ⊢
  have HNH := Lib.hid hnh; have HNR := Lib.hid hnr; have HA := Lib.hid hclA; have HR := Lib.hid hR.at2; have HBD := Lib.hid hbd; have HHS := Lib.hid hhs
  clear hnh hnr hclA hR hbd hhs
  by_cases h0 : ¬ ag = 0
  · have h1 : (ag == 0) = false := beq_false_of_ne h0
    have HNO := Lib.hid (pureQ_no (hd := hd) (ag := ag) (rs := rs) (fun h => h0 h.1))
    rw [HNO.out]
    go_enter Tryd.func39, Tryd.ntmps39
    go_wp2_with fail
    go_ret
    exact Ret.mk ((Ext.refl w).alloc _) rfl
  obtain rfl : ag = 0 := by omega
  clear h0
  by_cases hz : nr = 0
  · have HNO := Lib.hid (pureQ_no (hd := hd) (ag := 0) (rs := rs) (fun h => by have := h.2.1; have := HNR.out; omega))
    rw [HNO.out]
    subst hz
    go_enter Tryd.func39, Tryd.ntmps39
    go_wp2_with fail
    go_ret
    exact Ret.mk ((Ext.refl w).alloc _) rfl
  have hz1 : ((nr : Int) == 0) = false := by have : ¬ (nr : Int) = 0 := by omega
                                             exact beq_false_of_ne this
  have hz3 : 0 < nr := by omega
  have hz4 : ¬ (nr : Int) = 0 := by omega
  clear hz
  by_cases h8 : ¬ nr ≤ 3
  · have h9 : (3 : Int) < (nr : Int) := by omega
    have HNO := Lib.hid (pureQ_no (hd := hd) (ag := 0) (rs := rs) (fun h => by have := h.2.2.1; have := HNR.out; omega))
    rw [HNO.out]
    clear h8
    go_enter Tryd.func39, Tryd.ntmps39
    go_wp2_with fail
    go_ret
    exact Ret.mk ((Ext.refl w).alloc _) rfl
  replace h8 : nr ≤ 3 := by omega
  have h9 : ¬ (3 : Int) < (nr : Int) := by omega
  have hmk := @run_makeMap Tryd.prog
  go_enter Tryd.func39, Tryd.ntmps39
  go_wp2_with fail
  have hx1 : Ext w ((w.alloc (.cells #[.slice A nh c, .int .i64 0, .string av, .slice B nr d, .slice O no co] 44)).alloc (.map #[] 0)) := ((Ext.refl w).alloc _).alloc _
  have k1 : Bk ((w.alloc (.cells #[.slice A nh c, .int .i64 0, .string av, .slice B nr d, .slice O no co] 44)).alloc (.map #[] 0)) w.heap.size 44 [.slice A nh c, .int .i64 0, .string av, .slice B nr d, .slice O no co] := (Bk.new w 44 [.slice A nh c, .int .i64 0, .string av, .slice B nr d, .slice O no co]).alloc _
  have hm1 := MapV.made (w.alloc (.cells #[.slice A nh c, .int .i64 0, .string av, .slice B nr d, .slice O no co] 44))
  rw [show (w.alloc (.cells #[.slice A nh c, .int .i64 0, .string av, .slice B nr d, .slice O no co] 44)).heap.size = w.heap.size + 1 by simp] at hm1
  generalize ((w.alloc (.cells #[.slice A nh c, .int .i64 0, .string av, .slice B nr d, .slice O no co] 44)).alloc (.map #[] 0)) = w1 at *
  have HX1 := Lib.hid hx1; have HM1 := Lib.hid hm1; have HK1 := Lib.hid k1
  have hpin0 : pinF (fun t => decide (t ∈ hd.take 0)) = fun _ => none := by funext t; simp [pinF]
  have HPIN0 := Lib.hid hpin0
  clear hx1 hm1 k1 hpin0 hmk
  go_loopw [30] (fun q wr => ∃ i : Nat, i ≤ nh ∧ q = .int .i64 (i : Int) ∧ (hd.take i).Nodup ∧ MapV wr (w.heap.size + 1) i (pinF (fun t => decide (t ∈ hd.take i))) ∧ Fr (fun b => b = w.heap.size + 1) w1 wr) (fun q _ => nh - (intOf q).toNat)
  case atStart => exact ⟨0, Nat.zero_le _, rfl, by simp, by rw [HPIN0.out]; exact HM1.out, Fr.refl _ _⟩
  case round =>
    obtain ⟨i, hi, rfl, hnd, hmi, hfi⟩ := hrel
    by_cases hlt : i < nh
    · have i1 : (0 : Int) ≤ (i : Int) := by omega
      have i2 : (i : Int) < (nh : Int) := by omega
      have hix : i < hd.length := by have := HNH.out; omega
      obtain ⟨ad, rfl, hHa, d0⟩ := HA.out.str hix
      replace d0 := hfi.cell (HX1.out.cell d0) (by rw [block_add]; have := cell_lt d0; rw [block_add] at this; omega)
      have hsv : hd[i].size ≤ maxLen := by have := HHS.out _ (List.getElem_mem hix); simp only [maxLen]; omega
      have hpadd := pinF_snoc (hd.take i) hd[i]
      rw [← List.take_succ_eq_append_getElem hix] at hpadd
      have HXR := Lib.hid (hfi.new HX1.out (fun k hk => by omega))
      by_cases hin : hd[i] ∈ hd.take i
      · have HNO := Lib.hid (pureQ_no (hd := hd) (ag := 0) (rs := rs) (fun h => not_nodup hix hin h.2.2.2.1))
        obtain ⟨u, hu⟩ : ∃ u, u = hd[i] := ⟨_, rfl⟩
        rw [← hu] at d0 hsv hin
        have HPV : Hid ((pinF (fun t => decide (t ∈ hd.take i)) u).getD (.bool false) = .bool true) := Lib.hid (by rw [pinF, if_pos (decide_eq_true hin)]; rfl)
        have HMI := Lib.hid hmi
        clear hpadd hmi hfi hu hHa hin hnd
        go_wp2_with (first
          | (at_lookup; refine wpList_lookup_V rfl _ _ 68 4 rfl Tryd.underlying68 (.bool false) (zero_bool _) (w.heap.size + 1) i (pinF (fun t => decide (t ∈ hd.take i))) rfl HMI.out u rfl hsv (.bool true) HPV.out ?_))
        go_ret
        rw [HNO.out]
        exact Ret.mk HXR.out rfl
      · have hnd2 : (hd.take (i + 1)).Nodup := by rw [List.take_succ_eq_append_getElem hix]; exact nodup_snoc hnd hin
        obtain ⟨u, hu⟩ : ∃ u, u = hd[i] := ⟨_, rfl⟩
        rw [← hu] at d0 hsv hin hpadd
        have HPV : Hid ((pinF (fun t => decide (t ∈ hd.take i)) u).getD (.bool false) = .bool false) := Lib.hid (by rw [pinF, if_neg (by simp only [decide_eq_true_eq]; exact hin)]; rfl)
        have HPA := Lib.hid hpadd; have HMI := Lib.hid hmi; have HFI := Lib.hid hfi; have HND := Lib.hid hnd2
        clear hpadd hmi hfi hu hHa hin hnd hnd2
        go_wp2_with (first
          | (at_lookup; refine wpList_lookup_V rfl _ _ 68 4 rfl Tryd.underlying68 (.bool false) (zero_bool _) (w.heap.size + 1) i (pinF (fun t => decide (t ∈ hd.take i))) rfl HMI.out u rfl hsv (.bool false) HPV.out ?_)
          | (at_mapUpdate; refine wpList_update_V rfl _ _ _ 68 4 rfl Tryd.underlying68 (w.heap.size + 1) i (pinF (fun t => decide (t ∈ hd.take i))) rfl HMI.out (by simp only [maxLen]; omega) u (.bool true) rfl hsv rfl ?_; intro wq hmq hgq; have HMQ := Lib.hid hmq; have HGQ := Lib.hid (HFI.out.grown hgq (fun b e => .inl (by injection e with e; exact e.symm))); clear hmq hgq))
        go_roundw
        case rel => exact ⟨i + 1, by omega, by go_num, HND.out, by rw [← HPA.out]; exact HMQ.out, HGQ.out⟩
        case measure => simp [intOf]; omega
    · obtain rfl : i = nh := by omega
      have hdn : ¬ (i : Int) < (i : Int) := by omega
      have et : hd.take i = hd := by rw [HNH.out]; exact List.take_length
      rw [et] at hnd
      obtain ⟨w2, rfl⟩ : ∃ W : World, W = wr := ⟨_, rfl⟩
      have HND := Lib.hid hnd
      have HX2 := Lib.hid (hfi.new HX1.out (fun k hk => by omega))
      have k2 := HK1.out.fr hfi (by omega)
      have b3 := k2.cell (i := 3) (by simp)
      simp only [List.getElem_cons_zero, List.getElem_cons_succ] at b3
      have HK2 := Lib.hid k2
      clear et hnd hmi hfi k2 HK1 HX1 HM1 HPIN0
      go_wp2_with fail
      clear b3
      go_loopw [43] (fun q wr => ∃ j : Nat, j ≤ nr ∧ q = .int .i64 (j : Int) ∧ (∀ k (h : k < rs.length), k < j → okRu hd rs[k]) ∧ Ext w2 wr) (fun q _ => nr - (intOf q).toNat)
      case atStart => exact ⟨0, Nat.zero_le _, rfl, fun _ _ h => absurd h (by omega), Ext.refl _⟩
      case round =>
        obtain ⟨j, hj, rfl, hok, hext⟩ := hrel
        have HOK := Lib.hid hok; have HEX := Lib.hid hext
        have HXR := Lib.hid (HX2.out.trans hext)
        clear hok
        by_cases hjr : j < nr
        · have j1 : (0 : Int) ≤ (j : Int) := by omega
          have j2 : (j : Int) < (nr : Int) := by omega
          have hjl : j < rs.length := by have := HNR.out; omega
          obtain ⟨ad, Br, n, dr, Cr, er, rfl, -, c0, c1, ha, hc⟩ := HR.out j hjl
          replace c0 := HXR.out.cell c0; replace c1 := HXR.out.cell c1
          have hbr := HBD.out _ (List.getElem_mem hjl)
          have hrm : rs[j] ∈ rs := List.getElem_mem hjl
          have HST := Lib.hid (ok_step (hd := hd) HOK.out hjl)
          obtain ⟨r, hr⟩ : ∃ r, r = rs[j] := ⟨_, rfl⟩
          rw [← hr] at c1 ha hbr hrm HST
          have HA2 := Lib.hid (ha.ext HXR.out); have HBR := Lib.hid hbr
          have HBADR : Hid (¬ okRu hd r → pureQ hd 0 rs = false) := Lib.hid (fun hb => pureQ_no (fun h => hb (h.2.2.2.2 r hrm)))
          clear ha hc hbr hrm hr hext
          by_cases hp : ¬ pureL r.ats r.nc = true
          · have HNO := Lib.hid (HBADR.out (fun h => hp h.1))
            have hcall := fun (W : World) (hW : Ext wr W) => purerule_any (Ac := Cr) (nc := r.nc) (cc := er) (HA2.out.ext hW) HBR.out
            rw [Bool.not_eq_true] at hp
            rw [hp] at hcall
            have HCALL := Lib.hid hcall
            clear hp hcall
            go_wp2_with fail
            refine (HCALL.out _ ((Ext.refl wr).alloc _)).mono ?_
            rintro e w3 ⟨y, rfl, he3, rfl⟩
            have HX3 := Lib.hid ((HXR.out.alloc _).trans he3)
            clear he3
            go_wp2_with fail
            go_ret
            rw [HNO.out]
            exact Ret.mk HX3.out rfl
          replace hp : pureL r.ats r.nc = true := Classical.byContradiction hp
          have hnc := (pureL_iff.1 hp).2.1
          have hcall := fun (W : World) (hW : Ext wr W) => purerule_any (Ac := Cr) (nc := r.nc) (cc := er) (HA2.out.ext hW) HBR.out
          rw [hp] at hcall
          rw [hnc] at hcall c1
          have HCALL := Lib.hid hcall; have HP := Lib.hid hp
          clear hp hnc hcall
          have hcv := fun (W : World) (hW : Ext wr W) => variables_any (Ac := Cr) (cc := er) (HA2.out.ext hW) HBR.out
          obtain ⟨V, hV⟩ : ∃ V, V = varsT (allT r.ats) := ⟨_, rfl⟩
          rw [← hV] at hcv
          have HCV := Lib.hid hcv; have HV := Lib.hid hV
          clear hcv hV
          go_wp2_with fail
          have k5 := Bk.new wr 25 [.slice Br n dr, .slice Cr 0 er]
          change Bk (wr.alloc (.cells #[.slice Br n dr, .slice Cr 0 er] 25)) _ _ _ at k5
          have hx5 : Ext wr (wr.alloc (.cells #[.slice Br n dr, .slice Cr 0 er] 25)) := (Ext.refl wr).alloc _
          generalize (wr.alloc (.cells #[.slice Br n dr, .slice Cr 0 er] 25)) = w5 at *
          refine (HCALL.out _ hx5).mono ?_
          rintro e w6 ⟨y, rfl, he6, rfl⟩
          replace hx5 := hx5.trans he6
          replace k5 := k5.ext he6
          have a0 := k5.cell (i := 0) (by simp); have a1 := k5.cell (i := 1) (by simp)
          simp only [List.getElem_cons_zero, List.getElem_cons_succ] at a0 a1
          have HX5 := Lib.hid hx5
          clear he6 k5
          go_wp2_with fail
          refine (HCV.out _ hx5).mono ?_
          rintro e w7 ⟨bV, nV, rfl, he7, hbV, hmV⟩
          have HX7 := Lib.hid (hx5.trans he7); have HMV := Lib.hid hmV
          have q2 := ((HK2.out.ext HEX.out).ext HX7.out).cell (i := 0) (by simp)
          simp only [List.getElem_cons_zero] at q2
          clear he7 hmV hx5 a0 a1 c0 c1
          go_wp2_with fail
          clear q2
          go_loopw [55] (fun q wx => ∃ k : Nat, k ≤ i ∧ q = .int .i64 (k : Int) ∧ (∀ v ∈ hd.take k, v ∈ V) ∧ Ext w7 wx) (fun q _ => i - (intOf q).toNat)
          case atStart => exact ⟨0, Nat.zero_le _, rfl, by simp, Ext.refl _⟩
          case round =>
            obtain ⟨k, hk, rfl, hall, hex⟩ := hrel
            have HALL := Lib.hid hall; have HEW := Lib.hid hex
            have HXX := Lib.hid ((HXR.out.trans HX7.out).trans hex)
            clear hall
            by_cases hki : k < i
            · have k1 : (0 : Int) ≤ (k : Int) := by omega
              have k2 : (k : Int) < (i : Int) := by omega
              have hkl : k < hd.length := by have := HNH.out; omega
              obtain ⟨adh, rfl, -, d0⟩ := HA.out.str hkl
              replace d0 := HXX.out.cell d0
              have hsv : hd[k].size ≤ maxLen := by have := HHS.out _ (List.getElem_mem hkl); simp only [maxLen]; omega
              have htk : hd.take (k + 1) = hd.take k ++ [hd[k]] := List.take_succ_eq_append_getElem hkl
              have hmem : hd[k] ∈ hd := List.getElem_mem hkl
              obtain ⟨u, hu⟩ : ∃ u, u = hd[k] := ⟨_, rfl⟩
              rw [← hu] at d0 hsv htk hmem
              have HMX := Lib.hid (HMV.out.ext hex)
              have HTK := Lib.hid htk; have HMEM := Lib.hid hmem
              clear htk hmem hu hex
              by_cases hin : u ∈ V
              · have HPV : Hid ((pinF (fun t => decide (t ∈ V)) u).getD (.bool false) = .bool true) := Lib.hid (by rw [pinF, if_pos (decide_eq_true hin)]; rfl)
                have HIN := Lib.hid hin
                clear hin
                go_wp2_with (first
                  | (at_lookup; refine wpList_lookup_V rfl _ _ 68 4 rfl Tryd.underlying68 (.bool false) (zero_bool _) bV nV (pinF (fun t => decide (t ∈ V))) rfl HMX.out u rfl hsv (.bool true) HPV.out ?_))
                go_roundw
                case rel =>
                  refine ⟨k + 1, by omega, by go_num, fun v hv => ?_, HEW.out⟩
                  rw [HTK.out, List.mem_append, List.mem_singleton] at hv
                  rcases hv with hv | rfl
                  · exact HALL.out v hv
                  · exact HIN.out
                case measure => simp [intOf]; omega
              · have HPV : Hid ((pinF (fun t => decide (t ∈ V)) u).getD (.bool false) = .bool false) := Lib.hid (by rw [pinF, if_neg (by simp only [decide_eq_true_eq]; exact hin)]; rfl)
                have HNO := Lib.hid (HBADR.out (fun h => hin (by rw [HV.out]; exact h.2 u HMEM.out)))
                clear hin
                go_wp2_with (first
                  | (at_lookup; refine wpList_lookup_V rfl _ _ 68 4 rfl Tryd.underlying68 (.bool false) (zero_bool _) bV nV (pinF (fun t => decide (t ∈ V))) rfl HMX.out u rfl hsv (.bool false) HPV.out ?_))
                go_ret
                rw [HNO.out]
                exact Ret.mk HXX.out rfl
            · obtain rfl : k = i := by omega
              have hdk : ¬ (k : Int) < (k : Int) := by omega
              have et : hd.take k = hd := by rw [HNH.out]; exact List.take_length
              have HALL2 : Hid (∀ v ∈ hd, v ∈ varsT (allT r.ats)) := Lib.hid (fun v hv => by have h := HALL.out v (by rw [et]; exact hv); rw [HV.out] at h; exact h)
              clear et hex
              go_wp2_with fail
              go_roundw
              case rel => exact ⟨j + 1, by omega, by go_num, HST.out ⟨HP.out, HALL2.out⟩, (HEX.out.trans HX7.out).trans HEW.out⟩
              case measure => simp [intOf]; omega
        · obtain rfl : j = nr := by omega
          have hdj : ¬ (j : Int) < (j : Int) := by omega
          have HYES := Lib.hid (pureQ_yes (hd := hd) (ag := 0) (rs := rs) ⟨rfl, by have := HNR.out; omega, by have := HNR.out; omega, HND.out, fun r hr => by
            obtain ⟨k, hk, rfl⟩ := List.getElem_of_mem hr
            exact HOK.out k hk (by have := HNR.out; omega)⟩)
          clear hext
          go_wp2_with fail
          go_ret
          rw [HYES.out]
          exact Ret.mk HXR.out rfl

set_option maxRecDepth 20000 in
set_option maxHeartbeats 3200000 in
theorem query25 {F : Nat → Prop} {w : World} {vh vr : Value} {ag : Int} {av : ByteArray} {O : Option Addr} {no co : Nat} {hd : List ByteArray} {rs : List Ru} (hH : Strs F w vh hd) (hR : Rus F w vr rs) (hbd : ∀ r ∈ rs, Bd r.ats) (hhl : hd.length ≤ 1000000) (hrl : rs.length ≤ 1000000) :
    Calls Tryd.prog 19 #[.agg #[vh, .int .i64 ag, .string av, vr, .slice O no co]] w (Ret (fun x _ => x = .bool (pureQ hd ag rs)) w) := by
  obtain ⟨B, d, rfl⟩ := hR.sl
  have HH := Lib.hid hH
  obtain ⟨A, c, rfl, hcA, hclA⟩ := hH
  obtain ⟨nh, hnh⟩ : ∃ n, n = hd.length := ⟨_, rfl⟩
  obtain ⟨nr, hnr⟩ : ∃ n, n = rs.length := ⟨_, rfl⟩
  rw [← hnh] at hcA hhl HH ⊢
  rw [← hnr] at hR hrl ⊢
  have HNH := Lib.hid hnh; have HNR := Lib.hid hnr; have HA := Lib.hid hclA; have HR := Lib.hid hR.at2; have HBD := Lib.hid hbd
  clear hnh hnr hclA hR hbd
  by_cases h0 : ¬ ag = 0
  · have h1 : (ag == 0) = false := beq_false_of_ne h0
    have HNO := Lib.hid (pureQ_no (hd := hd) (ag := ag) (rs := rs) (fun h => h0 h.1))
    rw [HNO.out]
    go_enter Tryd.func19, Tryd.ntmps19
    go_wp2_with fail
    go_ret
    exact Ret.mk ((Ext.refl w).alloc _) rfl
  obtain rfl : ag = 0 := by omega
  clear h0
  by_cases hz : nr < 1
  · have hz1 : (nr : Int) < 1 := by omega
    have HNO := Lib.hid (pureQ_no (hd := hd) (ag := 0) (rs := rs) (fun h => by have := h.2.1; have := HNR.out; omega))
    rw [HNO.out]
    clear hz
    go_enter Tryd.func19, Tryd.ntmps19
    go_wp2_with fail
    go_ret
    exact Ret.mk ((Ext.refl w).alloc _) rfl
  have hz1 : ¬ (nr : Int) < 1 := by omega
  have hz3 : 0 < nr := by omega
  clear hz
  by_cases h8 : ¬ nr ≤ 3
  · have h9 : (3 : Int) < (nr : Int) := by omega
    have HNO := Lib.hid (pureQ_no (hd := hd) (ag := 0) (rs := rs) (fun h => by have := h.2.2.1; have := HNR.out; omega))
    rw [HNO.out]
    clear h8
    go_enter Tryd.func19, Tryd.ntmps19
    go_wp2_with fail
    go_ret
    exact Ret.mk ((Ext.refl w).alloc _) rfl
  replace h8 : nr ≤ 3 := by omega
  have h9 : ¬ (3 : Int) < (nr : Int) := by omega
  go_enter Tryd.func19, Tryd.ntmps19
  go_wp2_with fail
  have hx1 : Ext w (w.alloc (.cells #[.slice A nh c, .int .i64 0, .string av, .slice B nr d, .slice O no co] 44)) := (Ext.refl w).alloc _
  have k1 := Bk.new w 44 [.slice A nh c, .int .i64 0, .string av, .slice B nr d, .slice O no co]
  change Bk (w.alloc (.cells #[.slice A nh c, .int .i64 0, .string av, .slice B nr d, .slice O no co] 44)) _ _ _ at k1
  generalize (w.alloc (.cells #[.slice A nh c, .int .i64 0, .string av, .slice B nr d, .slice O no co] 44)) = w1 at *
  have HX1 := Lib.hid hx1; have HK1 := Lib.hid k1
  clear hx1 k1
  go_loopw [3] (fun q wr => ∃ i : Nat, i ≤ nh ∧ q = .int .i64 (i : Int) ∧ (hd.take i).Nodup ∧ Ext w1 wr) (fun q _ => nh - (intOf q).toNat)
  case atStart => exact ⟨0, Nat.zero_le _, rfl, by simp, Ext.refl _⟩
  case round =>
    obtain ⟨i, hi, rfl, hnd, hext⟩ := hrel
    have HEX := Lib.hid hext; have HXR := Lib.hid (HX1.out.trans hext)
    have b0 := (HK1.out.ext hext).cell (i := 0) (by simp); have b3 := (HK1.out.ext hext).cell (i := 3) (by simp)
    simp only [List.getElem_cons_zero, List.getElem_cons_succ] at b0 b3
    by_cases hlt : i < nh
    · have i1 : (0 : Int) ≤ (i : Int) := by omega
      have i2 : (i : Int) < (nh : Int) := by omega
      have i3 : (i : Int) ≤ (c : Int) := by omega
      have hix : i < hd.length := by have := HNH.out; omega
      obtain ⟨ad, rfl, -, d0⟩ := HA.out.str hix
      replace d0 := HXR.out.cell d0
      have HIN := Lib.hid (fun nq : Nat => in_take (s := hd[i]) (w := wr.drewN nq) (m := i) (HH.out.ext (HXR.out.drewN nq)) (by omega) (by omega))
      by_cases he : hd[i] = ⟨#[]⟩
      · have HNO := Lib.hid (pureQ_no (hd := hd) (ag := 0) (rs := rs) (fun h => by
          have h1 := h.2.2.2.2 rs[0] (List.getElem_mem (by have := HNR.out; omega))
          have h2 := h1.2 _ (List.getElem_mem hix)
          obtain ⟨t, -, -, h3⟩ := varsT_iff.1 h2
          exact h3 he))
        have he2 := var_eq he
        obtain ⟨u, hu⟩ : ∃ u, u = hd[i] := ⟨_, rfl⟩
        rw [← hu] at d0 he2
        clear he hu hnd hext b3
        go_upto_region 6 with fail
        go_quiet (fail)
        go_wp2_with fail
        go_ret
        rw [HNO.out]
        exact Ret.mk (HXR.out.drewN _) rfl
      · have he2 := var_ne he
        by_cases hin : hd[i] ∈ hd.take i
        · have HNO := Lib.hid (pureQ_no (hd := hd) (ag := 0) (rs := rs) (fun h => not_nodup hix hin h.2.2.2.1))
          rw [decide_eq_true hin] at HIN
          obtain ⟨u, hu⟩ : ∃ u, u = hd[i] := ⟨_, rfl⟩
          rw [← hu] at d0 he2 HIN
          clear he hu hnd hext hin b3
          go_upto_region 6 with fail
          go_quiet ((go_at_call 16; exact Calls.quiet_of_same (HIN.out _)))
          go_wp2_with fail
          go_ret
          rw [HNO.out]
          exact Ret.mk (HXR.out.drewN _) rfl
        · have HND := Lib.hid (show (hd.take (i + 1)).Nodup by rw [List.take_succ_eq_append_getElem hix]; exact nodup_snoc hnd hin)
          rw [decide_eq_false hin] at HIN
          obtain ⟨u, hu⟩ : ∃ u, u = hd[i] := ⟨_, rfl⟩
          rw [← hu] at d0 he2 HIN
          clear he hu hnd hext hin b3
          go_upto_region 6 with fail
          go_quiet ((go_at_call 16; exact Calls.quiet_of_same (HIN.out _)))
          go_wp2_with fail
          go_roundw
          case rel => exact ⟨i + 1, by omega, by go_num, HND.out, HEX.out.drewN _⟩
          case measure => simp [intOf]; omega
    · obtain rfl : i = nh := by omega
      have hdn : ¬ (i : Int) < (i : Int) := by omega
      have et : hd.take i = hd := by rw [HNH.out]; exact List.take_length
      rw [et] at hnd
      obtain ⟨w2, rfl⟩ : ∃ W : World, W = wr := ⟨_, rfl⟩
      have HND := Lib.hid hnd
      have HK2 := Lib.hid (HK1.out.ext hext)
      clear et hnd hext HK1 HX1
      go_wp2_with fail
      clear b0 b3
      go_loopw [4] (fun q wr => ∃ j : Nat, j ≤ nr ∧ q = .int .i64 (j : Int) ∧ (∀ k (h : k < rs.length), k < j → okRu hd rs[k]) ∧ Ext w2 wr) (fun q _ => nr - (intOf q).toNat)
      case atStart => exact ⟨0, Nat.zero_le _, rfl, fun _ _ h => absurd h (by omega), Ext.refl _⟩
      case round =>
        obtain ⟨j, hj, rfl, hok, hext⟩ := hrel
        have HOK := Lib.hid hok; have HEJ := Lib.hid hext
        have HXJ := Lib.hid (HXR.out.trans hext)
        have b3 := (HK2.out.ext hext).cell (i := 3) (by simp)
        simp only [List.getElem_cons_zero, List.getElem_cons_succ] at b3
        clear hok
        by_cases hjr : j < nr
        · have j1 : (0 : Int) ≤ (j : Int) := by omega
          have j2 : (j : Int) < (nr : Int) := by omega
          have hjl : j < rs.length := by have := HNR.out; omega
          obtain ⟨ad, Br, n, dr, Cr, er, rfl, -, c0, c1, ha, hc⟩ := HR.out j hjl
          replace c0 := HXJ.out.cell c0; replace c1 := HXJ.out.cell c1
          have hbr := HBD.out _ (List.getElem_mem hjl)
          have hrm : rs[j] ∈ rs := List.getElem_mem hjl
          have HST := Lib.hid (ok_step (hd := hd) HOK.out hjl)
          obtain ⟨r, hr⟩ : ∃ r, r = rs[j] := ⟨_, rfl⟩
          rw [← hr] at c1 ha hbr hrm HST
          have HA2 := Lib.hid (ha.ext HXJ.out); have HBR := Lib.hid hbr
          have HBADR : Hid (¬ okRu hd r → pureQ hd 0 rs = false) := Lib.hid (fun hb => pureQ_no (fun h => hb (h.2.2.2.2 r hrm)))
          clear ha hc hbr hrm hr hext
          by_cases hp : ¬ pureL r.ats r.nc = true
          · have HNO := Lib.hid (HBADR.out (fun h => hp h.1))
            have hcall := pure25 (Ac := Cr) (nc := r.nc) (cc := er) HA2.out HBR.out
            rw [Bool.not_eq_true] at hp
            rw [hp] at hcall
            have HCALL := Lib.hid hcall
            clear hp hcall
            go_wp2_with fail
            refine HCALL.out.mono ?_
            rintro e w3 ⟨y, rfl, he3, rfl⟩
            have HX3 := Lib.hid (HXJ.out.trans he3)
            clear he3
            go_wp2_with fail
            go_ret
            rw [HNO.out]
            exact Ret.mk HX3.out rfl
          replace hp : pureL r.ats r.nc = true := Classical.byContradiction hp
          have hcall := pure25 (Ac := Cr) (nc := r.nc) (cc := er) HA2.out HBR.out
          rw [hp] at hcall
          have HCALL := Lib.hid hcall; have HP := Lib.hid hp
          clear hp hcall
          have hcv := fun (W : World) (hW : Ext wr W) => vars25 (HA2.out.ext hW) HBR.out.len HBR.out.all
          obtain ⟨V, hV⟩ : ∃ V, V = varsT (allT r.ats) := ⟨_, rfl⟩
          have hvl : V.length ≤ 1048576 := by rw [hV]; have := varsT_length (allT r.ats); have := HBR.out.all; omega
          rw [← hV] at hcv
          have HCV := Lib.hid hcv; have HV := Lib.hid hV; have HVL := Lib.hid hvl
          clear hcv hV hvl
          go_wp2_with fail
          refine HCALL.out.mono ?_
          rintro e w6 ⟨y, rfl, he6, rfl⟩
          have HX6 := Lib.hid he6
          replace b3 := he6.cell b3
          replace c0 := he6.cell c0
          clear he6
          go_wp2_with fail
          refine (HCV.out _ HX6.out).mono ?_
          rintro e w7 ⟨vv, rfl, he7, hrv⟩
          have HX7 := Lib.hid (HX6.out.trans he7)
          have HVS := Lib.hid (Strs.of_own hrv)
          obtain ⟨Av, cv, rfl⟩ := own_slice hrv
          clear he7 hrv c0 c1 b3
          go_wp2_with fail
          go_loopw [6] (fun q wx => ∃ k : Nat, k ≤ i ∧ q = .int .i64 (k : Int) ∧ (∀ v ∈ hd.take k, v ∈ V) ∧ Ext w7 wx) (fun q _ => i - (intOf q).toNat)
          case atStart => exact ⟨0, Nat.zero_le _, rfl, by simp, Ext.refl _⟩
          case round =>
            obtain ⟨k, hk, rfl, hall, hex⟩ := hrel
            have HALL := Lib.hid hall; have HEW := Lib.hid hex
            have HXX := Lib.hid ((HXJ.out.trans HX7.out).trans hex)
            have b0 := (((HK2.out.ext HEJ.out).ext HX7.out).ext hex).cell (i := 0) (by simp)
            simp only [List.getElem_cons_zero] at b0
            clear hall
            by_cases hki : k < i
            · have k1 : (0 : Int) ≤ (k : Int) := by omega
              have k2 : (k : Int) < (i : Int) := by omega
              have hkl : k < hd.length := by have := HNH.out; omega
              obtain ⟨adh, rfl, -, d0⟩ := HA.out.str hkl
              replace d0 := HXX.out.cell d0
              have htk : hd.take (k + 1) = hd.take k ++ [hd[k]] := List.take_succ_eq_append_getElem hkl
              have hmem : hd[k] ∈ hd := List.getElem_mem hkl
              obtain ⟨u, hu⟩ : ∃ u, u = hd[k] := ⟨_, rfl⟩
              rw [← hu] at d0 htk hmem
              have HTK := Lib.hid htk; have HMEM := Lib.hid hmem
              have HCI := Lib.hid (in25 (s := u) (HVS.out.ext hex) (by have := HVL.out; omega))
              clear htk hmem hu hex
              by_cases hin : u ∈ V
              · rw [decide_eq_true hin] at HCI
                have HIN := Lib.hid hin
                clear hin
                go_wp2_with fail
                refine HCI.out.mono ?_
                rintro e w9 ⟨rfl, rfl⟩
                go_wp2_with fail
                go_roundw
                case rel =>
                  refine ⟨k + 1, by omega, by go_num, fun v hv => ?_, HEW.out⟩
                  rw [HTK.out, List.mem_append, List.mem_singleton] at hv
                  rcases hv with hv | rfl
                  · exact HALL.out v hv
                  · exact HIN.out
                case measure => simp [intOf]; omega
              · rw [decide_eq_false hin] at HCI
                have HNO := Lib.hid (HBADR.out (fun h => hin (by rw [HV.out]; exact h.2 u HMEM.out)))
                clear hin
                go_wp2_with fail
                refine HCI.out.mono ?_
                rintro e w9 ⟨rfl, rfl⟩
                go_wp2_with fail
                go_ret
                rw [HNO.out]
                exact Ret.mk HXX.out rfl
            · obtain rfl : k = i := by omega
              have hdk : ¬ (k : Int) < (k : Int) := by omega
              have et : hd.take k = hd := by rw [HNH.out]; exact List.take_length
              have HALL2 : Hid (∀ v ∈ hd, v ∈ varsT (allT r.ats)) := Lib.hid (fun v hv => by have h := HALL.out v (by rw [et]; exact hv); rw [HV.out] at h; exact h)
              clear et hex
              go_wp2_with fail
              go_roundw
              case rel => exact ⟨j + 1, by omega, by go_num, HST.out ⟨HP.out, HALL2.out⟩, (HEJ.out.trans HX7.out).trans HEW.out⟩
              case measure => simp [intOf]; omega
        · obtain rfl : j = nr := by omega
          have hdj : ¬ (j : Int) < (j : Int) := by omega
          have HYES := Lib.hid (pureQ_yes (hd := hd) (ag := 0) (rs := rs) ⟨rfl, by have := HNR.out; omega, by have := HNR.out; omega, HND.out, fun r hr => by
            obtain ⟨k, hk, rfl⟩ := List.getElem_of_mem hr
            exact HOK.out k hk (by have := HNR.out; omega)⟩)
          clear hext
          go_wp2_with fail
          go_ret
          rw [HYES.out]
          exact Ret.mk HXJ.out rfl
end Go.Proofs.YtehklbdgkppmeaaDoor
