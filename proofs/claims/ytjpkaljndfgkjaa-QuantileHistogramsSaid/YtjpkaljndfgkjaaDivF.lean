/- Contracts: nat.DivMod, quantile.quotient. -/
import Derived.Test.YtjpkaljndfgkjaaDivE
namespace Go.Proofs.Ytjpkaljndfgkjaa
open Go.RowKit

theorem own_block {w : World} {base : Nat} {t : TypeId} {v : Value} {n : Nat} {ds : List Nat} (h : w.ownsRow base t 1 v n (ds.map U32)) (h0 : 0 < ds.length) :
    ∃ g c rest, v = .slice (some ⟨g, 0, none⟩) ds.length c ∧ base ≤ g ∧ Bk w g t (ds.map U32 ++ rest) ∧ ds.length ≤ c := by
  obtain ⟨hl, h | ⟨g, cap, cur, rfl, hb, hg, hc, -, hs, ht⟩⟩ := h
  · rw [h.2] at hl; simp at hl; simp [hl] at h0
  · simp only [List.length_map, Nat.mul_one] at hl ht
    subst hl
    refine ⟨g, cap, cur.toList.drop ds.length, rfl, hb, ?_, hc⟩
    rw [← ht, List.take_append_drop]
    simpa [Bk] using hg

/-- A row's lower part is a number. -/
theorem Bk.dg_low {w : World} {g : Nat} {t : TypeId} {ds : List Nat} {rest : List Value} (h : Bk w g t (ds.map U32 ++ rest)) (hl : Low ds) (hb : ds.length ≤ 35184372088832) {n c : Nat} (hn : n = ds.length) (hc : n ≤ c) : Dg w (.slice (some ⟨g, 0, none⟩) n c) ds := by
  refine Dg.of_parts hn hc (by omega) hl (fun i hi => ⟨_, rfl, ?_⟩)
  rw [show (⟨g, 0, none⟩ : Addr).add i = ⟨g, i, none⟩ by simp only [Addr.add, Nat.zero_add]; split <;> simp_all]
  rw [h.cell (i := i) (by simp; omega), List.getElem_append_left (by simp; omega)]
  simp [List.getD, show i < ds.length by omega]

theorem divMod_zero {w : World} {u v : Value} {a : Nat} (hu : Nv w u a) (hv : Nv w v 0) :
    Calls Try.prog 63 #[u, v] w fun e w' => e = .returned (.tuple #[.slice none 0 0, .slice none 0 0, .int .i64 18]) ∧ Ext w w' := by
  go_enter Try.func63, Try.ntmps63
  go_wp2_with fail
  refine (trim_nv hu).mono ?_
  rintro e w1 ⟨A, rfl, hA, rfl⟩
  go_wp2_with fail
  refine (trim_nv hv).mono ?_
  rintro e w1 ⟨B, rfl, hB, rfl⟩
  rw [dig_zero]
  go_wp2_with fail
  refine bodyPost_ret (v := .tuple #[.slice none 0 0, .slice none 0 0, .int .i64 18]) ?_ rfl ⟨rfl, Ext.refl _⟩
  simp [results, Try.results63, go_sem]

/-- What DivMod leaves. -/
def DmPost (a b : Nat) (w : World) (e : Ending) (w' : World) : Prop :=
  ∃ A n c B m d, e = .returned (.tuple #[.slice A n c, .slice B m d, .int .i64 0]) ∧ Nz w' (.slice A n c) (a / b) ∧ Nz w' (.slice B m d) (a % b) ∧ Ext w w'

set_option maxHeartbeats 1000000 in
theorem divMod_any {w : World} {u v : Value} {a b : Nat} (hu : Nv w u a) (hv : Nv w v b) (hb0 : 0 < b) (hla : (dig a).length ≤ 100000) (hlb : (dig b).length ≤ 100000) :
    Calls Try.prog 63 #[u, v] w (DmPost a b w) := by
  go_enter Try.func63, Try.ntmps63
  go_wp2_with fail
  refine (trim_nv hu).mono ?_
  rintro e w1 ⟨A, rfl, hA, rfl⟩
  go_wp2_with fail
  refine (trim_nv hv).mono ?_
  rintro e w1 ⟨B, rfl, hB, rfl⟩
  have hbl : 0 < (dig b).length := by
    rcases Nat.eq_zero_or_pos (dig b).length with h | h
    · have h2 := val_dig b; rw [List.length_eq_zero_iff.1 h] at h2; simp [val] at h2; omega
    · exact h
  have HA := Lib.hid hA; have HB := Lib.hid hB; clear hA hB hu hv
  have hl1 : ((dig b).length : Int) ≠ 0 := by omega
  have hl2 := dig_len_mono (a := b) (b := a)
  generalize hn : (dig b).length = n at *
  generalize hm : (dig a).length = m at *
  have HN := Lib.hid hn; have HM := Lib.hid hm; have HL2 := Lib.hid hl2; clear hn hm hl2
  go_wp2_with fail
  refine (cmp_nv HA.out.nv HB.out.nv).mono ?_
  rintro e w2 ⟨rfl, hq⟩
  have he := hq.ext
  have HA2 := Lib.hid (HA.out.ext he); have HB2 := Lib.hid (HB.out.ext he); clear HA HB
  by_cases hlt : a < b
  · rw [cmpI_lt hlt]
    go_wp2_with fail
    refine (clone32 HA2.out).mono ?_
    rintro e w3 ⟨x, rfl, he3, hx, -⟩
    obtain ⟨X, xn, xc, rfl, -⟩ := Dg.parts hx
    go_wp2_with fail
    refine bodyPost_ret (v := .tuple #[.slice none 0 0, .slice X xn xc, .int .i64 0]) ?_ rfl ⟨_, _, _, _, _, _, rfl, by rw [Nat.div_eq_of_lt hlt]; exact Nz.nil _, by rw [Nat.mod_eq_of_lt hlt]; exact hx, he.trans he3⟩
    simp [results, Try.results63, go_sem]
  · have hge : b ≤ a := by omega
    have hnlt : ¬ cmpI a b < 0 := by rw [cmpI_neg]; omega
    generalize hc : cmpI a b = c at *
    clear hc
    have hmn : n ≤ m := HL2.out hge
    by_cases h1 : n = 1
    · subst h1
      go_wp2_with fail
      refine (clone32 HA2.out).mono ?_
      rintro e w3 ⟨x, rfl, he3, hx, no, hown⟩
      obtain ⟨g, xc, rest, rfl, hg, hbk, hxc⟩ := own_block hown (by have := HM.out; omega)
      obtain ⟨B', n', cb, hBe, hnn, -, -, hlb2, hB⟩ := Dg.parts (HB2.out.ext he3)
      injection hBe with e1 e2 e3; subst e1; subst e2; subst e3
      obtain ⟨ad, rfl, hcell⟩ := hB 0 (by omega)
      have hdb : (dig b).getD 0 0 = b := by
        have h2 := val_dig b
        obtain ⟨d, hd⟩ := List.length_eq_one_iff.1 HN.out
        rw [hd] at h2 ⊢; simpa [val] using h2
      have hbB : b < 4294967296 := by have h := hlb2.getD 0; rw [hdb] at h; exact h
      rw [hdb, add_zero] at hcell
      have HOWN := Lib.hid hown; have HBK := Lib.hid hbk; have HX := Lib.hid hx; have HNN := Lib.hid hnn
      clear hown hbk hx hnn hB hlb2 hdb
      rw [HM.out] at hxc ⊢
      go_wp2_with fail
      refine (divDigit_any HBK.out (low_dig a) HM.out.symm (by omega) hb0 hbB).mono ?_
      rintro e w4 ⟨rfl, qs, hql, hqlow, hqv, hbq, hm4⟩
      rw [val_dig] at hqv ⊢
      have hr : a % b < 4294967296 := Nat.lt_trans (Nat.mod_lt _ hb0) hbB
      have he4 := (he.trans he3).mod hm4 (by have := he.size; omega)
      have hqd := hbq.dg_low (n := m) (c := xc) hqlow (by omega) hql.symm hxc
      generalize hR : a % b = r at *
      have HR := Lib.hid hR; clear hR
      have HQ := Lib.hid hqd; clear hqd hbq
      go_wp2_with fail
      refine (trim_dg HQ.out).mono ?_
      rintro e w5 ⟨Q, rfl, hQ, rfl⟩
      rw [hqv] at hQ ⊢
      go_wp2_with fail
      refine (of_nz r (by omega) _).mono ?_
      rintro e w6 ⟨x, rfl, he6, hx6⟩
      obtain ⟨X, xn, xc', rfl, -⟩ := Dg.parts hx6
      go_wp2_with fail
      refine bodyPost_ret (v := .tuple #[.slice Q (dig (a / b)).length (dig (a / b)).length, .slice X xn xc', .int .i64 0]) ?_ rfl ⟨_, _, _, _, _, _, rfl, Nz.ext hQ he6, by rw [HR.out]; exact hx6, he4.trans he6⟩
      simp [results, Try.results63, go_sem]
    · have hn1 : (n : Int) ≠ 1 := by omega
      go_wp2_with fail
      refine (divLong_any HA2.out HB2.out (by rw [HN.out]; omega) (by rw [HM.out]; omega) hge).mono ?_
      rintro e w3 ⟨q, r, rfl, hq3, hr3, he3⟩
      go_wp2_with fail
      refine (trim_nv hq3).mono ?_
      rintro e w5 ⟨Q, rfl, hQ, rfl⟩
      go_wp2_with fail
      refine (trim_nv hr3).mono ?_
      rintro e w6 ⟨R, rfl, hR, rfl⟩
      go_wp2_with fail
      refine bodyPost_ret (v := .tuple #[.slice Q (dig (a / b)).length (dig (a / b)).length, .slice R (dig (a % b)).length (dig (a % b)).length, .int .i64 0]) ?_ rfl ⟨_, _, _, _, _, _, rfl, hQ, hR, he.trans he3⟩
      simp [results, Try.results63, go_sem]
end Go.Proofs.Ytjpkaljndfgkjaa
