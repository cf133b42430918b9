/- Contract: nat.divDigit. -/
import Derived.Test.YtjpkaljndfgkjaaSamA
namespace Go.Proofs.Ytjpkaljndfgkjaa
open Go.RowKit

theorem or_low (r d : Nat) (hr : r < 4294967296) (hd : d < 4294967296) : bits BinOp.or IntKind.u64 ((r : Int) * 4294967296) (d : Int) = ((r * 4294967296 + d : Nat) : Int) := by
  have e2 : (r * 4294967296) ||| d = r * 4294967296 + d := by
    have := Nat.two_pow_add_eq_or_of_lt (i := 32) (b := d) (by omega) r
    rw [Nat.mul_comm] at this
    exact this.symm
  show IntKind.u64.wrap ((BitVec.ofInt 64 ((r : Int) * 4294967296) ||| BitVec.ofInt 64 (d : Int)).toNat : Int) = _
  rw [show ((r : Int) * 4294967296) = ((r * 4294967296 : Nat) : Int) by simp, BitVec.toNat_or, BitVec.ofInt_natCast, BitVec.ofInt_natCast, BitVec.toNat_ofNat, BitVec.toNat_ofNat, Nat.mod_eq_of_lt (by omega), Nat.mod_eq_of_lt (by omega), e2, IntKind.wrap_u64]
  omega

theorem div_step (d r x q V : Nat) (_hd : 0 < d) (_hr : r < d) (h : V = q * d + r) :
    x + 4294967296 * V = ((r * 4294967296 + x) / d + 4294967296 * q) * d + (r * 4294967296 + x) % d := by
  have h1 := Nat.div_add_mod (r * 4294967296 + x) d
  rw [h, Nat.add_mul, Nat.mul_comm ((r * 4294967296 + x) / d) d, Nat.mul_assoc, Nat.mul_add]
  omega
theorem div_digit_lt (d r x : Nat) (hr : r < d) (hx : x < 4294967296) : (r * 4294967296 + x) / d < 4294967296 := by
  rw [Nat.div_lt_iff_lt_mul (by omega)]
  have : (r + 1) * 4294967296 ≤ d * 4294967296 := Nat.mul_le_mul_right _ hr
  rw [Nat.mul_comm]; omega

theorem set_mid {α : Type} (l : List α) (k : Nat) (x : α) (r s : List α) (hk : k < l.length) (h : s = l.take (k + 1) ++ r) : s.set k x = l.take k ++ (x :: r) := by
  subst h
  rw [List.take_succ_eq_append_getElem hk, List.append_assoc]
  rw [List.set_append_right _ _ (by simp; omega)]
  simp [List.length_take, Nat.min_eq_left (Nat.le_of_lt hk)]

theorem row_get (ds qs : List Nat) (rest : List Value) (i k : Nat) (hi : i < k) (hk : k ≤ ds.length) : ((ds.take k ++ qs).map U32 ++ rest).getD i undef = .int .u32 ((ds.getD i 0 : Nat) : Int) := by
  have h1 : i < ds.length := by omega
  rw [List.map_append, List.append_assoc, List.getD, List.getElem?_append_left (by simp; omega)]
  simp [hi, h1, List.getD]
theorem row_set (ds qs : List Nat) (rest : List Value) (k q : Nat) (h0 : 0 < k) (hk : k ≤ ds.length) : ((ds.take k ++ qs).map U32 ++ rest).set (k - 1) (U32 q) = (ds.take (k - 1) ++ (q :: qs)).map U32 ++ rest := by
  rw [List.map_append, List.append_assoc, List.set_append_left _ _ (by simp; omega)]
  have e : ((ds.take k).map U32).set (k - 1) (U32 q) = (ds.take (k - 1)).map U32 ++ [U32 q] := by
    have h := set_mid (ds.map U32) (k - 1) (U32 q) [] ((ds.map U32).take k) (by simp; omega) (by rw [show k - 1 + 1 = k by omega]; simp)
    simpa [List.map_take] using h
  rw [e]; simp

set_option maxRecDepth 20000 in
set_option maxHeartbeats 800000 in
theorem divDigit_any {w : World} {g n c d : Nat} {ds : List Nat} {rest : List Value} (hb : Bk w g 105 (ds.map U32 ++ rest)) (hl : Low ds) (hn : n = ds.length) (hnb : n ≤ 1000000) (hd0 : 0 < d) (hd1 : d < 4294967296) :
    Calls Try.prog 74 #[.slice (some ⟨g, 0, none⟩) n c, .int .u32 (d : Int)] w fun e w' => e = .returned (.int .u32 ((val ds % d : Nat) : Int)) ∧ ∃ qs, qs.length = n ∧ Low qs ∧ val qs = val ds / d ∧ Bk w' g 105 (qs.map U32 ++ rest) ∧ Mod g w w' := by
  have HN := Lib.hid hn; clear hn
  have HB := Lib.hid hb; clear hb
  have HL := Lib.hid hl; clear hl
  go_enter Try.func74, Try.ntmps74
  go_wp2_with fail
  go_loopw [5, 6] (fun t i wr => ∃ (k r : Nat) (qs : List Nat), k ≤ n ∧ i = .int .i64 ((k : Int) - 1) ∧ t = .int .u64 r ∧ r < d ∧ qs.length = n - k ∧ Low qs ∧ val (ds.drop k) = val qs * d + r ∧ Bk wr g 105 ((ds.take k ++ qs).map U32 ++ rest) ∧ Mod g w wr)
    (fun _ i _ => (intOf i + 1).toNat)
  case atStart =>
    refine ⟨n, 0, [], Nat.le_refl _, rfl, rfl, hd0, by simp, Low.nil, ?_, ?_, Mod.refl _ _⟩
    · rw [List.drop_of_length_le (by have := HN.out; omega)]; simp [val]
    · rw [List.take_of_length_le (by have := HN.out; omega), List.append_nil]; exact HB.out
  case round =>
    obtain ⟨k, r, qs, hk, rfl, rfl, hr, hql, hlq, hv, hbk, hm⟩ := hrel
    have HQL := Lib.hid hql; have HV := Lib.hid hv; clear hql hv
    by_cases h0 : 0 < k
    · have hlen : ((ds.take k ++ qs).map U32 ++ rest).length = n + rest.length := by simp [HQL.out]; have := HN.out; omega
      have hkl : k - 1 < ds.length := by have := HN.out; omega
      have hcell := hbk.cellD (i := k - 1) (by omega)
      have hgd := row_get ds qs rest (k - 1) k (by omega) (by have := HN.out; omega)
      rw [hgd] at hcell
      have hfree := hbk.free (k - 1)
      have hx := HL.out.getD (k - 1)
      generalize hX : ds.getD (k - 1) 0 = x at *
      have HX := Lib.hid hX; have HBK := Lib.hid hbk; clear hX hbk hgd hlen
      have hq := div_digit_lt d r x hr hx
      have hor := or_low r x (by omega) hx
      have hi0 : (0 : Int) ≤ (k : Int) - 1 := by omega
      have hi1 : (k : Int) - 1 < (n : Int) := by omega
      have hi2 : ((k : Int) - 1).toNat = k - 1 := by omega
      go_wp2_with fail
      go_roundw
      case rel =>
        refine ⟨k - 1, (r * 4294967296 + x) % d, (r * 4294967296 + x) / d :: qs, by omega, by go_num, by go_num, Nat.mod_lt _ hd0, by simp [HQL.out]; omega, Low.cons hq hlq, ?_, ?_, hm.setCell (p := ⟨g, k - 1, none⟩) (.inl rfl) _⟩
        · rw [List.drop_eq_getElem_cons hkl, show k - 1 + 1 = k by omega]
          have e : ds[k - 1] = x := by have := HX.out; simpa [List.getD, hkl] using this
          simp only [val, e]
          exact div_step d r x (val qs) _ hd0 hr HV.out
        · have h := HBK.out.set (k - 1) (U32 ((r * 4294967296 + x) / d))
          rw [row_set ds qs rest k _ h0 (by have := HN.out; omega)] at h
          have e0 : ((((r * 4294967296 + x) / d : Nat) : Int)) = ((r : Int) * 4294967296 + x) / d := by simp
          have e : ((((r * 4294967296 + x) / d : Nat) : Int)) = ((r : Int) * 4294967296 + x) / d % 4294967296 := by rw [← e0]; exact (Int.emod_eq_of_lt (Int.natCast_nonneg _) (Int.ofNat_lt.2 hq)).symm
          rw [U32, e] at h
          exact h
      case measure => simp [intOf]; omega
    · have hi : ¬ (1 : Int) ≤ (k : Int) := by omega
      go_wp2_with fail
      go_ret
      obtain rfl : k = 0 := by omega
      have hv := HV.out
      simp only [List.drop_zero] at hv
      have e1 : val ds % d = r := by rw [hv, Nat.mul_comm, Nat.mul_add_mod]; exact Nat.mod_eq_of_lt hr
      have e2 : val ds / d = val qs := by rw [hv, Nat.mul_comm, Nat.mul_add_div hd0, Nat.div_eq_of_lt hr, Nat.add_zero]
      refine ⟨ret_int (by have e3 : ((val ds % d : Nat) : Int) = r := by rw [e1]
                          simpa using e3.symm), qs, by simpa using HQL.out, hlq, e2.symm, by simpa using hbk, hm⟩
end Go.Proofs.Ytjpkaljndfgkjaa
