/- Contract: nat.Sub. -/
import Derived.Test.YtjpkaljndfgkjaaNatB
namespace Go.Proofs.Ytjpkaljndfgkjaa
open Go.RowKit

/-- The borrow of one place. -/
def bor (x y b : Nat) : Nat := if x < b + y then 1 else 0
theorem bor_le (x y b : Nat) : bor x y b ≤ 1 := by unfold bor; split <;> omega
theorem bor_wrap (x y b : Nat) (hx : x < 4294967296) (hy : y < 4294967296) (hb : b ≤ 1) :
    IntKind.u64.wrap (IntKind.u64.wrap ((x : Int) - b) - y) = (if x < b + y then (18446744073709551616 : Int) + x - b - y else (x : Int) - b - y) := by
  rw [IntKind.wrap_u64, IntKind.wrap_u64]
  split <;> omega
theorem bor_top (x y b : Nat) (hx : x < 4294967296) (hy : y < 4294967296) (hb : b ≤ 1) :
    IntKind.u64.wrap (IntKind.u64.wrap ((x : Int) - b) - y) / 9223372036854775808 = (bor x y b : Nat) := by
  rw [bor_wrap x y b hx hy hb]; unfold bor
  split <;> omega
theorem bor_low (x y b : Nat) (hx : x < 4294967296) (hy : y < 4294967296) (hb : b ≤ 1) :
    IntKind.u64.wrap (IntKind.u64.wrap ((x : Int) - b) - y) % 4294967296 = ((x + 4294967296 * bor x y b - b - y : Nat) : Int) := by
  rw [bor_wrap x y b hx hy hb]; unfold bor
  split <;> omega
theorem bor0_top (x b : Nat) (hx : x < 4294967296) (hb : b ≤ 1) : IntKind.u64.wrap ((x : Int) - b) / 9223372036854775808 = (bor x 0 b : Nat) := by
  rw [IntKind.wrap_u64]; unfold bor; split <;> omega
theorem bor0_low (x b : Nat) (hx : x < 4294967296) (hb : b ≤ 1) : IntKind.u64.wrap ((x : Int) - b) % 4294967296 = ((x + 4294967296 * bor x 0 b - b - 0 : Nat) : Int) := by
  rw [IntKind.wrap_u64]; unfold bor; split <;> omega
theorem bor_lt (x y b : Nat) (hx : x < 4294967296) (hy : y < 4294967296) (hb : b ≤ 1) : x + 4294967296 * bor x y b - b - y < 4294967296 := by
  unfold bor; split <;> omega
theorem sub_step (ds : List Nat) (br x y a b k : Nat) (hk : ds.length = k) (hx : x < 4294967296) (hy : y < 4294967296) (hb : br ≤ 1) (h : val ds + b = a + 4294967296 ^ k * br) :
    val (ds ++ [x + 4294967296 * bor x y br - br - y]) + (b + 4294967296 ^ k * y) = (a + 4294967296 ^ k * x) + 4294967296 ^ (k + 1) * bor x y br := by
  have e : (x + 4294967296 * bor x y br - br - y) + y + br = x + 4294967296 * bor x y br := by unfold bor; split <;> omega
  rw [val_snoc, hk, Nat.pow_succ, Nat.mul_assoc]
  have e2 := congrArg (fun z => 4294967296 ^ k * z) e
  simp only [Nat.mul_add] at e2
  omega
theorem sub_end (ds : List Nat) (br a b n : Nat) (hk : ds.length = n) (hl : Low ds) (hba : b ≤ a) (h : val ds + b = a + 4294967296 ^ n * br) : val ds = a - b := by
  have h1 := val_lt hl
  rw [hk] at h1
  rcases Nat.eq_zero_or_pos br with e | e
  · subst e; simp at h; omega
  · have := Nat.mul_le_mul_left (4294967296 ^ n) e
    omega

set_option maxHeartbeats 400000 in
theorem sub_less {w : World} {u v : Value} {a b : Nat} (ha : Nv w u a) (hb : Nv w v b) (hlt : a < b) :
    Calls Try.prog 21 #[u, v] w fun e w' => e = .returned (.tuple #[.slice none 0 0, .int .i64 19]) ∧ Qt w w' := by
  go_enter Try.func21, Try.ntmps21
  go_wp2_with fail
  refine (trim_nv ha).mono ?_
  rintro e w' ⟨A, rfl, hA, rfl⟩
  go_wp2_with fail
  refine (trim_nv hb).mono ?_
  rintro e w' ⟨B, rfl, hB, rfl⟩
  go_wp2_with fail
  refine (cmp_nv hA.nv hB.nv).mono ?_
  rintro e w' ⟨rfl, hq⟩
  rw [cmpI_lt hlt]
  go_wp2_with fail
  go_ret2
  exact ⟨rfl, hq⟩

set_option maxHeartbeats 400000 in
theorem sub_nv {w : World} {u v : Value} {a b : Nat} (ha : Nv w u a) (hb : Nv w v b) (hge : b ≤ a) (hla : (dig a).length ≤ 1000000) :
    Calls Try.prog 21 #[u, v] w (Ret (fun x w' => ∃ d, x = .tuple #[d, .int .i64 0] ∧ Nz w' d (a - b)) w) := by
  go_enter Try.func21, Try.ntmps21
  go_wp2_with fail
  refine (trim_nv ha).mono ?_
  rintro e w' ⟨X, rfl, hX, rfl⟩
  go_wp2_with fail
  refine (trim_nv hb).mono ?_
  rintro e w' ⟨Y, rfl, hY, rfl⟩
  go_wp2_with fail
  refine (cmp_nv hX.nv hY.nv).mono ?_
  rintro e w1 ⟨rfl, hq⟩
  have hc : ¬ cmpI a b < 0 := by rw [cmpI_neg]; omega
  have he1 := hq.ext
  replace hX := hX.ext he1
  replace hY := hY.ext he1
  clear ha hb
  have HGE := Lib.hid hge; clear hge
  have hle := dig_len_mono HGE.out
  obtain ⟨X, n, c, eX, hn, -, hnb, hlx, hX⟩ := Dg.parts hX
  injection eX with e1 e2 e3
  subst e1; subst e3; clear e2
  obtain ⟨Y, m, c, eY, hm, -, hmb, hly, hY⟩ := Dg.parts hY
  injection eY with e1 e2 e3
  subst e1; subst e3; clear e2
  rw [← hn] at hle hla ⊢
  rw [← hm] at hle ⊢
  have HN := Lib.hid hn; have HM := Lib.hid hm; clear hn hm
  have HX := Lib.hid hX; have HY := Lib.hid hY; clear hX hY
  have HLX := Lib.hid hlx; have HLY := Lib.hid hly; clear hlx hly
  generalize cmpI a b = ci at *
  have hmk := fun W => make_row (P := Try.prog) 38 105 (.int .u32 0) 4 Try.underlying38 info_u32 rfl n (by omega) (by omega) W
  go_wp2_with fail
  go_loopw [7, 23] (fun t i wr => ∃ (k br : Nat) (ds : List Nat), k ≤ n ∧ i = .int .i64 k ∧ t = .int .u64 br ∧ br ≤ 1 ∧ ds.length = k ∧ Low ds ∧ Bk wr w1.heap.size 105 (ds.map U32 ++ List.replicate (n - k) (.int .u32 0)) ∧ val ds + val ((dig b).take k) = val ((dig a).take k) + 4294967296 ^ k * br ∧ Ext w1 wr)
    (fun _ i _ => n - (intOf i).toNat)
  case atStart =>
    refine ⟨0, 0, [], Nat.zero_le _, rfl, rfl, Nat.zero_le _, rfl, Low.nil, Bk.new w1 _ _, by simp [val], (Ext.refl w1).alloc _⟩
  case round =>
    obtain ⟨k, br, ds, hk, rfl, rfl, hbr, hdl, hlo, hbk, hval, hext⟩ := hrel
    have HV := Lib.hid hval; clear hval
    have HDL := Lib.hid hdl; clear hdl
    by_cases hlt : k < n
    · obtain ⟨ax, rfl, hcx⟩ := HX.out k hlt
      have hcx' := hext.cell hcx
      have hcell := hbk.cell (i := k) (by simp; have := HDL.out; omega)
      have hfree := hbk.free k
      have hdx := (HLX.out).getD k
      generalize hX1 : (dig a).getD k 0 = dx at *
      have HX1 := Lib.hid hX1; clear hX1
      have HBK := Lib.hid hbk; clear hbk
      by_cases hltm : k < m
      · obtain ⟨ay, rfl, hcy⟩ := HY.out k hltm
        have hcy' := hext.cell hcy
        have hdy := (HLY.out).getD k
        generalize hY1 : (dig b).getD k 0 = dy at *
        have HY1 := Lib.hid hY1; clear hY1
        go_wp2_with fail
        rw [bor_top dx dy br hdx hdy hbr, bor_low dx dy br hdx hdy hbr]
        go_roundw
        case rel =>
          refine ⟨k + 1, bor dx dy br, ds ++ [dx + 4294967296 * bor dx dy br - br - dy], by omega, by go_num, rfl, bor_le _ _ _, by simp [HDL.out], hlo.append (Low.cons (bor_lt dx dy br hdx hdy hbr) Low.nil), HBK.out.snoc HDL.out (by omega) rfl, ?_, hext.setCell (Nat.le_refl _) _⟩
          rw [take_val_succ (dig b) k dy (by have := HM.out; omega) HY1.out, take_val_succ (dig a) k dx (by have := HN.out; omega) HX1.out, sub_step ds br dx dy _ _ k HDL.out hdx hdy hbr HV.out]
        case measure => simp [intOf]; omega
      · go_wp2_with fail
        rw [bor0_top dx br hdx hbr, bor0_low dx br hdx hbr]
        go_roundw
        case rel =>
          refine ⟨k + 1, bor dx 0 br, ds ++ [dx + 4294967296 * bor dx 0 br - br - 0], by omega, by go_num, rfl, bor_le _ _ _, by simp [HDL.out], hlo.append (Low.cons (bor_lt dx 0 br hdx (by omega) hbr) Low.nil), HBK.out.snoc HDL.out (by omega) rfl, ?_, hext.setCell (Nat.le_refl _) _⟩
          rw [take_val_past (dig b) k (by have := HM.out; omega), take_val_succ (dig a) k dx (by have := HN.out; omega) HX1.out, sub_step ds br dx 0 _ _ k HDL.out hdx (by omega) hbr HV.out]
        case measure => simp [intOf]; omega
    · have : k = n := by omega
      subst this
      have hb2 : Bk wr w1.heap.size 105 (ds.map U32) := by simpa using hbk
      have hd2 := hb2.dg (n := k) (c := k) hlo (by have := HDL.out; omega) HDL.out.symm (Nat.le_refl _)
      have hv2 : val ds = a - b := by
        refine sub_end ds br a b k HDL.out hlo HGE.out ?_
        have := HV.out
        rwa [List.take_of_length_le (by have := HM.out; omega), List.take_of_length_le (by have := HN.out; omega), val_dig, val_dig] at this
      have HD2 := Lib.hid hd2; have HV2 := Lib.hid hv2; clear hd2 hv2 hb2 hbk
      go_wp2_with fail
      refine (trim_dg HD2.out).mono ?_
      rintro e w' ⟨A, rfl, hA, rfl⟩
      rw [HV2.out] at hA
      rw [HV2.out]
      go_wp2_with fail
      go_ret2
      exact Ret.mk (he1.trans hext) ⟨_, rfl, hA⟩
end Go.Proofs.Ytjpkaljndfgkjaa
