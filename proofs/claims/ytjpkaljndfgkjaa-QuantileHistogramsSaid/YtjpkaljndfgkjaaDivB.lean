/- Contracts: nat.subProduct, nat.addBack. -/
import Derived.Test.YtjpkaljndfgkjaaDivA
import Derived.Test.YtjpkaljndfgkjaaDivM
namespace Go.Proofs.Ytjpkaljndfgkjaa
open Go.RowKit

/-- A row of words within a block, from place j on. -/
abbrev seg (pre : List Value) (l : List Nat) (post : List Value) : List Value := pre ++ l.map U32 ++ post

theorem seg_get (pre post : List Value) (out rest : List Nat) (j i : Nat) (hj : pre.length = j) (ho : out.length = i) (hr : 0 < rest.length) : (seg pre (out ++ rest) post).getD (j + i) undef = .int .u32 ((rest.getD 0 0 : Nat) : Int) := by
  subst hj; subst ho
  cases rest with
  | nil => simp at hr
  | cons x r => simp [seg, List.getD]
theorem seg_set (pre post : List Value) (out rest : List Nat) (j i d : Nat) (hj : pre.length = j) (ho : out.length = i) (hr : 0 < rest.length) : (seg pre (out ++ rest) post).set (j + i) (U32 d) = seg pre ((out ++ [d]) ++ rest.drop 1) post := by
  subst hj; subst ho
  cases rest with
  | nil => simp at hr
  | cons x r => simp [seg, List.set_append_right]
theorem seg_length (pre post : List Value) (l : List Nat) : (seg pre l post).length = pre.length + l.length + post.length := by simp [seg, Nat.add_assoc]

theorem and_mask (c : Nat) (h : c < 18446744073709551616) : bits BinOp.and IntKind.u64 (c : Int) 4294967295 = ((c % 4294967296 : Nat) : Int) := by
  show IntKind.u64.wrap ((BitVec.ofInt 64 (c : Int) &&& BitVec.ofInt 64 4294967295).toNat : Int) = _
  have e : (4294967295 : Int) = ((4294967295 : Nat) : Int) := rfl
  rw [e, BitVec.toNat_and, BitVec.ofInt_natCast, BitVec.ofInt_natCast, BitVec.toNat_ofNat, BitVec.toNat_ofNat, Nat.mod_eq_of_lt (by omega), Nat.mod_eq_of_lt (by omega)]
  have e2 : c &&& 4294967295 = c % 4294967296 := by
    have := Nat.and_two_pow_sub_one_eq_mod c 32
    simpa using this
  rw [e2, IntKind.wrap_u64]
  omega

theorem sub_wrap (u c b : Nat) (hu : u < 4294967296) (hb : b ≤ 1) :
    IntKind.u64.wrap (IntKind.u64.wrap ((u : Int) - ((c % 4294967296 : Nat) : Int)) - b) / 9223372036854775808 = (sbor u c b : Nat) ∧
    IntKind.u64.wrap (IntKind.u64.wrap ((u : Int) - ((c % 4294967296 : Nat) : Int)) - b) % 4294967296 = (sdig u c b : Nat) := by
  have hc : c % 4294967296 < 4294967296 := Nat.mod_lt _ (by omega)
  unfold sbor sdig
  generalize c % 4294967296 = m at *
  rw [IntKind.wrap_u64, IntKind.wrap_u64]
  constructor
  · split <;> omega
  · omega

/-- What subProduct leaves. -/
def SubPost (g n f : Nat) (pu pv : List Nat) (pre post : List Value) (w : World) (e : Ending) (w' : World) : Prop :=
  ∃ out, e = .returned (.bool (decide (val pu < f * val pv))) ∧ out.length = n + 1 ∧ Low out ∧ val out + f * val pv = val pu + (if val pu < f * val pv then 4294967296 ^ (n + 1) else 0) ∧ Bk w' g 105 (seg pre out post) ∧ Mod g w w'

set_option maxRecDepth 20000 in
set_option maxHeartbeats 1000000 in
theorem subProduct_any {w : World} {g gv n j c d f : Nat} {pu pv : List Nat} {pre post : List Value} (hb : Bk w g 105 (seg pre pu post)) (hj : pre.length = j) (hlu : Low pu) (hlv : Low pv) (hnu : pu.length = n + 1) (hnv : pv.length = n) (hn : n ≤ 1000000) (_hjb : j ≤ 1000000) (hf : f < 4294967296) (hne : gv ≠ g)
    (hv : ∀ i, i < n → w.cell? ⟨gv, i, none⟩ = some (.int .u32 ((pv.getD i 0 : Nat) : Int))) :
    Calls Try.prog 84 #[.slice (some ⟨g, j, none⟩) (n + 1) c, .slice (some ⟨gv, 0, none⟩) n d, .int .u64 (f : Int)] w (SubPost g n f pu pv pre post w) := by
  have HB := Lib.hid hb; have HJ := Lib.hid hj; have HLU := Lib.hid hlu; have HLV := Lib.hid hlv; have HNU := Lib.hid hnu; have HNV := Lib.hid hnv; have HV := Lib.hid hv
  clear hb hj hlu hlv hnu hnv hv
  go_enter Try.func84, Try.ntmps84
  go_wp2_with fail
  go_loopw [7, 8, 14] (fun t b i wr => ∃ (k cy bo : Nat) (out : List Nat), k ≤ n ∧ i = .int .i64 k ∧ t = .int .u64 cy ∧ b = .int .u64 bo ∧ cy < 4294967296 ∧ bo ≤ 1 ∧ out.length = k ∧ Low out ∧ val out + f * val (pv.take k) = val (pu.take k) + 4294967296 ^ k * (cy + bo) ∧ Bk wr g 105 (seg pre (out ++ pu.drop k) post) ∧ Mod g w wr)
    (fun _ _ i _ => n - (intOf i).toNat)
  case atStart => exact ⟨0, 0, 0, [], Nat.zero_le _, rfl, rfl, rfl, by omega, by omega, rfl, Low.nil, by simp [val], HB.out, Mod.refl _ _⟩
  case round =>
    obtain ⟨k, cy, bo, out, hk, rfl, rfl, rfl, hcy, hbo, hol, hlo, hval, hbk, hm⟩ := hrel
    have HOL := Lib.hid hol; have HVAL := Lib.hid hval; clear hol hval
    by_cases hlt : k < n
    · have hcv := hm.cell (HV.out k hlt) hne
      have hdv := HLV.out.getD k
      generalize hV1 : pv.getD k 0 = v at *
      have HV1 := Lib.hid hV1; clear hV1
      have hpl : k < pu.length := by have := HNU.out; omega
      have hcu := hbk.cellD (i := j + k) (by rw [seg_length]; simp [HOL.out]; have := HJ.out; omega)
      rw [seg_get pre post out (pu.drop k) j k HJ.out HOL.out (by simp; omega)] at hcu
      have hgu : (pu.drop k).getD 0 0 = pu.getD k 0 := by simp [List.getD]
      rw [hgu] at hcu
      have hfree := hbk.free (j + k)
      have hdu := HLU.out.getD k
      generalize hU1 : pu.getD k 0 = u at *
      have HU1 := Lib.hid hU1; have HBK := Lib.hid hbk; clear hU1 hbk hgu
      have hroom := mul_room f v cy 0 hf hdv hcy (by omega)
      obtain ⟨s1, s2, s3⟩ := mul_wraps f v cy 0 hroom
      simp only [Int.natCast_zero, Int.add_zero, Nat.add_zero] at s1 s2 s3 hroom
      have hmask := and_mask (cy + f * v) hroom
      simp only [Int.natCast_add, Int.natCast_mul] at hmask
      obtain ⟨w1, w2⟩ := sub_wrap u (cy + f * v) bo hdu hbo
      simp only [Int.natCast_emod, Int.natCast_add, Int.natCast_mul, Int.cast_ofNat_Int] at w1 w2
      have W1 := Lib.hid w1; have W2 := Lib.hid w2; clear w1 w2
      go_wp2_with fail
      rw [W1.out, W2.out]
      go_roundw
      case rel =>
        refine ⟨k + 1, (cy + f * v) / 4294967296, sbor u (cy + f * v) bo, out ++ [sdig u (cy + f * v) bo], by omega, by go_num, by go_num, rfl, by omega, sbor_le _ _ _, by simp [HOL.out], hlo.append (Low.cons (sdig_lt _ _ _) Low.nil), ?_, ?_, hm.setCell (p := ⟨g, j + k, none⟩) (.inl rfl) _⟩
        · rw [take_val_succ pv k v (by have := HNV.out; omega) HV1.out, take_val_succ pu k u hpl HU1.out, Nat.pow_succ]
          exact sub_prod_step out k _ _ f u v cy _ bo _ rfl HOL.out hdu hbo rfl HVAL.out
        · have h := HBK.out.set (j + k) (U32 (sdig u (cy + f * v) bo))
          rw [seg_set pre post out (pu.drop k) j k _ HJ.out HOL.out (by simp; omega), List.drop_drop] at h
          exact h
      case measure => simp [intOf]; omega
    · obtain rfl : k = n := by omega
      have hpl : k < pu.length := by have := HNU.out; omega
      have hcu := hbk.cellD (i := j + k) (by rw [seg_length]; simp [HOL.out]; have := HJ.out; omega)
      rw [seg_get pre post out (pu.drop k) j k HJ.out HOL.out (by simp; omega)] at hcu
      have hgu : (pu.drop k).getD 0 0 = pu.getD k 0 := by simp [List.getD]
      rw [hgu] at hcu
      have hfree := hbk.free (j + k)
      have hdu := HLU.out.getD k
      generalize hU1 : pu.getD k 0 = u at *
      have HU1 := Lib.hid hU1; have HBK := Lib.hid hbk; clear hU1 hbk hgu
      obtain ⟨w1, w2⟩ := sub_wrap u cy bo hdu hbo
      rw [Nat.mod_eq_of_lt hcy] at w1 w2
      have hstep := sub_prod_step out k _ _ f u 0 cy cy bo _ rfl HOL.out hdu hbo (by simp) HVAL.out
      rw [List.take_of_length_le (show pv.length ≤ k by have := HNV.out; omega), Nat.div_eq_of_lt hcy, Nat.mul_zero, Nat.add_zero, Nat.zero_add, ← take_val_succ pu k u hpl HU1.out, List.take_of_length_le (show pu.length ≤ k + 1 by have := HNU.out; omega), ← Nat.pow_succ] at hstep
      have hlow2 : Low (out ++ [sdig u cy bo]) := hlo.append (Low.cons (sdig_lt _ _ _) Low.nil)
      have hlt2 := val_lt hlow2
      have hlen2 : (out ++ [sdig u cy bo]).length = k + 1 := by simp [HOL.out]
      rw [hlen2] at hlt2
      have hblk : Bk (wr.setCell ⟨g, j + k, none⟩ (.int .u32 (sdig u cy bo : Nat))) g 105 (seg pre (out ++ [sdig u cy bo]) post) := by
        have h := HBK.out.set (j + k) (U32 (sdig u cy bo))
        rw [seg_set pre post out (pu.drop k) j k _ HJ.out HOL.out (by simp; omega), List.drop_drop, List.drop_of_length_le (show pu.length ≤ k + 1 by have := HNU.out; omega), List.append_nil] at h
        exact h
      have W1 := Lib.hid w1; have W2 := Lib.hid w2; have HST := Lib.hid hstep; have HLT := Lib.hid hlt2; have HBL := Lib.hid hblk; clear w1 w2 hstep hlt2 hblk
      have hsb := sbor_le u cy bo
      rcases Nat.lt_or_ge 0 (sbor u cy bo) with hs | hs
      · have hs1 : sbor u cy bo = 1 := by omega
        have hneg : val pu < f * val pv := by have h1 := HST.out; have h2 := HLT.out; rw [hs1] at h1; omega
        have W3 : IntKind.u64.wrap (IntKind.u64.wrap ((u : Int) - cy) - bo) / 9223372036854775808 = 1 := by rw [W1.out, hs1]; rfl
        have HS := Lib.hid hs1; clear hs1 hs hsb
        go_wp2_with fail
        go_ret
        have hh := HST.out
        rw [HS.out, Nat.mul_one] at hh
        refine ⟨out ++ [sdig u cy bo], ?_, hlen2, hlow2, by rw [if_pos hneg]; exact hh, by rw [W2.out]; exact HBL.out, hm.setCell (p := ⟨g, j + k, none⟩) (.inl rfl) _⟩
        exact congrArg (fun b => Ending.returned (.bool b)) (decide_eq_true hneg).symm
      · have hs0 : sbor u cy bo = 0 := by omega
        have hneg : ¬ val pu < f * val pv := by have h1 := HST.out; rw [hs0] at h1; omega
        have W3 : IntKind.u64.wrap (IntKind.u64.wrap ((u : Int) - cy) - bo) / 9223372036854775808 = 0 := by rw [W1.out, hs0]; rfl
        have HS := Lib.hid hs0; clear hs0 hs hsb
        have HNG := Lib.hid hneg; clear hneg
        go_wp2_with fail
        go_ret
        have hh := HST.out
        rw [HS.out, Nat.mul_zero] at hh
        refine ⟨out ++ [sdig u cy bo], ?_, hlen2, hlow2, by rw [if_neg HNG.out]; exact hh, by rw [W2.out]; exact HBL.out, hm.setCell (p := ⟨g, j + k, none⟩) (.inl rfl) _⟩
        exact congrArg (fun b => Ending.returned (.bool b)) (decide_eq_false HNG.out).symm
end Go.Proofs.Ytjpkaljndfgkjaa
