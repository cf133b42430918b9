/- Contracts: nat.addBack, nat.shiftLeft, nat.shiftRight. -/
import Derived.Test.YtjpkaljndfgkjaaDivB
namespace Go.Proofs.Ytjpkaljndfgkjaa
open Go.RowKit

/-- What addBack leaves. -/
def AddPost (g n : Nat) (pu pv : List Nat) (pre post : List Value) (w : World) (e : Ending) (w' : World) : Prop :=
  ∃ out, e = .returned (.tuple #[]) ∧ out.length = n + 1 ∧ Low out ∧ val out = (val pu + val pv) % 4294967296 ^ (n + 1) ∧ Bk w' g 105 (seg pre out post) ∧ Mod g w w'

theorem add_last (out : List Nat) (n U V u cy P : Nat) (hP : P = 4294967296 ^ n) (hl : Low out) (ho : out.length = n) (h : val out + P * cy = U + V) :
    val (out ++ [(u + cy) % 4294967296]) = (U + P * u + V) % 4294967296 ^ (n + 1) := by
  have h1 := val_lt hl
  rw [ho, ← hP] at h1
  rw [val_snoc, ho, ← hP]
  have e : U + P * u + V = val out + P * (u + cy) := by rw [Nat.mul_add]; omega
  have m := congrArg (fun z => P * z) (Nat.mod_add_div (u + cy) 4294967296)
  simp only [Nat.mul_add] at m
  have hm : (u + cy) % 4294967296 < 4294967296 := Nat.mod_lt _ (by omega)
  have e2 : U + P * u + V = (val out + P * ((u + cy) % 4294967296)) + 4294967296 ^ (n + 1) * ((u + cy) / 4294967296) := by
    rw [e, Nat.pow_succ, ← hP, Nat.mul_assoc, Nat.mul_add]; omega
  rw [e2, Nat.add_mul_mod_self_left]
  refine (Nat.mod_eq_of_lt ?_).symm
  rw [Nat.pow_succ, ← hP]
  have := Nat.mul_le_mul_left P (Nat.succ_le_of_lt hm)
  rw [Nat.mul_succ] at this
  omega

set_option maxRecDepth 20000 in
set_option maxHeartbeats 1000000 in
theorem addBack_any {w : World} {g gv n j c d : Nat} {pu pv : List Nat} {pre post : List Value} (hb : Bk w g 105 (seg pre pu post)) (hj : pre.length = j) (hlu : Low pu) (hlv : Low pv) (hnu : pu.length = n + 1) (hnv : pv.length = n) (hn : n ≤ 1000000) (_hjb : j ≤ 1000000) (hne : gv ≠ g)
    (hv : ∀ i, i < n → w.cell? ⟨gv, i, none⟩ = some (.int .u32 ((pv.getD i 0 : Nat) : Int))) :
    Calls Try.prog 85 #[.slice (some ⟨g, j, none⟩) (n + 1) c, .slice (some ⟨gv, 0, none⟩) n d] w (AddPost g n pu pv pre post w) := by
  have HB := Lib.hid hb; have HJ := Lib.hid hj; have HLU := Lib.hid hlu; have HLV := Lib.hid hlv; have HNU := Lib.hid hnu; have HNV := Lib.hid hnv; have HV := Lib.hid hv
  clear hb hj hlu hlv hnu hnv hv
  go_enter Try.func85, Try.ntmps85
  go_wp2_with fail
  go_loopw [4, 8] (fun t i wr => ∃ (k cy : Nat) (out : List Nat), k ≤ n ∧ i = .int .i64 k ∧ t = .int .u64 cy ∧ cy ≤ 1 ∧ out.length = k ∧ Low out ∧ val out + 4294967296 ^ k * cy = val (pu.take k) + val (pv.take k) ∧ Bk wr g 105 (seg pre (out ++ pu.drop k) post) ∧ Mod g w wr)
    (fun _ i _ => n - (intOf i).toNat)
  case atStart => exact ⟨0, 0, [], Nat.zero_le _, rfl, rfl, by omega, rfl, Low.nil, by simp [val], HB.out, Mod.refl _ _⟩
  case round =>
    obtain ⟨k, cy, out, hk, rfl, rfl, hcy, hol, hlo, hval, hbk, hm⟩ := hrel
    have HOL := Lib.hid hol; have HVAL := Lib.hid hval; clear hol hval
    have hpl : k < pu.length := by have := HNU.out; omega
    have hcu := hbk.cellD (i := j + k) (by rw [seg_length]; simp [HOL.out]; have := HJ.out; omega)
    rw [seg_get pre post out (pu.drop k) j k HJ.out HOL.out (by simp; omega)] at hcu
    have hgu : (pu.drop k).getD 0 0 = pu.getD k 0 := by simp [List.getD]
    rw [hgu] at hcu
    have hfree := hbk.free (j + k)
    have hdu := HLU.out.getD k
    generalize hU1 : pu.getD k 0 = u at *
    have HU1 := Lib.hid hU1; have HBK := Lib.hid hbk; clear hU1 hbk hgu
    by_cases hlt : k < n
    · have hcv := hm.cell (HV.out k hlt) hne
      have hdv := HLV.out.getD k
      generalize hV1 : pv.getD k 0 = v at *
      have HV1 := Lib.hid hV1; clear hV1
      have s1 : IntKind.u64.wrap ((u : Int) + v) = (u : Int) + v := by rw [IntKind.wrap_u64]; omega
      have s2 : IntKind.u64.wrap ((cy : Int) + ((u : Int) + v)) = (cy : Int) + ((u : Int) + v) := by rw [IntKind.wrap_u64]; omega
      have s3 : (0 : Int) ≤ (k : Int) := by omega
      have s4 : (k : Int) < (n : Int) := by omega
      have s5 : (k : Int) < (n : Int) + 1 := by omega
      go_wp2_with fail
      go_quiet (fail)
      clear s1 s2
      go_wp2_with fail
      go_roundw
      case rel =>
        refine ⟨k + 1, (cy + (u + v)) / 4294967296, out ++ [(cy + (u + v)) % 4294967296], by omega, by go_num, by go_num, by omega, by simp [HOL.out], hlo.append (Low.cons (Nat.mod_lt _ (by omega)) Low.nil), ?_, ?_, Mod.setCell (p := ⟨g, j + k, none⟩) (hm.drewN _) (.inl rfl) _⟩
        · rw [take_val_succ pv k v (by have := HNV.out; omega) HV1.out, take_val_succ pu k u hpl HU1.out, Nat.pow_succ]
          exact add_back_step out k _ _ u v cy _ _ rfl HOL.out rfl HVAL.out
        · have h := (HBK.out.drewN nq).set (j + k) (U32 ((cy + (u + v)) % 4294967296))
          rw [seg_set pre post out (pu.drop k) j k _ HJ.out HOL.out (by simp; omega), List.drop_drop] at h
          simpa [U32] using h
      case measure => simp [intOf]; omega
    · obtain rfl : k = n := by omega
      have hfin := add_last out k _ _ u cy _ rfl hlo HOL.out HVAL.out
      rw [List.take_of_length_le (show pv.length ≤ k by have := HNV.out; omega), ← take_val_succ pu k u hpl HU1.out, List.take_of_length_le (show pu.length ≤ k + 1 by have := HNU.out; omega)] at hfin
      have hblk : Bk (wr.setCell ⟨g, j + k, none⟩ (.int .u32 ((u + cy) % 4294967296 : Nat))) g 105 (seg pre (out ++ [(u + cy) % 4294967296]) post) := by
        have h := HBK.out.set (j + k) (U32 ((u + cy) % 4294967296))
        rw [seg_set pre post out (pu.drop k) j k _ HJ.out HOL.out (by simp; omega), List.drop_drop, List.drop_of_length_le (show pu.length ≤ k + 1 by have := HNU.out; omega), List.append_nil] at h
        exact h
      have HF := Lib.hid hfin; have HBL := Lib.hid hblk; clear hfin hblk
      go_wp2_with fail
      go_end0
      exact ⟨out ++ [(u + cy) % 4294967296], rfl, by simp [HOL.out], hlo.append (Low.cons (Nat.mod_lt _ (by omega)) Low.nil), HF.out, by have h := HBL.out; simpa using h, hm.setCell (p := ⟨g, j + k, none⟩) (.inl rfl) _⟩

theorem or_shift (cy a s : Nat) (hs : s < 32) (hc : cy < 2 ^ s) (ha : a < 4294967296) :
    a * 2 ^ s + cy < 18446744073709551616 ∧ (a * 2 ^ s + cy) / 4294967296 < 2 ^ s ∧ bits BinOp.or IntKind.u64 (cy : Int) ((a : Int) * 2 ^ s) = ((a * 2 ^ s + cy : Nat) : Int) := by
  have hp : 2 ^ s ≤ 2 ^ 31 := Nat.pow_le_pow_right (by omega) (by omega)
  have h1 : a * 2 ^ s ≤ 4294967295 * 2 ^ s := Nat.mul_le_mul_right _ (by omega)
  have h2 : a * 2 ^ s + cy < 4294967296 * 2 ^ s := by
    have : 4294967296 * 2 ^ s = 4294967295 * 2 ^ s + 2 ^ s := by omega
    omega
  have h3 : 4294967296 * 2 ^ s ≤ 4294967296 * 2 ^ 31 := Nat.mul_le_mul_left _ hp
  have hlt : a * 2 ^ s + cy < 18446744073709551616 := by omega
  refine ⟨hlt, Nat.div_lt_of_lt_mul h2, ?_⟩
  have e2 : cy ||| a * 2 ^ s = a * 2 ^ s + cy := by
    rw [Nat.or_comm, Nat.mul_comm a, ← Nat.two_pow_add_eq_or_of_lt hc]
  have e1 : (a : Int) * 2 ^ s = ((a * 2 ^ s : Nat) : Int) := by simp
  show IntKind.u64.wrap ((BitVec.ofInt 64 (cy : Int) ||| BitVec.ofInt 64 ((a : Int) * 2 ^ s)).toNat : Int) = _
  rw [e1, BitVec.toNat_or, BitVec.ofInt_natCast, BitVec.ofInt_natCast, BitVec.toNat_ofNat, BitVec.toNat_ofNat, Nat.mod_eq_of_lt (by omega), Nat.mod_eq_of_lt (by omega), e2, IntKind.wrap_u64]
  omega

theorem shl_step (out : List Nat) (k A cy a s P : Nat) (hP : P = 4294967296 ^ k) (ho : out.length = k) (h : val out + P * cy = A * 2 ^ s) :
    val (out ++ [(a * 2 ^ s + cy) % 4294967296]) + P * 4294967296 * ((a * 2 ^ s + cy) / 4294967296) = (A + P * a) * 2 ^ s := by
  have m := congrArg (fun z => P * z) (Nat.mod_add_div (a * 2 ^ s + cy) 4294967296)
  simp only [Nat.mul_add] at m
  rw [val_snoc, ho, ← hP, Nat.mul_assoc, Nat.add_mul, Nat.mul_assoc P a]
  omega

/-- What shiftLeft leaves: a new row. -/
def ShlPost (ds : List Nat) (s : Nat) (w : World) (e : Ending) (w' : World) : Prop :=
  ∃ out, e = .returned (.slice (some ⟨w.heap.size, 0, none⟩) (ds.length + 1) (ds.length + 1)) ∧ out.length = ds.length + 1 ∧ Low out ∧ val out = val ds * 2 ^ s ∧ Bk w' w.heap.size 105 (out.map U32) ∧ Ext w w'

set_option maxRecDepth 20000 in
set_option maxHeartbeats 1000000 in
theorem shiftLeft_any {w : World} {v : Value} {s : Nat} {ds : List Nat} (h : Dg w v ds) (hlen : ds.length ≤ 1000000) (hs : s < 32) :
    Calls Try.prog 82 #[v, .int .u64 (s : Int)] w (ShlPost ds s w) := by
  obtain ⟨X, n, c, rfl, hn, -, -, hlx, hX⟩ := Dg.parts h
  rw [← hn] at hlen
  have HN := Lib.hid hn; have HLX := Lib.hid hlx; have HX := Lib.hid hX; clear hn hlx hX h
  have hmk := fun W => make_row (P := Try.prog) 38 105 (.int .u32 0) 4 Try.underlying38 info_u32 rfl (n + 1) (by omega) (by omega) W
  rw [show ((n + 1 : Nat) : Int) = (n : Int) + 1 from rfl] at hmk
  go_enter Try.func82, Try.ntmps82
  go_wp2_with fail
  go_loopw [6, 14] (fun t i wr => ∃ (k cy : Nat) (out : List Nat), k ≤ n ∧ i = .int .i64 k ∧ t = .int .u64 cy ∧ cy < 2 ^ s ∧ out.length = k ∧ Low out ∧ Bk wr w.heap.size 105 (out.map U32 ++ List.replicate (n + 1 - k) (.int .u32 0)) ∧ val out + 4294967296 ^ k * cy = val (ds.take k) * 2 ^ s ∧ Ext w wr)
    (fun _ i _ => n - (intOf i).toNat)
  case atStart => exact ⟨0, 0, [], Nat.zero_le _, rfl, rfl, Nat.pow_pos (by omega), rfl, Low.nil, Bk.new w _ _, by simp [val], (Ext.refl w).alloc _⟩
  case round =>
    obtain ⟨k, cy, out, hk, rfl, rfl, hcy, hol, hlo, hbk, hval, hext⟩ := hrel
    have HV := Lib.hid hval; have HOL := Lib.hid hol; clear hval hol
    have hcell := hbk.cell (i := k) (by simp; have := HOL.out; omega)
    have hfree := hbk.free k
    have HBK := Lib.hid hbk; clear hbk
    by_cases hlt : k < n
    · obtain ⟨ax, rfl, hcx⟩ := HX.out k hlt
      have hcx' := hext.cell hcx
      have hdx := (HLX.out).getD k
      generalize hX1 : ds.getD k 0 = a at *
      have HX1 := Lib.hid hX1; clear hX1
      obtain ⟨o1, o2, o3⟩ := or_shift cy a s hs hcy hdx
      have o4 : IntKind.u64.wrap ((a : Int) * 2 ^ s) = (a : Int) * 2 ^ s := by have h := u64_id (n := a * 2 ^ s) (by omega); simpa using h
      have e1 : (((a * 2 ^ s + cy : Nat) : Int)) / 4294967296 = (((a * 2 ^ s + cy) / 4294967296 : Nat) : Int) := by omega
      have e2 : (((a * 2 ^ s + cy : Nat) : Int)) % 4294967296 = (((a * 2 ^ s + cy) % 4294967296 : Nat) : Int) := by omega
      have O3 := Lib.hid o3; have O4 := Lib.hid o4; have E1 := Lib.hid e1; have E2 := Lib.hid e2; clear o3 o4 e1 e2
      go_wp2_with fail
      rw [O4.out, O3.out, E1.out, E2.out]
      go_roundw
      case rel =>
        refine ⟨k + 1, (a * 2 ^ s + cy) / 4294967296, out ++ [(a * 2 ^ s + cy) % 4294967296], by omega, by go_num, rfl, o2, by simp [HOL.out], hlo.append (Low.cons (Nat.mod_lt _ (by omega)) Low.nil), HBK.out.snoc HOL.out (by omega) rfl, ?_, hext.setCell (Nat.le_refl _) _⟩
        rw [take_val_succ ds k a (by have := HN.out; omega) HX1.out, Nat.pow_succ]
        exact shl_step out k _ cy a s _ rfl HOL.out HV.out
      case measure => simp [intOf]; omega
    · obtain rfl : k = n := by omega
      have hp : 2 ^ s ≤ 2 ^ 31 := Nat.pow_le_pow_right (by omega) (by omega)
      have hcy2 : cy < 4294967296 := by omega
      clear hcy hp
      have hb2 : Bk (wr.setCell ⟨w.heap.size, k, none⟩ (.int .u32 (cy : Int))) w.heap.size 105 ((out ++ [cy]).map U32) := by
        have := HBK.out.snoc (s := cy) HOL.out (by omega) rfl
        simpa using this
      have HB2 := Lib.hid hb2; clear hb2
      go_wp2_with fail
      go_ret
      refine ⟨out ++ [cy], by rw [← HN.out]; rfl, by simp [HOL.out]; exact HN.out, hlo.append (Low.cons hcy2 Low.nil), ?_, HB2.out, hext.setCell (Nat.le_refl _) _⟩
      rw [val_snoc, HOL.out, HV.out, List.take_of_length_le (by have := HN.out; omega)]

theorem shr_digit (h a s R : Nat) (hs : s < 32) (ha : a < 4294967296) (hR : h % 2 ^ s = R) : (h % 4294967296 * 4294967296 + a) / 2 ^ s % 4294967296 = (R * 4294967296 + a) / 2 ^ s ∧ (R * 4294967296 + a) / 2 ^ s < 4294967296 := by
  have hpos : 0 < 2 ^ s := Nat.pow_pos (by omega)
  have hdvd : (4294967296 : Nat) = 2 ^ s * 2 ^ (32 - s) := by rw [← Nat.pow_add, show s + (32 - s) = 32 by omega]
  have hm : h % 4294967296 % 2 ^ s = R := by rw [← hR]; exact Nat.mod_mod_of_dvd _ ⟨_, hdvd⟩
  have hRl : R < 2 ^ s := by rw [← hR]; exact Nat.mod_lt _ hpos
  have hlt : (R * 4294967296 + a) / 2 ^ s < 4294967296 := by
    refine Nat.div_lt_of_lt_mul ?_
    have : (R + 1) * 4294967296 ≤ 2 ^ s * 4294967296 := Nat.mul_le_mul_right _ hRl
    omega
  refine ⟨?_, hlt⟩
  generalize hh : h % 4294967296 = g at *
  have e : g = 2 ^ s * (g / 2 ^ s) + R := by have := Nat.div_add_mod g (2 ^ s); omega
  have e2 : g * 4294967296 + a = (R * 4294967296 + a) + 2 ^ s * (g / 2 ^ s * 4294967296) := by
    conv => lhs; rw [e]
    rw [Nat.add_mul, Nat.mul_assoc]; omega
  rw [e2, Nat.add_mul_div_left _ _ hpos, Nat.add_mul_mod_self_right, Nat.mod_eq_of_lt hlt]

theorem shr_step (X a s R Q : Nat) (hX : X / 2 ^ s = Q) (hR : X % 2 ^ s = R) : (a + 4294967296 * X) / 2 ^ s = (R * 4294967296 + a) / 2 ^ s + 4294967296 * Q := by
  have hpos : 0 < 2 ^ s := Nat.pow_pos (by omega)
  have e := Nat.div_add_mod X (2 ^ s)
  rw [hX, hR] at e
  have e2 : a + 4294967296 * X = (R * 4294967296 + a) + 2 ^ s * (4294967296 * Q) := by
    rw [← e, Nat.mul_add, Nat.mul_left_comm]; omega
  rw [e2, Nat.add_mul_div_left _ _ hpos]

theorem shr_mod (X a s : Nat) (hs : s < 32) : (a + 4294967296 * X) % 2 ^ s = a % 2 ^ s := by
  have hdvd : (4294967296 : Nat) = 2 ^ s * 2 ^ (32 - s) := by rw [← Nat.pow_add, show s + (32 - s) = 32 by omega]
  rw [hdvd, Nat.mul_assoc, Nat.add_mul_mod_self_left]

/-- What shiftRight leaves: a new row. -/
def ShrPost (ds : List Nat) (s : Nat) (w : World) (e : Ending) (w' : World) : Prop :=
  ∃ v out, e = .returned v ∧ Dg w' v out ∧ val out = val ds / 2 ^ s ∧ Ext w w'

theorem or_low64 (h a : Nat) (ha : a < 4294967296) : bits BinOp.or IntKind.u64 (((h % 4294967296 : Nat) : Int) * 4294967296) (a : Int) = ((h % 4294967296 * 4294967296 + a : Nat) : Int) := or_low _ a (Nat.mod_lt _ (by omega)) ha

set_option maxRecDepth 20000 in
set_option maxHeartbeats 1000000 in
theorem shiftRight_any {w : World} {v : Value} {s : Nat} {ds : List Nat} (h : Dg w v ds) (hlen : ds.length ≤ 1000000) (hs : s < 32) :
    Calls Try.prog 86 #[v, .int .u64 (s : Int)] w (ShrPost ds s w) := by
  obtain ⟨X, n, c, rfl, hn, -, -, hlx, hX⟩ := Dg.parts h
  rw [← hn] at hlen
  have HN := Lib.hid hn; have HLX := Lib.hid hlx; have HX := Lib.hid hX; clear hn hlx hX h
  have hmk := fun W => make_row (P := Try.prog) 38 105 (.int .u32 0) 4 Try.underlying38 info_u32 rfl n (by omega) (by omega) W
  go_enter Try.func86, Try.ntmps86
  go_wp2_with fail
  go_loopw [6, 7] (fun t i wr => ∃ (k hi : Nat) (out : List Nat), k ≤ n ∧ i = .int .i64 ((k : Int) - 1) ∧ t = .int .u64 hi ∧ hi < 18446744073709551616 ∧ hi % 2 ^ s = val (ds.drop k) % 2 ^ s ∧ out.length = n - k ∧ Low out ∧ val out = val (ds.drop k) / 2 ^ s ∧ Bk wr w.heap.size 105 ((List.replicate n 0 |>.take k |> (· ++ out)).map U32 ++ []) ∧ Ext w wr)
    (fun _ i _ => (intOf i + 1).toNat)
  case atStart =>
    refine ⟨n, 0, [], Nat.le_refl _, rfl, rfl, by omega, ?_, by simp, Low.nil, ?_, ?_, (Ext.refl w).alloc _⟩
    · rw [List.drop_of_length_le (by have := HN.out; omega)]; simp [val]
    · rw [List.drop_of_length_le (by have := HN.out; omega)]; simp [val]
    · have := Bk.new w 105 (List.replicate n (.int .u32 0))
      simpa [U32] using this
  case round =>
    obtain ⟨k, hi, out, hk, rfl, rfl, hhi, hmod, hol, hlo, hval, hbk, hext⟩ := hrel
    have HV := Lib.hid hval; have HOL := Lib.hid hol; have HM := Lib.hid hmod; clear hval hol hmod
    simp only at hbk
    by_cases h0 : 0 < k
    · have hlen2 : (((List.replicate n 0).take k ++ out).map U32 ++ []).length = n := by simp [HOL.out]; omega
      have hcell := hbk.cell (i := k - 1) (by omega)
      have hfree := hbk.free (k - 1)
      have HBK := Lib.hid hbk; clear hbk
      obtain ⟨ax, rfl, hcx⟩ := HX.out (k - 1) (by omega)
      have hcx' := hext.cell hcx
      have hdx := (HLX.out).getD (k - 1)
      generalize hX1 : ds.getD (k - 1) 0 = a at *
      have HX1 := Lib.hid hX1; clear hX1
      have hi0 : (0 : Int) ≤ (k : Int) - 1 := by omega
      have hi1 : (k : Int) - 1 < (n : Int) := by omega
      have hi2 : ((k : Int) - 1).toNat = k - 1 := by omega
      have r1 : IntKind.u64.wrap ((hi : Int) * 4294967296) = ((hi % 4294967296 : Nat) : Int) * 4294967296 := by rw [IntKind.wrap_u64]; omega
      have r2 := or_low64 hi a hdx
      obtain ⟨r3, r4⟩ := shr_digit hi a s _ hs hdx HM.out
      have r5 : ((hi % 4294967296 * 4294967296 + a : Nat) : Int) / 2 ^ s % 4294967296 = (((val (ds.drop k) % 2 ^ s * 4294967296 + a) / 2 ^ s : Nat) : Int) := by rw [← r3]; simp
      have hkl : k - 1 < ds.length := by have := HN.out; omega
      have hdr : val (ds.drop (k - 1)) = a + 4294967296 * val (ds.drop k) := by
        rw [List.drop_eq_getElem_cons hkl, show k - 1 + 1 = k by omega]
        have e : ds[k - 1] = a := by have := HX1.out; simpa [List.getD, hkl] using this
        simp only [val, e]
      have R1 := Lib.hid r1; have R2 := Lib.hid r2; have R5 := Lib.hid r5; have HDR := Lib.hid hdr; clear r1 r2 r3 r5 hdr
      go_wp2_with fail
      rw [R1.out, R2.out, R5.out]
      go_roundw
      case rel =>
        refine ⟨k - 1, hi % 4294967296 * 4294967296 + a, (val (ds.drop k) % 2 ^ s * 4294967296 + a) / 2 ^ s :: out, by omega, by go_num, rfl, by omega, ?_, by simp [HOL.out]; omega, Low.cons r4 hlo, ?_, ?_, hext.setCell (Nat.le_refl _) _⟩
        · rw [HDR.out, shr_mod _ _ _ hs]
          have := shr_mod (hi % 4294967296) a s hs
          rw [Nat.add_comm, Nat.mul_comm] at this
          rw [Nat.add_comm, Nat.mul_comm]; rw [Nat.add_comm, Nat.mul_comm] at this
          exact this
        · rw [HDR.out, shr_step _ a s _ _ HV.out.symm rfl]; rfl
        · have h := HBK.out.set (k - 1) (U32 ((val (ds.drop k) % 2 ^ s * 4294967296 + a) / 2 ^ s))
          rw [row_set (List.replicate n 0) out [] k _ h0 (by simp; omega)] at h
          exact h
      case measure => simp [intOf]; omega
    · have hi : ¬ (1 : Int) ≤ (k : Int) := by omega
      have HBK := Lib.hid hbk; clear hbk
      go_wp2_with fail
      go_ret
      obtain rfl : k = 0 := by omega
      have hb := HBK.out
      simp only [List.take_zero, List.nil_append, List.append_nil] at hb
      have hol : out.length = n := by simpa using HOL.out
      refine ⟨_, out, rfl, hb.dg hlo (by omega) hol.symm (Nat.le_refl _), by have := HV.out; simpa using this, hext⟩
end Go.Proofs.Ytjpkaljndfgkjaa
