/- Contract: nat.Mul. -/
import Derived.Test.YtjpkaljndfgkjaaNatC
namespace Go.Proofs.Ytjpkaljndfgkjaa
open Go.RowKit

theorem val_set (l : List Nat) (k d : Nat) (h : k < l.length) : val (l.set k d) + 4294967296 ^ k * l.getD k 0 = val l + 4294967296 ^ k * d := by
  have h1 := val_split (l.set k d) k
  have h2 := val_split l k
  rw [List.length_set, Nat.min_eq_left (by omega)] at h1
  rw [Nat.min_eq_left (by omega)] at h2
  have e1 : (l.set k d).take k = l.take k := by rw [List.take_set_of_le (Nat.le_refl _)]
  have e2 : (l.set k d).drop k = d :: l.drop (k + 1) := by
    rw [List.drop_eq_getElem_cons (by simpa using h), List.drop_set_of_lt (by omega)]; simp
  have e3 : l.drop k = l[k] :: l.drop (k + 1) := List.drop_eq_getElem_cons h
  have e4 : l.getD k 0 = l[k] := by simp [List.getD, h]
  rw [e1, e2] at h1
  rw [e3] at h2
  rw [e4]
  simp only [val, Nat.mul_add] at h1 h2
  omega

theorem Low.set {l : List Nat} (h : Low l) (k d : Nat) (hd : d < 4294967296) : Low (l.set k d) := fun x hx => by
  rcases List.mem_or_eq_of_mem_set hx with h1 | h1
  · exact h x h1
  · omega

theorem Bk.setW {w : World} {g : Nat} {t : TypeId} {l : List Nat} (h : Bk w g t (l.map U32)) (k s : Nat) {x : Int} (hx : x = (s : Int)) :
    Bk (w.setCell ⟨g, k, none⟩ (.int .u32 x)) g t ((l.set k s).map U32) := by
  subst hx
  have := h.set k (.int .u32 (s : Int))
  rwa [show ((l.set k s).map U32) = (l.map U32).set k (.int .u32 (s : Int)) from by rw [List.map_set]]

theorem Bk.word {w : World} {g : Nat} {t : TypeId} {l : List Nat} (h : Bk w g t (l.map U32)) {k : Nat} (hk : k < l.length) : w.cell? ⟨g, k, none⟩ = some (.int .u32 ((l.getD k 0 : Nat) : Int)) := by
  rw [h.cell (by simpa using hk)]; simp [List.getD, hk]

/-- A number below a power has no digit from there on. -/
theorem digit_zero {l : List Nat} {k : Nat} (hk : k < l.length) (hv : val l < 4294967296 ^ k) : l.getD k 0 = 0 := by
  have h2 := val_split l k
  rw [Nat.min_eq_left (by omega), List.drop_eq_getElem_cons hk] at h2
  simp only [val, Nat.mul_add] at h2
  rcases Nat.eq_zero_or_pos l[k] with e | e
  · simp [List.getD, hk, e]
  · have := Nat.mul_le_mul_left (4294967296 ^ k) e
    omega

theorem mul_step (D : List Nat) (V cy x y i j s q : Nat) (hl : i + j < D.length) (hs : s = cy + (x * y + D.getD (i + j) 0)) (h : val D + 4294967296 ^ (i + j) * cy = V + 4294967296 ^ i * (x * q)) :
    val (D.set (i + j) (s % 4294967296)) + 4294967296 ^ (i + (j + 1)) * (s / 4294967296) = V + 4294967296 ^ i * (x * (q + 4294967296 ^ j * y)) := by
  have h1 := val_set D (i + j) (s % 4294967296) hl
  have h2 : 4294967296 ^ (i + j) * (s % 4294967296) + 4294967296 ^ (i + (j + 1)) * (s / 4294967296) = 4294967296 ^ (i + j) * s := by
    rw [← Nat.add_assoc, Nat.pow_succ, Nat.mul_assoc, ← Nat.mul_add, Nat.mod_add_div]
  have h3 : 4294967296 ^ (i + j) * s = 4294967296 ^ (i + j) * cy + 4294967296 ^ (i + j) * (x * y) + 4294967296 ^ (i + j) * D.getD (i + j) 0 := by
    rw [hs, Nat.mul_add, Nat.mul_add, Nat.add_assoc]
  have h4 : 4294967296 ^ i * (x * (q + 4294967296 ^ j * y)) = 4294967296 ^ i * (x * q) + 4294967296 ^ (i + j) * (x * y) := by
    rw [Nat.pow_add, Nat.mul_add, Nat.mul_add, Nat.mul_left_comm x, Nat.mul_assoc]
  omega

theorem mul_room (x y c o : Nat) (hx : x < 4294967296) (hy : y < 4294967296) (hc : c < 4294967296) (ho : o < 4294967296) : c + (x * y + o) < 18446744073709551616 := by
  have : x * y ≤ 4294967295 * 4294967295 := Nat.mul_le_mul (by omega) (by omega)
  omega

theorem u64_id {n : Nat} (h : n < 18446744073709551616) : IntKind.u64.wrap (n : Int) = (n : Int) := by
  rw [IntKind.wrap_u64]; omega
theorem mul_wraps (x y c o : Nat) (h : c + (x * y + o) < 18446744073709551616) :
    IntKind.u64.wrap ((x : Int) * y) = (x : Int) * y ∧ IntKind.u64.wrap ((x : Int) * y + o) = (x : Int) * y + o ∧ IntKind.u64.wrap ((c : Int) + ((x : Int) * y + o)) = (c : Int) + ((x : Int) * y + o) := by
  have h1 := u64_id (n := x * y) (by omega)
  have h2 := u64_id (n := x * y + o) (by omega)
  have h3 := u64_id (n := c + (x * y + o)) h
  simp only [Int.natCast_add, Int.natCast_mul] at h1 h2 h3
  exact ⟨h1, h2, h3⟩

set_option maxHeartbeats 800000 in
theorem mul_nv {w : World} {u v : Value} {a b : Nat} (ha : Nv w u a) (hb : Nv w v b) (hla : (dig a).length ≤ 1000000) (hlb : (dig b).length ≤ 1000000) :
    Calls Try.prog 62 #[u, v] w (Ret (fun x w' => Nz w' x (a * b)) w) := by
  go_enter Try.func62, Try.ntmps62
  go_wp2_with fail
  refine (trim_nv ha).mono ?_
  rintro e w' ⟨X, rfl, hX, rfl⟩
  go_wp2_with fail
  refine (trim_nv hb).mono ?_
  rintro e w' ⟨Y, rfl, hY, rfl⟩
  clear ha hb
  obtain ⟨X, n, c, eX, hn, -, hnb, hlx, hX⟩ := Dg.parts hX
  injection eX with e1 e2 e3
  subst e1; subst e3; clear e2
  obtain ⟨Y, m, c, eY, hm, -, hmb, hly, hY⟩ := Dg.parts hY
  injection eY with e1 e2 e3
  subst e1; subst e3; clear e2
  rw [← hn] at hla ⊢
  rw [← hm] at hlb ⊢
  have HN := Lib.hid hn; have HM := Lib.hid hm; clear hn hm
  have HX := Lib.hid hX; have HY := Lib.hid hY; clear hX hY
  have HLX := Lib.hid hlx; have HLY := Lib.hid hly; clear hlx hly
  have hmk := fun W => make_row (P := Try.prog) 38 105 (.int .u32 0) 4 Try.underlying38 info_u32 rfl (n + m) (by omega) (by omega) W
  rw [show ((n + m : Nat) : Int) = (n : Int) + m from rfl] at hmk
  go_wp2_with fail
  go_loopw [21] (fun t wr => ∃ (i : Nat) (D : List Nat), i ≤ n ∧ t = .int .i64 i ∧ D.length = n + m ∧ Low D ∧ Bk wr w.heap.size 105 (D.map U32) ∧ val D = val ((dig a).take i) * b ∧ Ext w wr)
    (fun t _ => n - (intOf t).toNat)
  case atStart =>
    refine ⟨0, List.replicate (n + m) 0, Nat.zero_le _, rfl, by simp, fun d hd => by have := List.eq_of_mem_replicate hd; omega, ?_, by simp [val, val_replicate], (Ext.refl w).alloc _⟩
    have := Bk.new w 105 (List.replicate (n + m) (.int .u32 0))
    simpa [U32] using this
  case round =>
    obtain ⟨i, D, hi, rfl, hD, hlo, hbk, hval, hext⟩ := hrel
    obtain ⟨wo, rfl⟩ : ∃ wo : World, wo = wr := ⟨_, rfl⟩
    have HV := Lib.hid hval; have HD := Lib.hid hD; have HBK := Lib.hid hbk; clear hval hD hbk
    by_cases hlt : i < n
    · obtain ⟨ax, rfl, hcx⟩ := HX.out i hlt
      have hdx := (HLX.out).getD i
      generalize hX1 : (dig a).getD i 0 = dx at *
      have HX1 := Lib.hid hX1; clear hX1
      go_wp2_with fail
      go_loopw [7, 26] (fun t q wr => ∃ (j cy : Nat) (E : List Nat), j ≤ m ∧ q = .int .i64 j ∧ t = .int .u64 cy ∧ cy < 4294967296 ∧ E.length = n + m ∧ Low E ∧ Bk wr w.heap.size 105 (E.map U32) ∧ E.drop (i + j) = D.drop (i + j) ∧ val E + 4294967296 ^ (i + j) * cy = val D + 4294967296 ^ i * (dx * val ((dig b).take j)) ∧ Ext w wr)
        (fun _ q _ => m - (intOf q).toNat)
      case atStart =>
        exact ⟨0, 0, D, Nat.zero_le _, rfl, rfl, by omega, HD.out, hlo, HBK.out, rfl, by simp [val], hext⟩
      case round =>
        obtain ⟨j, cy, E, hj, rfl, rfl, hcy, hE, hlE, hbE, hdr, hval, hext2⟩ := hrel
        have HVE := Lib.hid hval; have HE := Lib.hid hE; have HDR := Lib.hid hdr; clear hval hE hdr
        by_cases hltj : j < m
        · obtain ⟨ay, rfl, hcy1⟩ := HY.out j hltj
          have hdy := (HLY.out).getD j
          generalize hY1 : (dig b).getD j 0 = dy at *
          have HY1 := Lib.hid hY1; clear hY1
          have hcx' := hext2.cell hcx
          have hcy' := hext2.cell hcy1
          have hco := hbE.word (k := i + j) (by have := HE.out; omega)
          have hfree := hbE.free (i + j)
          have hdo := hlE.getD (i + j)
          generalize hO1 : E.getD (i + j) 0 = o at *
          have HO1 := Lib.hid hO1; clear hO1
          have HBE := Lib.hid hbE; clear hbE
          have hroom := mul_room dx dy cy o hdx hdy hcy hdo
          obtain ⟨s1, s2, s3⟩ := mul_wraps dx dy cy o hroom
          have s4 : IntKind.i64.wrap ((i : Int) + j) = (i : Int) + j := IntWalk.i64_in _ (by omega)
          have s5 : (0 : Int) ≤ (i : Int) + j := by omega
          have s6 : ((i : Int) + j).toNat = i + j := by omega
          have s7 : (i : Int) + j < (n : Int) + m := by omega
          go_wp2_with fail
          go_quiet (fail)
          go_wp2_with fail
          go_roundw
          case rel =>
            refine ⟨j + 1, (cy + (dx * dy + o)) / 4294967296, E.set (i + j) ((cy + (dx * dy + o)) % 4294967296), by omega, by go_num, by go_num, by omega, by simp [HE.out], hlE.set _ _ (by omega), (HBE.out.drewN nq).setW _ _ (by go_num), ?_, ?_, (hext2.drewN nq).setCell (Nat.le_refl _) _⟩
            · rw [List.drop_set_of_lt (by omega)]
              have := congrArg (List.drop 1) HDR.out
              simpa [List.drop_drop, Nat.add_assoc] using this
            · rw [take_val_succ (dig b) j dy (by have := HM.out; omega) HY1.out, mul_step E (val D) cy dx dy i j _ _ (by have := HE.out; omega) (by rw [HO1.out]) HVE.out]
          case measure => simp [intOf]; omega
        · have : j = m := by omega
          subst this
          have hz : E.getD (i + j) 0 = 0 := by
            have h1 : E.getD (i + j) 0 = D.getD (i + j) 0 := by
              have e1 := congrArg (fun l => l.getD 0 0) HDR.out
              simpa [List.getD, List.getElem?_drop] using e1
            rw [h1]
            refine digit_zero (by have := HD.out; omega) ?_
            rw [HV.out, Nat.pow_add]
            have h2 : val ((dig a).take i) < 4294967296 ^ i := by
              have := val_lt ((low_dig a).take i)
              rwa [List.length_take, Nat.min_eq_left (by have := HN.out; omega)] at this
            have h3 : b < 4294967296 ^ j := by have := val_lt (low_dig b); rwa [val_dig, ← HM.out] at this
            exact Nat.mul_lt_mul'' h2 h3
          have hco := hbE.word (k := i + j) (by have := HE.out; omega)
          have hfree := hbE.free (i + j)
          have HBE := Lib.hid hbE; have HZ := Lib.hid hz; clear hbE hz
          have s4 : IntKind.i64.wrap ((i : Int) + j) = (i : Int) + j := IntWalk.i64_in _ (by omega)
          go_wp2_with fail
          go_roundw
          case rel =>
            refine ⟨i + 1, E.set (i + j) cy, by omega, by go_num, by simp [HE.out], hlE.set _ _ hcy, HBE.out.setW _ _ (by go_num), ?_, hext2.setCell (Nat.le_refl _) _⟩
            have h1 := val_set E (i + j) cy (by have := HE.out; omega)
            rw [HZ.out] at h1
            rw [take_val_succ (dig a) i dx (by have := HN.out; omega) HX1.out, Nat.add_mul, ← HV.out]
            have h2 := HVE.out
            rw [List.take_of_length_le (by have := HM.out; omega), val_dig] at h2
            rw [Nat.mul_assoc]
            omega
          case measure => simp [intOf]; omega
    · have : i = n := by omega
      subst this
      have hd2 := HBK.out.dg (n := i + m) (c := i + m) hlo (by have := HD.out; omega) HD.out.symm (Nat.le_refl _)
      have hv2 : val D = a * b := by rw [HV.out, List.take_of_length_le (by have := HN.out; omega), val_dig]
      have HD2 := Lib.hid hd2; have HV2 := Lib.hid hv2; clear hd2 hv2
      go_wp2_with fail
      refine (trim_dg HD2.out).mono ?_
      rintro e w' ⟨A, rfl, hA, rfl⟩
      rw [HV2.out] at hA
      rw [HV2.out]
      go_wp2_with fail
      go_ret
      exact Ret.mk hext hA
end Go.Proofs.Ytjpkaljndfgkjaa
