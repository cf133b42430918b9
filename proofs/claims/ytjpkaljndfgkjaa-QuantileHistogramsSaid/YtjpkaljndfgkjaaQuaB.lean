/- Contracts: nat.Uint64; quantile's boundaries and Cuts. -/
import Derived.Test.YtjpkaljndfgkjaaQuaA
import Derived.Deep.RegionHeld3
namespace Go.Proofs.Ytjpkaljndfgkjaa
open Go.RowKit

theorem or_none (d : Nat) (hd : d < 4294967296) : bits BinOp.or IntKind.u64 0 (d : Int) = (d : Int) := by
  have h := or_low 0 d (by omega) hd
  simpa using h
theorem or_high (a d : Nat) (ha : a < 4294967296) (hd : d < 4294967296) : bits BinOp.or IntKind.u64 (a : Int) ((d : Int) * 4294967296) = ((a + d * 4294967296 : Nat) : Int) := by
  have h := or_low d a hd ha
  show IntKind.u64.wrap ((BitVec.ofInt 64 (a : Int) ||| BitVec.ofInt 64 ((d : Int) * 4294967296)).toNat : Int) = _
  rw [BitVec.or_comm]
  refine Eq.trans h ?_
  rw [Nat.add_comm]

set_option maxRecDepth 20000 in
set_option maxHeartbeats 800000 in
theorem uint64_nv {w : World} {u : Value} {a : Nat} (hu : Nv w u a) (ha : a < 18446744073709551616) :
    Calls Try.prog 24 #[u] w fun e w' => e = .returned (.tuple #[.int .u64 (a : Int), .bool true]) ∧ w = w' := by
  go_enter Try.func24, Try.ntmps24
  go_wp2_with fail
  refine (trim_nv hu).mono ?_
  rintro e w1 ⟨A', rfl, hA, rfl⟩
  have hl := dig_len_u64 ha
  have HV := Lib.hid (val_dig a)
  obtain ⟨A, n, c, he, hn, -, -, hlow, hx⟩ := Dg.parts hA
  injection he with e1 e2 e3
  clear hA
  rw [e1, ← hn]
  clear e1 e2 e3
  rw [← hn] at hl
  generalize dig a = ds at *
  have HX := Lib.hid hx; have HN := Lib.hid hn; have HA := Lib.hid ha
  clear hx hn hu ha
  go_wp2_with fail
  go_loopw [4, 13] (fun t i wr => ∃ k : Nat, k ≤ n ∧ i = .int .i64 k ∧ t = .int .u64 (val (ds.take k) : Nat) ∧ w = wr) (fun _ i _ => n - (intOf i).toNat)
  case atStart => exact ⟨0, Nat.zero_le _, rfl, rfl, rfl⟩
  case round =>
    obtain ⟨k, hk, rfl, rfl, rfl⟩ := hrel
    by_cases hlt : k < n
    · obtain ⟨ad, rfl, hcell⟩ := HX.out k hlt
      have hd := hlow.getD k
      have ht := take_val_succ ds k (ds.getD k 0) (by have := HN.out; omega) rfl
      have hlt2 := val_lt (hlow.take k)
      rw [List.length_take, Nat.min_eq_left (by have := HN.out; omega)] at hlt2
      generalize ds.getD k 0 = d at *
      have HT := Lib.hid ht; clear ht
      rcases (show k = 0 ∨ k = 1 by omega) with rfl | rfl
      · have ho := or_none d hd
        simp only [List.take_zero, val] at HT hlt2 ⊢
        rw [add_zero] at hcell
        go_wp2_with fail
        go_roundw
        case rel => exact ⟨1, by omega, rfl, by rw [HT.out]; simp, trivial⟩
        case measure => simp [intOf]; omega
      · have ho := or_high (val (ds.take 1)) d (by omega) hd
        generalize hvt : val (ds.take 1) = x at *
        have HVT := Lib.hid hvt; clear hvt
        rw [show ad.add 1 = ⟨ad.block, ad.off + 1, none⟩ from rfl] at hcell
        go_wp2_with fail
        go_roundw
        case rel => exact ⟨2, by omega, rfl, by rw [HT.out]; go_num, trivial⟩
        case measure => simp [intOf]; omega
    · obtain rfl : k = n := by omega
      rw [List.take_of_length_le (by have := HN.out; omega), HV.out]
      go_wp2_with fail
      go_ret2
      exact ⟨rfl, rfl⟩

/-- The boundary before part i. -/
def cutAt (n parts i : Nat) : Nat := i * (n / parts) + min i (n % parts)

/-- What boundaries returns: a closure over the quotient and the remainder. -/
def Bnd (w : World) (f : Value) (q r : Nat) : Prop :=
  ∃ g1 g2 A n c, f = .func (.func 64) #[] #[.pointer (some ⟨g1, 0, none⟩), .pointer (some ⟨g2, 0, none⟩)] ∧ w.cell? ⟨g1, 0, none⟩ = some (.slice A n c) ∧ w.cell? ⟨g2, 0, none⟩ = some (.int .u64 (r : Int)) ∧ Nz w (.slice A n c) q

set_option maxHeartbeats 800000 in
theorem boundaries_any {w : World} {u : Value} {n p : Nat} (hu : Nv w u n) (h0 : 0 < p) (hp : p ≤ 1024) (hl : (dig n).length ≤ 1000) :
    Calls Try.prog 45 #[u, .int .i64 (p : Int)] w (Ret (fun x w' => Bnd w' x (n / p) (n % p)) w) := by
  go_enter Try.func45, Try.ntmps45
  go_wp2_with fail
  refine (of_nz p (by omega) _).mono ?_
  rintro e w1 ⟨x, rfl, he, hx⟩
  go_wp2_with fail
  refine (divMod_any (hu.ext he) hx.nv h0 (by omega) (Nat.le_trans (dig_len_u64 (by omega)) (by omega))).mono ?_
  rintro e w2 ⟨A, n1, c, B, m, d, rfl, hA, hB, he2⟩
  have hr : n % p < 1024 := Nat.lt_of_lt_of_le (Nat.mod_lt _ h0) hp
  go_wp2_with fail
  have hB3 := (hB.ext ((Ext.refl w2).alloc (.cells #[.slice A n1 c] 38)))
  refine (uint64_nv hB3.nv (by omega)).mono ?_
  rintro e w3 ⟨rfl, rfl⟩
  have hmf : ∀ (fn : Fn) (first cap : Array Value) (w : World), (Instr.makeFunc fn first cap).run Try.prog w = .ok (.func fn first cap) w := fun _ _ _ _ => rfl
  go_wp2_with fail
  go_ret
  have k1 : Bk (w2.alloc (.cells #[.slice A n1 c] 38)) w2.heap.size 38 [.slice A n1 c] := Bk.new w2 _ [.slice A n1 c]
  have k2 : Bk ((w2.alloc (.cells #[.slice A n1 c] 38)).alloc (.cells #[.int .u64 ((n : Int) % p)] 63)) (w2.heap.size + 1) 63 [.int .u64 ((n : Int) % p)] := by
    have h := Bk.new (w2.alloc (.cells #[.slice A n1 c] 38)) 63 [.int .u64 ((n : Int) % p)]
    simpa using h
  refine Ret.mk (((he.trans he2).alloc _).alloc _) ⟨_, _, A, n1, c, rfl, ?_, ?_, ?_⟩
  · exact (k1.alloc _).cell (i := 0) (by simp)
  · exact k2.cell (i := 0) (by simp)
  · exact hA.ext (((Ext.refl w2).alloc _).alloc _)

set_option maxHeartbeats 1000000 in
theorem boundary_any {w : World} {g1 g2 i q r k c : Nat} {A : Option Addr} (d0 : w.cell? ⟨g1, 0, none⟩ = some (.slice A k c)) (d1 : w.cell? ⟨g2, 0, none⟩ = some (.int .u64 (r : Int))) (hq : Nz w (.slice A k c) q) (hi : i ≤ 1024) (hr : r < 1024) (hl : (dig q).length ≤ 1000) :
    Calls Try.prog 64 #[.int .i64 (i : Int), .pointer (some ⟨g1, 0, none⟩), .pointer (some ⟨g2, 0, none⟩)] w (Ret (fun x w' => Nz w' x (i * q + min i r)) w) := by
  have HQ := Lib.hid hq; clear hq
  have hwi : IntKind.u64.wrap (i : Int) = (i : Int) := u64_id (by omega)
  obtain ⟨m, hm⟩ : ∃ m, m = min i r := ⟨_, rfl⟩
  have hmin : min (i : Int) (r : Int) = (m : Int) := by omega
  have hm1 : m ≤ 1024 := by omega
  rw [← hm]
  clear hm
  go_enter Try.func64, Try.ntmps64
  go_upto_region 1 with fail
  go_region_held3 (fun V => Ext w V ∧ V.cell? ⟨g1, 0, none⟩ = some (.slice A k c) ∧ V.cell? ⟨g2, 0, none⟩ = some (.int .u64 (r : Int)))
    ((refine (fun he => ⟨he, Ext.cell he d0, Ext.cell he d1⟩) ?_; repeat (first | exact Ext.refl _ | exact (Ext.refl _).drew | refine Ext.alloc ?_ _ | refine Ext.drew ?_ | refine Ext.trans ?_ (by assumption))))
    (first
      | (go_at_call 28; refine (of_nz _ (by omega) _).mono ?_; rintro e wa ⟨o, rfl, hea, hoa⟩)
      | (go_at_call 62; refine (mul_nv hoa.nv (HQ.out.ext (And.left (by assumption))).nv (Nat.le_trans (dig_len_u64 (by omega)) (by omega)) (by omega)).mono ?_; rintro e wb ⟨ob, rfl, heb, hob⟩)
      | (go_at_call 37; refine (add_nv (hob.ext hea).nv hoa.nv (Nat.le_trans (dig_len_mul (dig_len_u64 (by omega)) hl) (by omega)) (Nat.le_trans (dig_len_u64 (by omega)) (by omega))).mono ?_; rintro e wd ⟨od, rfl, hed, hod⟩))
  all_goals
    have hfin := And.left (b := _ ∧ _) (by assumption)
    obtain ⟨D, dn, dc, rfl, -⟩ := Dg.parts hod
    go_wp2_with fail
    go_ret
    exact Ret.mk hfin hod
end Go.Proofs.Ytjpkaljndfgkjaa
