/- Contracts: nat.Of, nat.Add. -/
import Derived.Test.YtjpkaljndfgkjaaNatA
import Derived.Deep.DeepCutAuto
import Derived.Deep.CutBlock
namespace Go.Proofs.Ytjpkaljndfgkjaa
open Go.RowKit

theorem info_u32 : (Try.prog.info? 105).map (fun i => (i.zero, i.size, i.bytes)) = some (some (.int .u32 0), 1, 4) := by kernel_rfl

theorem val_two (n : Nat) : val [n % 4294967296, n / 4294967296] = n := by simp only [val]; omega
theorem low_two {n : Nat} (h : n < 18446744073709551616) : Low [n % 4294967296, n / 4294967296] := Low.cons (by omega) (Low.cons (by omega) Low.nil)

set_option maxHeartbeats 400000 in
theorem of_nz (n : Nat) (hn : n < 18446744073709551616) (w : World) :
    Calls Try.prog 28 #[.int .u64 (n : Int)] w (Ret (fun v w' => Nz w' v n) w) := by
  have hd : Dg (w.alloc (Obj.cells #[Value.int IntKind.u32 (↑n % 4294967296), Value.int IntKind.u32 (↑n / 4294967296)] 105)) (Value.slice (some { block := w.heap.size, off := 0 }) 2 2) [n % 4294967296, n / 4294967296] := by
    have hb := Bk.new w 105 ([n % 4294967296, n / 4294967296].map U32)
    exact hb.dg (low_two hn) (by simp) rfl (Nat.le_refl _)
  have HD := Lib.hid hd; clear hd
  go_enter Try.func28, Try.ntmps28
  go_wp2_with fail
  refine (trim_dg HD.out).mono ?_
  rintro e w' ⟨A, rfl, hA, rfl⟩
  rw [val_two] at hA
  rw [val_two]
  go_wp2_with fail
  go_ret
  exact Ret.mk ((Ext.refl w).alloc _) hA

theorem add_step (ds : List Nat) (cy x y s a b k : Nat) (hk : ds.length = k) (h : val ds + 4294967296 ^ k * cy = a + b) (hs : s = cy + x + y) :
    val (ds ++ [s % 4294967296]) + 4294967296 ^ (k + 1) * (s / 4294967296) = (a + 4294967296 ^ k * x) + (b + 4294967296 ^ k * y) := by
  rw [val_snoc, hk, Nat.pow_succ, Nat.mul_assoc, Nat.add_assoc, ← Nat.mul_add, show s % 4294967296 + 4294967296 * (s / 4294967296) = s from Nat.mod_add_div _ _, hs, Nat.mul_add, Nat.mul_add]
  omega

theorem set_snoc {α : Type} (l : List α) (z : α) (m : Nat) (x : α) : (l ++ List.replicate (m + 1) z).set l.length x = (l ++ [x]) ++ List.replicate m z := by
  rw [List.set_append_right _ _ (Nat.le_refl _), Nat.sub_self, List.replicate_succ, List.set_cons_zero, List.append_assoc]; rfl

theorem Bk.snoc {w : World} {g : Nat} {t : TypeId} {ds : List Nat} {k n s : Nat} (h : Bk w g t (ds.map U32 ++ List.replicate (n - k) (.int .u32 0))) (hk : ds.length = k) (hn : k < n) {x : Int} (hx : x = (s : Int)) :
    Bk (w.setCell ⟨g, k, none⟩ (.int .u32 x)) g t ((ds ++ [s]).map U32 ++ List.replicate (n - (k + 1)) (.int .u32 0)) := by
  subst hk; subst hx
  have h1 := h.set ds.length (.int .u32 (s : Int))
  rw [show n - ds.length = n - (ds.length + 1) + 1 by omega] at h1
  have h2 := set_snoc (ds.map U32) (Value.int .u32 0) (n - (ds.length + 1)) (.int .u32 (s : Int))
  rw [List.length_map] at h2
  rw [h2] at h1
  simpa [U32] using h1

theorem take_val_succ (ds : List Nat) (k d : Nat) (hk : k < ds.length) (hd : ds.getD k 0 = d) : val (ds.take (k + 1)) = val (ds.take k) + 4294967296 ^ k * d := by
  rw [val_take_succ ds k hk]; simp [List.getD, hk] at hd; rw [hd]
theorem take_val_past (ds : List Nat) (k : Nat) (hk : ds.length ≤ k) : val (ds.take (k + 1)) = val (ds.take k) + 4294967296 ^ k * 0 := by
  rw [List.take_of_length_le hk, List.take_of_length_le (by omega)]; simp

set_option maxHeartbeats 400000 in
theorem add_nv {w : World} {u v : Value} {a b : Nat} (ha : Nv w u a) (hb : Nv w v b) (hla : (dig a).length ≤ 1000000) (hlb : (dig b).length ≤ 1000000) :
    Calls Try.prog 37 #[u, v] w (Ret (fun x w' => Nz w' x (a + b)) w) := by
  go_enter Try.func37, Try.ntmps37
  go_wp2_with fail
  refine (trim_nv ha).mono ?_
  rintro e w' ⟨A, rfl, hA, rfl⟩
  go_wp2_with fail
  refine (trim_nv hb).mono ?_
  rintro e w' ⟨B, rfl, hB, rfl⟩
  clear ha hb
  go_upto_if 16 with fail
  go_cut [0, 1] (fun p q wx => ∃ X Y x y, p = .slice X (dig x).length (dig x).length ∧ q = .slice Y (dig y).length (dig y).length ∧ Nz w p x ∧ Nz w q y ∧ x + y = a + b ∧ (dig y).length ≤ (dig x).length ∧ (dig x).length ≤ 1000000 ∧ w = wx)
  case first =>
    by_cases hlt : (dig a).length < (dig b).length
    · go_wp2_with fail
      go_meet
      exact ⟨B, A, b, a, rfl, rfl, hB, hA, by omega, by omega, hlb, rfl⟩
    · go_wp2_with fail
      go_meet
      exact ⟨A, B, a, b, rfl, rfl, hA, hB, rfl, by omega, hla, rfl⟩
  case rest =>
    obtain ⟨X, Y, x, y, rfl, rfl, hX, hY, hsum, hle, hxl, rfl⟩ := hcut
    clear hA hB hla hlb A B
    have HS := Lib.hid hsum; clear hsum
    obtain ⟨X, n, c, eX, hn, -, hnb, hlx, hX⟩ := Dg.parts hX
    injection eX with e1 e2 e3
    subst e1; subst e3; clear e2
    obtain ⟨Y, m, c, eY, hm, -, hmb, hly, hY⟩ := Dg.parts hY
    injection eY with e1 e2 e3
    subst e1; subst e3; clear e2
    rw [← hn] at hle hxl ⊢
    rw [← hm] at hle ⊢
    have HN := Lib.hid hn; have HM := Lib.hid hm; clear hn hm
    have HX := Lib.hid hX; have HY := Lib.hid hY; clear hX hY
    have HLX := Lib.hid hlx; have HLY := Lib.hid hly; clear hlx hly
    have hmk := fun W => make_row (P := Try.prog) 38 105 (.int .u32 0) 4 Try.underlying38 info_u32 rfl (n + 1) (by omega) (by omega) W
    rw [show ((n + 1 : Nat) : Int) = (n : Int) + 1 from rfl] at hmk
    go_wp2_with fail
    go_loopw [6, 25] (fun t i wr => ∃ (k cy : Nat) (ds : List Nat), k ≤ n ∧ i = .int .i64 k ∧ t = .int .u64 cy ∧ cy ≤ 1 ∧ ds.length = k ∧ Low ds ∧ Bk wr w.heap.size 105 (ds.map U32 ++ List.replicate (n + 1 - k) (.int .u32 0)) ∧ val ds + 4294967296 ^ k * cy = val ((dig x).take k) + val ((dig y).take k) ∧ Ext w wr)
      (fun _ i _ => n - (intOf i).toNat)
    case atStart =>
      refine ⟨0, 0, [], Nat.zero_le _, rfl, rfl, Nat.zero_le _, rfl, Low.nil, Bk.new w _ _, by simp [val], (Ext.refl w).alloc _⟩
    case round =>
      obtain ⟨k, cy, ds, hk, rfl, rfl, hcy, hdl, hlo, hbk, hval, hext⟩ := hrel
      have HV := Lib.hid hval; clear hval
      have HDL := Lib.hid hdl; clear hdl
      by_cases hlt : k < n
      · obtain ⟨ax, rfl, hcx⟩ := HX.out k hlt
        have hcx' := hext.cell hcx
        have hcell := hbk.cell (i := k) (by simp; have := HDL.out; omega)
        have hfree := hbk.free k
        have hdx := (HLX.out).getD k
        generalize hX1 : (dig x).getD k 0 = dx at *
        have HX1 := Lib.hid hX1; clear hX1
        have HBK := Lib.hid hbk; clear hbk
        by_cases hltm : k < m
        · obtain ⟨ay, rfl, hcy⟩ := HY.out k hltm
          have hcy' := hext.cell hcy
          have hdy := (HLY.out).getD k
          generalize hY1 : (dig y).getD k 0 = dy at *
          have HY1 := Lib.hid hY1; clear hY1
          go_wp2_with fail
          go_roundw
          case rel =>
            refine ⟨k + 1, (cy + dx + dy) / 4294967296, ds ++ [(cy + dx + dy) % 4294967296], by omega, by go_num, by go_num, by omega, by simp [HDL.out], hlo.append (Low.cons (by omega) Low.nil), HBK.out.snoc HDL.out (by omega) (by go_num), ?_, hext.setCell (Nat.le_refl _) _⟩
            rw [add_step ds cy dx dy _ _ _ k HDL.out HV.out rfl, take_val_succ (dig x) k dx (by have := HN.out; omega) HX1.out, take_val_succ (dig y) k dy (by have := HM.out; omega) HY1.out]
          case measure => simp [intOf]; omega
        · go_wp2_with fail
          go_roundw
          case rel =>
            refine ⟨k + 1, (cy + dx + 0) / 4294967296, ds ++ [(cy + dx + 0) % 4294967296], by omega, by go_num, by go_num, by omega, by simp [HDL.out], hlo.append (Low.cons (by omega) Low.nil), HBK.out.snoc HDL.out (by omega) (by go_num), ?_, hext.setCell (Nat.le_refl _) _⟩
            rw [add_step ds cy dx 0 _ _ _ k HDL.out HV.out rfl, take_val_succ (dig x) k dx (by have := HN.out; omega) HX1.out, take_val_past (dig y) k (by have := HM.out; omega)]
          case measure => simp [intOf]; omega
      · have : k = n := by omega
        subst this
        have hcell := hbk.cell (i := k) (by simp; have := HDL.out; omega)
        have hfree := hbk.free k
        have HBK := Lib.hid hbk; clear hbk
        have hb2 : Bk (wr.setCell ⟨w.heap.size, k, none⟩ (.int .u32 (cy : Int))) w.heap.size 105 ((ds ++ [cy]).map U32) := by
          have := HBK.out.snoc (s := cy) HDL.out (by omega) rfl
          simpa using this
        have hd2 := hb2.dg (n := k + 1) (c := k + 1) (hlo.append (Low.cons (by omega) Low.nil)) (by simp; have := HDL.out; omega) (by simp [HDL.out]) (Nat.le_refl _)
        have hv2 : val (ds ++ [cy]) = a + b := by
          rw [val_snoc, HDL.out, HV.out, List.take_of_length_le (by have := HN.out; omega), List.take_of_length_le (by have := HM.out; omega), val_dig, val_dig]; exact HS.out
        have HD2 := Lib.hid hd2; have HV2 := Lib.hid hv2; clear hd2 hv2 hb2
        go_wp2_with fail
        refine (trim_dg HD2.out).mono ?_
        rintro e w' ⟨A, rfl, hA, rfl⟩
        rw [HV2.out] at hA
        rw [HV2.out]
        go_wp2_with fail
        go_ret
        exact Ret.mk (hext.setCell (Nat.le_refl _) _) hA
end Go.Proofs.Ytjpkaljndfgkjaa
