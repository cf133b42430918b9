/- Contracts: ordinalref24.has and Terms, ordinallaw24.pure. -/
import Derived.Test.YtiahaofjmcjdiaaDoorHat
namespace Go.Proofs.YtiahaofjmcjdiaaDoor
open Go.RowKit

set_option maxRecDepth 20000 in
set_option maxHeartbeats 800000 in
theorem has_any {F : Nat → Prop} {w : World} {v : Value} {zs : List Int} {x : Int} (h : Ins F w v zs) (hl : zs.length ≤ 1048577) :
    Calls Tryd.prog 32 #[v, .int .i64 x] w (fun e w' => e = .returned (.bool (decide (x ∈ zs))) ∧ w = w') := by
  obtain ⟨A, c, rfl, hc, hcl⟩ := h
  obtain ⟨n, hn⟩ : ∃ n, n = zs.length := ⟨_, rfl⟩
  rw [← hn] at hc hl ⊢
  have HN := Lib.hid hn; have HCL := Lib.hid hcl
  clear hn hcl
  go_enter Tryd.func32, Tryd.ntmps32
  go_wp2_with fail
  go_loopw [5] (fun q wr => ∃ i : Nat, i ≤ n ∧ q = .int .i64 (i : Int) ∧ (∀ j (h : j < zs.length), j < i → zs[j] ≠ x) ∧ wr = w) (fun q _ => n - (intOf q).toNat)
  case atStart => exact ⟨0, Nat.zero_le _, rfl, fun _ _ h => absurd h (by omega), rfl⟩
  case round =>
    obtain ⟨i, hi, rfl, hne, rfl⟩ := hrel
    have HNE := Lib.hid hne
    clear hne
    by_cases hlt : i < n
    · have hiz : i < zs.length := by have := HN.out; omega
      obtain ⟨ad, rfl, -, c0⟩ := HCL.out.int (i := i) hiz
      obtain ⟨y, hy⟩ : ∃ y, y = zs[i] := ⟨_, rfl⟩
      rw [← hy] at c0
      have HY := Lib.hid hy
      clear hy
      have i1 : (0 : Int) ≤ (i : Int) := by omega
      have i2 : (i : Int) < (n : Int) := by omega
      by_cases hyx : y = x
      · subst hyx
        go_wp2_with fail
        go_ret
        rw [decide_eq_true (show y ∈ zs by rw [HY.out]; exact List.getElem_mem _)]
        exact ⟨rfl, rfl⟩
      · have HYX := Lib.hid hyx
        have hyx2 : (y == x) = false := by simp [hyx]
        go_wp2_with fail
        all_goals first
          | contradiction
          | (go_roundw
             case rel =>
               refine ⟨i + 1, by omega, by go_num, fun j hj hji => ?_, trivial⟩
               rcases Nat.lt_or_ge j i with h | h
               · exact HNE.out j hj h
               · obtain rfl : j = i := by omega
                 rw [← HY.out]; exact HYX.out
             case measure => simp [intOf]; omega)
    · obtain rfl : i = n := by omega
      have hdn : ¬ (i : Int) < (i : Int) := by omega
      go_wp2_with fail
      go_ret
      have hmem : x ∉ zs := by
        intro hm
        obtain ⟨j, hj, e⟩ := List.getElem_of_mem hm
        exact HNE.out j hj (by have := HN.out; omega) e
      rw [decide_eq_false hmem]
      exact ⟨rfl, rfl⟩

/-- The distinct terms of atoms, in order. -/
def tStep (only : Bool) (out : List Int) (x : Int) : List Int := if x ∉ out ∧ (x < 0 ∨ only = false) then out ++ [x] else out
def termsL (only : Bool) (l : List Int) : List Int := l.foldl (tStep only) []
def allR (l : List RAt) : List Int := l.flatMap (·.terms)
theorem termsL_snoc (only : Bool) (l : List Int) (x : Int) : termsL only (l ++ [x]) = tStep only (termsL only l) x := by simp [termsL]
theorem tStep_length (only : Bool) (out : List Int) (x : Int) : (tStep only out x).length ≤ out.length + 1 := by unfold tStep; split <;> simp
theorem foldT_length (only : Bool) : ∀ (l out : List Int), (l.foldl (tStep only) out).length ≤ out.length + l.length
  | [], _ => by simp
  | x :: l, out => by have := foldT_length only l (tStep only out x); have := tStep_length only out x; simp at *; omega
theorem termsL_length (only : Bool) (l : List Int) : (termsL only l).length ≤ l.length := by have := foldT_length only l []; simpa [termsL] using this
theorem allR_take {l : List RAt} {i : Nat} (h : i < l.length) : allR (l.take (i + 1)) = allR (l.take i) ++ l[i].terms := by
  unfold allR
  rw [List.take_succ_eq_append_getElem h, List.flatMap_append, List.flatMap_cons, List.flatMap_nil, List.append_nil]
theorem allR_le {l : List RAt} (i : Nat) : (allR (l.take i)).length ≤ (allR l).length := by
  have h : l = l.take i ++ l.drop i := (List.take_append_drop i l).symm
  have e : allR l = allR (l.take i) ++ allR (l.drop i) := by simp only [allR]; rw [← List.flatMap_append, ← h]
  rw [e]; simp

/-- After i atoms and k terms of the next. -/
structure TmI (w wr : World) (only : Bool) (l : List Int) (t : Value) (m : Nat) : Prop where
  row : wr.ownsRow w.heap.size 3 1 t m ((termsL only l).map I64)
  ext : Ext w wr
theorem TmI.same {w wr : World} {only : Bool} {l : List Int} {t : Value} {m : Nat} {x : Int} (h : TmI w wr only l t m) (hx : ¬ (x ∉ termsL only l ∧ (x < 0 ∨ only = false))) : TmI w wr only (l ++ [x]) t m := by
  have e : termsL only (l ++ [x]) = termsL only l := by rw [termsL_snoc, tStep, if_neg hx]
  exact ⟨by rw [e]; exact h.row, h.ext⟩
theorem TmI.more {w wr wb w9 : World} {only : Bool} {l : List Int} {t t' : Value} {m : Nat} {x : Int} (h : TmI w wr only l t m) (hx : x ∉ termsL only l ∧ (x < 0 ∨ only = false)) (he : Ext wr wb) (hr : w9.ownsRow w.heap.size 3 1 t' (m + 1) ((termsL only l).map I64 ++ [I64 x])) (hg : wb.grownBy w9 t.ownBlock) : TmI w w9 only (l ++ [x]) t' (m + 1) := by
  have e : termsL only (l ++ [x]) = termsL only l ++ [x] := by rw [termsL_snoc, tStep, if_pos hx]
  refine ⟨?_, (h.ext.trans he).grown hg (fun k hk => (h.row.lt k hk).1)⟩
  rw [e, List.map_append]
  exact hr

set_option maxRecDepth 20000 in
set_option maxHeartbeats 1600000 in
theorem terms_ref {F : Nat → Prop} {w : World} {v : Value} {l : List RAt} {only : Bool} (h : Ras F w v l) (hl : l.length ≤ 1048576) (hal : (allR l).length ≤ 1048576) :
    Calls Tryd.prog 14 #[v, .bool only] w (Ret (fun x w' => w'.ownsRow w.heap.size 3 1 x (termsL only (allR l)).length ((termsL only (allR l)).map I64)) w) := by
  obtain ⟨A, c, vs, rfl, hc, hvs, hcl, hin⟩ := h
  obtain ⟨n, hn⟩ : ∃ n, n = l.length := ⟨_, rfl⟩
  rw [← hn] at hc hl ⊢
  have HN := Lib.hid hn; have HCL := Lib.hid hcl; have HVS := Lib.hid hvs; have HIN := Lib.hid hin; have HAL := Lib.hid hal
  clear hn hcl hvs hin hal
  obtain ⟨i0, hi0, hz0, hz1, hz2⟩ := info_parts info_int
  have HI0 := Lib.hid (And.intro hi0 (And.intro hz0 (And.intro hz1 hz2))); clear hi0 hz0 hz1 hz2
  go_enter Tryd.func14, Tryd.ntmps14
  go_wp2_with fail
  go_loopw [5, 6] (fun t q wr => ∃ i m : Nat, i ≤ n ∧ q = .int .i64 (i : Int) ∧ TmI w wr only (allR (l.take i)) t m) (fun _ q _ => n - (intOf q).toNat)
  case atStart => exact ⟨0, 0, Nat.zero_le _, rfl, World.ownsRow_nil _ _ _ _, Ext.refl _⟩
  case round =>
    obtain ⟨i, m0, hi, rfl, hI⟩ := hrel
    obtain ⟨wo, rfl⟩ : ∃ wo : World, wo = wr := ⟨_, rfl⟩
    by_cases hlt : i < n
    · have i1 : (0 : Int) ≤ (i : Int) := by omega
      have i2 : (i : Int) < (n : Int) := by omega
      have hix : i < l.length := by have := HN.out; omega
      have hiv : i < vs.length := by have := HVS.out; omega
      obtain ⟨ad, rfl, -, c0, c1⟩ := HCL.out.ratom (i := i) hix hiv
      obtain ⟨Ai, ci, hvi, hci, hcli⟩ := HIN.out i hix hiv
      rw [hvi] at c1
      obtain ⟨zs, hzs⟩ : ∃ zs, zs = l[i].terms := ⟨_, rfl⟩
      rw [← hzs] at c1 hci hcli
      obtain ⟨nt, hnt⟩ : ∃ nt, nt = zs.length := ⟨_, rfl⟩
      rw [← hnt] at c1 hci
      have HNT := Lib.hid hnt; have HZS := Lib.hid hzs; have HCI := Lib.hid hcli; have HC1 := Lib.hid c1
      have hnt2 : nt ≤ 1048576 := by
        have h1 := allR_le (l := l) (i + 1)
        rw [allR_take hix, List.length_append, ← hzs] at h1
        have := HAL.out; omega
      clear hvi hzs hnt hcli c0 c1
      go_wp2_with fail
      go_loopw [5, 7] (fun t q wr => ∃ k m : Nat, k ≤ nt ∧ q = .int .i64 (k : Int) ∧ TmI w wr only (allR (l.take i) ++ zs.take k) t m) (fun _ q _ => nt - (intOf q).toNat)
      case atStart => exact ⟨0, m0, Nat.zero_le _, rfl, by simpa using hI⟩
      case round =>
        clear hI
        obtain ⟨k, m, hk, rfl, hK⟩ := hrel
        obtain ⟨At, ct, rfl⟩ := own_slice hK.row
        have HK := Lib.hid hK
        have c1 := hK.ext.cell HC1.out
        have hks : wo.heap.size ≤ wo.heap.size := Nat.le_refl _
        clear hK hks
        by_cases hkt : k < nt
        · have k1 : (0 : Int) ≤ (k : Int) := by omega
          have k2 : (k : Int) < (nt : Int) := by omega
          have hkz : k < zs.length := by have := HNT.out; omega
          obtain ⟨ad2, rfl, -, d0⟩ := HCI.out.int (i := k) hkz
          replace d0 := HK.out.ext.cell d0
          obtain ⟨x, hx⟩ : ∃ x, x = zs[k] := ⟨_, rfl⟩
          rw [← hx] at d0
          have HX := Lib.hid hx
          clear hx
          have hlen : (termsL only (allR (l.take i) ++ zs.take k)).length ≤ 1048576 := by
            have h0 := termsL_length only (allR (l.take i) ++ zs.take k)
            have h1 := allR_le (l := l) (i + 1)
            rw [allR_take hix, List.length_append, ← HZS.out] at h1
            have := HAL.out
            simp only [List.length_append, List.length_take] at h0
            omega
          have hlen2 : (termsL only (allR (l.take i) ++ zs.take k)).length ≤ 1048577 := by omega
          have etk : allR (l.take i) ++ zs.take (k + 1) = (allR (l.take i) ++ zs.take k) ++ [x] := by rw [List.take_succ_eq_append_getElem hkz, HX.out, List.append_assoc]
          have HETK := Lib.hid etk
          clear etk
          obtain ⟨L, hL⟩ : ∃ L, L = allR (l.take i) ++ zs.take k := ⟨_, rfl⟩
          rw [← hL] at HK HETK hlen hlen2
          clear hL
          have hm : m ≤ 1048576 := by have h := HK.out.row.1; simp at h; omega
          go_wp2_with fail
          refine (has_any (zs := termsL only L) (Ins.of_own HK.out.row) hlen2).mono ?_
          rintro e w2 ⟨rfl, rfl⟩
          by_cases hadd : x ∉ termsL only L ∧ (x < 0 ∨ only = false)
          · rw [decide_eq_false hadd.1]
            have HADD := Lib.hid hadd
            have hww := HK.out.ext.size
            rcases hadd with ⟨-, hneg | honly⟩
            · have hneg2 : decide (x < 0) = true := decide_eq_true hneg
              go_wp2_with (first | (at_builtin; refine wpList_append_at rfl _ _ 38 rfl w.heap.size 3 i0 (.int .i64 0) 1 8 Tryd.underlying38 HI0.out.1 HI0.out.2.1 HI0.out.2.2.1 HI0.out.2.2.2 rfl (by omega) _ _ ((termsL only L).map I64) rfl (HK.out.row.alloc _) ⟨wr.heap.size, 0, none⟩ 1 1 [I64 x] rfl rfl (laid_news wr _ _) (by simp [Value.oneCell']) (by simp only [maxLen]; omega) (by omega) (by simp; omega) ?_; intro v' w' hr' hgr hland; have HM := Lib.hid (HK.out.more HADD.out ((Ext.refl wr).alloc _) hr' hgr); clear hr' hgr hland))
              go_roundw
              case rel => exact ⟨k + 1, _, by omega, by go_num, by rw [HETK.out]; exact HM.out⟩
              case measure => simp [intOf]; omega
            · have honly2 : (!only) = true := by rw [honly]; rfl
              clear honly
              by_cases hneg : x < 0
              · have hneg2 : decide (x < 0) = true := decide_eq_true hneg
                go_wp2_with (first | (at_builtin; refine wpList_append_at rfl _ _ 38 rfl w.heap.size 3 i0 (.int .i64 0) 1 8 Tryd.underlying38 HI0.out.1 HI0.out.2.1 HI0.out.2.2.1 HI0.out.2.2.2 rfl (by omega) _ _ ((termsL only L).map I64) rfl (HK.out.row.alloc _) ⟨wr.heap.size, 0, none⟩ 1 1 [I64 x] rfl rfl (laid_news wr _ _) (by simp [Value.oneCell']) (by simp only [maxLen]; omega) (by omega) (by simp; omega) ?_; intro v' w' hr' hgr hland; have HM := Lib.hid (HK.out.more HADD.out ((Ext.refl wr).alloc _) hr' hgr); clear hr' hgr hland))
                go_roundw
                case rel => exact ⟨k + 1, _, by omega, by go_num, by rw [HETK.out]; exact HM.out⟩
                case measure => simp [intOf]; omega
              · have hneg2 : decide (x < 0) = false := decide_eq_false hneg
                go_wp2_with (first | (at_builtin; refine wpList_append_at rfl _ _ 38 rfl w.heap.size 3 i0 (.int .i64 0) 1 8 Tryd.underlying38 HI0.out.1 HI0.out.2.1 HI0.out.2.2.1 HI0.out.2.2.2 rfl (by omega) _ _ ((termsL only L).map I64) rfl (HK.out.row.alloc _) ⟨wr.heap.size, 0, none⟩ 1 1 [I64 x] rfl rfl (laid_news wr _ _) (by simp [Value.oneCell']) (by simp only [maxLen]; omega) (by omega) (by simp; omega) ?_; intro v' w' hr' hgr hland; have HM := Lib.hid (HK.out.more HADD.out ((Ext.refl wr).alloc _) hr' hgr); clear hr' hgr hland))
                go_roundw
                case rel => exact ⟨k + 1, _, by omega, by go_num, by rw [HETK.out]; exact HM.out⟩
                case measure => simp [intOf]; omega
          · have HADD := Lib.hid hadd
            by_cases hmem : x ∈ termsL only L
            · rw [decide_eq_true hmem]
              clear hadd hmem
              go_wp2_with fail
              go_roundw
              case rel => exact ⟨k + 1, _, by omega, by go_num, by rw [HETK.out]; exact HK.out.same HADD.out⟩
              case measure => simp [intOf]; omega
            · rw [decide_eq_false hmem]
              have hneg : ¬ x < 0 := fun h => hadd ⟨hmem, .inl h⟩
              have honly : only = true := by cases only; exact absurd ⟨hmem, .inr rfl⟩ hadd; rfl
              have honly2 : (!only) = false := by rw [honly]; rfl
              clear honly
              have hneg2 : decide (x < 0) = false := decide_eq_false hneg
              clear hadd hmem
              go_wp2_with fail
              go_roundw
              case rel => exact ⟨k + 1, _, by omega, by go_num, by rw [HETK.out]; exact HK.out.same HADD.out⟩
              case measure => simp [intOf]; omega
        · obtain rfl : k = nt := by omega
          have hdn : ¬ (k : Int) < (k : Int) := by omega
          go_wp2_with fail
          go_roundw
          case rel =>
            refine ⟨i + 1, m, by omega, by go_num, ?_⟩
            rw [allR_take hix, ← HZS.out]
            have h := HK.out
            have et : zs.take k = zs := by rw [HNT.out]; exact List.take_length
            rwa [et] at h
          case measure => simp [intOf]; omega
    · obtain rfl : i = n := by omega
      have hdn : ¬ (i : Int) < (i : Int) := by omega
      have HI := Lib.hid hI
      clear hI
      go_wp2_with fail
      go_ret
      have h := HI.out
      have et : l.take i = l := by rw [HN.out]; exact List.take_length
      rw [et] at h
      have e : m0 = (termsL only (allR l)).length := by have := h.row.1; simp at this; omega
      rw [← e]
      exact Ret.mk h.ext h.row
end Go.Proofs.YtiahaofjmcjdiaaDoor
