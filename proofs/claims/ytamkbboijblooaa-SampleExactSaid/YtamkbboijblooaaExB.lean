/- Contract: SampleExact's key. Contract: ordinallaw46.even. -/
import Derived.Test.YtamkbboijblooaaDistD
import Derived.Laws.BytesString
import Derived.Maps.RangeWalk
import Derived.Maps.OwnSet
import Derived.Maps.OwnOps
namespace Go.Proofs.Ytamkbboijblooaa
open Go.RowKit

/-- The key of a list of small numbers. -/
def keyL (l : List Nat) : List UInt8 := l.map (fun x => UInt8.ofNat (97 + x))

set_option maxRecDepth 20000 in
set_option maxHeartbeats 800000 in
theorem key_any {w : World} {v : Value} {l : List Nat} (h : In w v l) (hl : l.length ≤ 1000) (hb : ∀ y ∈ l, y < 100) :
    Calls Try.prog 48 #[v] w (Ret (fun x _ => x = .string ⟨(keyL l).toArray⟩) w) := by
  obtain ⟨A, c, rfl, hc, hcells⟩ := h.parts
  obtain ⟨n, hn⟩ : ∃ n, n = l.length := ⟨_, rfl⟩
  rw [← hn] at hcells hl hc ⊢
  have HN := Lib.hid hn; have HC := Lib.hid hcells; have HB := Lib.hid hb
  clear hn hcells hb h
  go_enter Try.func48, Try.ntmps48
  go_wp2_with fail
  go_loopw [3, 8] (fun t q wr => ∃ k : Nat, k ≤ n ∧ q = .int .i64 k ∧ t = .string ⟨(keyL (l.take k)).toArray⟩ ∧ Ext w wr) (fun _ q _ => n - (intOf q).toNat)
  case atStart => exact ⟨0, Nat.zero_le _, rfl, rfl, Ext.refl _⟩
  case round =>
    obtain ⟨k, hk, rfl, rfl, hext⟩ := hrel
    by_cases hlt : k < n
    · obtain ⟨ad, rfl, hcell⟩ := HC.out k hlt
      replace hcell := hext.cell hcell
      have hkl : k < l.length := by have := HN.out; omega
      have hy : l.getD k 0 < 100 := by simp only [List.getD, List.getElem?_eq_getElem hkl, Option.getD_some]; exact HB.out _ (List.getElem_mem hkl)
      have htk : keyL (l.take (k + 1)) = keyL (l.take k) ++ [UInt8.ofNat (97 + l.getD k 0)] := by
        have e : l.getD k 0 = l[k] := by simp [List.getD, hkl]
        rw [e, keyL, List.take_succ_eq_append_getElem hkl, List.map_append]; rfl
      have HTK := Lib.hid htk
      generalize l.getD k 0 = y at *
      have hsl : (keyL (l.take k)).length = k := by simp [keyL]; omega
      have HSL := Lib.hid hsl
      clear hsl
      generalize keyL (l.take k) = S at *
      clear htk
      have i1 : (0 : Int) ≤ (k : Int) := by omega
      have i2 : (k : Int) < (n : Int) := by omega
      have hSl : S.length ≤ 1000 := by rw [HSL.out]; omega
      obtain ⟨b8, hb8⟩ : ∃ b8, b8 = UInt8.ofNat (97 + y) := ⟨_, rfl⟩
      have hconv : (convert 23 9 (.slice (some ⟨wr.heap.size, 0, none⟩) 1 1)).run Try.prog (wr.alloc (.cells #[.int .u8 (97 + (y : Int))] 5)) = .ok (.string ⟨#[b8]⟩) (wr.alloc (.cells #[.int .u8 (97 + (y : Int))] 5)) := by
        rw [run_convert_bytes_string _ _ _ 5 _ _ _ Try.underlying23 Try.underlying5 Try.underlying9,
          run_bytesToString _ ⟨wr.heap.size, 0, none⟩ 1 1 [97 + (y : Int)] (run_loadCells_list _ _ _ (one_new wr 5 (.int .u8 (97 + (y : Int)))))]
        rw [hb8]
        have e : (97 + (y : Int)).toNat = 97 + y := by omega
        simp only [List.foldl_cons, List.foldl_nil, e]
        rfl
      rw [← hb8] at HTK
      have HE := Lib.hid (hext.alloc (.cells #[.int .u8 (97 + (y : Int))] 5))
      clear hb8 hext
      go_wp2_with fail
      go_roundw
      case rel => exact ⟨k + 1, by omega, by go_num, by rw [HTK.out]; exact congrArg Value.string (ByteArray.ext (by simp)), HE.out⟩
      case measure => simp [intOf]; omega
    · obtain rfl : k = n := by omega
      rw [List.take_of_length_le (by have := HN.out; omega)]
      go_wp2_with fail
      go_ret
      exact Ret.mk hext rfl
end Go.Proofs.Ytamkbboijblooaa

namespace Go.Proofs.Ytamkbboijblooaa
open Go.RowKit Go.Maps

/-- A key that is a string. -/
theorem key_str {key : Value} {kl : Lit} (h : keyOf Try.prog 9 key = some kl) : ∃ s, key = .string s := by
  rw [keyOf_string Try.underlying9] at h
  cases key <;> simp [mapKey, Try.underlying9] at h
  exact ⟨_, rfl⟩
theorem law_str : Keyed Try.prog 9 := string_keyed Try.underlying9

set_option maxRecDepth 20000 in
set_option maxHeartbeats 1600000 in
theorem even_any {H : Type} {w : World} {b n N c : Nat} {D : DataW H} (hown : w.ownsMap Try.prog 9 (plainElem Try.prog 3) b n D) (hval : ∀ kl (y : DataW H), (∀ zd, D.atKey kl zd = y) → y = .lit (.int .i64 (c : Int))) (hc : 0 < c) (hc2 : c ≤ 65536)
    (hsz : Maps.size D = 0 ∨ Maps.size D = N) (hN : N ≤ 1000) :
    Calls Try.prog 49 #[.map (some b), .int .i64 (N : Int)] w (Ret (fun x _ => x = .bool true) w) := by
  have HV := Lib.hid hval; have HO := Lib.hid hown; have HS := Lib.hid hsz
  clear hval hown hsz
  go_enter Try.func49, Try.ntmps49
  go_wp2_with (first
    | (at_range; refine wpList_range_own _ rfl _ 80 rfl 9 3 law_str Try.underlying80 _ b n _ rfl HO.out ?_; intro w0 hrg0 hg0 hs0))
  have HRG := Lib.hid hrg0
  have he0 : Ext w w0 := (Ext.refl w).grown hg0 (by simp)
  have HE0 := Lib.hid he0
  clear hrg0 hg0 hs0 he0
  go_frame
  go_loopw [5] (fun t wr => ∃ (left : Lit → Bool) (cnt : Nat), wr.ranges Try.prog 9 (plainElem Try.prog 3) b w.heap.size n D left cnt ∧ Hid (t = .int .i64 0 ∨ t = .int .i64 (c : Int)) ∧ Ext w wr) (fun _ wr => wr.rangeLeft b w.heap.size)
  case atStart => exact ⟨_, _, HRG.out, Lib.hid (.inl rfl), HE0.out⟩
  case round =>
    obtain ⟨left, cnt, hrg, HT, hext⟩ := hrel
    go_wp2_with (first
      | (at_next; refine wpList_next_ranges _ rfl _ rfl 9 law_str _ Value.string (Value.int .i64) (fun key kl hk => key_str hk) (fun v y hv => by obtain ⟨a, rfl, _⟩ := plainElem_int_inv Try.underlying3 hv; exact ⟨a, rfl⟩) b w.heap.size n _ _ _ rfl hrg ?_ ?_))
    · intro h0 hl0
      have hlen := fun ty => World.ownsMap.len hrg.owns Try.underlying80 ty
      clear hrg h0 hl0
      generalize Maps.size D = sz at *
      rcases HS.out with rfl | rfl
      · go_wp2_with fail
        go_ret
        exact Ret.mk hext rfl
      · by_cases hz : sz = 0
        · subst hz
          go_wp2_with fail
          go_ret
          exact Ret.mk hext rfl
        · have hzb : ((sz : Int) == 0) = false := by simp; omega
          go_wp2_with fail
          go_ret
          exact Ret.mk hext (by simp)
    · intro x cc kl y ps w1 cnt1 hkey hlk hv hat hrg1 hlt hgr hsz1 hen
      obtain ⟨a, ea, ey, _⟩ := plainElem_int_inv Try.underlying3 hv
      injection ea with _ ea
      subst ea
      have hcc : cc = (c : Int) := by
        have h1 := HV.out kl y hat
        injection ey with ey _
        rw [ey] at h1
        injection h1 with h1
        injection h1
      subst hcc
      have hext1 : Ext w w1 := hext.grown hgr (fun g hg => by injection hg with hg; omega)
      have hle1 := hrg.left_eq
      have hle2 := hrg1.left_eq
      have HRG1 := Lib.hid hrg1
      have HM := Lib.hid (show w1.rangeLeft b w.heap.size < wr.rangeLeft b w.heap.size by omega)
      clear hrg hrg1 hgr hkey hv hat hle1 hle2 ey hsz1 hlk hext hlt
      have hc0 : ((c : Int) == 0) = false := by simp; omega
      rcases HT.out with rfl | rfl
      · go_wp2_with fail
        go_roundw
        case rel => exact ⟨_, _, HRG1.out, Lib.hid (.inr rfl), hext1⟩
        case measure => exact HM.out
      · go_wp2_with fail
        go_roundw
        case rel => exact ⟨_, _, HRG1.out, Lib.hid (.inr rfl), hext1⟩
        case measure => exact HM.out
end Go.Proofs.Ytamkbboijblooaa
