/- Contracts: slices.Clone at Nat, nat.Norm, nat.Bits. -/
import Derived.Test.YtjpkaljndfgkjaaNatD
import Derived.Test.YtjpkaljndfgkjaaShelf
import Derived.Lib.ItoaNum
namespace Go.Proofs.Ytjpkaljndfgkjaa
open Go.RowKit

theorem Sl.of_own {w : World} {base : Nat} {e : TypeId} {v : Value} {n : Nat} {xs : List Value} (h : w.ownsRow base e 1 v n xs) : Sl w v xs := by
  have hl : xs.length = n := by simpa using h.1
  rcases h.2 with ⟨rfl, rfl⟩ | ⟨g, cap, cur, rfl, _, _, hnc, _⟩
  · have : xs = [] := List.eq_nil_of_length_eq_zero hl
    subst this
    exact ⟨none, 0, rfl, Nat.le_refl _, fun h => by simp at h⟩
  · subst hl
    refine ⟨some ⟨g, 0, none⟩, cap, rfl, hnc, fun h0 => ⟨_, rfl, fun i hi => ?_⟩⟩
    exact h.cells (g := g) rfl i _ (List.getElem?_eq_getElem hi)

/-- A slice of words that the call itself owns from block 'base' on. -/
theorem Dg.of_own {w : World} {base : Nat} {e : TypeId} {v : Value} {n : Nat} {ds : List Nat} (h : w.ownsRow base e 1 v n (ds.map U32)) (hl : Low ds) (hb : ds.length ≤ 35184372088832) : Dg w v ds := ⟨hl, hb, Sl.of_own h⟩

/-- What a slice's cells hold, by the slice's address. -/
theorem Sl.cells {w : World} {ad : Addr} {n cap : Nat} {xs : List Value} (h : Sl w (.slice (some ad) n cap) xs) : ∀ j u, xs[j]? = some u → w.cell? (ad.add j) = some u := by
  obtain ⟨A, c, e, _, hx⟩ := h
  intro j u hu
  have hj : j < xs.length := by
    rcases Nat.lt_or_ge j xs.length with e | e
    · exact e
    · rw [List.getElem?_eq_none e] at hu; cases hu
  obtain ⟨ad', rfl, hcell⟩ := hx (by omega)
  injection e with e
  injection e with e
  subst e
  rw [hcell j hj, ← hu, List.getElem?_eq_getElem hj]
theorem Sl.none {w : World} {n cap : Nat} {xs : List Value} (h : Sl w (.slice none n cap) xs) : xs = [] := by
  obtain ⟨A, c, e, _, hx⟩ := h
  rcases Nat.eq_zero_or_pos xs.length with e0 | e0
  · exact List.eq_nil_of_length_eq_zero e0
  · obtain ⟨ad', rfl, _⟩ := hx e0
    injection e with e
    cases e
theorem ret_int {k : IntKind} {a b : Int} (h : a = b) : Ending.returned (.int k a) = .returned (.int k b) := by rw [h]

theorem oneCell_u32 (ds : List Nat) : ∀ u ∈ ds.map U32, u.oneCell' = true := by
  intro u hu
  obtain ⟨d, _, rfl⟩ := List.mem_map.1 hu
  rfl

theorem Ext.grown {a w w' : World} {row : Option Nat} (h : Ext a w) (hg : w.grownBy w' row) (hr : ∀ k, row = some k → a.heap.size ≤ k) : Ext a w' := Below.grown h hg h.size hr

set_option maxHeartbeats 400000 in
/-- slices.Clone at Nat: the same digits in memory of the call's own (nil: nil). -/
theorem clone32 {w : World} {v : Value} {ds : List Nat} (h : Dg w v ds) :
    Calls Try.prog 72 #[v] w (Ret (fun x w' => Dg w' x ds ∧ ∃ n, w'.ownsRow w.heap.size 105 1 x n (ds.map U32)) w) := by
  have HS0 := h.2.2
  obtain ⟨hl, hb, A, cap, rfl, hc, -⟩ := h
  have HL := Lib.hid hl; have HS := Lib.hid HS0; clear hl HS0
  have hlen : (ds.map U32).length = ds.length := by simp
  rw [hlen] at HS hc ⊢
  clear hlen
  generalize hn : ds.length = n at *
  have HN := Lib.hid hn; clear hn
  obtain ⟨i0, hi0, hz0, hz1, hz2⟩ := info_parts info_u32
  have heq := fun W => Lib.run_eql_slice_nil (P := Try.prog) W 38 105 A n cap 0 0 Try.underlying38
  rcases A with _ | ad
  · have hd : ds = [] := by simpa using Sl.none HS.out
    subst hd
    obtain rfl : n = 0 := HN.out.symm
    go_enter Try.func72, Try.ntmps72
    go_wp2_with fail
    go_ret
    exact Ret.mk (Ext.refl w) ⟨Nz.nil w, 0, World.ownsRow_nil _ _ _ _⟩
  · have hcells := Sl.cells HS.out
    have HC := Lib.hid hcells; clear hcells
    go_enter Try.func72, Try.ntmps72
    go_wp2_with (first | (at_builtin; refine wpList_append_own _ rfl _ _ 38 rfl w.heap.size 105 i0 (.int .u32 0) 1 4 Try.underlying38 hi0 hz0 hz1 hz2 rfl (by decide) _ _ [] rfl (World.ownsRow_made _ _ _ (Nat.le_refl _) (by decide) rfl) ad n cap (ds.map U32) rfl ?c1 ?c2 ?c3 ?c4 ?c5 ?c6 ?_))
    case c1 => simpa using HN.out
    case c2 =>
      exact fun j u hu => ((Ext.refl w).alloc _).cell (HC.out j u hu)
    case c3 => exact oneCell_u32 ds
    case c4 => simp only [maxLen]; omega
    case c5 => omega
    case c6 => exact ((Ext.refl w).alloc _).size
    intro v' w' hown hgr hne
    have he : Ext w w' := ((Ext.refl w).alloc _).grown hgr (by intro k hk; simp [Value.ownBlock] at hk; omega)
    have hd := Dg.of_own hown HL.out (by have := HN.out; omega)
    clear hgr hne heq
    go_wp2_with fail
    go_ret
    exact Ret.mk he ⟨hd, n, hown⟩

theorem norm_nv {w : World} {v : Value} {n : Nat} (h : Nv w v n) :
    Calls Try.prog 57 #[v] w (Ret (fun x w' => Nz w' x n) w) := by
  go_enter Try.func57, Try.ntmps57
  go_wp2_with fail
  refine (trim_nv h).mono ?_
  rintro e w' ⟨X, rfl, hX, rfl⟩
  go_wp2_with fail
  refine (clone32 hX).mono ?_
  rintro e w' ⟨v', rfl, he, hd, -⟩
  go_wp2_with fail
  go_ret
  exact Ret.mk he hd

/-- The length of a number in bits. -/
def blen (n : Nat) : Nat := if n = 0 then 0 else Nat.log2 n + 1

theorem bitLen_eq (x : Nat) (h : x < 4294967296) : Lib.bitLen x = blen x := by
  unfold blen
  split
  · rename_i e; subst e; rfl
  · rename_i e
    have h1 := Lib.bitLenAux_bounds 64 x (by omega) e
    have h2 : Lib.bitLen x = Lib.bitLenAux 64 x := rfl
    rw [h2]
    obtain ⟨h3, h4, h5⟩ := h1
    have h6 : Nat.log2 x = Lib.bitLenAux 64 x - 1 := by
      rw [Nat.log2_eq_iff e]
      exact ⟨h4, by rwa [show Lib.bitLenAux 64 x - 1 + 1 = Lib.bitLenAux 64 x by omega]⟩
    omega

theorem blen_top (ds : List Nat) (hl : Low ds) (ht : Top ds) (h0 : 0 < ds.length) : blen (val ds) = 32 * (ds.length - 1) + blen (ds.getD (ds.length - 1) 0) := by
  have hne : ds ≠ [] := fun e => by simp [e] at h0
  obtain ⟨l, d, rfl⟩ : ∃ l d, ds = l ++ [d] := ⟨ds.dropLast, ds.getLast hne, (List.dropLast_concat_getLast hne).symm⟩
  have hd : d ≠ 0 := ht d (by simp)
  have e1 : (l ++ [d]).getD ((l ++ [d]).length - 1) 0 = d := by simp [List.getD]
  rw [e1, val_snoc]
  have hll : val l < 4294967296 ^ l.length := val_lt (fun x hx => hl x (by simp [hx]))
  have hp : 4294967296 ^ l.length = 2 ^ (32 * l.length) := by rw [Nat.pow_mul]
  rw [hp] at hll ⊢
  have hv : val l + 2 ^ (32 * l.length) * d ≠ 0 := by
    have : 0 < 2 ^ (32 * l.length) * d := Nat.mul_pos (Nat.pow_pos (by omega)) (by omega)
    omega
  unfold blen
  rw [if_neg hv, if_neg hd]
  have h7 : Nat.log2 (val l + 2 ^ (32 * l.length) * d) = 32 * l.length + Nat.log2 d := by
    rw [Nat.log2_eq_iff hv]
    have h8 : 2 ^ Nat.log2 d ≤ d := Nat.log2_self_le hd
    have h9 : d < 2 ^ (Nat.log2 d + 1) := Nat.lt_log2_self
    constructor
    · rw [Nat.pow_add]
      have := Nat.mul_le_mul_left (2 ^ (32 * l.length)) h8
      omega
    · rw [Nat.add_assoc, Nat.pow_add]
      have := Nat.mul_le_mul_left (2 ^ (32 * l.length)) (Nat.succ_le_of_lt h9)
      rw [Nat.mul_succ] at this
      omega
  rw [h7]
  simp; omega

theorem blen_half {m : Nat} (h : 0 < m) : blen m = blen (m / 2) + 1 := by
  unfold blen
  rw [if_neg (by omega)]
  by_cases h2 : m / 2 = 0
  · have : m = 1 := by omega
    subst this; rfl
  · rw [if_neg h2]
    have : Nat.log2 m = Nat.log2 (m / 2) + 1 := by
      rw [Nat.log2_eq_iff (by omega)]
      have h3 := Nat.log2_self_le h2
      have h4 : m / 2 < 2 ^ (Nat.log2 (m / 2) + 1) := Nat.lt_log2_self
      have h5 : 2 ^ (Nat.log2 (m / 2) + 1) = 2 ^ Nat.log2 (m / 2) * 2 := Nat.pow_succ _ _
      have h6 : 2 ^ (Nat.log2 (m / 2) + 1 + 1) = 2 ^ (Nat.log2 (m / 2) + 1) * 2 := Nat.pow_succ _ _
      omega
    omega
theorem lt_two_pow_blen (m : Nat) : m < 2 ^ blen m := by
  unfold blen; split
  · omega
  · exact Nat.lt_log2_self
theorem two_pow_blen_le {m : Nat} (h : 0 < m) : 2 ^ (blen m - 1) ≤ m := by
  unfold blen; rw [if_neg (by omega)]; exact Nat.log2_self_le (by omega)

set_option maxHeartbeats 400000 in
theorem bits_nv {w : World} {v : Value} {n : Nat} (h : Nv w v n) (hb : (dig n).length ≤ 1000000) :
    Calls Try.prog 23 #[v] w fun e w' => e = .returned (.int .i64 (blen n : Nat)) ∧ Qt w w' := by
  go_enter Try.func23, Try.ntmps23
  go_wp2_with fail
  refine (trim_nv h).mono ?_
  rintro e w' ⟨X, rfl, hX, rfl⟩
  clear h
  obtain ⟨X, k, c, eX, hk, -, -, hlx, hX⟩ := Dg.parts hX
  injection eX with e1 e2 e3
  subst e1; subst e3; clear e2
  rw [← hk] at hb ⊢
  have HK := Lib.hid hk; clear hk
  have HX := Lib.hid hX; clear hX
  by_cases h0 : k = 0
  · subst h0
    have hn : n = 0 := dig_eq_nil.1 (List.eq_nil_of_length_eq_zero HK.out.symm)
    subst hn
    go_wp2_with fail
    go_ret
    exact ⟨rfl, Qt.refl _⟩
  · have hb0 : ((k : Int) == 0) = false := by simp; omega
    obtain ⟨ad, rfl, hcell⟩ := HX.out (k - 1) (by omega)
    have hd := hlx.getD (k - 1)
    have hbl := blen_top (dig n) (low_dig n) (top_dig n) (by have := HK.out; omega)
    rw [← HK.out, val_dig] at hbl
    generalize hD : (dig n).getD (k - 1) 0 = d at *
    have HBL := Lib.hid hbl; have HD := Lib.hid hD; clear hbl hD
    have hi0 : (0 : Int) ≤ (k : Int) - 1 := by omega
    have hi1 : (k : Int) - 1 < (k : Int) := by omega
    have hi2 : ((k : Int) - 1).toNat = k - 1 := by omega
    go_wp2_with fail
    refine (Try.bits_Len32 _ _ (by omega) (by omega)).mono ?_
    rintro e w' ⟨rfl, rfl⟩
    have hbl : Lib.bitLen (d : Int).toNat = blen d := by rw [Int.toNat_natCast, bitLen_eq d hd]
    have hbd : blen d ≤ 32 := by rw [← bitLen_eq d hd]; exact Lib.bitLen_le d 32 (by omega) (by omega)
    rw [hbl]
    clear hbl
    go_wp2_with fail
    go_ret
    refine ⟨?_, Qt.refl _⟩
    have := HBL.out
    rw [this]
    exact ret_int (by omega)
end Go.Proofs.Ytjpkaljndfgkjaa
