/- Contract: the reference's Bits. -/
import Derived.Test.YtamkbboijblooaaSamF
namespace Go.Proofs.Ytamkbboijblooaa
open Go.RowKit

/-- The word for an int. -/
abbrev I64 (d : Nat) : Value := .int .i64 (d : Int)
/-- A slice of ints, none below 0. -/
def In (w : World) (v : Value) (xs : List Nat) : Prop := xs.length ≤ 17592186044416 ∧ Sl w v (xs.map I64)
theorem In.ext {w w' : World} {v : Value} {xs : List Nat} (h : In w v xs) (he : Ext w w') : In w' v xs := ⟨h.1, h.2.ext he⟩
theorem In.parts {w : World} {v : Value} {xs : List Nat} (h : In w v xs) : ∃ A c, v = .slice A xs.length c ∧ xs.length ≤ c ∧ ∀ i, i < xs.length → ∃ ad, A = some ad ∧ w.cell? (ad.add i) = some (.int .i64 ((xs.getD i 0 : Nat) : Int)) := by
  obtain ⟨hb, hs⟩ := h
  have hs' := hs
  obtain ⟨A, c, rfl, hc, _⟩ := hs
  rw [List.length_map] at hs' hc ⊢
  refine ⟨A, c, rfl, hc, fun i hi => ?_⟩
  rcases A with _ | ad
  · have : xs = [] := by simpa using Sl.none hs'
    subst this; simp at hi
  · exact ⟨ad, rfl, (Sl.cells hs' i (I64 xs[i]) (by simp [hi])).trans (by simp [List.getD, hi])⟩

theorem info_int : (Try.prog.info? 3).map (fun i => (i.zero, i.size, i.bytes)) = some (some (.int .i64 0), 1, 8) := by kernel_rfl
theorem oneCell_i64 (ds : List Nat) : ∀ u ∈ ds.map I64, u.oneCell' = true := by
  intro u hu
  obtain ⟨d, _, rfl⟩ := List.mem_map.1 hu
  rfl

/-- A new block of one cell. -/
theorem one_new (w : World) (t : TypeId) (x : Value) : ∀ j u, [x][j]? = some u → (w.alloc (.cells #[x] t)).cell? ((⟨w.heap.size, 0, none⟩ : Addr).add j) = some u := by
  intro j u hu
  cases j with
  | zero =>
    have := (Bk.new w t [x]).cell (i := 0) (by simp)
    simp at hu; subst hu
    rw [add_zero]; exact this
  | succ j => simp at hu

/-- The first k bits of bytes. -/
def bitsOf (bs : List Nat) (k : Nat) : List Nat := (List.range k).map (bitAt bs)
theorem bitsOf_succ (bs : List Nat) (k : Nat) : bitsOf bs (k + 1) = bitsOf bs k ++ [bitAt bs k] := by simp [bitsOf, List.range_succ]
theorem bitsOf_length (bs : List Nat) (k : Nat) : (bitsOf bs k).length = k := by simp [bitsOf]
theorem bitsOf_get (bs : List Nat) (k i : Nat) (h : i < k) : (bitsOf bs k).getD i 0 = bitAt bs i := by simp [bitsOf, List.getD, h]

set_option maxRecDepth 20000 in
set_option maxHeartbeats 1000000 in
theorem refBits {w : World} {v : Value} {bs : List Nat} (h : By w v bs) (hlen : bs.length ≤ 1000000) :
    Calls Try.prog 23 #[v] w (Ret (fun x w' => In w' x (bitsOf bs (8 * bs.length))) w) := by
  have H := Lib.hid h
  obtain ⟨A, c, rfl, hc⟩ := h.parts
  clear h
  generalize hn : bs.length = n at *
  have HN := Lib.hid hn; clear hn
  obtain ⟨i0, hi0, hz0, hz1, hz2⟩ := info_parts info_int
  go_enter Try.func23, Try.ntmps23
  go_wp2_with fail
  go_loopw [3, 4] (fun t q wr => ∃ (i : Nat), i ≤ n ∧ q = .int .i64 i ∧ wr.ownsRow w.heap.size 3 1 t (8 * i) ((bitsOf bs (8 * i)).map I64) ∧ Ext w wr) (fun _ q _ => n - (intOf q).toNat)
  case atStart => exact ⟨0, Nat.zero_le _, rfl, World.ownsRow_nil _ _ _ _, Ext.refl w⟩
  case round =>
    obtain ⟨i, hi, rfl, hown, hext⟩ := hrel
    obtain ⟨wo, rfl⟩ : ∃ wo : World, wo = wr := ⟨_, rfl⟩
    by_cases hlt : i < n
    · obtain ⟨ad, rfl, hcell⟩ := byte_cell H.out (i := i) (by have := HN.out; omega)
      have hbd : bs.getD i 0 < 256 := by
        have : i < bs.length := by have := HN.out; omega
        simp [List.getD, this]; exact H.out.1 _ (List.getElem_mem this)
      generalize hB : bs.getD i 0 = b at *
      have HB := Lib.hid hB; clear hB
      have HOWN := Lib.hid hown; clear hown
      go_wp2_with fail
      go_loopw [3, 5] (fun t q wr => ∃ (k : Nat), k ≤ 8 ∧ q = .int .i64 k ∧ wr.ownsRow w.heap.size 3 1 t (8 * i + k) ((bitsOf bs (8 * i + k)).map I64) ∧ Ext w wr) (fun _ q _ => 8 - (intOf q).toNat)
      case atStart => exact ⟨0, Nat.zero_le _, rfl, HOWN.out, hext⟩
      case round =>
        obtain ⟨k, hk, rfl, hown, hext2⟩ := hrel
        have hcell2 := hext2.cell hcell
        by_cases hk8 : k < 8
        · go_wp2_with (first | (at_builtin; refine wpList_append_own _ rfl _ _ 38 rfl w.heap.size 3 i0 (.int .i64 0) 1 8 Try.underlying38 hi0 hz0 hz1 hz2 rfl (by decide) _ _ _ rfl (hown.alloc _) ⟨wr.heap.size, 0, none⟩ 1 1 [.int .i64 ((b : Int) / 2 ^ k % 2)] rfl rfl ?c1 ?c2 ?c3 ?c4 ?c5 ?_))
          case c1 =>
            exact one_new wr _ _
          case c2 => simp [Value.oneCell']
          case c3 => simp only [maxLen]; omega
          case c4 => omega
          case c5 => exact Nat.le_trans hext2.size (by simp)
          intro v' w' hown' hgr _
          have hbit : ((b : Int) / 2 ^ k % 2) = ((bitAt bs (8 * i + k) : Nat) : Int) := by
            unfold bitAt
            rw [show (8 * i + k) / 8 = i by omega, show (8 * i + k) % 8 = k by omega, HB.out]
            simp
          have hown2 : w'.ownsRow w.heap.size 3 1 v' (8 * i + (k + 1)) ((bitsOf bs (8 * i + (k + 1))).map I64) := by
            rw [← Nat.add_assoc, bitsOf_succ, List.map_append, List.map_cons, List.map_nil, I64, ← hbit]; exact hown'
          have he' : Ext w w' := (hext2.alloc _).grown hgr (fun g hg => (hown.lt g hg).1)
          clear hown hown' hgr hext2 hbit
          go_wp2_with fail
          go_roundw
          case rel => exact ⟨k + 1, by omega, by go_num, hown2, he'⟩
          case measure => simp [intOf]; omega
        · have hk2 : k = 8 := by omega
          subst hk2
          go_wp2_with fail
          go_roundw
          case rel => exact ⟨i + 1, by omega, by go_num, by rw [show 8 * (i + 1) = 8 * i + 8 by omega]; exact hown, hext2⟩
          case measure => simp [intOf]; omega
    · have hi2 : i = n := by omega
      subst hi2
      go_wp2_with fail
      go_ret
      exact Ret.mk hext ⟨by rw [bitsOf_length]; omega, Sl.of_own hown⟩
end Go.Proofs.Ytamkbboijblooaa
