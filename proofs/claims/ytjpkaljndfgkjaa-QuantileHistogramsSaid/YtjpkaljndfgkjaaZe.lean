/- The cuts of the reference. -/
import Derived.Test.YtjpkaljndfgkjaaGs
import Derived.Deep.AppendLies
import Derived.Deep.DrawnRows
namespace Go.Proofs.Ytjpkaljndfgkjaa
open Go.RowKit Go.Maps

/-- How many of the first i positions fall to part j. -/
def cnt (p i j : Nat) : Nat := i / p + if j < i % p then 1 else 0
theorem cnt_zero (p j : Nat) : cnt p 0 j = 0 := by simp [cnt]
theorem cnt_succ {p i j : Nat} (hp : 0 < p) (hj : j < p) : cnt p (i + 1) j = cnt p i j + if j = i % p then 1 else 0 := by
  have h1 := Nat.div_add_mod i p
  have h2 := Nat.mod_lt i hp
  by_cases h : i % p + 1 < p
  · have e1 : (i + 1) / p = i / p := by
      rw [Nat.div_eq_iff hp]
      rw [Nat.mul_comm] at h1
      constructor <;> omega
    have e2 : (i + 1) % p = i % p + 1 := by rw [Nat.add_mod, Nat.mod_eq_of_lt (a := 1) (by omega), Nat.mod_eq_of_lt h]
    simp only [cnt, e1, e2]
    split <;> split <;> split <;> omega
  · have h3 : i % p + 1 = p := by omega
    have h4 : i + 1 = p * (i / p + 1) := by rw [Nat.mul_add]; omega
    have e1 : (i + 1) / p = i / p + 1 := by rw [h4, Nat.mul_div_cancel_left _ hp]
    have e2 : (i + 1) % p = 0 := by rw [h4]; exact Nat.mul_mod_right _ _
    simp only [cnt, e1, e2]
    split <;> split <;> split <;> omega
theorem cnt_le (p i j : Nat) : cnt p i j ≤ i + 1 := by
  have := Nat.div_le_self i p
  unfold cnt; split <;> omega
theorem cutAt_succ (n p i : Nat) : cutAt n p (i + 1) = cutAt n p i + cnt p n i := by
  unfold cutAt cnt
  rw [Nat.add_mul]
  split <;> omega
theorem cutAt_zero (n p : Nat) : cutAt n p 0 = 0 := by simp [cutAt]
theorem cutAt_le {n p i : Nat} (hp : 0 < p) (h : i ≤ p) : cutAt n p i ≤ n := by
  have h1 : i * (n / p) ≤ p * (n / p) := Nat.mul_le_mul_right _ h
  have h2 := Nat.div_add_mod n p
  unfold cutAt
  by_cases e : i = p
  · subst e; omega
  · have h3 : i + 1 ≤ p := by omega
    omega
def cnts (p i : Nat) : List Value := (List.range p).map fun j => I64 (cnt p i j)
theorem cnts_length (p i : Nat) : (cnts p i).length = p := by simp [cnts]
theorem cnts_zero (p : Nat) : cnts p 0 = List.replicate p (.int .i64 0) := by
  refine List.ext_getElem (by simp [cnts]) (fun j h1 h2 => ?_)
  simp [cnts, cnt_zero]
theorem cnts_get {p i j : Nat} (hj : j < p) : (cnts p i)[j]'(by rw [cnts_length]; exact hj) = I64 (cnt p i j) := by simp [cnts]
theorem cnts_succ {p i : Nat} (hp : 0 < p) : (cnts p i).set (i % p) (I64 (cnt p i (i % p) + 1)) = cnts p (i + 1) := by
  refine List.ext_getElem (by simp [cnts]) (fun j h1 h2 => ?_)
  have hj : j < p := by rw [cnts_length] at h2; exact h2
  rw [cnts_get hj, List.getElem_set, cnt_succ hp hj]
  by_cases e : i % p = j
  · subst e; simp
  · rw [if_neg e, cnts_get hj, if_neg (fun h => e h.symm)]; rfl
/-- The first k boundaries. -/
def cuts (n p k : Nat) : List Nat := (List.range k).map (cutAt n p)
theorem cuts_length (n p k : Nat) : (cuts n p k).length = k := by simp [cuts]
theorem cuts_succ (n p k : Nat) : cuts n p (k + 1) = cuts n p k ++ [cutAt n p k] := by simp [cuts, List.range_succ]
theorem cuts_get {n p k i : Nat} (h : i < k) : (cuts n p k).getD i 0 = cutAt n p i := by simp [cuts, List.getD, h]
set_option maxRecDepth 20000 in
set_option maxHeartbeats 1600000 in
theorem refCuts {w : World} {n p : Nat} (hn : n < 65536) (h0 : 0 < p) (hp : p ≤ 1024) :
    Calls Try.prog 25 #[.int .i64 (n : Int), .int .i64 (p : Int)] w (Ret (fun x w' => In w' x (cuts n p (p + 1))) w) := by
  have hmk := make_row (P := Try.prog) 66 3 (.int .i64 0) 8 Try.underlying66 info_int rfl p (by omega) (by omega)
  obtain ⟨i0, hi0, hz0, hz1, hz2⟩ := info_parts info_int
  have HI := Lib.hid (And.intro hi0 (And.intro hz0 (And.intro hz1 hz2))); clear hi0 hz0 hz1 hz2
  have hp1 : (0 : Int) < (p : Int) := by omega
  go_enter Try.func25, Try.ntmps25
  go_wp2_with fail
  have hb0 : Bk (w.alloc (.cells (List.replicate p (.int .i64 0)).toArray 3)) w.heap.size 3 (cnts p 0) := by rw [cnts_zero]; exact Bk.new w _ _
  have he0 : Ext w (w.alloc (.cells (List.replicate p (.int .i64 0)).toArray 3)) := (Ext.refl w).alloc _
  have HB := Lib.hid hb0; have HE := Lib.hid he0; clear hb0 he0 hmk
  go_loopw [6] (fun q wr => ∃ (i : Nat), i ≤ n ∧ q = .int .i64 i ∧ Bk wr w.heap.size 3 (cnts p i) ∧ Ext w wr) (fun q _ => n - (intOf q).toNat)
  case atStart => exact ⟨0, Nat.zero_le _, rfl, HB.out, HE.out⟩
  case round =>
    obtain ⟨i, hi, rfl, hb, hext⟩ := hrel
    by_cases hlt : i < n
    · obtain ⟨r, hr⟩ : ∃ r, r = i % p := ⟨_, rfl⟩
      have hrp : r < p := by rw [hr]; exact Nat.mod_lt _ h0
      have hmod : (i : Int) % (p : Int) = (r : Int) := by rw [hr]; rfl
      have hcell : wr.cell? ⟨w.heap.size, r, none⟩ = some (.int .i64 (cnt p i r : Nat)) := by
        have h := hb.cell (i := r) (by rw [cnts_length]; exact hrp)
        rw [cnts_get hrp] at h; exact h
      have hfree := hb.free r
      have hcl := cnt_le p i r
      have hb2 := Lib.hid (hb.set r (.int .i64 ((cnt p i r + 1 : Nat) : Int)))
      have hs := Lib.hid (cnts_succ (i := i) h0)
      have hr' := Lib.hid hr
      clear hr hb
      generalize hc : cnt p i r = cc at *
      have HC := Lib.hid hc
      clear hc
      go_wp2_with fail
      go_roundw
      case rel =>
        refine ⟨i + 1, by omega, by go_num, ?_, hext.setCell (by simp) _⟩
        have h := hb2.out
        rw [← hs.out, ← hr'.out, HC.out]; exact h
      case measure => simp [intOf]; omega
    · obtain rfl : i = n := by omega
      have hb0 : Bk (wr.alloc (.cells #[.int .i64 0] 3)) w.heap.size 3 (cnts p i) := hb.alloc _
      have he0 := hext.alloc (.cells #[.int .i64 0] 3)
      have ho : Row (wr.alloc (.cells #[.int .i64 0] 3)) wr.heap.size 3 (.int .i64 0) (.slice (some ⟨wr.heap.size, 0, none⟩) 1 1) ((cuts i p (0 + 1)).map I64) := by
        have h1 : (cuts i p (0 + 1)).map I64 = [.int .i64 0] := by simp [cuts, cutAt_zero, List.range_succ]
        rw [h1]
        exact .inr ⟨wr.heap.size, 0, rfl, Nat.le_refl _, Bk.new wr _ [.int .i64 0], by simp [maxLen]⟩
      have HB2 := Lib.hid hb0; have HE2 := Lib.hid he0; have HO := Lib.hid ho
      have hltg := hb.lt
      clear hb0 he0 ho hb hext HB HE
      go_wp2_with fail
      obtain ⟨w0, rfl⟩ : ∃ w0 : World, w0 = wr := ⟨_, rfl⟩
      go_loopw [7, 8] (fun t q wr => ∃ (k : Nat), k ≤ p ∧ q = .int .i64 k ∧ Row wr w0.heap.size 3 (.int .i64 0) t ((cuts i p (k + 1)).map I64) ∧ Bk wr w.heap.size 3 (cnts p i) ∧ w0.heap.size ≤ wr.heap.size ∧ Ext w wr) (fun _ q _ => p - (intOf q).toNat)
      case atStart => exact ⟨0, Nat.zero_le _, rfl, HO.out, HB2.out, ((Ext.refl w0).alloc _).size, HE2.out⟩
      case round =>
        obtain ⟨k, hk, rfl, hrow, hb, hBs, hext⟩ := hrel
        by_cases hlt2 : k < p
        · have hlen : ((cuts i p (k + 1)).map I64).length = k + 1 := by simp [cuts]
          have hsl := hrow.sl
          have hblk := Lib.hid hrow.block
          obtain ⟨g, r, hv⟩ : ∃ g r, u7 = .slice (some ⟨g, 0, none⟩) (k + 1) (k + 1 + r) := by
            rcases hrow with ⟨_, h⟩ | ⟨g, r, h, _⟩
            · rw [h] at hlen; simp at hlen
            · rw [hlen] at h; exact ⟨g, r, h⟩
          subst hv
          have hg0 : w0.heap.size ≤ g := hblk.out g rfl
          have hcs := cutAt_succ i p k
          have hcl := cutAt_le (n := i) h0 (show k + 1 ≤ p by omega)
          have hc1 : wr.cell? ⟨g, k, none⟩ = some (.int .i64 (cutAt i p k : Nat)) := by
            have h := Sl.cells hsl k (I64 (cutAt i p k)) (by simp [cuts])
            rw [add0] at h; exact h
          have hc2 : wr.cell? ⟨w.heap.size, k, none⟩ = some (.int .i64 (cnt p i k : Nat)) := by
            have h := hb.cell (i := k) (by rw [cnts_length]; exact hlt2)
            rw [cnts_get hlt2] at h; exact h
          have hnew := cuts_succ i p (k + 1)
          have hgl : g < wr.heap.size := cell_lt hc1
          clear hsl
          generalize cutAt i p k = ca at *
          generalize cnt p i k = cb at *
          generalize cutAt i p (k + 1) = cc at *
          have hsum : IntKind.i64.wrap ((ca : Int) + (cb : Int)) = (cc : Int) := by rw [IntWalk.i64_in _ (by omega)]; omega
          have HR := Lib.hid hrow; have HBB := Lib.hid hb; have HL := Lib.hid hlen; have HN := Lib.hid hnew
          have i1 : (0 : Int) ≤ (k : Int) := by omega
          have i2 : (k : Int) < (k : Int) + 1 := by omega
          have i3 : (k : Int) < (p : Int) := by omega
          have i4 : (k : Int) < ((k + 1 : Nat) : Int) := by omega
          clear hrow hb hlen hnew hcs hblk
          go_upto_region 10 with fail
          go_region_held3 (fun V => V.cell? ⟨g, k, none⟩ = some (.int .i64 (ca : Int)) ∧ V.cell? ⟨w.heap.size, k, none⟩ = some (.int .i64 (cb : Int)))
            (first
              | go_keep
              | (go_split_ands
                 refine ⟨?_, ?_⟩
                 · (rw [hstay g k rfl (by rw [HL.out]; omega)]; assumption)
                 · (rw [hgrow.cell_far _ (by simp; omega) (by simp [Value.ownBlock]; omega)]; assumption)))
            ((refine step_append_row (by rfl) _ _ _ (by rfl) w0.heap.size 3 i0 (.int .i64 0) 8 Try.underlying66 HI.out.1 HI.out.2.1 HI.out.2.2.1 HI.out.2.2.2 rfl (.slice (some ⟨g, 0, none⟩) (k + 1) (k + 1 + r)) ((cuts i p (k + 1)).map I64) (by rfl) ((HR.out.ext ((Ext.refl _).alloc _)).ext (Ext.refl _).drew) ⟨wr.heap.size, 0, none⟩ 1 (.int .i64 (cc : Int)) (by rfl) (one_new wr _ _ 0 _ rfl) rfl (by rw [HL.out]; simp only [maxLen]; omega) (by rw [HL.out]; omega) (by simp; omega) ?_; intro v' w1 hrow1 hgrow hstay))
          have hrow2 : Row w1 w0.heap.size 3 (.int .i64 0) v' ((cuts i p (k + 1 + 1)).map I64) := by rw [HN.out, List.map_append]; exact hrow1
          have hb2 : Bk w1 w.heap.size 3 (cnts p i) := Mod.bk (g := g) hgrow ((HBB.out.alloc _).drew) (by omega)
          have he2 : Ext w w1 := ((hext.alloc _).drew).mod (g := g) hgrow (by have := hext.size; omega)
          have hs2 : w0.heap.size ≤ w1.heap.size := by
            have := World.grownBy.size hgrow
            simp at this; omega
          clear hrow1 hgrow hstay hc1 hc2 hsum HR HBB HL HN i1 i2 i3 i4
          go_wp2_with fail
          go_roundw
          case rel => exact ⟨k + 1, by omega, by go_num, hrow2, hb2, hs2, he2⟩
          case measure => simp [intOf]; omega
        · obtain rfl : k = p := by omega
          go_wp2_with fail
          go_ret
          exact Ret.mk hext ⟨by rw [cuts_length]; omega, hrow.sl⟩
end Go.Proofs.Ytjpkaljndfgkjaa
