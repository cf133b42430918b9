/- Contracts: sample.Permutation out of range; the reference's Permutation. -/
import Derived.Test.YtamkbboijblooaaPermA
import Derived.Test.YtamkbboijblooaaRowB
import Derived.Test.YtamkbboijblooaaShelf
namespace Go.Proofs.Ytamkbboijblooaa
open Go.RowKit

set_option maxHeartbeats 800000 in
theorem permutation_err {w : World} {t : Value} {m pos : Int} {bs : List Nat} (hm : Hid (m < 0 ∨ 4096 < m)) (ht : Tp w t bs pos) :
    Calls Try.prog 31 #[.int .i64 m, t] w fun e w' => e = .returned (.tuple #[.slice none 0 0, .agg #[.slice none 0 0, .int .i64 0], .int .i64 3]) ∧ Ext w w' := by
  obtain ⟨s, rfl, hs⟩ := ht
  obtain ⟨A, c, rfl, hc⟩ := hs.parts
  have hx : Ext w (((w.alloc (.cells #[.slice A bs.length c, .int .i64 pos] 25)).alloc (.cells #[.slice none 0 0, .int .i64 0] 25))) := ((Ext.refl w).alloc _).alloc _
  have HX := Lib.hid hx
  clear hx hs hc
  by_cases h : m < 0
  · have hd : decide (m < 0) = true := by simp; omega
    clear h
    go_enter Try.func31, Try.ntmps31
    go_wp2_with fail
    refine bodyPost_ret (v := .tuple #[.slice none 0 0, .agg #[.slice none 0 0, .int .i64 0], .int .i64 3]) ?_ rfl ⟨rfl, HX.out⟩
    simp [results, Try.results31, go_sem]
  · have hd : decide (m < 0) = false := by simp; omega
    have hd2 : decide (4096 < m) = true := by have := hm.out; simp; omega
    clear h
    go_enter Try.func31, Try.ntmps31
    go_wp2_with fail
    refine bodyPost_ret (v := .tuple #[.slice none 0 0, .agg #[.slice none 0 0, .int .i64 0], .int .i64 3]) ?_ rfl ⟨rfl, HX.out⟩
    simp [results, Try.results31, go_sem]

/-- What the reference's Permutation leaves. -/
def RPermPost (w : World) (R : Option (List Nat × Nat)) (e : Ending) (w' : World) : Prop :=
  Ext w w' ∧ match R with
    | none => e = .returned (.tuple #[.slice none 0 0, .int .i64 (-1)])
    | some (l, p) => ∃ A c, e = .returned (.tuple #[.slice A l.length c, .int .i64 (p : Int)]) ∧ (l.length = 0 ∨ ∃ g, A = some ⟨g, 0, none⟩) ∧ In w' (.slice A l.length c) l

theorem Row.set {w : World} {base g n c i : Nat} {t : TypeId} {z u : Value} {xs : List Value} (h : Row w base t z (.slice (some ⟨g, 0, none⟩) n c) xs) : Row (w.setCell ⟨g, i, none⟩ u) base t z (.slice (some ⟨g, 0, none⟩) n c) (if i < xs.length then xs.set i u else xs) ∨ ¬ i < xs.length := by
  by_cases hi : i < xs.length
  · left
    rw [if_pos hi]
    rcases h with ⟨e, _⟩ | ⟨g', r, e, h2, h3, h4⟩
    · cases e
    · injection e with e1 e2 e3
      injection e1 with e1
      injection e1 with e1 _ _
      subst e1 e2 e3
      have hb := h3.set i u
      rw [List.set_append_left _ _ hi] at hb
      exact .inr ⟨g, r, by simp, h2, hb, by simpa using h4⟩
  · right; exact hi
theorem Row.put {w : World} {base g n c i : Nat} {t : TypeId} {z u : Value} {xs : List Value} (h : Row w base t z (.slice (some ⟨g, 0, none⟩) n c) xs) (hi : i < xs.length) : Row (w.setCell ⟨g, i, none⟩ u) base t z (.slice (some ⟨g, 0, none⟩) n c) (xs.set i u) := by
  rcases h.set (i := i) (u := u) with h | h
  · rw [if_pos hi] at h; exact h
  · exact absurd hi h
theorem Row.at {w : World} {base g n c i : Nat} {t : TypeId} {z : Value} {xs : List Value} (h : Row w base t z (.slice (some ⟨g, 0, none⟩) n c) xs) (hi : i < xs.length) : w.cell? ⟨g, i, none⟩ = some (xs.getD i undef) ∧ w.frozen? ⟨g, i, none⟩ = false := by
  rcases h with ⟨e, _⟩ | ⟨g', r, e, h2, h3, h4⟩
  · cases e
  · injection e with e1 e2 e3
    injection e1 with e1
    injection e1 with e1 _ _
    subst e1
    refine ⟨?_, h3.free i⟩
    rw [h3.cell (i := i) (by simp; omega)]
    simp [List.getD, hi, List.getElem_append_left hi]
theorem Row.form {w : World} {base : Nat} {t : TypeId} {z v : Value} {xs : List Value} (h : Row w base t z v xs) (h0 : 0 < xs.length) : ∃ g c, v = .slice (some ⟨g, 0, none⟩) xs.length c ∧ base ≤ g := by
  rcases h with ⟨_, e⟩ | ⟨g, r, e, h2, h3, h4⟩
  · subst e; simp at h0
  · exact ⟨g, _, e, h2⟩

set_option maxRecDepth 20000 in
set_option maxHeartbeats 3200000 in
theorem refPermutation {w : World} {v : Value} {bs : List Nat} {m L pos : Nat} (h : In w v (bitsOf bs L)) (hm : m ≤ 100) (hp : pos ≤ L) (_hL : L ≤ 480) :
    Calls Try.prog 32 #[.int .i64 (m : Int), v, .int .i64 (pos : Int)] w (RPermPost w (perm (bitAt bs) L (m - 1) (List.range m) pos)) := by
  obtain ⟨R, hR⟩ : ∃ R, perm (bitAt bs) L (m - 1) (List.range m) pos = R := ⟨_, rfl⟩
  rw [hR]
  have HR := Lib.hid hR
  obtain ⟨n, hn⟩ : ∃ n, n = m - 1 := ⟨_, rfl⟩
  obtain ⟨z0, hnI⟩ : ∃ z0 : Int, (m : Int) - 1 = z0 := ⟨_, rfl⟩
  have HZ0 : Hid ((z0 = n ∧ n < m) ∨ (z0 = -1 ∧ n = 0)) := Lib.hid (by omega)
  rw [← hn] at HR
  clear hR hn
  obtain ⟨i0, hi0, hz0, hz1, hz2⟩ := info_parts info_int
  have HI := Lib.hid (And.intro hi0 (And.intro hz0 (And.intro hz1 hz2))); clear hi0 hz0 hz1 hz2
  go_enter Try.func32, Try.ntmps32
  go_wp2_with fail
  go_loopw [8, 9] (fun t q wr => ∃ (k : Nat), k ≤ m ∧ q = .int .i64 k ∧ Row wr w.heap.size 3 (.int .i64 0) t ((List.range k).map I64) ∧ Ext w wr) (fun _ q _ => m - (intOf q).toNat)
  case atStart => exact ⟨0, Nat.zero_le _, rfl, Row.nil _ _ _ _, Ext.refl _⟩
  case round =>
    obtain ⟨k, hk, rfl, hrow, hext⟩ := hrel
    by_cases hkm : k < m
    · have hrw := hrow.ext ((Ext.refl wr).alloc (.cells #[.int .i64 (k : Int)] 3))
      have hlen : ((List.range k).map I64).length = k := by simp
      have HLN := Lib.hid hlen
      clear hrow hlen hnI
      go_wp2_with (first | (at_builtin; refine wpList_append_row rfl _ _ 38 rfl w.heap.size 3 i0 (.int .i64 0) 8 Try.underlying38 HI.out.1 HI.out.2.1 HI.out.2.2.1 HI.out.2.2.2 rfl _ _ rfl hrw ⟨wr.heap.size, 0, none⟩ 1 (.int .i64 (k : Int)) rfl ?c1 rfl ?c3 ?c4 ?c5 ?_))
      case c1 => exact one_new wr _ _ 0 _ rfl
      case c3 => rw [HLN.out]; simp only [maxLen]; omega
      case c4 => rw [HLN.out]; omega
      case c5 => exact Nat.le_trans hext.size (by simp)
      intro v' w' hr' hgr
      have he' : Ext w w' := (hext.alloc _).grown hgr (fun g hg => hrw.block g hg)
      have hr2 : Row w' w.heap.size 3 (.int .i64 0) v' ((List.range (k + 1)).map I64) := by rw [List.range_succ, List.map_append]; exact hr'
      clear hrw hr' hgr hext
      go_wp2_with fail
      go_roundw
      case rel => exact ⟨k + 1, by omega, by go_num, hr2, he'⟩
      case measure => simp [intOf]; omega
    · obtain rfl : k = m := by omega
      go_wp2_with fail
      obtain ⟨w0, rfl⟩ : ∃ w0 : World, w0 = wr := ⟨_, rfl⟩
      go_loopw [2, 10] (fun t q wr => ∃ (z : Int) (i : Nat) (l : List Nat) (p : Nat), q = .int .i64 z ∧ t = .int .i64 (p : Int) ∧ ((z = i ∧ i < k) ∨ (z = -1 ∧ i = 0)) ∧ l.length = k ∧ Hid (perm (bitAt bs) L i l p = R) ∧ p ≤ L ∧ Row wr w.heap.size 3 (.int .i64 0) u8 (l.map I64) ∧ Ext w wr) (fun _ q _ => (intOf q).toNat)
      case atStart => exact ⟨z0, n, List.range k, pos, rfl, rfl, HZ0.out, by simp, HR, hp, hrow, hext⟩
      case round =>
        clear hrow hext
        obtain ⟨z, i, l, p, rfl, rfl, hz, hl, HPR, hp', hrow, hext⟩ := hrel
        clear HR HZ0 hnI
        have HL := Lib.hid hl
        clear hl
        by_cases hi1 : 1 ≤ i
        · obtain ⟨rfl, hik⟩ : z = i ∧ i < k := by
            rcases hz with h | h
            · exact h
            · omega
          clear hz
          have hiI : (1 : Int) ≤ (i : Int) := by omega
          go_wp2_with fail
          rw [show ((i : Int) + 1) = ((i + 1 : Nat) : Int) by omega]
          have hpr := HPR.out
          rw [show i = i - 1 + 1 by omega] at hpr
          refine (refUniform_out (n := i + 1) (h.ext hext) (by omega) (by omega) hp').mono ?_
          rintro e w2 ⟨rfl, rfl⟩
          rcases hu : uni (bitAt bs) L (i - 1 + 2) (blen (i - 1 + 1)) (L + 1) p with _ | ⟨j, q⟩
          · rw [perm_none hu] at hpr
            subst hpr
            rw [show i + 1 - 1 = i - 1 + 1 by omega, show i + 1 = i - 1 + 2 by omega, hu]
            clear hu
            simp only [rX, rP]
            go_wp2_with fail
            go_ret2
            exact ⟨hext, rfl⟩
          · rw [perm_some hu] at hpr
            have hj := (uni_some hu).1
            have hq := (uni_some hu).2.2.1
            rw [show i + 1 - 1 = i - 1 + 1 by omega, show i + 1 = i - 1 + 2 by omega, hu]
            rw [show i - 1 + 1 = i by omega] at hpr
            have HPR2 := Lib.hid hpr
            have hji : j ≤ i := by omega
            clear hu hpr hj HPR
            simp only [rX, rP]
            have hli := HL.out
            obtain ⟨g, cp, hu8, hg⟩ := hrow.form (by simp; omega)
            rw [List.length_map, hli] at hu8
            subst hu8
            have a1 := hrow.at (i := i) (by simp; omega)
            have a2 := hrow.at (i := j) (by simp; omega)
            have p1 := hrow.put (i := i) (u := I64 (l.getD j 0)) (by simp; omega)
            have b1 := p1.at (i := j) (by simp; omega)
            have p2 := p1.put (i := j) (u := I64 (l.getD i 0)) (by simp; omega)
            rw [← swp_map] at p2
            rw [getD_map I64 l i (by omega)] at a1
            rw [getD_map I64 l j (by omega)] at a2
            have he2 := (hext.setCell (p := ⟨g, i, none⟩) hg (I64 (l.getD j 0))).setCell (p := ⟨g, j, none⟩) hg (I64 (l.getD i 0))
            have hls := (swp_length l i j).trans hli
            generalize ((l.map I64).set i (I64 (l.getD j 0))).getD j undef = old at *
            have P2 := Lib.hid p2; have HE2 := Lib.hid he2; have HLS := Lib.hid hls; have HQ := Lib.hid hq
            generalize swp l i j = l2 at *
            generalize l.getD i 0 = x at *
            generalize l.getD j 0 = y at *
            obtain ⟨a1, f1⟩ := a1
            obtain ⟨a2, f2⟩ := a2
            obtain ⟨b1, f3⟩ := b1
            have i1 : (0 : Int) ≤ (i : Int) := by omega
            have i2 : (i : Int) < (k : Int) := by omega
            have i3 : (0 : Int) ≤ (j : Int) := by omega
            have i4 : (j : Int) < (k : Int) := by omega
            have i5 : j < k := by omega
            have i6 : ¬ (q : Int) < 0 := by omega
            clear p1 p2 he2 hls hli hrow HL hq hext
            go_wp2_with fail
            go_roundw
            case rel => exact ⟨(i : Int) - 1, i - 1, l2, q, rfl, rfl, .inl ⟨by omega, by omega⟩, HLS.out, HPR2, HQ.out, P2.out, HE2.out⟩
            case measure => simp [intOf]; omega
        · obtain rfl : i = 0 := by omega
          have hpr := HPR.out
          simp only [perm] at hpr
          subst hpr
          have hi0 : ¬ (1 : Int) ≤ z := by omega
          obtain ⟨A, cA, hv, hcA, hxs⟩ := hrow.sl
          have hform : l.length = 0 ∨ ∃ g, A = some ⟨g, 0, none⟩ := by
            rcases Nat.eq_zero_or_pos l.length with h0 | h0
            · exact .inl h0
            · obtain ⟨g, cg, e, _⟩ := hrow.form (by simpa using h0)
              rw [hv] at e
              injection e with e _ _
              exact .inr ⟨g, e⟩
          have HFO := Lib.hid hform
          have hin : In wr u8 l := ⟨by have := HL.out; omega, hrow.sl⟩
          rw [List.length_map] at hv
          have HIN := Lib.hid hin; have HX := Lib.hid hext; have HV := Lib.hid hv
          clear hz hrow hxs hin hext hv hcA HPR hform
          go_wp2_with fail
          go_ret2
          have hin := HIN.out
          rw [HV.out] at hin ⊢
          exact ⟨HX.out, A, cA, rfl, HFO.out, hin⟩

/-- slices.Equal of two slices with the same ints. -/
theorem equalI {w : World} {A B : Option Addr} {c d : Nat} {l : List Nat} (hA : l.length = 0 ∨ ∃ g, A = some ⟨g, 0, none⟩) (hB : l.length = 0 ∨ ∃ g, B = some ⟨g, 0, none⟩) (ha : In w (.slice A l.length c) l) (hb : In w (.slice B l.length d) l) :
    Calls Try.prog 33 #[.slice A l.length c, .slice B l.length d] w fun e w' => e = .returned (.bool true) ∧ Qt w w' := by
  have hlen := ha.1
  rcases Nat.eq_zero_or_pos l.length with h0 | h0
  · rw [h0]
    refine (Try.slices_Equal_int_empty A B c 0 d w (by omega)).mono ?_
    rintro e w' ⟨rfl, rfl⟩
    exact ⟨by simp, Qt.refl _⟩
  · obtain ⟨g1, rfl⟩ : ∃ g, A = some ⟨g, 0, none⟩ := by rcases hA with h | h; omega; exact h
    obtain ⟨g2, rfl⟩ : ∃ g, B = some ⟨g, 0, none⟩ := by rcases hB with h | h; omega; exact h
    have key : ∀ {g c : Nat}, In w (.slice (some ⟨g, 0, none⟩) l.length c) l → ∀ j, j < (l.map (fun n : Nat => (n : Int))).length → w.cell? ⟨g, 0 + j, none⟩ = some (.int .i64 ((l.map (fun n : Nat => (n : Int))).getD j 0)) := by
      intro g c hi j hj
      rw [List.length_map] at hj
      have h := Sl.cells hi.2 j (I64 l[j]) (by simp [hj])
      rw [add0] at h
      rw [Nat.zero_add, h]
      simp [List.getD, hj]
    refine (Try.slices_Equal_int g1 0 l.length c g2 0 l.length d _ _ w (by simp) (by simp) (by omega) (by omega) (key ha) (key hb)).mono ?_
    rintro e w' ⟨rfl, hq⟩
    exact ⟨by simp, hq⟩
end Go.Proofs.Ytamkbboijblooaa
