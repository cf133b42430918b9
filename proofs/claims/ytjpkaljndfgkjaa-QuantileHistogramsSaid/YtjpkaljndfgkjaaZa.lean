/- Sampling: Uniform in all cases; awake of law 46. -/
import Derived.Test.YtjpkaljndfgkjaaSamE
namespace Go.Proofs.Ytjpkaljndfgkjaa
open Go.RowKit Go.Maps

/-- The word for an int. -/
abbrev I64 (d : Nat) : Value := .int .i64 (d : Int)
/-- A slice of ints, none below 0. -/
def In (w : World) (v : Value) (xs : List Nat) : Prop := xs.length ≤ 17592186044416 ∧ Sl w v (xs.map I64)
theorem In.ext {w w' : World} {v : Value} {xs : List Nat} (h : In w v xs) (he : Ext w w') : In w' v xs := ⟨h.1, h.2.ext he⟩
theorem In.parts {w : World} {v : Value} {xs : List Nat} (h : In w v xs) : ∃ A c, v = .slice A xs.length c ∧ xs.length ≤ c ∧ ∀ i, i < xs.length → ∃ ad, A = some ad ∧ w.cell? (ad.add i) = some (.int .i64 ((xs.getD i 0 : Nat) : Int)) := by
  obtain ⟨hb, hs⟩ := h
  have hs' := hs
  obtain ⟨A, c, rfl, hc, _⟩ := hs
  rw [List.length_map] at hs' hc ⊢
  refine ⟨A, c, rfl, hc, fun i hi => ?_⟩
  rcases A with _ | ad
  · have : xs = [] := by simpa using Sl.none hs'
    subst this; simp at hi
  · exact ⟨ad, rfl, (Sl.cells hs' i (I64 xs[i]) (by simp [hi])).trans (by simp [List.getD, hi])⟩
theorem info_int : (Try.prog.info? 3).map (fun i => (i.zero, i.size, i.bytes)) = some (some (.int .i64 0), 1, 8) := by kernel_rfl
theorem oneCell_i64 (ds : List Nat) : ∀ u ∈ ds.map I64, u.oneCell' = true := by
  intro u hu
  obtain ⟨d, _, rfl⟩ := List.mem_map.1 hu
  rfl
/-- A new block of one cell. -/
theorem one_new (w : World) (t : TypeId) (x : Value) : ∀ j u, [x][j]? = some u → (w.alloc (.cells #[x] t)).cell? ((⟨w.heap.size, 0, none⟩ : Addr).add j) = some u := by
  intro j u hu
  cases j with
  | zero =>
    have := (Bk.new w t [x]).cell (i := 0) (by simp)
    simp at hu; subst hu
    rw [add_zero]; exact this
  | succ j => simp at hu
/-- The first k bits of bytes. -/
def bitsOf (bs : List Nat) (k : Nat) : List Nat := (List.range k).map (bitAt bs)
theorem bitsOf_succ (bs : List Nat) (k : Nat) : bitsOf bs (k + 1) = bitsOf bs k ++ [bitAt bs k] := by simp [bitsOf, List.range_succ]
theorem bitsOf_length (bs : List Nat) (k : Nat) : (bitsOf bs k).length = k := by simp [bitsOf]
theorem bitsOf_get (bs : List Nat) (k i : Nat) (h : i < k) : (bitsOf bs k).getD i 0 = bitAt bs i := by simp [bitsOf, List.getD, h]
theorem wrap_add_pow (x i : Nat) (hx : x < 2 ^ i) (hi : 2 ^ i ≤ 2 ^ 19) : wrap64 ((x : Int) + wrap64 (2 ^ i)) = ((x + 2 ^ i * 1 : Nat) : Int) := by
  have e : (2 : Int) ^ i = ((2 ^ i : Nat) : Int) := by simp
  rw [e, IntWalk.wrap64_in ((2 ^ i : Nat) : Int) (by omega), IntWalk.wrap64_in _ (by omega)]
  omega
/-- What the reference's Uniform returns. -/
def refU (R : Option (Nat × Nat)) : Value := match R with
  | none => .tuple #[.int .i64 0, .int .i64 (-1)]
  | some (x, p) => .tuple #[.int .i64 (x : Int), .int .i64 (p : Int)]
theorem keep_two {W0 w w' : World} {p q : Addr} {a b : Value} (he : Ext w w') (h : Ext W0 w ∧ w.cell? p = some a ∧ w.cell? q = some b) : Ext W0 w' ∧ w'.cell? p = some a ∧ w'.cell? q = some b :=
  ⟨h.1.trans he, he.cell h.2.1, he.cell h.2.2⟩
theorem stored2 (w : World) (g : Nat) (x y : Value) : Mod g w ((w.setCell ⟨g, 0, none⟩ x).setCell ⟨g, 1, none⟩ y) :=
  ((Mod.refl g w).setCell (p := ⟨g, 0, none⟩) (.inl rfl) _).setCell (p := ⟨g, 1, none⟩) (.inl rfl) _
/-- Uniform at a number, by a whole tape: what a statement needs. -/
theorem Uniform_of {w : World} {u t : Value} {n pos : Nat} {bs : List Nat} (R : Option (Nat × Nat)) (hR : uni (bitAt bs) (8 * bs.length) n (blen (n - 1)) (8 * bs.length + 1) pos = R) (hu : Nz w u n) (hn : 1 ≤ n) (hn2 : n < 18446744073709551616) (ht : Tp w t bs pos) (hp : pos ≤ 8 * bs.length) :
    Calls Try.prog 9 #[u, t] w (UnifPost w bs R) := by
  rw [← hR]
  exact Uniform_any hu.nv hn (Nat.le_trans (dig_len_le (k := 2) (by omega)) (by omega)) ht hp
set_option maxHeartbeats 1600000 in
theorem awake_true (w : World) : Calls Try.prog 6 #[] w (Ret (fun x _ => x = .bool true) w) := by
  go_enter Try.func6, Try.ntmps6
  go_upto_region 2 with fail
  have hx : Ext w ((w.alloc (.cells #[.int .u8 11] 5)).alloc (.cells #[.slice (some ⟨w.heap.size, 0, none⟩) 1 1, .int .i64 0] 25)) := ((Ext.refl w).alloc _).alloc _
  have k0 : Bk ((w.alloc (.cells #[.int .u8 11] 5)).alloc (.cells #[.slice (some ⟨w.heap.size, 0, none⟩) 1 1, .int .i64 0] 25)) w.heap.size 5 [.int .u8 11] := (Bk.new w _ [.int .u8 11]).alloc _
  have k1 : Bk ((w.alloc (.cells #[.int .u8 11] 5)).alloc (.cells #[.slice (some ⟨w.heap.size, 0, none⟩) 1 1, .int .i64 0] 25)) (w.heap.size + 1) 25 [.slice (some ⟨w.heap.size, 0, none⟩) 1 1, .int .i64 0] := by
    have := Bk.new (w.alloc (.cells #[.int .u8 11] 5)) 25 [.slice (some ⟨w.heap.size, 0, none⟩) 1 1, .int .i64 0]
    simpa using this
  generalize ((w.alloc (.cells #[.int .u8 11] 5)).alloc (.cells #[.slice (some ⟨w.heap.size, 0, none⟩) 1 1, .int .i64 0] 25)) = W at *
  have hby : By W (.slice (some ⟨w.heap.size, 0, none⟩) 1 1) [11] := ⟨by simp, by simp, some ⟨w.heap.size, 0, none⟩, 1, by simp, by simp, fun _ => ⟨_, rfl, fun i hi => by
    have : i = 0 := by simp at hi; exact hi
    subst this
    rw [add_zero]; exact k0.cell (by simp)⟩⟩
  have d0 := k1.cell (i := 0) (by simp)
  have d1 := k1.cell (i := 1) (by simp)
  simp only [List.getElem_cons_zero, List.getElem_cons_succ] at d0 d1
  have HB := Lib.hid hby; have K1 := Lib.hid k1; clear hby k0 k1
  go_cut [2, 3, 4] (fun sa sb sc wx => ∃ (g : Nat) (u : Value), sb = .pointer (some ⟨g, 0, none⟩) ∧ sc = .int .i64 0 ∧ Bk wx g 25 [u, .int .i64 4] ∧ Nz wx sa 2 ∧ Ext W wx)
  case first =>
    go_region_held3 (fun V => Ext W V ∧ V.cell? ⟨w.heap.size + 1, 0, none⟩ = some (.slice (some ⟨w.heap.size, 0, none⟩) 1 1) ∧ V.cell? ⟨w.heap.size + 1, 1, none⟩ = some (.int .i64 0))
      ((refine (fun he => ⟨he, Ext.cell he d0, Ext.cell he d1⟩) ?_; repeat (first | exact Ext.refl _ | exact (Ext.refl _).drew | refine Ext.alloc ?_ _ | refine Ext.drew ?_ | refine Ext.setCell ?_ (by first | exact Nat.le_refl _ | (have := Ext.size hea; simp at this ⊢; omega)) _ | refine Ext.trans ?_ (by assumption))))
      (first
        | (go_at_call 28; refine (of_nz 3 (by omega) _).mono ?_; rintro e wa ⟨o, rfl, hea, hoa⟩)
        | (go_at_call 9; refine (Uniform_of (bs := [11]) (n := 3) (pos := 0) (some (2, 4)) (by decide) ?_ (by omega) (by omega) ?_ (by simp)).mono ?_; (first | exact hoa | exact hoa.ext ((Ext.refl _).alloc _)); exact ⟨_, rfl, HB.out.ext (And.left (by assumption))⟩; rintro e wb ⟨heb, v, t', rfl, hv, s', rfl, hs'⟩; obtain ⟨A', c', rfl, -⟩ := hs'.parts
           first
             | (have nb : Bk wb W.heap.size 25 [.slice none 0 0, .int .i64 0] := (Bk.new W.drew 25 [.slice none 0 0, .int .i64 0]).ext (Ext.trans hea heb); have g0 := nb.cell (i := 0) (by simp); have g1 := nb.cell (i := 1) (by simp); have f0 := nb.free 0; have f1 := nb.free 1)
             | (have nb : Bk wb wa.heap.size 25 [.slice none 0 0, .int .i64 0] := (Bk.new wa 25 [.slice none 0 0, .int .i64 0]).ext heb; have g0 := nb.cell (i := 0) (by simp); have g1 := nb.cell (i := 1) (by simp); have f0 := nb.free 0; have f1 := nb.free 1)
             | skip))
    all_goals
      have hfin := And.left (b := _ ∧ _) (by assumption)
      go_wp2_with fail
      go_meet
      first
        | exact ⟨wb.heap.size, _, rfl, rfl, Bk.new wb _ [_, _], hv.ext ((Ext.refl _).alloc _), hfin⟩
        | exact ⟨_, _, rfl, rfl, (nb.set 0 _).set 1 _, Dg.mod hv nb (by simp [U32]) (stored2 _ _ _ _), hfin⟩
  case rest =>
    obtain ⟨g, u, rfl, rfl, hb, hz, he⟩ := hcut
    obtain ⟨W2, rfl⟩ : ∃ W2 : World, W2 = wc := ⟨_, rfl⟩
    have hx2 := hx.trans he
    replace HB := Lib.hid (HB.out.ext he)
    replace d0 := he.cell d0
    replace d1 := he.cell d1
    have B1 := Lib.hid hb
    clear hb he hx K1
    go_upto_region 3 with fail
    go_cut [5, 6, 7] (fun sa sb sc wx => ∃ (g : Nat) (u : Value), sb = .pointer (some ⟨g, 0, none⟩) ∧ sc = .int .i64 0 ∧ Bk wx g 25 [u, .int .i64 2] ∧ Nz wx sa 3 ∧ Ext W2 wx)
    case first =>
      go_region_held3 (fun V => Ext W2 V ∧ V.cell? ⟨w.heap.size + 1, 0, none⟩ = some (.slice (some ⟨w.heap.size, 0, none⟩) 1 1) ∧ V.cell? ⟨w.heap.size + 1, 1, none⟩ = some (.int .i64 0))
        ((refine (fun he => ⟨he, Ext.cell he d0, Ext.cell he d1⟩) ?_; repeat (first | exact Ext.refl _ | exact (Ext.refl _).drew | refine Ext.alloc ?_ _ | refine Ext.drew ?_ | refine Ext.setCell ?_ (by first | exact Nat.le_refl _ | (have := Ext.size hea; simp at this ⊢; omega)) _ | refine Ext.trans ?_ (by assumption))))
        (first
          | (go_at_call 28; refine (of_nz 4 (by omega) _).mono ?_; rintro e wa ⟨o, rfl, hea, hoa⟩)
          | (go_at_call 9; refine (Uniform_of (bs := [11]) (n := 4) (pos := 0) (some (3, 2)) (by decide) ?_ (by omega) (by omega) ?_ (by simp)).mono ?_; (first | exact hoa | exact hoa.ext ((Ext.refl _).alloc _)); exact ⟨_, rfl, HB.out.ext (And.left (by assumption))⟩; rintro e wb ⟨heb, v, t', rfl, hv, s', rfl, hs'⟩; obtain ⟨A', c', rfl, -⟩ := hs'.parts
             first
               | (have nb : Bk wb W2.heap.size 25 [.slice none 0 0, .int .i64 0] := (Bk.new W2.drew 25 [.slice none 0 0, .int .i64 0]).ext (Ext.trans hea heb); have g0 := nb.cell (i := 0) (by simp); have g1 := nb.cell (i := 1) (by simp); have f0 := nb.free 0; have f1 := nb.free 1)
               | (have nb : Bk wb wa.heap.size 25 [.slice none 0 0, .int .i64 0] := (Bk.new wa 25 [.slice none 0 0, .int .i64 0]).ext heb; have g0 := nb.cell (i := 0) (by simp); have g1 := nb.cell (i := 1) (by simp); have f0 := nb.free 0; have f1 := nb.free 1)
               | skip))
      all_goals
        have hfin := And.left (b := _ ∧ _) (by assumption)
        go_wp2_with fail
        go_meet
        first
          | exact ⟨wb.heap.size, _, rfl, rfl, Bk.new wb _ [_, _], hv.ext ((Ext.refl _).alloc _), hfin⟩
          | exact ⟨_, _, rfl, rfl, (nb.set 0 _).set 1 _, Dg.mod hv nb (by simp [U32]) (stored2 _ _ _ _), hfin⟩
    case rest =>
      obtain ⟨g2, u2', rfl, rfl, hb2, hz2, he2⟩ := hcut
      have hb1 := B1.out.ext he2
      have hz1 := hz.ext he2
      have hx3 := hx2.trans he2
      clear d0 d1 HB B1 hz he2 hx2
      have p1 := hb1.cell (i := 1) (by simp)
      have p2 := hb2.cell (i := 1) (by simp)
      simp only [List.getElem_cons_zero, List.getElem_cons_succ] at p1 p2
      go_wp2_with fail
      refine (of_nz 2 (by omega) _).mono ?_
      rintro e w3 ⟨o2, rfl, he3, ho2⟩
      go_wp2_with fail
      refine (cmp_nv (hz1.ext he3).nv ho2.nv).mono ?_
      rintro e w4 ⟨rfl, hq4⟩
      have he4 := he3.trans hq4.ext
      have p1' := he4.cell p1
      rw [cmpI_eq rfl]
      go_wp2_with fail
      refine (of_nz 3 (by omega) _).mono ?_
      rintro e w5 ⟨o3, rfl, he5, ho3⟩
      go_wp2_with fail
      refine (cmp_nv ((hz2.ext he4).ext he5).nv ho3.nv).mono ?_
      rintro e w6 ⟨rfl, hq6⟩
      have he6 := (he4.trans he5).trans hq6.ext
      have p2' := he6.cell p2
      rw [cmpI_eq rfl]
      go_wp2_with fail
      go_ret
      exact Ret.mk (hx3.trans he6) rfl
/-- By what is drawn. -/
def unifSome (bs : List Nat) : Option (Nat × Nat) → Nat × List Nat × Nat × Nat
  | none => (0, [], 0, 36)
  | some (x, p) => (x, bs, p, 0)
/-- What Uniform returns: the number, the bytes and the position of the tape, the error. -/
def unifOut (bs : List Nat) (n pos : Nat) : Nat × List Nat × Nat × Nat :=
  if n = 0 then (0, [], 0, 18) else unifSome bs (uni (bitAt bs) (8 * bs.length) n (blen (n - 1)) (8 * bs.length + 1) pos)
/-- What Uniform leaves. -/
def UOut (o : Nat × List Nat × Nat × Nat) (w : World) (e : Ending) (w' : World) : Prop :=
  Ext w w' ∧ ∃ v A c, e = .returned (.tuple #[v, .agg #[.slice A o.2.1.length c, .int .i64 (o.2.2.1 : Int)], .int .i64 (o.2.2.2 : Int)]) ∧ Nz w' v o.1 ∧ By w' (.slice A o.2.1.length c) o.2.1
theorem Uniform_out {w : World} {u t : Value} {n pos : Nat} {bs : List Nat} (hu : Nv w u n) (hln : (dig n).length ≤ 100000) (ht : Tp w t bs pos) (hp : pos ≤ 8 * bs.length) :
    Calls Try.prog 9 #[u, t] w (UOut (unifOut bs n pos) w) := by
  unfold unifOut
  by_cases h0 : n = 0
  · subst h0
    rw [if_pos rfl]
    refine (Uniform_zero hu ht).mono ?_
    rintro e w' ⟨rfl, he⟩
    exact ⟨he, _, _, _, rfl, Nz.nil w', By.nil w'⟩
  · rw [if_neg h0]
    refine (Uniform_any hu (by omega) hln ht hp).mono ?_
    intro e w' h
    generalize uni (bitAt bs) (8 * bs.length) n (blen (n - 1)) (8 * bs.length + 1) pos = R at *
    rcases R with _ | ⟨x, p⟩
    · obtain ⟨he, rfl⟩ := h
      exact ⟨he, _, _, _, rfl, Nz.nil w', By.nil w'⟩
    · obtain ⟨he, v, u, rfl, hv, s, rfl, hs⟩ := h
      obtain ⟨A, c, rfl, -⟩ := hs.parts
      exact ⟨he, v, A, c, rfl, hv, hs⟩
theorem dig_small {n : Nat} (h : n < 18446744073709551616) : (dig n).length ≤ 100000 := Nat.le_trans (dig_len_le (k := 2) (by omega)) (by omega)
/-- The reference's number and position. -/
def rX : Option (Nat × Nat) → Int | none => 0 | some (x, _) => x
def rP : Option (Nat × Nat) → Int | none => -1 | some (_, p) => p
end Go.Proofs.Ytjpkaljndfgkjaa
