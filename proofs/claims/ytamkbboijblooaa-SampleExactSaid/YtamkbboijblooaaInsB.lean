/- Contract: slices.Insert where the row must grow; the three roads joined. -/
import Derived.Test.YtamkbboijblooaaInsA
namespace Go.Proofs.Ytamkbboijblooaa
open Go.RowKit Go.Lib

set_option maxHeartbeats 1600000 in
set_option maxRecDepth 100000 in
/-- There is no room: a new row. -/
theorem insert_grow {w : World} {g n i vb : Nat} {xs : List Value} {x : Value} (hb : Bk w g 29 xs) (hn : xs.length = n) (hi : i < n) (hn2 : n ≤ 1000)
    (hv : Bk w vb 29 [x]) (h1 : x.oneCell' = true) (h1c : ∀ v ∈ xs, v.oneCell' = true) :
    Calls Try.prog 66 #[.slice (some ⟨g, 0, none⟩) n n, .int .i64 (i : Int), .slice (some ⟨vb, 0, none⟩) 1 1] w fun e w' =>
      ∃ G ROW, n + 1 ≤ G ∧ G ≤ maxLen ∧ ROW = xs.take i ++ List.replicate (n + 1 - i) (.slice none 0 0) ++ List.replicate (G - (n + 1)) (.slice none 0 0) ∧ e = .returned (.slice (some ⟨w.heap.size, 0, none⟩) (n + 1) G) ∧
      w' = (((w.alloc (.cells ROW.toArray 29)).drew.setCells w.heap.size i [x]).drew).setCells w.heap.size (i + 1) (xs.drop i) := by
  have hcs : ∀ j v, xs[j]? = some v → w.cell? ⟨g, j, none⟩ = some v := fun j v hj => by
    obtain ⟨hj1, hj2⟩ := List.getElem?_eq_some_iff.1 hj
    rw [hb.cell (i := j) hj1, hj2]
  have hvs : ∀ j v, [x][j]? = some v → w.cell? ⟨vb, j, none⟩ = some v := fun j v hj => by
    obtain ⟨hj1, hj2⟩ := List.getElem?_eq_some_iff.1 hj
    rw [hv.cell (i := j) hj1, hj2]
  obtain ⟨i0, hi0, hz0, hzs, hzb⟩ := info_parts info_nat
  have hsz : (Try.prog.info? 29).map (·.size) = some 1 := by rw [hi0]; simp [hzs]
  have hbw := hb.lt
  have hvw := hv.lt
  have hkk : (n : Int) + 1 - (i : Int) = ((n + 1 - i : Nat) : Int) := by omega
  have hik : i + (n + 1 - i) = n + 1 := by omega
  have hold : (Builtin.firstCells i0.size i (.slice (some ⟨g, 0, none⟩) i n)).run Try.prog w.drew = .ok (xs.take i).toArray w.drew := by
    rw [hzs]
    exact run_firstCells_some w.drew 1 i ⟨g, 0, none⟩ i n (xs.take i) (by rw [List.length_take]; omega) (fun j v hj => by
      rw [Addr.add_lit, Nat.zero_add]
      rw [List.getElem?_take] at hj
      split at hj
      · exact hcs j v hj
      · cases hj)
  have hrz : ∀ ty, (Builtin.append_ #[64, 3] ty #[.slice (some ⟨g, 0, none⟩) i n, .int .i64 ((n : Int) + 1 - (i : Int))]).run Try.prog w =
      .ok (.slice (some ⟨w.heap.size, 0, none⟩) (n + 1) (grownCap w (n + 1) n 29)) (w.drew.alloc (.cells ((xs.take i).toArray ++ Builtin.zeroCells (Value.slice none 0 0).cells (n + 1 - i) ++ Builtin.zeroCells (Value.slice none 0 0).cells (grownCap w (n + 1) n 29 - (n + 1))) 29)) := fun ty => by
    have h := Lib.run_append_grow_zeros w 64 3 ty 29 i0 _ .i64 .i64 Try.underlying64 Try.underlying3 hi0 hz0 (some ⟨g, 0, none⟩) i n (xs.take i) hold (n + 1 - i) (by omega) (by omega) (by omega) (by omega) (by rw [hzb]; omega) (by rw [hzb, hik]; exact growslice_fits (by omega) (by omega))
    rw [hik] at h
    rw [hkk]
    exact h
  have hGn := grownCap_ge w (n + 1) n 29
  have hGm := grownCap_le_maxLen w (n + 1) n 29 (by unfold maxLen; omega)
  rw [zeroCells_one _ rfl, zeroCells_one _ rfl] at hrz
  generalize grownCap w (n + 1) n 29 = G at *
  obtain ⟨ROW, hROW⟩ : ∃ ROW : List Value, ROW = xs.take i ++ List.replicate (n + 1 - i) (.slice none 0 0) ++ List.replicate (G - (n + 1)) (.slice none 0 0) := ⟨_, rfl⟩
  rw [List.append_toArray, List.append_toArray, ← hROW] at hrz
  have hRl : ROW.length = G := by rw [hROW]; simp; omega
  obtain ⟨W1, hW1⟩ : ∃ W1, W1 = w.drew.alloc (.cells ROW.toArray 29) := ⟨_, rfl⟩
  rw [← hW1] at hrz
  have hbk : Bk W1 w.heap.size 29 ROW := by rw [hW1]; exact Bk.new w.drew _ ROW
  have hN : ∀ j, j < n + 1 → (W1.cell? ⟨w.heap.size, j, none⟩).isSome = true := fun j hj => by rw [hbk.cell (i := j) (by omega)]; rfl
  have hNf : ∀ j, W1.frozen? ⟨w.heap.size, j, none⟩ = false := fun j => hbk.free j
  have hex : Ext w W1 := by rw [hW1]; exact (Ext.refl w).drew.alloc _
  have hcpA : ∀ (W : World), (∀ x, W.cell? x = W1.cell? x) → (∀ x, W.frozen? x = W1.frozen? x) → ∀ ty dc, (Builtin.copy_ #[64, 64] ty #[.slice (some ⟨w.heap.size, i, none⟩) (n + 1 - i) dc, .slice (some ⟨vb, 0, none⟩) 1 1]).run Try.prog W = .ok (goInt [x].length) (W.setCells w.heap.size i [x]) := fun W hWc hWf ty dc =>
    run_copy_cells W _ _ ty 29 w.heap.size i (n + 1 - i) dc ⟨vb, 0, none⟩ 1 1 [x] Try.underlying64 hsz (by simp only [List.length_singleton, Nat.min_def]; split <;> omega)
      (fun j v hj => by rw [Addr.add_lit, hWc, Nat.zero_add]; exact hex.cell (hvs j v hj))
      (fun j hj => by rw [hWc]; exact hN _ (by simp at hj; omega)) (fun j hj => by rw [hWf]; exact hNf _) (by simpa using h1)
  have hG63 : G ≤ 9223372036854775807 := by simp only [maxLen] at hGm; omega
  have hGi : ¬ (G = i) := by omega
  have hGim : ¬ (G = i + 1) := by omega
  have hci : ¬ (n = i) := by omega
  have hbN : g ≠ w.heap.size := by omega
  have hdl : (xs.drop i).length = n - i := by rw [List.length_drop, hn]
  have hcpB : ∀ (W : World), (∀ y, W.cell? y = (W1.setCells w.heap.size i [x]).cell? y) → (∀ y, W.frozen? y = (W1.setCells w.heap.size i [x]).frozen? y) → ∀ ty dc sc, (Builtin.copy_ #[64, 64] ty #[.slice (some ⟨w.heap.size, i + 1, none⟩) (n - i) dc, .slice (some ⟨g, i, none⟩) (n - i) sc]).run Try.prog W = .ok (goInt (xs.drop i).length) (W.setCells w.heap.size (i + 1) (xs.drop i)) := fun W hWc hWf ty dc sc =>
    run_copy_cells W _ _ ty 29 w.heap.size (i + 1) (n - i) dc ⟨g, i, none⟩ (n - i) sc (xs.drop i) Try.underlying64 hsz (by rw [hdl]; simp only [Nat.min_def]; split <;> omega)
      (fun j v hj => by
        rw [Addr.add_lit, hWc, World.cell?_setCells_out _ _ _ _ _ (fun h _ => absurd h hbN)]
        exact hex.cell (hcs (i + j) v (by rwa [List.getElem?_drop] at hj)))
      (fun j hj => by rw [hWc]; exact isSome_setCells _ _ _ _ (fun t ht => hN _ (by simp at ht; omega)) _ (hN _ (by omega)))
      (fun j hj => by rw [hWf, World.frozen?_setCells]; exact hNf _) (fun v hv => h1c v (List.mem_of_mem_drop hv))
  subst hW1
  have hE1 : ∀ x, ((w.alloc (.cells ROW.toArray 29)).drew).cell? x = (w.drew.alloc (.cells ROW.toArray 29)).cell? x := fun x => rfl
  have hE2 : ∀ x, ((w.alloc (.cells ROW.toArray 29)).drew).frozen? x = (w.drew.alloc (.cells ROW.toArray 29)).frozen? x := fun x => rfl
  have hF1 : ∀ y, (((w.alloc (.cells ROW.toArray 29)).drew.setCells w.heap.size i [x]).drew).cell? y = ((w.drew.alloc (.cells ROW.toArray 29)).setCells w.heap.size i [x]).cell? y := fun y => rfl
  have hF2 : ∀ y, (((w.alloc (.cells ROW.toArray 29)).drew.setCells w.heap.size i [x]).drew).frozen? y = ((w.drew.alloc (.cells ROW.toArray 29)).setCells w.heap.size i [x]).frozen? y := fun y => rfl
  have hz2 : ¬ ((i : Int) = (n : Int)) := by omega
  have hz3 : (n : Int) < (n : Int) + 1 := by omega
  have hw1 : IntKind.i64.wrap ((i : Int) + 1) = (i : Int) + 1 := by rw [IntKind.wrap_i64]; omega
  have hb1 : (0 : Int) ≤ (i : Int) + 1 := by omega
  have hin : i ≤ n := by omega
  have htn : ((i : Int) + 1).toNat = i + 1 := by omega
  have hb3 : (i : Int) ≤ (n : Int) := by omega
  have HROW := Lib.hid hROW; have HGN := Lib.hid (And.intro hGn hGm)
  clear hkk hik hold hROW hRl hGn hGm hbk hN hNf hex hcs hvs hb hv hdl hsz hn
  go_enter Try.func66, Try.ntmps66
  go_wp2_with (first
    | (at_builtin; refine Lib.wpList_append_run _ rfl _ _ _ _ rfl _ _ rfl rfl _ _ (hrz _) ?_)
    | (at_builtin; refine wpList_copy_runI _ rfl _ _ 64 64 rfl _ _ rfl rfl (hcpA _ hE1 hE2 _ _) ?_))
  go_region_law (refine step_copy_runI rfl _ _ 64 64 rfl (.slice (some ⟨w.heap.size, i + 1, none⟩) (n - i) (G - (i + 1))) (.slice (some ⟨g, i, none⟩) (n - i) (n - i)) (by simp [Act.eval, Act.put]) (by simp [Act.eval, Act.put]) (hcpB _ hF1 hF2 3 (G - (i + 1)) (n - i)) ?_)
  go_wp2
  go_ret
  exact ⟨G, ROW, HGN.out.1, HGN.out.2, HROW.out, rfl, rfl⟩

theorem ins_list {xs : List Value} {i : Nat} {x z : Value} (hi : i < xs.length) (k : Nat) :
    ((xs.take i ++ List.replicate (xs.length + 1 - i) z ++ List.replicate k z).take i ++ [x] ++ (xs.take i ++ List.replicate (xs.length + 1 - i) z ++ List.replicate k z).drop (i + 1)).take (i + 1) ++ xs.drop i ++
      ((xs.take i ++ List.replicate (xs.length + 1 - i) z ++ List.replicate k z).take i ++ [x] ++ (xs.take i ++ List.replicate (xs.length + 1 - i) z ++ List.replicate k z).drop (i + 1)).drop (i + 1 + (xs.drop i).length) =
    (xs.take i ++ [x] ++ xs.drop i) ++ List.replicate k z := by
  obtain ⟨pre, post, hxs, hpre⟩ : ∃ pre post, xs = pre ++ post ∧ pre.length = i := ⟨xs.take i, xs.drop i, (List.take_append_drop _ _).symm, by simp; omega⟩
  subst hxs
  subst hpre
  have e1 : (pre ++ post).take pre.length = pre := List.take_left
  have e2 : (pre ++ post).drop pre.length = post := List.drop_left
  rw [e1, e2, show (pre ++ post).length + 1 - pre.length = post.length + 1 by simp; omega]
  have e3 : (pre ++ List.replicate (post.length + 1) z ++ List.replicate k z).take pre.length = pre := by rw [List.append_assoc]; exact List.take_left
  have e4 : (pre ++ List.replicate (post.length + 1) z ++ List.replicate k z).drop (pre.length + 1) = List.replicate post.length z ++ List.replicate k z := by
    rw [List.append_assoc, ← List.drop_drop, List.drop_left, List.replicate_succ]; rfl
  rw [e3, e4]
  have e5 : (pre ++ [x] ++ (List.replicate post.length z ++ List.replicate k z)).take (pre.length + 1) = pre ++ [x] := List.take_left' (by simp)
  have e6 : (pre ++ [x] ++ (List.replicate post.length z ++ List.replicate k z)).drop (pre.length + 1 + post.length) = List.replicate k z := by
    rw [← List.drop_drop, List.drop_left' (by simp), List.drop_left' (by simp)]
  rw [e5, e6]

theorem shift_list {xs : List Value} {i r : Nat} {x z : Value} (hi : i < xs.length) :
    (((xs ++ List.replicate (r + 1) z).take (i + 1) ++ xs.drop i ++ (xs ++ List.replicate (r + 1) z).drop (i + 1 + (xs.drop i).length)).take i ++ [x] ++
      ((xs ++ List.replicate (r + 1) z).take (i + 1) ++ xs.drop i ++ (xs ++ List.replicate (r + 1) z).drop (i + 1 + (xs.drop i).length)).drop (i + [x].length)) =
    (xs.take i ++ [x] ++ xs.drop i) ++ List.replicate r z := by
  obtain ⟨pre, a, post, hxs, hpre⟩ : ∃ pre a post, xs = pre ++ a :: post ∧ pre.length = i :=
    ⟨xs.take i, xs[i], xs.drop (i + 1), by rw [← List.drop_eq_getElem_cons hi, List.take_append_drop], by simp; omega⟩
  subst hxs
  subst hpre
  have e1 : (pre ++ a :: post).take pre.length = pre := List.take_left
  have e2 : (pre ++ a :: post).drop pre.length = a :: post := List.drop_left
  rw [e1, e2]
  have e3 : (pre ++ a :: post ++ List.replicate (r + 1) z).take (pre.length + 1) = pre ++ [a] := by
    rw [show pre ++ a :: post ++ List.replicate (r + 1) z = (pre ++ [a]) ++ (post ++ List.replicate (r + 1) z) by simp]; exact List.take_left' (by simp)
  have e4 : (pre ++ a :: post ++ List.replicate (r + 1) z).drop (pre.length + 1 + (a :: post).length) = List.replicate r z := by
    rw [List.drop_append, List.drop_eq_nil_of_le (by simp), List.nil_append, List.drop_replicate]
    congr 1; simp; omega
  rw [e3, e4]
  have e5 : (pre ++ [a] ++ (a :: post) ++ List.replicate r z).take pre.length = pre := by
    rw [show pre ++ [a] ++ (a :: post) ++ List.replicate r z = pre ++ ([a] ++ (a :: post) ++ List.replicate r z) by simp]; exact List.take_left
  have e6 : (pre ++ [a] ++ (a :: post) ++ List.replicate r z).drop (pre.length + [x].length) = (a :: post) ++ List.replicate r z := by
    rw [show pre ++ [a] ++ (a :: post) ++ List.replicate r z = (pre ++ [a]) ++ ((a :: post) ++ List.replicate r z) by simp]; exact List.drop_left' (by simp)
  rw [e5, e6]; simp

set_option maxHeartbeats 800000 in
set_option maxRecDepth 100000 in
/-- At the end. -/
theorem insert_end {w : World} {base vb n : Nat} {v x : Value} {xs : List Value} (hrow : Row w base 29 (.slice none 0 0) v xs) (hbase : base ≤ w.heap.size) (hn : n = xs.length) (hn2 : n ≤ 1000)
    (hv : Bk w vb 29 [x]) (h1 : x.oneCell' = true) :
    Calls Try.prog 66 #[v, .int .i64 (n : Int), .slice (some ⟨vb, 0, none⟩) 1 1] w fun e w' =>
      ∃ v', e = .returned v' ∧ Row w' base 29 (.slice none 0 0) v' (xs ++ [x]) ∧ w.grownBy w' v.ownBlock := by
  obtain ⟨i0, hi0, hz0, hz1, hz2⟩ := info_parts info_nat
  have HI := Lib.hid (And.intro hi0 (And.intro hz0 (And.intro hz1 hz2))); clear hi0 hz0 hz1 hz2
  have hcx : w.cell? ((⟨vb, 0, none⟩ : Addr).add 0) = some x := by rw [add_zero]; exact hv.cell (i := 0) (by simp)
  have HC := Lib.hid hcx; have HN := Lib.hid hn; have HV := Lib.hid hv
  clear hcx hn hv
  have hrow' := hrow
  have HR := Lib.hid hrow'
  clear hrow'
  rcases hrow with ⟨rfl, rfl⟩ | ⟨g, r, hvv, hbg, hbk, hcm⟩
  · obtain rfl : n = 0 := HN.out
    go_enter Try.func66, Try.ntmps66
    go_wp2_with (first | (at_builtin; refine wpList_append_row rfl _ _ 64 rfl base 29 i0 (.slice none 0 0) 24 Try.underlying64 HI.out.1 HI.out.2.1 HI.out.2.2.1 HI.out.2.2.2 rfl _ [] rfl HR.out ⟨vb, 0, none⟩ 1 x rfl HC.out h1 ?c3 ?c4 hbase ?_))
    case c3 => simp [maxLen]
    case c4 => simp
    intro v' w' hr' hgr
    have HR' := Lib.hid hr'; have HG := Lib.hid hgr
    clear hr' hgr
    go_wp2_with fail
    go_ret
    exact ⟨_, rfl, HR'.out, HG.out⟩
  · rw [← HN.out] at hvv hcm
    subst hvv
    have hcm' : n + r ≤ 9223372036854775807 := by simp only [maxLen] at hcm; omega
    have hnr : (n : Int) ≤ (n : Int) + (r : Int) := by omega
    by_cases hr0 : r = 0
    · subst hr0
      clear hbk
      go_enter Try.func66, Try.ntmps66
      go_wp2_with (first | (at_builtin; refine wpList_append_row rfl _ _ 64 rfl base 29 i0 (.slice none 0 0) 24 Try.underlying64 HI.out.1 HI.out.2.1 HI.out.2.2.1 HI.out.2.2.2 rfl _ xs rfl HR.out ⟨vb, 0, none⟩ 1 x rfl HC.out h1 ?c3 ?c4 hbase ?_))
      case c3 => rw [← HN.out]; simp only [maxLen]; omega
      case c4 => rw [← HN.out]; omega
      intro v' w' hr' hgr
      have HR' := Lib.hid hr'; have HG := Lib.hid hgr
      clear hr' hgr
      go_wp2_with fail
      go_ret
      exact ⟨_, rfl, HR'.out, HG.out⟩
    · have hne : ¬ (n + r = n) := by omega
      clear hbk
      go_enter Try.func66, Try.ntmps66
      go_wp2_with (first | (at_builtin; refine wpList_append_row rfl _ _ 64 rfl base 29 i0 (.slice none 0 0) 24 Try.underlying64 HI.out.1 HI.out.2.1 HI.out.2.2.1 HI.out.2.2.2 rfl _ xs rfl HR.out ⟨vb, 0, none⟩ 1 x rfl HC.out h1 ?c3 ?c4 hbase ?_))
      case c3 => rw [← HN.out]; simp only [maxLen]; omega
      case c4 => rw [← HN.out]; omega
      intro v' w' hr' hgr
      have HR' := Lib.hid hr'; have HG := Lib.hid hgr
      clear hr' hgr
      go_wp2_with fail
      go_ret
      exact ⟨_, rfl, HR'.out, HG.out⟩

theorem setCells_grown {w w' : World} {g o : Nat} {vs : List Value} {row : Option Nat} (h : w.grownBy w' row) (hg : row = some g ∨ w.heap.size ≤ g) : w.grownBy (w'.setCells g o vs) row := by
  induction vs generalizing w' o with
  | nil => exact h
  | cons v r ih =>
    rw [World.setCells]
    refine ih ⟨h.os, h.tape, h.output, by simpa [World.setCell] using h.size, fun k hk hn => ?_⟩
    refine (Below.heap_setCell w' ⟨g, o, none⟩ v k ?_).trans (h.block k hk hn)
    rintro rfl
    rcases hg with e | e
    · exact hn e.symm
    · omega

/-- slices.Insert of one element into a row. -/
theorem insert_row {w : World} {base i vb : Nat} {v x : Value} {xs : List Value} (hrow : Row w base 29 (.slice none 0 0) v xs) (hbase : base ≤ w.heap.size) (hi : i ≤ xs.length) (hn2 : xs.length ≤ 1000)
    (hv : Bk w vb 29 [x]) (hne : ∀ g, v.ownBlock = some g → vb ≠ g) (h1 : x.oneCell' = true) (h1c : ∀ v ∈ xs, v.oneCell' = true) :
    Calls Try.prog 66 #[v, .int .i64 (i : Int), .slice (some ⟨vb, 0, none⟩) 1 1] w fun e w' =>
      ∃ v', e = .returned v' ∧ Row w' base 29 (.slice none 0 0) v' (xs.take i ++ [x] ++ xs.drop i) ∧ w.grownBy w' v.ownBlock := by
  rcases Nat.lt_or_ge i xs.length with hlt | hge
  · have hrow' := hrow
    rcases hrow with ⟨rfl, rfl⟩ | ⟨g, r, rfl, hbg, hbk, hcm⟩
    · simp at hlt
    · have hne' := hne g rfl
      cases r with
      | zero =>
        rw [List.replicate_zero, List.append_nil] at hbk
        refine (insert_grow hbk rfl hlt hn2 hv h1 h1c).mono ?_
        rintro e w' ⟨G, ROW, hG1, hG2, hR, rfl, rfl⟩
        have hb0 : Bk ((w.alloc (.cells ROW.toArray 29)).drew) w.heap.size 29 ROW := Bk.new w _ ROW
        have hRl : ROW.length = G := by rw [hR]; simp; omega
        have hb1 := Bk.setCells (vs := [x]) (o := i) hb0 (by simp; omega)
        have hb2 := Bk.setCells (vs := xs.drop i) (o := i + 1) (Bk.drew hb1) (by simp; omega)
        have hl := ins_list (x := x) (z := .slice none 0 0) hlt (G - (xs.length + 1))
        rw [← hR] at hl
        rw [show i + [x].length = i + 1 from rfl, hl] at hb2
        refine ⟨_, rfl, .inr ⟨w.heap.size, G - (xs.length + 1), ?_, hbase, hb2, by simp; omega⟩, ?_⟩
        · have : (xs.take i ++ [x] ++ xs.drop i).length = xs.length + 1 := by simp; omega
          rw [this]; congr 1; omega
        · have h0 : w.grownBy ((w.alloc (.cells ROW.toArray 29)).drew) (Value.ownBlock (.slice (some ⟨g, 0, none⟩) xs.length (xs.length + 0))) := Mod.of_ext (g := g) ((Ext.refl w).alloc _).drew
          have h2 := setCells_grown (g := w.heap.size) (o := i) (vs := [x]) h0 (.inr (Nat.le_refl _))
          exact setCells_grown (g := w.heap.size) (o := i + 1) (vs := xs.drop i) (w' := ((w.alloc (.cells ROW.toArray 29)).drew.setCells w.heap.size i [x]).drew) ⟨h2.os, h2.tape, h2.output, h2.size, h2.block⟩ (.inr (Nat.le_refl _))
      | succ r =>
        refine (insert_shift hbk rfl hlt hn2 hcm hv hne' h1 h1c).mono ?_
        rintro e w' ⟨rfl, rfl⟩
        have hb1 := Bk.setCells (vs := xs.drop i) (o := i + 1) (Bk.drew hbk) (by simp; omega)
        have hb2 := Bk.setCells (vs := [x]) (o := i) hb1 (by simp; omega)
        rw [shift_list hlt] at hb2
        refine ⟨_, rfl, .inr ⟨g, r, ?_, hbg, hb2, by simp; omega⟩, ?_⟩
        · have : (xs.take i ++ [x] ++ xs.drop i).length = xs.length + 1 := by simp; omega
          rw [this]; congr 1; omega
        · have h0 : w.grownBy w.drew (some g) := Mod.of_ext (g := g) (Ext.refl w).drew
          exact setCells_grown (setCells_grown h0 (.inl rfl)) (.inl rfl)
  · obtain rfl : i = xs.length := by omega
    refine (insert_end hrow hbase rfl hn2 hv h1).mono ?_
    rintro e w' ⟨v', rfl, h2, h3⟩
    refine ⟨v', rfl, ?_, h3⟩
    rw [List.take_length, List.drop_length, List.append_nil]; exact h2
end Go.Proofs.Ytamkbboijblooaa
