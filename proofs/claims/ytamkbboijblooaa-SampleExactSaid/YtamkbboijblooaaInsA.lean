/- Contract: slices.Insert of one number into a row of numbers. -/
import Derived.Test.YtamkbboijblooaaPermB
import Derived.Test.YtamkbboijblooaaCut
import Derived.Shelf.Spec.SlicesInsertGrow
import Derived.Deep.RegionLaw
namespace Go.Proofs.Ytamkbboijblooaa
open Go.RowKit Go.Lib

/-- Cells laid into a block that is known whole. -/
theorem Bk.setCells {w : World} {g : Nat} {t : TypeId} : ∀ {vs : List Value} {xs : List Value} {o : Nat}, Bk w g t xs → o + vs.length ≤ xs.length → Bk (w.setCells g o vs) g t (xs.take o ++ vs ++ xs.drop (o + vs.length))
  | [], xs, o, h, _ => by simpa [World.setCells] using h
  | v :: vs, xs, o, h, hl => by
    simp only [World.setCells]
    have hl' : o + (vs.length + 1) ≤ xs.length := by simpa using hl
    have h1 := h.set o v
    have h2 := Bk.setCells (vs := vs) (o := o + 1) h1 (by simp; omega)
    obtain ⟨pre, a, post, hxs, hpre⟩ : ∃ pre a post, xs = pre ++ a :: post ∧ pre.length = o :=
      ⟨xs.take o, xs[o], xs.drop (o + 1), by rw [← List.drop_eq_getElem_cons (by omega), List.take_append_drop], by simp; omega⟩
    subst hxs
    subst hpre
    have e1 : (pre ++ a :: post).set pre.length v = pre ++ v :: post := by simp
    rw [e1] at h2
    have e2 : (pre ++ v :: post).take (pre.length + 1) = pre ++ [v] := by
      rw [show pre ++ v :: post = (pre ++ [v]) ++ post by simp]; exact List.take_left' (by simp)
    have e3 : (pre ++ v :: post).drop (pre.length + 1 + vs.length) = post.drop vs.length := by
      rw [show pre.length + 1 + vs.length = pre.length + (vs.length + 1) by omega, ← List.drop_drop, List.drop_left, List.drop_succ_cons]
    have e4 : (pre ++ a :: post).drop (pre.length + (v :: vs).length) = post.drop vs.length := by
      rw [← List.drop_drop, List.drop_left, List.length_cons, List.drop_succ_cons]
    rw [e2, e3] at h2
    rw [e4, show (pre ++ a :: post).take pre.length = pre by simp]
    simpa using h2
theorem setCells_other (_w : World) (g k : Nat) (h : k ≠ g) : ∀ (vs : List Value) (o : Nat) (w : World), (w.setCells g o vs).heap[k]? = w.heap[k]?
  | [], _, _ => rfl
  | v :: r, o, w => by
    rw [World.setCells, setCells_other w g k h r]
    exact Below.heap_setCell w ⟨g, o, none⟩ v k h

theorem size_nat (w : World) : (Go.sizeOf 29).run Try.prog w = .ok 1 w := by
  obtain ⟨i0, hi0, _, h1, _⟩ := info_parts info_nat
  simp [Go.sizeOf, typeInfo, hi0, h1]
theorem Bk.shape {w : World} {g : Nat} {t : TypeId} {xs : List Value} (h : Bk w g t xs) : w.shape? g = some (t, xs.length) := by
  unfold Bk at h; simp [World.shape?, h]

set_option maxHeartbeats 1600000 in
set_option maxRecDepth 100000 in
/-- There is room behind the row: in place. -/
theorem insert_shift {w : World} {g n r i vb : Nat} {xs : List Value} {x : Value} (hb : Bk w g 29 (xs ++ List.replicate (r + 1) (.slice none 0 0))) (hn : xs.length = n) (hi : i < n) (hn2 : n ≤ 1000) (hr : n + (r + 1) ≤ maxLen)
    (hv : Bk w vb 29 [x]) (hne : vb ≠ g) (h1 : x.oneCell' = true) (h1c : ∀ v ∈ xs, v.oneCell' = true) :
    Calls Try.prog 66 #[.slice (some ⟨g, 0, none⟩) n (n + (r + 1)), .int .i64 (i : Int), .slice (some ⟨vb, 0, none⟩) 1 1] w fun e w' =>
      e = .returned (.slice (some ⟨g, 0, none⟩) (n + 1) (n + (r + 1))) ∧ w' = (w.drew.setCells g (i + 1) (xs.drop i)).setCells g i [x] := by
  obtain ⟨c, hc⟩ : ∃ c, c = n + (r + 1) := ⟨_, rfl⟩
  rw [← hc] at hr ⊢
  have hcs : ∀ j v, xs[j]? = some v → w.cell? ⟨g, j, none⟩ = some v := fun j v hj => by
    obtain ⟨hj1, hj2⟩ := List.getElem?_eq_some_iff.1 hj
    rw [hb.cell (i := j) (by simp; omega), List.getElem_append_left hj1, hj2]
  have hsp : ∀ j, j < n + 1 → (w.cell? ⟨g, j, none⟩).isSome = true := fun j hj => by
    rw [hb.cell (i := j) (by simp; omega)]; rfl
  have hfz : ∀ j, w.frozen? ⟨g, j, none⟩ = false := fun j => hb.free j
  have hvs : ∀ j v, [x][j]? = some v → w.cell? ⟨vb, j, none⟩ = some v := fun j v hj => by
    obtain ⟨hj1, hj2⟩ := List.getElem?_eq_some_iff.1 hj
    rw [hv.cell (i := j) hj1, hj2]
  have hov : ∀ lb cb, (callFunc 79 #[.slice (some ⟨vb, 0, none⟩) 1 1, .slice (some ⟨g, i + 1, none⟩) lb cb]).run Try.prog w = .ok (.value (.bool false)) w := fun lb cb => by
    rw [run_callFunc_extern Try.func79 (by kernel_rfl) (by kernel_rfl) (by kernel_rfl) (e := Extern.SlicesOverlaps.overlaps #[64, 64] #[4]) (by kernel_rfl),
      Lib.run_overlaps_apart w 64 4 29 Try.underlying64 1 size_nat ⟨vb, 0, none⟩ ⟨g, i + 1, none⟩ 1 1 lb cb hne _ _ _ _ hv.shape hb.shape (by simp) (hv.free 0) (hv.free _)]
    rfl
  have hsz : (Try.prog.info? 29).map (·.size) = some 1 := by
    obtain ⟨i0, hi0, _, h1, _⟩ := info_parts info_nat
    rw [hi0]; simp [h1]
  have hdl : (xs.drop i).length = n - i := by rw [List.length_drop, hn]
  have hcp1 : ∀ ty dc sc, (Builtin.copy_ #[64, 64] ty #[.slice (some ⟨g, i + 1, none⟩) (n - i) dc, .slice (some ⟨g, i, none⟩) (n + 1 - i) sc]).run Try.prog w.drew = .ok (goInt (xs.drop i).length) (w.drew.setCells g (i + 1) (xs.drop i)) := fun ty dc sc =>
    run_copy_cells w.drew _ _ ty 29 g (i + 1) (n - i) dc ⟨g, i, none⟩ (n + 1 - i) sc (xs.drop i) Try.underlying64 hsz (by rw [hdl]; simp only [Nat.min_def]; split <;> omega)
      (fun j v hj => by rw [Addr.add_lit]; exact hcs (i + j) v (by rwa [List.getElem?_drop] at hj))
      (fun j hj => hsp _ (by omega)) (fun j hj => hfz _) (fun v hv => h1c v (List.mem_of_mem_drop hv))
  obtain ⟨W1, hW1⟩ : ∃ W1, W1 = w.drew.setCells g (i + 1) (xs.drop i) := ⟨_, rfl⟩
  have hsp1 : ∀ k, k < n + 1 → (W1.cell? ⟨g, k, none⟩).isSome = true := fun k hk => by
    rw [hW1]
    exact isSome_setCells g _ _ w.drew (fun j hj => hsp (i + 1 + j) (by rw [hdl] at hj; omega)) _ (hsp k hk)
  have hcp2 : ∀ (W : World), (∀ x, W.cell? x = W1.cell? x) → (∀ x, W.frozen? x = W1.frozen? x) → ∀ ty dc, (Builtin.copy_ #[64, 64] ty #[.slice (some ⟨g, i, none⟩) (n + 1 - i) dc, .slice (some ⟨vb, 0, none⟩) 1 1]).run Try.prog W = .ok (goInt [x].length) (W.setCells g i [x]) := fun W hWc hWf ty dc =>
    run_copy_cells W _ _ ty 29 g i (n + 1 - i) dc ⟨vb, 0, none⟩ 1 1 [x] Try.underlying64 hsz (by simp only [List.length_singleton, Nat.min_def]; split <;> omega)
      (fun j v hj => by
        rw [Addr.add_lit, hWc, hW1, World.cell?_setCells_out g _ _ _ _ (fun h _ => absurd h hne), Nat.zero_add]
        exact hvs j v hj)
      (fun j hj => by rw [hWc]; exact hsp1 _ (by simp at hj; omega)) (fun j hj => by rw [hWf, hW1, World.frozen?_setCells]; exact hfz _) (by simpa using h1)
  rw [← hW1] at hcp1
  have hz1 : ¬ ((i : Int) = (n : Int)) := by omega
  have hw1 : IntKind.i64.wrap ((i : Int) + 1) = (i : Int) + 1 := by rw [IntKind.wrap_i64]; omega
  have hb1 : (0 : Int) ≤ (i : Int) + 1 := by omega
  have hin : i ≤ n := by omega
  have htn : ((i : Int) + 1).toNat = i + 1 := by omega
  have hb2 : ¬ (c = i + 1) := by omega
  have hb3 : (i : Int) ≤ (n : Int) + 1 := by omega
  have hb4 : ¬ (c = i) := by omega
  have hc1 : ¬ (c : Int) < (n : Int) + 1 := by omega
  have hc2 : (n : Int) + 1 ≤ (c : Int) := by omega
  have hc3 : c ≤ 9223372036854775807 := by simp only [maxLen] at hr; omega
  have HW1 := Lib.hid hW1
  clear hcs hsp hfz hvs hb hv hdl hsz hsp1 hW1 hn hc hr
  go_enter Try.func66, Try.ntmps66
  go_wp2_with (simp only [hov])
  go_region_law (refine step_copy_runI rfl _ _ 64 64 rfl _ _ (by simp [Act.eval, Act.put]) (by simp [Act.eval, Act.put]) (hcp1 _ _ _) ?_)
  go_wp2_with (at_builtin; refine wpList_copy_runI _ rfl _ _ 64 64 rfl _ _ rfl rfl (hcp2 _ (fun _ => rfl) (fun _ => rfl) _ _) ?_)
  go_ret
  first | exact ⟨rfl, rfl⟩ | exact ⟨rfl, by rw [HW1.out]⟩
end Go.Proofs.Ytamkbboijblooaa
