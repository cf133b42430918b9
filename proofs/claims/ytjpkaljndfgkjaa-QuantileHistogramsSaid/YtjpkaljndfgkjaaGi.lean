/- Rows of values: more. -/
import Derived.Test.YtjpkaljndfgkjaaGh
import Derived.Deep.Draws
import Derived.Lib.Bytealg
import Derived.Lib.Small
import Derived.Sort.Grow
namespace Go.Proofs.Ytjpkaljndfgkjaa.R
open Go.RowKit Go.Maps

section
variable {α : Type} {r : Rdg α} {F G S : Nat → Prop} {w w' : World} {v : Value} {xs : List α}
end
section
variable {α : Type} {r : Rdg α} {S : Nat → Prop} {w w' wb w9 : World} {base n : Nat} {E : TypeId} {v v9 : Value} {xs : List α} {css : List (List Value)} {cs : List Value} {x : α}
theorem Rw.empty (r : Rdg α) (w : World) (base : Nat) (E : TypeId) : Rw r w base E (.slice none 0 0) 0 [] [] := ⟨rfl, World.ownsRow_nil _ _ _ _, fun i h => by simp at h⟩
end
section
variable {F : Nat → Prop} {w : World} {A : Option Addr} {n c : Nat}
end
section
variable {α β : Type} {c : α → α → Int} {d : β → β → Int}
theorem Cmp.self (h : Cmp c) (a : α) : c a a = 0 := (h.eq a a).2 rfl
end
theorem info_row : (Try.prog.info? 29).map (fun i => (i.zero, i.size, i.bytes)) = some (some (.slice none 0 0), 1, 24) := by kernel_rfl
theorem own_setc {w : World} {base n g cap sz : Nat} {E : TypeId} {us : List Value} (h : w.ownsRow base E sz (.slice (some ⟨g, 0, none⟩) n cap) n us) {i : Nat} (hi : i < n * sz) (u : Value) : (w.setCell ⟨g, i, none⟩ u).ownsRow base E sz (.slice (some ⟨g, 0, none⟩) n cap) n (us.set i u) := by
  obtain ⟨hl, h⟩ := h
  refine ⟨by simpa using hl, ?_⟩
  rcases h with ⟨h0, -⟩ | ⟨g', cap', cur, e, hb, hc, h1, h2, h3, h4⟩
  · cases h0
  injection e with e1 e2 e3
  injection e1 with e1
  injection e1 with e1
  subst e1 e3
  refine .inr ⟨g, cap, cur.setIfInBounds i u, rfl, hb, ?_, h1, h2, by simpa using h3, ?_⟩
  · simp [World.setCell, Array.getElem?_modify, hc]
  · rw [Array.toList_setIfInBounds, List.take_set, h4]
theorem own_cell1 {w : World} {base n g cap : Nat} {E : TypeId} {us : List Value} (h : w.ownsRow base E 1 (.slice (some ⟨g, 0, none⟩) n cap) n us) {i : Nat} {u : Value} (hi : us[i]? = some u) : w.cell? ⟨g, i, none⟩ = some u ∧ w.frozen? ⟨g, i, none⟩ = false := by
  obtain ⟨hl, h⟩ := h
  rcases h with ⟨h0, -⟩ | ⟨g', cap', cur, e, hb, hc, h1, h2, h3, h4⟩
  · cases h0
  injection e with e1 e2 e3
  injection e1 with e1
  injection e1 with e1
  subst e1 e3
  refine ⟨?_, by simp [World.frozen?, hc]⟩
  obtain ⟨hil, -⟩ := List.getElem?_eq_some_iff.1 hi
  rw [← h4, List.getElem?_take_of_lt (by omega), Array.getElem?_toList] at hi
  simp [World.cell?, hc, hi]
theorem zero_row (w : World) : (zeroValue 29).run Try.prog w = .ok (.slice none 0 0) w := by kernel_rfl
theorem own_cellS {w : World} {base n g cap sz : Nat} {E : TypeId} {us : List Value} (h : w.ownsRow base E sz (.slice (some ⟨g, 0, none⟩) n cap) n us) {i : Nat} (hi : i < n * sz) : (∃ u, w.cell? ⟨g, i, none⟩ = some u) ∧ w.frozen? ⟨g, i, none⟩ = false := by
  obtain ⟨hl, h⟩ := h
  rcases h with ⟨h0, -⟩ | ⟨g', cap', cur, e, hb, hc, h1, h2, h3, h4⟩
  · cases h0
  injection e with e1 e2 e3
  injection e1 with e1
  injection e1 with e1
  subst e1 e3
  have hcs : i < cur.size := by
    rw [h3]
    exact Nat.lt_of_lt_of_le hi (Nat.mul_le_mul_right _ h1)
  exact ⟨⟨cur[i], by simp [World.cell?, hc, hcs]⟩, by simp [World.frozen?, hc]⟩
end Go.Proofs.Ytjpkaljndfgkjaa.R
