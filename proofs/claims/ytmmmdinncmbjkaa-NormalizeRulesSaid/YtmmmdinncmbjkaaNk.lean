/- Contracts: slices.Clone at keys, strings, ints. -/
import Derived.Test.YtmmmdinncmbjkaaNj
namespace Go.Proofs.Ytmmmdinncmbjkaa
open Go.RowKit Go.Maps

theorem info_key : (Try.prog.info? 52).map (fun i => (i.zero, i.size, i.bytes)) = some (some (.agg #[.string ⟨#[]⟩, .bool false]), 2, 24) := by kernel_rfl
theorem info_int : (Try.prog.info? 3).map (fun i => (i.zero, i.size, i.bytes)) = some (some (.int .i64 0), 1, 8) := by kernel_rfl
theorem info_string : (Try.prog.info? 9).map (fun i => (i.zero, i.size, i.bytes)) = some (some (.string ⟨#[]⟩), 1, 16) := by kernel_rfl

set_option maxRecDepth 20000 in
set_option maxHeartbeats 1600000 in
theorem clone_keys {F : Nat → Prop} {w : World} {A : Option Addr} {n c : Nat} {xs : List Value} (hcl : Cl F w A xs) (hl : xs.length = n * 2) (h1 : ∀ u ∈ xs, u.oneCell' = true) (hn : n ≤ 1048576) :
    Calls Try.prog 24 #[.slice A n c] w (Ret (fun x w' => w'.ownsRow w.heap.size 52 2 x n xs) w) := by
  obtain ⟨i0, hi0, hz0, hz1, hz2⟩ := info_parts info_key
  have HI0 := Lib.hid (And.intro hi0 (And.intro hz0 (And.intro hz1 hz2))); clear hi0 hz0 hz1 hz2
  have HCL := Lib.hid hcl; have HL := Lib.hid hl; have HO := Lib.hid h1
  clear hl h1
  rcases A with _ | ad
  · have HX : Hid (n = 0 ∧ xs = []) := Lib.hid (by
      rcases hcl with rfl | ⟨ad, e, -⟩
      · have := HL.out; simp at this; exact ⟨by omega, rfl⟩
      · cases e)
    clear hcl
    have q22 : ∀ (w : World) (n c n' c' : Nat), (binOp .eql 25 (.slice none n c) (.slice none n' c')).run Try.prog w = .ok (.bool true) w := fun w n c n' c' => Lib.run_eql_slice_nil w _ _ none n c n' c' Try.underlying25
    go_enter Try.func24, Try.ntmps24
    go_wp2_with fail
    go_ret
    exact Ret.mk (Ext.refl _) (by rw [HX.out.1, HX.out.2]; exact World.ownsRow_nil _ _ _ _)
  · have q22 : ∀ (w : World) (a : Addr) (n c n' c' : Nat), (binOp .eql 25 (.slice (some a) n c) (.slice none n' c')).run Try.prog w = .ok (.bool false) w := fun w a n c n' c' => Lib.run_eql_slice_nil w _ _ (some a) n c n' c' Try.underlying25
    clear hcl
    go_enter Try.func24, Try.ntmps24
    go_wp2_with (first | (at_builtin; refine wpList_append_opt rfl _ _ 25 rfl w.heap.size 52 i0 (.agg #[.string ⟨#[]⟩, .bool false]) 2 24 Try.underlying25 HI0.out.1 HI0.out.2.1 HI0.out.2.2.1 HI0.out.2.2.2 rfl (by omega) (.slice (some ⟨w.heap.size, 0, none⟩) 0 0) 0 [] rfl (World.ownsRow_made w #[] 0 (Nat.le_refl _) (Nat.zero_le _) rfl) (some ad) n c xs rfl HL.out ((HCL.out.ext ((Ext.refl w).alloc _)).news) HO.out (by simp only [maxLen]; omega) (by omega) (by simp) ?_; intro v9 w9 hr9 hg9 hl9; rw [Nat.zero_add, List.nil_append] at hr9; obtain ⟨A9, c9, rfl⟩ := own_slice hr9; have HR9 := Lib.hid hr9; have HE9 : Hid (Ext w w9) := Lib.hid (((Ext.refl w).alloc _).grown hg9 (fun q hq => by simp [Value.ownBlock] at hq; omega)); clear hr9 hg9 hl9))
    go_ret
    exact Ret.mk HE9.out HR9.out

set_option maxRecDepth 20000 in
set_option maxHeartbeats 1600000 in
theorem clone_strs {F : Nat → Prop} {w : World} {A : Option Addr} {n c : Nat} {xs : List Value} (hcl : Cl F w A xs) (hl : xs.length = n * 1) (h1 : ∀ u ∈ xs, u.oneCell' = true) (hn : n ≤ 1048576) :
    Calls Try.prog 45 #[.slice A n c] w (Ret (fun x w' => w'.ownsRow w.heap.size 9 1 x n xs) w) := by
  obtain ⟨i0, hi0, hz0, hz1, hz2⟩ := info_parts info_string
  have HI0 := Lib.hid (And.intro hi0 (And.intro hz0 (And.intro hz1 hz2))); clear hi0 hz0 hz1 hz2
  have HCL := Lib.hid hcl; have HL := Lib.hid hl; have HO := Lib.hid h1
  clear hl h1
  rcases A with _ | ad
  · have HX : Hid (n = 0 ∧ xs = []) := Lib.hid (by
      rcases hcl with rfl | ⟨ad, e, -⟩
      · have := HL.out; simp at this; exact ⟨by omega, rfl⟩
      · cases e)
    clear hcl
    have q22 : ∀ (w : World) (n c n' c' : Nat), (binOp .eql 23 (.slice none n c) (.slice none n' c')).run Try.prog w = .ok (.bool true) w := fun w n c n' c' => Lib.run_eql_slice_nil w _ _ none n c n' c' Try.underlying23
    go_enter Try.func45, Try.ntmps45
    go_wp2_with fail
    go_ret
    exact Ret.mk (Ext.refl _) (by rw [HX.out.1, HX.out.2]; exact World.ownsRow_nil _ _ _ _)
  · have q22 : ∀ (w : World) (a : Addr) (n c n' c' : Nat), (binOp .eql 23 (.slice (some a) n c) (.slice none n' c')).run Try.prog w = .ok (.bool false) w := fun w a n c n' c' => Lib.run_eql_slice_nil w _ _ (some a) n c n' c' Try.underlying23
    clear hcl
    go_enter Try.func45, Try.ntmps45
    go_wp2_with (first | (at_builtin; refine wpList_append_opt rfl _ _ 23 rfl w.heap.size 9 i0 (.string ⟨#[]⟩) 1 16 Try.underlying23 HI0.out.1 HI0.out.2.1 HI0.out.2.2.1 HI0.out.2.2.2 rfl (by omega) (.slice (some ⟨w.heap.size, 0, none⟩) 0 0) 0 [] rfl (World.ownsRow_made w #[] 0 (Nat.le_refl _) (Nat.zero_le _) rfl) (some ad) n c xs rfl HL.out ((HCL.out.ext ((Ext.refl w).alloc _)).news) HO.out (by simp only [maxLen]; omega) (by omega) (by simp) ?_; intro v9 w9 hr9 hg9 hl9; rw [Nat.zero_add, List.nil_append] at hr9; obtain ⟨A9, c9, rfl⟩ := own_slice hr9; have HR9 := Lib.hid hr9; have HE9 : Hid (Ext w w9) := Lib.hid (((Ext.refl w).alloc _).grown hg9 (fun q hq => by simp [Value.ownBlock] at hq; omega)); clear hr9 hg9 hl9))
    go_ret
    exact Ret.mk HE9.out HR9.out

set_option maxRecDepth 20000 in
set_option maxHeartbeats 1600000 in
theorem clone_ints {F : Nat → Prop} {w : World} {A : Option Addr} {n c : Nat} {xs : List Value} (hcl : Cl F w A xs) (hl : xs.length = n * 1) (h1 : ∀ u ∈ xs, u.oneCell' = true) (hn : n ≤ 1048576) :
    Calls Try.prog 29 #[.slice A n c] w (Ret (fun x w' => w'.ownsRow w.heap.size 3 1 x n xs) w) := by
  obtain ⟨i0, hi0, hz0, hz1, hz2⟩ := info_parts info_int
  have HI0 := Lib.hid (And.intro hi0 (And.intro hz0 (And.intro hz1 hz2))); clear hi0 hz0 hz1 hz2
  have HCL := Lib.hid hcl; have HL := Lib.hid hl; have HO := Lib.hid h1
  clear hl h1
  rcases A with _ | ad
  · have HX : Hid (n = 0 ∧ xs = []) := Lib.hid (by
      rcases hcl with rfl | ⟨ad, e, -⟩
      · have := HL.out; simp at this; exact ⟨by omega, rfl⟩
      · cases e)
    clear hcl
    have q22 : ∀ (w : World) (n c n' c' : Nat), (binOp .eql 37 (.slice none n c) (.slice none n' c')).run Try.prog w = .ok (.bool true) w := fun w n c n' c' => Lib.run_eql_slice_nil w _ _ none n c n' c' Try.underlying37
    go_enter Try.func29, Try.ntmps29
    go_wp2_with fail
    go_ret
    exact Ret.mk (Ext.refl _) (by rw [HX.out.1, HX.out.2]; exact World.ownsRow_nil _ _ _ _)
  · have q22 : ∀ (w : World) (a : Addr) (n c n' c' : Nat), (binOp .eql 37 (.slice (some a) n c) (.slice none n' c')).run Try.prog w = .ok (.bool false) w := fun w a n c n' c' => Lib.run_eql_slice_nil w _ _ (some a) n c n' c' Try.underlying37
    clear hcl
    go_enter Try.func29, Try.ntmps29
    go_wp2_with (first | (at_builtin; refine wpList_append_opt rfl _ _ 37 rfl w.heap.size 3 i0 (.int .i64 0) 1 8 Try.underlying37 HI0.out.1 HI0.out.2.1 HI0.out.2.2.1 HI0.out.2.2.2 rfl (by omega) (.slice (some ⟨w.heap.size, 0, none⟩) 0 0) 0 [] rfl (World.ownsRow_made w #[] 0 (Nat.le_refl _) (Nat.zero_le _) rfl) (some ad) n c xs rfl HL.out ((HCL.out.ext ((Ext.refl w).alloc _)).news) HO.out (by simp only [maxLen]; omega) (by omega) (by simp) ?_; intro v9 w9 hr9 hg9 hl9; rw [Nat.zero_add, List.nil_append] at hr9; obtain ⟨A9, c9, rfl⟩ := own_slice hr9; have HR9 := Lib.hid hr9; have HE9 : Hid (Ext w w9) := Lib.hid (((Ext.refl w).alloc _).grown hg9 (fun q hq => by simp [Value.ownBlock] at hq; omega)); clear hr9 hg9 hl9))
    go_ret
    exact Ret.mk HE9.out HR9.out
end Go.Proofs.Ytmmmdinncmbjkaa
