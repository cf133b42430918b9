/- Contracts: slices.Clone at rules, keys, strings. -/
import Derived.Test.YtehklbdgkppmeaaDoorJf
namespace Go.Proofs.YtehklbdgkppmeaaDoor
open Go.RowKit Go.Maps

theorem info_key : (Tryd.prog.info? 84).map (fun i => (i.zero, i.size, i.bytes)) = some (some (.agg #[.string ⟨#[]⟩, .bool false]), 2, 24) := by kernel_rfl
theorem info_string : (Tryd.prog.info? 9).map (fun i => (i.zero, i.size, i.bytes)) = some (some (.string ⟨#[]⟩), 1, 16) := by kernel_rfl

set_option maxRecDepth 20000 in
set_option maxHeartbeats 1600000 in
theorem clone_rules {F : Nat → Prop} {w : World} {A : Option Addr} {n c : Nat} {xs : List Value} (hcl : Cl F w A xs) (hl : xs.length = n * 2) (h1 : ∀ u ∈ xs, u.oneCell' = true) (hn : n ≤ 1048576) :
    Calls Tryd.prog 43 #[.slice A n c] w (Ret (fun x w' => w'.ownsRow w.heap.size 25 2 x n xs) w) := by
  obtain ⟨i0, hi0, hz0, hz1, hz2⟩ := info_parts info_rule
  have HI0 := Lib.hid (And.intro hi0 (And.intro hz0 (And.intro hz1 hz2))); clear hi0 hz0 hz1 hz2
  have HCL := Lib.hid hcl; have HL := Lib.hid hl; have HO := Lib.hid h1
  clear hl h1
  rcases A with _ | ad
  · have HX : Hid (n = 0 ∧ xs = []) := Lib.hid (by
      rcases hcl with rfl | ⟨ad, e, -⟩
      · have := HL.out; simp at this; exact ⟨by omega, rfl⟩
      · cases e)
    clear hcl
    have q22 : ∀ (w : World) (n c n' c' : Nat), (binOp .eql 41 (.slice none n c) (.slice none n' c')).run Tryd.prog w = .ok (.bool true) w := fun w n c n' c' => Lib.run_eql_slice_nil w _ _ none n c n' c' Tryd.underlying41
    go_enter Tryd.func43, Tryd.ntmps43
    go_wp2_with fail
    go_ret
    exact Ret.mk (Ext.refl _) (by rw [HX.out.1, HX.out.2]; exact World.ownsRow_nil _ _ _ _)
  · have q22 : ∀ (w : World) (a : Addr) (n c n' c' : Nat), (binOp .eql 41 (.slice (some a) n c) (.slice none n' c')).run Tryd.prog w = .ok (.bool false) w := fun w a n c n' c' => Lib.run_eql_slice_nil w _ _ (some a) n c n' c' Tryd.underlying41
    clear hcl
    go_enter Tryd.func43, Tryd.ntmps43
    go_wp2_with (first | (at_builtin; refine wpList_append_opt rfl _ _ 41 rfl w.heap.size 25 i0 (.agg #[.slice none 0 0, .slice none 0 0]) 2 48 Tryd.underlying41 HI0.out.1 HI0.out.2.1 HI0.out.2.2.1 HI0.out.2.2.2 rfl (by omega) (.slice (some ⟨w.heap.size, 0, none⟩) 0 0) 0 [] rfl (World.ownsRow_made w #[] 0 (Nat.le_refl _) (Nat.zero_le _) rfl) (some ad) n c xs rfl HL.out ((HCL.out.ext ((Ext.refl w).alloc _)).news) HO.out (by simp only [maxLen]; omega) (by omega) (by simp) ?_; intro v9 w9 hr9 hg9 hl9; rw [Nat.zero_add, List.nil_append] at hr9; obtain ⟨A9, c9, rfl⟩ := own_slice hr9; have HR9 := Lib.hid hr9; have HE9 : Hid (Ext w w9) := Lib.hid (((Ext.refl w).alloc _).grown hg9 (fun q hq => by simp [Value.ownBlock] at hq; omega)); clear hr9 hg9 hl9))
    go_ret
    exact Ret.mk HE9.out HR9.out

set_option maxRecDepth 20000 in
set_option maxHeartbeats 1600000 in
theorem clone_keys {F : Nat → Prop} {w : World} {A : Option Addr} {n c : Nat} {xs : List Value} (hcl : Cl F w A xs) (hl : xs.length = n * 2) (h1 : ∀ u ∈ xs, u.oneCell' = true) (hn : n ≤ 1048576) :
    Calls Tryd.prog 45 #[.slice A n c] w (Ret (fun x w' => w'.ownsRow w.heap.size 84 2 x n xs) w) := by
  obtain ⟨i0, hi0, hz0, hz1, hz2⟩ := info_parts info_key
  have HI0 := Lib.hid (And.intro hi0 (And.intro hz0 (And.intro hz1 hz2))); clear hi0 hz0 hz1 hz2
  have HCL := Lib.hid hcl; have HL := Lib.hid hl; have HO := Lib.hid h1
  clear hl h1
  rcases A with _ | ad
  · have HX : Hid (n = 0 ∧ xs = []) := Lib.hid (by
      rcases hcl with rfl | ⟨ad, e, -⟩
      · have := HL.out; simp at this; exact ⟨by omega, rfl⟩
      · cases e)
    clear hcl
    have q22 : ∀ (w : World) (n c n' c' : Nat), (binOp .eql 42 (.slice none n c) (.slice none n' c')).run Tryd.prog w = .ok (.bool true) w := fun w n c n' c' => Lib.run_eql_slice_nil w _ _ none n c n' c' Tryd.underlying42
    go_enter Tryd.func45, Tryd.ntmps45
    go_wp2_with fail
    go_ret
    exact Ret.mk (Ext.refl _) (by rw [HX.out.1, HX.out.2]; exact World.ownsRow_nil _ _ _ _)
  · have q22 : ∀ (w : World) (a : Addr) (n c n' c' : Nat), (binOp .eql 42 (.slice (some a) n c) (.slice none n' c')).run Tryd.prog w = .ok (.bool false) w := fun w a n c n' c' => Lib.run_eql_slice_nil w _ _ (some a) n c n' c' Tryd.underlying42
    clear hcl
    go_enter Tryd.func45, Tryd.ntmps45
    go_wp2_with (first | (at_builtin; refine wpList_append_opt rfl _ _ 42 rfl w.heap.size 84 i0 (.agg #[.string ⟨#[]⟩, .bool false]) 2 24 Tryd.underlying42 HI0.out.1 HI0.out.2.1 HI0.out.2.2.1 HI0.out.2.2.2 rfl (by omega) (.slice (some ⟨w.heap.size, 0, none⟩) 0 0) 0 [] rfl (World.ownsRow_made w #[] 0 (Nat.le_refl _) (Nat.zero_le _) rfl) (some ad) n c xs rfl HL.out ((HCL.out.ext ((Ext.refl w).alloc _)).news) HO.out (by simp only [maxLen]; omega) (by omega) (by simp) ?_; intro v9 w9 hr9 hg9 hl9; rw [Nat.zero_add, List.nil_append] at hr9; obtain ⟨A9, c9, rfl⟩ := own_slice hr9; have HR9 := Lib.hid hr9; have HE9 : Hid (Ext w w9) := Lib.hid (((Ext.refl w).alloc _).grown hg9 (fun q hq => by simp [Value.ownBlock] at hq; omega)); clear hr9 hg9 hl9))
    go_ret
    exact Ret.mk HE9.out HR9.out

set_option maxRecDepth 20000 in
set_option maxHeartbeats 1600000 in
theorem clone_strs {F : Nat → Prop} {w : World} {A : Option Addr} {n c : Nat} {xs : List Value} (hcl : Cl F w A xs) (hl : xs.length = n * 1) (h1 : ∀ u ∈ xs, u.oneCell' = true) (hn : n ≤ 1048576) :
    Calls Tryd.prog 44 #[.slice A n c] w (Ret (fun x w' => w'.ownsRow w.heap.size 9 1 x n xs) w) := by
  obtain ⟨i0, hi0, hz0, hz1, hz2⟩ := info_parts info_string
  have HI0 := Lib.hid (And.intro hi0 (And.intro hz0 (And.intro hz1 hz2))); clear hi0 hz0 hz1 hz2
  have HCL := Lib.hid hcl; have HL := Lib.hid hl; have HO := Lib.hid h1
  clear hl h1
  rcases A with _ | ad
  · have HX : Hid (n = 0 ∧ xs = []) := Lib.hid (by
      rcases hcl with rfl | ⟨ad, e, -⟩
      · have := HL.out; simp at this; exact ⟨by omega, rfl⟩
      · cases e)
    clear hcl
    have q22 : ∀ (w : World) (n c n' c' : Nat), (binOp .eql 26 (.slice none n c) (.slice none n' c')).run Tryd.prog w = .ok (.bool true) w := fun w n c n' c' => Lib.run_eql_slice_nil w _ _ none n c n' c' Tryd.underlying26
    go_enter Tryd.func44, Tryd.ntmps44
    go_wp2_with fail
    go_ret
    exact Ret.mk (Ext.refl _) (by rw [HX.out.1, HX.out.2]; exact World.ownsRow_nil _ _ _ _)
  · have q22 : ∀ (w : World) (a : Addr) (n c n' c' : Nat), (binOp .eql 26 (.slice (some a) n c) (.slice none n' c')).run Tryd.prog w = .ok (.bool false) w := fun w a n c n' c' => Lib.run_eql_slice_nil w _ _ (some a) n c n' c' Tryd.underlying26
    clear hcl
    go_enter Tryd.func44, Tryd.ntmps44
    go_wp2_with (first | (at_builtin; refine wpList_append_opt rfl _ _ 26 rfl w.heap.size 9 i0 (.string ⟨#[]⟩) 1 16 Tryd.underlying26 HI0.out.1 HI0.out.2.1 HI0.out.2.2.1 HI0.out.2.2.2 rfl (by omega) (.slice (some ⟨w.heap.size, 0, none⟩) 0 0) 0 [] rfl (World.ownsRow_made w #[] 0 (Nat.le_refl _) (Nat.zero_le _) rfl) (some ad) n c xs rfl HL.out ((HCL.out.ext ((Ext.refl w).alloc _)).news) HO.out (by simp only [maxLen]; omega) (by omega) (by simp) ?_; intro v9 w9 hr9 hg9 hl9; rw [Nat.zero_add, List.nil_append] at hr9; obtain ⟨A9, c9, rfl⟩ := own_slice hr9; have HR9 := Lib.hid hr9; have HE9 : Hid (Ext w w9) := Lib.hid (((Ext.refl w).alloc _).grown hg9 (fun q hq => by simp [Value.ownBlock] at hq; omega)); clear hr9 hg9 hl9))
    go_ret
    exact Ret.mk HE9.out HR9.out
end Go.Proofs.YtehklbdgkppmeaaDoor
