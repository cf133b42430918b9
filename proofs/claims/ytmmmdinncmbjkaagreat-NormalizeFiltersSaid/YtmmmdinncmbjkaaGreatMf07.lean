/- Contracts: slices.Clone at keys, strings, ints. Contracts: slices.Grow, slices.Concat at names. -/
import Derived.Test.YtmmmdinncmbjkaaGreatMf06
import Derived.Lib.AppendZerosOnto
namespace Go.Proofs.YtmmmdinncmbjkaaGreat
open Go.RowKit Go.Maps
theorem info_key : (Tryz.prog.info? 130).map (fun i => (i.zero, i.size, i.bytes)) = some (some (.agg #[.string ⟨#[]⟩, .bool false]), 2, 24) := by kernel_rfl
theorem info_int : (Tryz.prog.info? 3).map (fun i => (i.zero, i.size, i.bytes)) = some (some (.int .i64 0), 1, 8) := by kernel_rfl
theorem info_string : (Tryz.prog.info? 9).map (fun i => (i.zero, i.size, i.bytes)) = some (some (.string ⟨#[]⟩), 1, 16) := by kernel_rfl
set_option maxRecDepth 20000 in
set_option maxHeartbeats 1600000 in
theorem clone_keys {F : Nat → Prop} {w : World} {A : Option Addr} {n c : Nat} {xs : List Value} (hcl : Cl F w A xs) (hl : xs.length = n * 2) (h1 : ∀ u ∈ xs, u.oneCell' = true) (hn : n ≤ 1048576) :
    Calls Tryz.prog 61 #[.slice A n c] w (Ret (fun x w' => w'.ownsRow w.heap.size 130 2 x n xs) w) := by
  obtain ⟨i0, hi0, hz0, hz1, hz2⟩ := info_parts info_key
  have HI0 := Lib.hid (And.intro hi0 (And.intro hz0 (And.intro hz1 hz2))); clear hi0 hz0 hz1 hz2
  have HCL := Lib.hid hcl; have HL := Lib.hid hl; have HO := Lib.hid h1
  clear hl h1
  rcases A with _ | ad
  · have HX : Hid (n = 0 ∧ xs = []) := Lib.hid (by
      rcases hcl with rfl | ⟨ad, e, -⟩
      · have := HL.out; simp at this; exact ⟨by omega, rfl⟩
      · cases e)
    clear hcl
    have q22 : ∀ (w : World) (n c n' c' : Nat), (binOp .eql 59 (.slice none n c) (.slice none n' c')).run Tryz.prog w = .ok (.bool true) w := fun w n c n' c' => Lib.run_eql_slice_nil w _ _ none n c n' c' Tryz.underlying59
    go_enter Tryz.func61, Tryz.ntmps61
    go_wp2_with fail
    go_ret
    exact Ret.mk (Ext.refl _) (by rw [HX.out.1, HX.out.2]; exact World.ownsRow_nil _ _ _ _)
  · have q22 : ∀ (w : World) (a : Addr) (n c n' c' : Nat), (binOp .eql 59 (.slice (some a) n c) (.slice none n' c')).run Tryz.prog w = .ok (.bool false) w := fun w a n c n' c' => Lib.run_eql_slice_nil w _ _ (some a) n c n' c' Tryz.underlying59
    clear hcl
    go_enter Tryz.func61, Tryz.ntmps61
    go_wp2_with (first | (at_builtin; refine wpList_append_opt rfl _ _ 59 rfl w.heap.size 130 i0 (.agg #[.string ⟨#[]⟩, .bool false]) 2 24 Tryz.underlying59 HI0.out.1 HI0.out.2.1 HI0.out.2.2.1 HI0.out.2.2.2 rfl (by omega) (.slice (some ⟨w.heap.size, 0, none⟩) 0 0) 0 [] rfl (World.ownsRow_made w #[] 0 (Nat.le_refl _) (Nat.zero_le _) rfl) (some ad) n c xs rfl HL.out ((HCL.out.ext ((Ext.refl w).alloc _)).news) HO.out (by simp only [maxLen]; omega) (by omega) (by simp) ?_; intro v9 w9 hr9 hg9 hl9; rw [Nat.zero_add, List.nil_append] at hr9; obtain ⟨A9, c9, rfl⟩ := own_slice hr9; have HR9 := Lib.hid hr9; have HE9 : Hid (Ext w w9) := Lib.hid (((Ext.refl w).alloc _).grown hg9 (fun q hq => by simp [Value.ownBlock] at hq; omega)); clear hr9 hg9 hl9))
    go_ret
    exact Ret.mk HE9.out HR9.out
set_option maxRecDepth 20000 in
set_option maxHeartbeats 1600000 in
theorem clone_strs {F : Nat → Prop} {w : World} {A : Option Addr} {n c : Nat} {xs : List Value} (hcl : Cl F w A xs) (hl : xs.length = n * 1) (h1 : ∀ u ∈ xs, u.oneCell' = true) (hn : n ≤ 1048576) :
    Calls Tryz.prog 114 #[.slice A n c] w (Ret (fun x w' => w'.ownsRow w.heap.size 9 1 x n xs) w) := by
  obtain ⟨i0, hi0, hz0, hz1, hz2⟩ := info_parts info_string
  have HI0 := Lib.hid (And.intro hi0 (And.intro hz0 (And.intro hz1 hz2))); clear hi0 hz0 hz1 hz2
  have HCL := Lib.hid hcl; have HL := Lib.hid hl; have HO := Lib.hid h1
  clear hl h1
  rcases A with _ | ad
  · have HX : Hid (n = 0 ∧ xs = []) := Lib.hid (by
      rcases hcl with rfl | ⟨ad, e, -⟩
      · have := HL.out; simp at this; exact ⟨by omega, rfl⟩
      · cases e)
    clear hcl
    have q22 : ∀ (w : World) (n c n' c' : Nat), (binOp .eql 30 (.slice none n c) (.slice none n' c')).run Tryz.prog w = .ok (.bool true) w := fun w n c n' c' => Lib.run_eql_slice_nil w _ _ none n c n' c' Tryz.underlying30
    go_enter Tryz.func114, Tryz.ntmps114
    go_wp2_with fail
    go_ret
    exact Ret.mk (Ext.refl _) (by rw [HX.out.1, HX.out.2]; exact World.ownsRow_nil _ _ _ _)
  · have q22 : ∀ (w : World) (a : Addr) (n c n' c' : Nat), (binOp .eql 30 (.slice (some a) n c) (.slice none n' c')).run Tryz.prog w = .ok (.bool false) w := fun w a n c n' c' => Lib.run_eql_slice_nil w _ _ (some a) n c n' c' Tryz.underlying30
    clear hcl
    go_enter Tryz.func114, Tryz.ntmps114
    go_wp2_with (first | (at_builtin; refine wpList_append_opt rfl _ _ 30 rfl w.heap.size 9 i0 (.string ⟨#[]⟩) 1 16 Tryz.underlying30 HI0.out.1 HI0.out.2.1 HI0.out.2.2.1 HI0.out.2.2.2 rfl (by omega) (.slice (some ⟨w.heap.size, 0, none⟩) 0 0) 0 [] rfl (World.ownsRow_made w #[] 0 (Nat.le_refl _) (Nat.zero_le _) rfl) (some ad) n c xs rfl HL.out ((HCL.out.ext ((Ext.refl w).alloc _)).news) HO.out (by simp only [maxLen]; omega) (by omega) (by simp) ?_; intro v9 w9 hr9 hg9 hl9; rw [Nat.zero_add, List.nil_append] at hr9; obtain ⟨A9, c9, rfl⟩ := own_slice hr9; have HR9 := Lib.hid hr9; have HE9 : Hid (Ext w w9) := Lib.hid (((Ext.refl w).alloc _).grown hg9 (fun q hq => by simp [Value.ownBlock] at hq; omega)); clear hr9 hg9 hl9))
    go_ret
    exact Ret.mk HE9.out HR9.out
set_option maxRecDepth 20000 in
set_option maxHeartbeats 1600000 in
theorem clone_ints {F : Nat → Prop} {w : World} {A : Option Addr} {n c : Nat} {xs : List Value} (hcl : Cl F w A xs) (hl : xs.length = n * 1) (h1 : ∀ u ∈ xs, u.oneCell' = true) (hn : n ≤ 1048576) :
    Calls Tryz.prog 30 #[.slice A n c] w (Ret (fun x w' => w'.ownsRow w.heap.size 3 1 x n xs) w) := by
  obtain ⟨i0, hi0, hz0, hz1, hz2⟩ := info_parts info_int
  have HI0 := Lib.hid (And.intro hi0 (And.intro hz0 (And.intro hz1 hz2))); clear hi0 hz0 hz1 hz2
  have HCL := Lib.hid hcl; have HL := Lib.hid hl; have HO := Lib.hid h1
  clear hl h1
  rcases A with _ | ad
  · have HX : Hid (n = 0 ∧ xs = []) := Lib.hid (by
      rcases hcl with rfl | ⟨ad, e, -⟩
      · have := HL.out; simp at this; exact ⟨by omega, rfl⟩
      · cases e)
    clear hcl
    have q22 : ∀ (w : World) (n c n' c' : Nat), (binOp .eql 31 (.slice none n c) (.slice none n' c')).run Tryz.prog w = .ok (.bool true) w := fun w n c n' c' => Lib.run_eql_slice_nil w _ _ none n c n' c' Tryz.underlying31
    go_enter Tryz.func30, Tryz.ntmps30
    go_wp2_with fail
    go_ret
    exact Ret.mk (Ext.refl _) (by rw [HX.out.1, HX.out.2]; exact World.ownsRow_nil _ _ _ _)
  · have q22 : ∀ (w : World) (a : Addr) (n c n' c' : Nat), (binOp .eql 31 (.slice (some a) n c) (.slice none n' c')).run Tryz.prog w = .ok (.bool false) w := fun w a n c n' c' => Lib.run_eql_slice_nil w _ _ (some a) n c n' c' Tryz.underlying31
    clear hcl
    go_enter Tryz.func30, Tryz.ntmps30
    go_wp2_with (first | (at_builtin; refine wpList_append_opt rfl _ _ 31 rfl w.heap.size 3 i0 (.int .i64 0) 1 8 Tryz.underlying31 HI0.out.1 HI0.out.2.1 HI0.out.2.2.1 HI0.out.2.2.2 rfl (by omega) (.slice (some ⟨w.heap.size, 0, none⟩) 0 0) 0 [] rfl (World.ownsRow_made w #[] 0 (Nat.le_refl _) (Nat.zero_le _) rfl) (some ad) n c xs rfl HL.out ((HCL.out.ext ((Ext.refl w).alloc _)).news) HO.out (by simp only [maxLen]; omega) (by omega) (by simp) ?_; intro v9 w9 hr9 hg9 hl9; rw [Nat.zero_add, List.nil_append] at hr9; obtain ⟨A9, c9, rfl⟩ := own_slice hr9; have HR9 := Lib.hid hr9; have HE9 : Hid (Ext w w9) := Lib.hid (((Ext.refl w).alloc _).grown hg9 (fun q hq => by simp [Value.ownBlock] at hq; omega)); clear hr9 hg9 hl9))
    go_ret
    exact Ret.mk HE9.out HR9.out
end Go.Proofs.YtmmmdinncmbjkaaGreat
namespace Go.Proofs.YtmmmdinncmbjkaaGreat
open Go.RowKit Go.Maps
theorem zeroCells_one (z : Value) (hz : z.cells = #[z]) (n : Nat) : Builtin.zeroCells z.cells n = (List.replicate n z).toArray := by
  rw [hz]
  apply Array.toList_inj.1
  refine List.ext_getElem (by simp [Builtin.zeroCells]) (fun i h1 h2 => ?_)
  simp [Builtin.zeroCells, Nat.mod_one]
set_option maxRecDepth 20000 in
set_option maxHeartbeats 800000 in
theorem grow_nil {w : World} {n : Nat} (hn : n ≤ 1048576) :
    Calls Tryz.prog 137 #[.slice none 0 0, .int .i64 (n : Int)] w (Ret (fun x w' => w'.ownsRow w.heap.size 9 1 x 0 []) w) := by
  by_cases h0 : n = 0
  · subst h0
    go_enter Tryz.func137, Tryz.ntmps137
    go_wp2_with fail
    go_ret
    exact Ret.mk (Ext.refl _) (World.ownsRow_nil _ _ _ _)
  have hp : 0 < n := by omega
  have hp1 : (0 : Int) < (n : Int) := by omega
  have hp2 : ¬ (n : Int) < 0 := by omega
  clear h0
  obtain ⟨i0, hi0, hz0, hz1, hz2⟩ := info_parts info_string
  obtain ⟨W1, G, ROW, hrz, hG, hGm, hRl, hW1⟩ : ∃ (W1 : World) (G : Nat) (ROW : List Value), (∀ ty, (Builtin.append_ #[30, 3] ty #[.slice none 0 0, .int .i64 (n : Int)]).run Tryz.prog w = .ok (.slice (some ⟨w.heap.size, 0, none⟩) n G) W1) ∧ n ≤ G ∧ G ≤ maxLen ∧ ROW.length = G ∧ W1 = w.drew.alloc (.cells ROW.toArray 9) := by
    refine ⟨_, grownCap w n 0 9, List.replicate n (.string ⟨#[]⟩) ++ List.replicate (grownCap w n 0 9 - n) (.string ⟨#[]⟩), fun ty => ?_, grownCap_ge w n 0 9, grownCap_le_maxLen w n 0 9 (by unfold maxLen; omega), ?_, rfl⟩
    · have h := Lib.run_append_grow_zeros w 30 3 ty 9 i0 _ .i64 .i64 Tryz.underlying30 Tryz.underlying3 hi0 hz0 none 0 0 [] (by simp [Builtin.firstCells]) n hp (by omega) (by omega) (by omega) (by rw [hz2]; omega) (by rw [hz2]; exact growslice_fits (by omega) (by omega))
      rw [Nat.zero_add, zeroCells_one _ rfl, zeroCells_one _ rfl, List.append_toArray, List.append_toArray, List.nil_append] at h
      exact h
    · have := grownCap_ge w n 0 9
      simp; omega
  have hown : W1.ownsRow w.heap.size 9 1 (.slice (some ⟨w.heap.size, 0, none⟩) 0 G) 0 [] := by
    rw [hW1]
    exact World.ownsRow_made w.drew ROW.toArray G (Nat.le_refl _) hGm (by simp [hRl])
  have hext : Ext w W1 := by rw [hW1]; exact (Ext.refl w).drew.alloc _
  have HOWN := Lib.hid hown; have HEXT := Lib.hid hext
  have hG1 : (0 : Int) ≤ (G : Int) := by omega
  unfold maxLen at hGm
  have hG2 : (G : Int) ≤ 9223372036854775807 := by omega
  clear hW1 hRl hown hext
  go_enter Tryz.func137, Tryz.ntmps137
  go_wp2_with (first | (at_builtin; refine Lib.wpList_append_run _ rfl _ _ _ _ rfl _ _ rfl rfl _ _ (hrz _) ?_))
  go_ret
  exact Ret.mk HEXT.out HOWN.out
set_option maxRecDepth 20000 in
set_option maxHeartbeats 1600000 in
theorem concat2 {F G : Nat → Prop} {w : World} {g : Nat} {A B : Option Addr} {na ca nb cb : Nat} {l m : List ByteArray} (kb : Bk w g 30 [.slice A na ca, .slice B nb cb]) (hA : Strs F w (.slice A na ca) l) (hB : Strs G w (.slice B nb cb) m) (hs : l.length + m.length ≤ 1048576) :
    Calls Tryz.prog 117 #[.slice (some ⟨g, 0, none⟩) 2 2] w (Ret (fun x w' => w'.ownsRow w.heap.size 9 1 x (l.length + m.length) (l.map Sv ++ m.map Sv)) w) := by
  obtain ⟨A', c', e, hca, hcl⟩ := hA
  injection e with e1 e2 e3
  subst e1 e3
  obtain ⟨B', d', e, hcb, hcm⟩ := hB
  injection e with e1 e4 e3
  subst e1 e3
  rw [← e2] at hca hs ⊢
  rw [← e4] at hcb hs ⊢
  have HE2 := Lib.hid e2; have HE4 := Lib.hid e4; have HCL := Lib.hid hcl; have HCM := Lib.hid hcm; have HKB := Lib.hid kb
  have c0 := kb.cell (i := 0) (by simp); have c1 := kb.cell (i := 1) (by simp)
  simp only [List.getElem_cons_zero, List.getElem_cons_succ] at c0 c1
  obtain ⟨i0, hi0, hz0, hz1, hz2⟩ := info_parts info_string
  have HI0 := Lib.hid (And.intro hi0 (And.intro hz0 (And.intro hz1 hz2))); clear hi0 hz0 hz1 hz2
  have HL : Hid ((l.map Sv).length = na * 1 ∧ (m.map Sv).length = nb * 1) := Lib.hid ⟨by simp; omega, by simp; omega⟩
  clear e2 e4 hcl hcm kb
  have k1 : (0 : Int) ≤ (na : Int) := by omega
  have k2 : ¬ (na : Int) < 0 := by omega
  have k3 : ¬ (na : Int) + (nb : Int) < 0 := by omega
  have hn : na + nb ≤ 1048576 := hs
  go_enter Tryz.func117, Tryz.ntmps117
  go_wp2_with fail
  refine wp_loop_rounds 3 ?_
  rw [rounds_succ]
  go_wp2_with fail
  rw [rounds_succ]
  go_wp2_with fail
  rw [rounds_succ]
  go_wp2_with fail
  have hgrow := grow_nil (w := w) hn
  rw [show ((na + nb : Nat) : Int) = (na : Int) + (nb : Int) by omega] at hgrow
  refine hgrow.mono ?_
  rintro e w1 ⟨v1, rfl, he, hown⟩
  obtain ⟨A1, n1, rfl⟩ := own_slice hown
  replace c0 := he.cell c0; replace c1 := he.cell c1
  have HOWN := Lib.hid hown; have HX := Lib.hid he
  clear hgrow hown he
  go_wp2_with fail
  refine wp_loop_rounds 3 ?_
  rw [rounds_succ]
  go_wp2_with (first | (at_builtin; refine wpList_append_opt rfl _ _ 30 rfl w.heap.size 9 i0 (.string ⟨#[]⟩) 1 16 Tryz.underlying30 HI0.out.1 HI0.out.2.1 HI0.out.2.2.1 HI0.out.2.2.2 rfl (by omega) (.slice A1 0 n1) 0 [] rfl HOWN.out A na ca (l.map Sv) rfl HL.out.1 ((HCL.out.ext HX.out).news) (by simp [Value.oneCell']) (by simp only [maxLen]; omega) (by omega) HX.out.size ?_; intro v9 w9 hr9 hg9 hl9; rw [Nat.zero_add, List.nil_append] at hr9; obtain ⟨A9, c9, rfl⟩ := own_slice hr9; have HR9 := Lib.hid hr9; have hx9 : Ext w w9 := HX.out.grown hg9 (fun q hq => own_ge HOWN.out hq); have b0 := (HKB.out.ext hx9).cell (i := 0) (by simp); have b1 := (HKB.out.ext hx9).cell (i := 1) (by simp); simp only [List.getElem_cons_zero, List.getElem_cons_succ] at b0 b1; have HX9 := Lib.hid hx9; clear hr9 hg9 hl9 hx9))
  rw [rounds_succ]
  go_wp2_with (first | (at_builtin; refine wpList_append_opt rfl _ _ 30 rfl w.heap.size 9 i0 (.string ⟨#[]⟩) 1 16 Tryz.underlying30 HI0.out.1 HI0.out.2.1 HI0.out.2.2.1 HI0.out.2.2.2 rfl (by omega) (.slice A9 na c9) na (l.map Sv) rfl HR9.out B nb cb (m.map Sv) rfl HL.out.2 ((HCM.out.ext HX9.out).news) (by simp [Value.oneCell']) (by simp only [maxLen]; omega) (by omega) HX9.out.size ?_; intro v8 w8 hr8 hg8 hl8; obtain ⟨A8, c8, rfl⟩ := own_slice hr8; have HR8 := Lib.hid hr8; have HX8 : Hid (Ext w w8) := Lib.hid (HX9.out.grown hg8 (fun q hq => own_ge HR9.out hq)); clear hr8 hg8 hl8))
  rw [rounds_succ]
  go_wp2_with fail
  go_ret
  exact Ret.mk HX8.out HR8.out
end Go.Proofs.YtmmmdinncmbjkaaGreat
