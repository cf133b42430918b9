/- Contracts: slices.Grow, slices.Concat at names. -/
import Derived.Test.YtmmmdinncmbjkaaNk
import Derived.Lib.AppendZerosOnto
namespace Go.Proofs.Ytmmmdinncmbjkaa
open Go.RowKit Go.Maps

theorem zeroCells_one (z : Value) (hz : z.cells = #[z]) (n : Nat) : Builtin.zeroCells z.cells n = (List.replicate n z).toArray := by
  rw [hz]
  apply Array.toList_inj.1
  refine List.ext_getElem (by simp [Builtin.zeroCells]) (fun i h1 h2 => ?_)
  simp [Builtin.zeroCells, Nat.mod_one]
set_option maxRecDepth 20000 in
set_option maxHeartbeats 800000 in
theorem grow_nil {w : World} {n : Nat} (hn : n ≤ 1048576) :
    Calls Try.prog 65 #[.slice none 0 0, .int .i64 (n : Int)] w (Ret (fun x w' => w'.ownsRow w.heap.size 9 1 x 0 []) w) := by
  by_cases h0 : n = 0
  · subst h0
    go_enter Try.func65, Try.ntmps65
    go_wp2_with fail
    go_ret
    exact Ret.mk (Ext.refl _) (World.ownsRow_nil _ _ _ _)
  have hp : 0 < n := by omega
  have hp1 : (0 : Int) < (n : Int) := by omega
  have hp2 : ¬ (n : Int) < 0 := by omega
  clear h0
  obtain ⟨i0, hi0, hz0, hz1, hz2⟩ := info_parts info_string
  obtain ⟨W1, G, ROW, hrz, hG, hGm, hRl, hW1⟩ : ∃ (W1 : World) (G : Nat) (ROW : List Value), (∀ ty, (Builtin.append_ #[23, 3] ty #[.slice none 0 0, .int .i64 (n : Int)]).run Try.prog w = .ok (.slice (some ⟨w.heap.size, 0, none⟩) n G) W1) ∧ n ≤ G ∧ G ≤ maxLen ∧ ROW.length = G ∧ W1 = w.drew.alloc (.cells ROW.toArray 9) := by
    refine ⟨_, grownCap w n 0 9, List.replicate n (.string ⟨#[]⟩) ++ List.replicate (grownCap w n 0 9 - n) (.string ⟨#[]⟩), fun ty => ?_, grownCap_ge w n 0 9, grownCap_le_maxLen w n 0 9 (by unfold maxLen; omega), ?_, rfl⟩
    · have h := Lib.run_append_grow_zeros w 23 3 ty 9 i0 _ .i64 .i64 Try.underlying23 Try.underlying3 hi0 hz0 none 0 0 [] (by simp [Builtin.firstCells]) n hp (by omega) (by omega) (by omega) (by rw [hz2]; omega) (by rw [hz2]; exact growslice_fits (by omega) (by omega))
      rw [Nat.zero_add, zeroCells_one _ rfl, zeroCells_one _ rfl, List.append_toArray, List.append_toArray, List.nil_append] at h
      exact h
    · have := grownCap_ge w n 0 9
      simp; omega
  have hown : W1.ownsRow w.heap.size 9 1 (.slice (some ⟨w.heap.size, 0, none⟩) 0 G) 0 [] := by
    rw [hW1]
    exact World.ownsRow_made w.drew ROW.toArray G (Nat.le_refl _) hGm (by simp [hRl])
  have hext : Ext w W1 := by rw [hW1]; exact (Ext.refl w).drew.alloc _
  have HOWN := Lib.hid hown; have HEXT := Lib.hid hext
  have hG1 : (0 : Int) ≤ (G : Int) := by omega
  unfold maxLen at hGm
  have hG2 : (G : Int) ≤ 9223372036854775807 := by omega
  clear hW1 hRl hown hext
  go_enter Try.func65, Try.ntmps65
  go_wp2_with (first | (at_builtin; refine Lib.wpList_append_run _ rfl _ _ _ _ rfl _ _ rfl rfl _ _ (hrz _) ?_))
  go_ret
  exact Ret.mk HEXT.out HOWN.out
set_option maxRecDepth 20000 in
set_option maxHeartbeats 1600000 in
theorem concat2 {F G : Nat → Prop} {w : World} {g : Nat} {A B : Option Addr} {na ca nb cb : Nat} {l m : List ByteArray} (kb : Bk w g 23 [.slice A na ca, .slice B nb cb]) (hA : Strs F w (.slice A na ca) l) (hB : Strs G w (.slice B nb cb) m) (hs : l.length + m.length ≤ 1048576) :
    Calls Try.prog 48 #[.slice (some ⟨g, 0, none⟩) 2 2] w (Ret (fun x w' => w'.ownsRow w.heap.size 9 1 x (l.length + m.length) (l.map Sv ++ m.map Sv)) w) := by
  obtain ⟨A', c', e, hca, hcl⟩ := hA
  injection e with e1 e2 e3
  subst e1 e3
  obtain ⟨B', d', e, hcb, hcm⟩ := hB
  injection e with e1 e4 e3
  subst e1 e3
  rw [← e2] at hca hs ⊢
  rw [← e4] at hcb hs ⊢
  have HE2 := Lib.hid e2; have HE4 := Lib.hid e4; have HCL := Lib.hid hcl; have HCM := Lib.hid hcm; have HKB := Lib.hid kb
  have c0 := kb.cell (i := 0) (by simp); have c1 := kb.cell (i := 1) (by simp)
  simp only [List.getElem_cons_zero, List.getElem_cons_succ] at c0 c1
  obtain ⟨i0, hi0, hz0, hz1, hz2⟩ := info_parts info_string
  have HI0 := Lib.hid (And.intro hi0 (And.intro hz0 (And.intro hz1 hz2))); clear hi0 hz0 hz1 hz2
  have HL : Hid ((l.map Sv).length = na * 1 ∧ (m.map Sv).length = nb * 1) := Lib.hid ⟨by simp; omega, by simp; omega⟩
  clear e2 e4 hcl hcm kb
  have k1 : (0 : Int) ≤ (na : Int) := by omega
  have k2 : ¬ (na : Int) < 0 := by omega
  have k3 : ¬ (na : Int) + (nb : Int) < 0 := by omega
  have hn : na + nb ≤ 1048576 := hs
  go_enter Try.func48, Try.ntmps48
  go_wp2_with fail
  refine wp_loop_rounds 3 ?_
  rw [rounds_succ]
  go_wp2_with fail
  rw [rounds_succ]
  go_wp2_with fail
  rw [rounds_succ]
  go_wp2_with fail
  have hgrow := grow_nil (w := w) hn
  rw [show ((na + nb : Nat) : Int) = (na : Int) + (nb : Int) by omega] at hgrow
  refine hgrow.mono ?_
  rintro e w1 ⟨v1, rfl, he, hown⟩
  obtain ⟨A1, n1, rfl⟩ := own_slice hown
  replace c0 := he.cell c0; replace c1 := he.cell c1
  have HOWN := Lib.hid hown; have HX := Lib.hid he
  clear hgrow hown he
  go_wp2_with fail
  refine wp_loop_rounds 3 ?_
  rw [rounds_succ]
  go_wp2_with (first | (at_builtin; refine wpList_append_opt rfl _ _ 23 rfl w.heap.size 9 i0 (.string ⟨#[]⟩) 1 16 Try.underlying23 HI0.out.1 HI0.out.2.1 HI0.out.2.2.1 HI0.out.2.2.2 rfl (by omega) (.slice A1 0 n1) 0 [] rfl HOWN.out A na ca (l.map Sv) rfl HL.out.1 ((HCL.out.ext HX.out).news) (by simp [Value.oneCell']) (by simp only [maxLen]; omega) (by omega) HX.out.size ?_; intro v9 w9 hr9 hg9 hl9; rw [Nat.zero_add, List.nil_append] at hr9; obtain ⟨A9, c9, rfl⟩ := own_slice hr9; have HR9 := Lib.hid hr9; have hx9 : Ext w w9 := HX.out.grown hg9 (fun q hq => own_ge HOWN.out hq); have b0 := (HKB.out.ext hx9).cell (i := 0) (by simp); have b1 := (HKB.out.ext hx9).cell (i := 1) (by simp); simp only [List.getElem_cons_zero, List.getElem_cons_succ] at b0 b1; have HX9 := Lib.hid hx9; clear hr9 hg9 hl9 hx9))
  rw [rounds_succ]
  go_wp2_with (first | (at_builtin; refine wpList_append_opt rfl _ _ 23 rfl w.heap.size 9 i0 (.string ⟨#[]⟩) 1 16 Try.underlying23 HI0.out.1 HI0.out.2.1 HI0.out.2.2.1 HI0.out.2.2.2 rfl (by omega) (.slice A9 na c9) na (l.map Sv) rfl HR9.out B nb cb (m.map Sv) rfl HL.out.2 ((HCM.out.ext HX9.out).news) (by simp [Value.oneCell']) (by simp only [maxLen]; omega) (by omega) HX9.out.size ?_; intro v8 w8 hr8 hg8 hl8; obtain ⟨A8, c8, rfl⟩ := own_slice hr8; have HR8 := Lib.hid hr8; have HX8 : Hid (Ext w w8) := Lib.hid (HX9.out.grown hg8 (fun q hq => own_ge HR9.out hq)); clear hr8 hg8 hl8))
  rw [rounds_succ]
  go_wp2_with fail
  go_ret
  exact Ret.mk HX8.out HR8.out
end Go.Proofs.Ytmmmdinncmbjkaa
