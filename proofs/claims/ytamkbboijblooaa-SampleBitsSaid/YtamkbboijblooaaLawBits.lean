/- The walk of SampleBits. -/
import Derived.Test.YtamkbboijblooaaSamJ
import Derived.Deep.RegionWith
import Derived.Deep.DrawnRows
namespace Go.Proofs.Ytamkbboijblooaa
open Go.RowKit
attribute [local go_sem ↓] Go.wp_at_zero Go.wp_at_succ

def BitsAt (L b p : Nat) (w : World) (e : Ending) (w' : World) : Prop :=
  Ext w w' ∧ ∃ ad c, e = .returned (.slice (some ad) L c) ∧ w'.cell? (ad.add p) = some (.int .i64 (b : Int))
theorem refBits_at {w : World} {v : Value} {bs : List Nat} {p : Nat} (h : By w v bs) (hlen : bs.length ≤ 1000000) (hp : p < 8 * bs.length) :
    Calls Try.prog 23 #[v] w (BitsAt (8 * bs.length) (bitAt bs p) p w) := by
  refine (refBits h hlen).mono ?_
  rintro e w' ⟨x, rfl, he, hx⟩
  obtain ⟨A, c, rfl, -, hcell⟩ := hx.parts
  rw [bitsOf_length] at hcell ⊢
  obtain ⟨ad, rfl, hc⟩ := hcell p hp
  rw [bitsOf_get bs _ p hp] at hc
  exact ⟨he, ad, c, rfl, hc⟩

set_option maxRecDepth 20000 in
set_option maxHeartbeats 6400000 in
theorem law_bits {w : World} {t : Value} {bs : List Nat} {pos : Int} (ht : Tp w t bs pos) (hp1 : -9223372036854775808 ≤ pos) (hp2 : pos < 9223372036854775808) :
    Calls Try.prog 5 #[t] w (Ret (fun x _ => x = .bool true) w) := by
  obtain ⟨s, rfl, hs⟩ := ht
  obtain ⟨A, c, rfl, -⟩ := hs.parts
  have hx : Ext w (w.alloc (.cells #[.slice A bs.length c, .int .i64 pos] 25)) := (Ext.refl w).alloc _
  have hlb := hs.2.1
  by_cases hlen : 60 < bs.length
  · go_enter Try.func5, Try.ntmps5
    go_wp2_with fail
    refine (awake_true _).mono ?_
    rintro e w2 ⟨x, rfl, he2, rfl⟩
    go_wp2_with fail
    go_ret
    exact Ret.mk (hx.trans he2) rfl
  · have hlen' : bs.length ≤ 60 := by omega
    clear hlen
    have HX := Lib.hid hx; clear hx
    go_enter Try.func5, Try.ntmps5
    go_wp2_with fail
    have hx := HX.out
    have k0 := Bk.new w 25 [.slice A bs.length c, .int .i64 pos]
    change Bk (w.alloc (.cells #[.slice A bs.length c, .int .i64 pos] 25)) _ _ _ at k0
    clear HX
    generalize (w.alloc (.cells #[.slice A bs.length c, .int .i64 pos] 25)) = W at *
    have hW := hs.ext hx
    by_cases hbad : pos < 0 ∨ 8 * (bs.length : Int) ≤ pos
    · refine (Bit_end ⟨_, rfl, hW⟩ hbad hp2).mono ?_
      rintro e w1 ⟨rfl, he1⟩
      replace k0 := k0.ext he1
      have hxx := hx.trans he1
      clear hx he1
      have d0 := k0.cell (i := 0) (by simp)
      have d1 := k0.cell (i := 1) (by simp)
      simp only [List.getElem_cons_zero, List.getElem_cons_succ] at d0 d1
      have D0 := fun o => ((Ext.refl w1).alloc o).cell d0
      have D1 := fun o => ((Ext.refl w1).alloc o).cell d1
      rcases hbad with hb | hb
      all_goals
        go_wp2_with fail
        refine (zero_tp (bs := []) (pos := 0) ⟨_, rfl, By.nil _⟩).mono ?_
        rintro e w3 ⟨x, rfl, he3, rfl⟩
        rw [show zeroB ([] : List Nat).length 0 = true from rfl]
        go_wp2_with fail
        refine (awake_true _).mono ?_
        rintro e w5 ⟨x, rfl, he5, rfl⟩
        go_wp2_with fail
        go_ret
        exact Ret.mk (((hxx.alloc _).trans he3).trans he5) rfl
    · obtain ⟨p, rfl⟩ := Int.eq_ofNat_of_zero_le (show 0 ≤ pos by omega)
      have hp : p < 8 * bs.length := by omega
      clear hbad hp1 hp2
      refine (Bit_next ⟨_, rfl, hW⟩ hp).mono ?_
      rintro e w1 ⟨x, rfl, he1, u, rfl, s', rfl, hs'⟩
      obtain ⟨A', c', rfl, -⟩ := hs'.parts
      generalize hq : ((p + 1 : Nat) : Int) = q at *
      have HQ := Lib.hid hq; clear hq
      have hbit := bitAt_le bs p
      have hrb := fun (U : World) (v : Value) (h : By U v bs) => refBits_at h (by omega) hp
      generalize hB : bitAt bs p = b at *
      have HBI := Lib.hid hB; clear hB
      have HRB := Lib.hid hrb; clear hrb
      replace k0 := k0.ext he1
      have hxx := hx.trans he1
      replace hW := hW.ext he1
      clear hx he1
      have d0 := k0.cell (i := 0) (by simp)
      have d1 := k0.cell (i := 1) (by simp)
      simp only [List.getElem_cons_zero, List.getElem_cons_succ] at d0 d1
      have D0 := fun o => ((Ext.refl w1).alloc o).cell d0
      have D1 := fun o => ((Ext.refl w1).alloc o).cell d1
      have n1 : ¬ (p : Int) < 0 := by omega
      have n2 : ¬ 8 * (bs.length : Int) ≤ (p : Int) := by omega
      have n3 : decide ((p : Int) < 0) = false := by simp
      have HB := Lib.hid hs'; have HW := Lib.hid hW; have HXX := Lib.hid hxx; have HK := Lib.hid k0; clear hs' hW hxx k0
      go_upto_region 6 with fail
      clear D0 D1
      have z : Ext w1 (w1.alloc (.cells #[.slice A' bs.length c', .int .i64 q] 25)) := (Ext.refl w1).alloc _
      have kb := Bk.new w1 25 [.slice A' bs.length c', .int .i64 q]
      change Bk (w1.alloc (.cells #[.slice A' bs.length c', .int .i64 q] 25)) _ _ _ at kb
      generalize (w1.alloc (.cells #[.slice A' bs.length c', .int .i64 q] 25)) = V at *
      replace d0 := z.cell d0
      replace d1 := z.cell d1
      have e0 := kb.cell (i := 0) (by simp)
      have e1 := kb.cell (i := 1) (by simp)
      simp only [List.getElem_cons_zero, List.getElem_cons_succ] at e0 e1
      have s1 : IntKind.i64.wrap ((p : Int) + 1) = q := by rw [← HQ.out]; exact IntWalk.i64_in _ (by omega)
      have s2 : (p : Int) < ((8 * bs.length : Nat) : Int) := by omega
      have s3 : ((b : Int) == (b : Int)) = true := by simp
      have s4 : (b == b) = true := by simp
      go_region_with (first
          | (go_at_call 23; refine (HRB.out _ _ ?_).mono ?_; exact (HW.out.ext z).ext ((Ext.refl _).drew); rintro e wa ⟨hea, ad, co, rfl, hcell⟩; have da0 := hea.cell d0; have da1 := hea.cell d1; have ea0 := hea.cell e0; have ea1 := hea.cell e1)
          | (go_at_call 24; refine (is_tp (a := bs) (b := bs) (p := q) (q := (p : Int)) (r := q) ⟨_, rfl, (HB.out.ext z).ext ((Ext.refl _).drew.trans hea)⟩ ⟨_, rfl, (HW.out.ext z).ext ((Ext.refl _).drew.trans hea)⟩).mono ?_; rintro e wb ⟨x, rfl, heb, rfl⟩; rw [show (decide (bs = bs) && decide (q = q)) = true by simp])
          | (go_at_call 17; refine (awake_true _).mono ?_; rintro e wd ⟨x, rfl, hed, rfl⟩))
      all_goals go_wp2_with fail
      all_goals go_ret
      all_goals exact Ret.mk ((((HXX.out.trans z).drew.trans hea).trans heb).trans hed) rfl
end Go.Proofs.Ytamkbboijblooaa
