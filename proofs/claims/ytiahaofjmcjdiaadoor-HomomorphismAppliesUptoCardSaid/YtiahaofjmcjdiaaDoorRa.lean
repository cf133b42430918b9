/- Contracts: ordinalref24.Image and same. -/
import Derived.Test.YtiahaofjmcjdiaaDoorHt
namespace Go.Proofs.YtiahaofjmcjdiaaDoor
open Go.RowKit

/-- The image of a number: the first pair counts. -/
def imgZ : List Int → List Int → Int → Int
  | v :: vs, i :: is, t => if v = t then i else imgZ vs is t
  | _, _, t => t
theorem imgZ_hit : ∀ {vs is : List Int} {t : Int} {k : Nat} (h : k < vs.length) (h' : k < is.length), (∀ j (hj : j < vs.length), j < k → vs[j] ≠ t) → vs[k] = t → imgZ vs is t = is[k]
  | v :: vs, i :: is, t, 0, _, _, _, e => by
    have e : v = t := e
    simp [imgZ, e]
  | v :: vs, i :: is, t, k + 1, h, h', hn, e => by
    have h0 : v ≠ t := hn 0 (by simp) (by omega)
    rw [imgZ, if_neg h0]
    exact imgZ_hit (vs := vs) (is := is) (k := k) (by simpa using h) (by simpa using h') (fun j hj hjk => hn (j + 1) (by simpa using hj) (by omega)) e
theorem imgZ_miss : ∀ {vs is : List Int} {t : Int}, (∀ j (hj : j < vs.length), j < is.length → vs[j] ≠ t) → imgZ vs is t = t
  | [], _, _, _ => by simp [imgZ]
  | _ :: _, [], _, _ => by simp [imgZ]
  | v :: vs, i :: is, t, h => by
    have h0 : v ≠ t := h 0 (by simp) (by simp)
    rw [imgZ, if_neg h0]
    exact imgZ_miss (fun j hj hj2 => h (j + 1) (by simpa using hj) (by simpa using hj2))

set_option maxRecDepth 20000 in
set_option maxHeartbeats 800000 in
theorem image_any {F G : Nat → Prop} {w : World} {v u : Value} {vs is : List Int} {x : Int} (h : Ins F w v vs) (hi : Ins G w u is) (hl : vs.length ≤ 1048577) :
    Calls Tryd.prog 37 #[v, u, .int .i64 x] w (fun e w' => e = .returned (.int .i64 (imgZ vs is x)) ∧ w = w') := by
  obtain ⟨A, c, rfl, hc, hcl⟩ := h
  obtain ⟨B, d, rfl, hd, hcd⟩ := hi
  obtain ⟨n, hn⟩ : ∃ n, n = vs.length := ⟨_, rfl⟩
  obtain ⟨m, hm⟩ : ∃ m, m = is.length := ⟨_, rfl⟩
  rw [← hn] at hc hl ⊢
  rw [← hm] at hd ⊢
  have HN := Lib.hid hn; have HCL := Lib.hid hcl; have HM := Lib.hid hm; have HCD := Lib.hid hcd
  clear hn hcl hm hcd
  go_enter Tryd.func37, Tryd.ntmps37
  go_wp2_with fail
  go_loopw [7] (fun q wr => ∃ i : Nat, i ≤ n ∧ q = .int .i64 (i : Int) ∧ (∀ j (h : j < vs.length), j < i → vs[j] ≠ x) ∧ wr = w) (fun q _ => n - (intOf q).toNat)
  case atStart => exact ⟨0, Nat.zero_le _, rfl, fun _ _ h => absurd h (by omega), rfl⟩
  case round =>
    obtain ⟨i, hi, rfl, hne, rfl⟩ := hrel
    have HNE := Lib.hid hne
    clear hne
    by_cases hlt : i < n
    · have hiz : i < vs.length := by have := HN.out; omega
      have i1 : (0 : Int) ≤ (i : Int) := by omega
      have i2 : (i : Int) < (n : Int) := by omega
      by_cases hlm : i < m
      · have him : i < is.length := by have := HM.out; omega
        have i3 : (i : Int) < (m : Int) := by omega
        obtain ⟨ad, rfl, -, c0⟩ := HCL.out.int (i := i) hiz
        obtain ⟨ad2, rfl, -, d0⟩ := HCD.out.int (i := i) him
        obtain ⟨y, hy⟩ : ∃ y, y = vs[i] := ⟨_, rfl⟩
        rw [← hy] at c0
        obtain ⟨z, hz⟩ : ∃ z, z = is[i] := ⟨_, rfl⟩
        rw [← hz] at d0
        have HY := Lib.hid hy; have HZ := Lib.hid hz
        clear hy hz
        by_cases hyx : y = x
        · subst hyx
          go_wp2_with fail
          go_ret
          rw [imgZ_hit hiz him HNE.out HY.out.symm, ← HZ.out]
          exact ⟨rfl, rfl⟩
        · have HYX := Lib.hid hyx
          have hyx2 : (y == x) = false := by simp [hyx]
          go_wp2_with fail
          all_goals first
            | contradiction
            | (go_roundw
               case rel =>
                 refine ⟨i + 1, by omega, by go_num, fun j hj hji => ?_, trivial⟩
                 rcases Nat.lt_or_ge j i with h | h
                 · exact HNE.out j hj h
                 · obtain rfl : j = i := by omega
                   rw [← HY.out]; exact HYX.out
               case measure => simp [intOf]; omega)
      · have i3 : decide ((i : Int) < (m : Int)) = false := decide_eq_false (by omega)
        go_wp2_with fail
        go_ret
        rw [imgZ_miss (fun j hj hj2 => HNE.out j hj (by have := HM.out; omega))]
        exact ⟨rfl, rfl⟩
    · obtain rfl : i = n := by omega
      have hdn : ¬ (i : Int) < (i : Int) := by omega
      go_wp2_with fail
      go_ret
      rw [imgZ_miss (fun j hj _ => HNE.out j hj (by have := HN.out; omega))]
      exact ⟨rfl, rfl⟩

theorem list_ne {α : Type} {a b : List α} (hl : a.length = b.length) {i : Nat} (h : i < a.length) (h' : i < b.length) (hne : a[i] ≠ b[i]) : a ≠ b := fun e => by subst e; exact hne rfl

set_option maxRecDepth 20000 in
set_option maxHeartbeats 1600000 in
theorem same_any {F G : Nat → Prop} {w : World} {ra rb : ByteArray} {v u : Value} {za zb : List Int} (h : Ins F w v za) (hi : Ins G w u zb) (hl : za.length ≤ 1048577) :
    Calls Tryd.prog 33 #[.agg #[.string ra, v], .agg #[.string rb, u]] w (Ret (fun x _ => x = .bool (decide ((⟨ra, za⟩ : RAt) = ⟨rb, zb⟩))) w) := by
  obtain ⟨A, c, rfl, hc, hcl⟩ := h
  obtain ⟨B, d, rfl, hd, hcd⟩ := hi
  obtain ⟨n, hn⟩ : ∃ n, n = za.length := ⟨_, rfl⟩
  obtain ⟨m, hm⟩ : ∃ m, m = zb.length := ⟨_, rfl⟩
  rw [← hn] at hc hl ⊢
  rw [← hm] at hd ⊢
  have HN := Lib.hid hn; have HCL := Lib.hid hcl; have HM := Lib.hid hm; have HCD := Lib.hid hcd
  clear hn hcl hm hcd
  by_cases hrel : ra = rb
  · subst hrel
    by_cases hlen : n = m
    · subst hlen
      go_enter Tryd.func33, Tryd.ntmps33
      go_wp2_with fail
      have hx1 : Ext w ((w.alloc (.cells #[.string ra, .slice A n c] 58)).alloc (.cells #[.string ra, .slice B n d] 58)) := ((Ext.refl w).alloc _).alloc _
      have k1 : Bk ((w.alloc (.cells #[.string ra, .slice A n c] 58)).alloc (.cells #[.string ra, .slice B n d] 58)) w.heap.size 58 [.string ra, .slice A n c] := (Bk.new w _ [.string ra, .slice A n c]).alloc _
      have k2 : Bk ((w.alloc (.cells #[.string ra, .slice A n c] 58)).alloc (.cells #[.string ra, .slice B n d] 58)) (w.heap.size + 1) 58 [.string ra, .slice B n d] := by
        have h := Bk.new (w.alloc (.cells #[.string ra, .slice A n c] 58)) 58 [.string ra, .slice B n d]
        rw [show (w.alloc (.cells #[.string ra, .slice A n c] 58)).heap.size = w.heap.size + 1 by simp] at h
        exact h
      generalize ((w.alloc (.cells #[.string ra, .slice A n c] 58)).alloc (.cells #[.string ra, .slice B n d] 58)) = w1 at *
      have HX1 := Lib.hid hx1; have HK1 := Lib.hid k1; have HK2 := Lib.hid k2
      clear hx1 k1 k2
      go_loopw [5] (fun q wr => ∃ i : Nat, i ≤ n ∧ q = .int .i64 (i : Int) ∧ (∀ j (h : j < za.length) (h' : j < zb.length), j < i → za[j] = zb[j]) ∧ Ext w1 wr) (fun q _ => n - (intOf q).toNat)
      case atStart => exact ⟨0, Nat.zero_le _, rfl, fun _ _ _ h => absurd h (by omega), Ext.refl _⟩
      case round =>
        obtain ⟨i, hi, rfl, hok, hext⟩ := hrel
        have HOK := Lib.hid hok; have HE := Lib.hid hext
        clear hok
        have g1 := (HK1.out.ext hext).cell (i := 1) (by simp)
        have g2 := (HK2.out.ext hext).cell (i := 1) (by simp)
        simp only [List.getElem_cons_zero, List.getElem_cons_succ] at g1 g2
        by_cases hlt : i < n
        · have i1 : (0 : Int) ≤ (i : Int) := by omega
          have i2 : (i : Int) < (n : Int) := by omega
          have hia : i < za.length := by have := HN.out; omega
          have hib : i < zb.length := by have := HM.out; omega
          obtain ⟨ad, rfl, -, c0⟩ := HCL.out.int (i := i) hia
          obtain ⟨ad2, rfl, -, d0⟩ := HCD.out.int (i := i) hib
          replace c0 := (HX1.out.trans hext).cell c0
          replace d0 := (HX1.out.trans hext).cell d0
          obtain ⟨y, hy⟩ : ∃ y, y = za[i] := ⟨_, rfl⟩
          rw [← hy] at c0
          obtain ⟨z, hz⟩ : ∃ z, z = zb[i] := ⟨_, rfl⟩
          rw [← hz] at d0
          have HY := Lib.hid hy; have HZ := Lib.hid hz
          clear hy hz hext
          by_cases hyz : y = z
          · have HYZ := Lib.hid hyz
            subst hyz
            go_wp2_with fail
            go_region
            go_wp2_with fail
            go_roundw
            case rel =>
              refine ⟨i + 1, by omega, by go_num, fun j hj hj2 hji => ?_, by first | exact HE.out | exact HE.out.drew⟩
              rcases Nat.lt_or_ge j i with h | h
              · exact HOK.out j hj hj2 h
              · obtain rfl : j = i := by omega
                rw [← HY.out, ← HZ.out]
            case measure => simp [intOf]; omega
          · have HYZ := Lib.hid hyz
            have hyz2 : (y == z) = false := by simp [hyz]
            go_wp2_with fail
            go_region
            go_wp2_with fail
            go_ret
            refine Ret.mk (HX1.out.trans HE.out.drew) ?_
            rw [decide_eq_false (fun e => by injection e with _ e; exact list_ne (by rw [← HN.out, ← HM.out]) hia hib (by rw [← HY.out, ← HZ.out]; exact HYZ.out) e)]
            rfl
        · obtain rfl : i = n := by omega
          have hdn : ¬ (i : Int) < (i : Int) := by omega
          clear hext
          go_wp2_with fail
          go_ret
          refine Ret.mk (HX1.out.trans HE.out) ?_
          have e : za = zb := List.ext_getElem (by rw [← HN.out, ← HM.out]) (fun j h1 h2 => HOK.out j h1 h2 (by have := HN.out; omega))
          rw [decide_eq_true (by rw [e])]
          rfl
    · have hlen2 : ¬ (n : Int) = (m : Int) := by omega
      have HNL : Hid (za.length ≠ zb.length) := Lib.hid (by rw [← HN.out, ← HM.out]; exact hlen)
      clear hlen
      go_enter Tryd.func33, Tryd.ntmps33
      go_wp2_with fail
      all_goals first
        | contradiction
        | (go_ret
           refine Ret.mk (((Ext.refl w).alloc _).alloc _) ?_
           rw [decide_eq_false (fun e => by injection e with _ e; exact HNL.out (by rw [e]))]
           rfl)
  · have hrel2 : ¬ ra.toList = rb.toList := fun e => hrel (toList_inj e)
    have HNR := Lib.hid hrel
    clear hrel
    go_enter Tryd.func33, Tryd.ntmps33
    go_wp2_with fail
    all_goals first
      | contradiction
      | (go_ret
         refine Ret.mk (((Ext.refl w).alloc _).alloc _) ?_
         rw [decide_eq_false (fun e => by injection e with e _; exact HNR.out e)]
         rfl)
end Go.Proofs.YtiahaofjmcjdiaaDoor
