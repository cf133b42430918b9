/- Contracts: comparisons of values and of rows. Contracts: rows: Clone, Valid, Project. -/
import Derived.Test.YtmmmdinncmbjkaaGreatMf20
import Derived.Test.YtmmmdinncmbjkaaGreatMf24
namespace Go.Proofs.YtmmmdinncmbjkaaGreat
open Go.RowKit Go.Maps
theorem nan64 (x : Int) (w : World) : Calls Tryz.prog 144 #[.int .i64 x] w (fun e w' => e = .returned (.bool false) ∧ w = w') := by
  have hb : (x != x) = false := by simp
  go_enter Tryz.func144, Tryz.ntmps144
  go_wp2_with fail
  go_ret
  exact ⟨rfl, rfl⟩
theorem cmp64 (x y : Int) (w : World) : Calls Tryz.prog 131 #[.int .i64 x, .int .i64 y] w (fun e w' => e = .returned (.int .i64 (Lib.compareInt x y)) ∧ w = w') := by
  by_cases h1 : x < y
  · rw [show Lib.compareInt x y = -1 by unfold Lib.compareInt; rw [if_pos h1]]
    go_enter Tryz.func131, Tryz.ntmps131
    go_wp2_with fail
    refine (nan64 x _).mono ?_
    rintro e w2 ⟨rfl, rfl⟩
    go_wp2_with fail
    refine (nan64 y _).mono ?_
    rintro e w2 ⟨rfl, rfl⟩
    go_wp2_with fail
    go_ret
    exact ⟨rfl, rfl⟩
  · by_cases h2 : y < x
    · rw [show Lib.compareInt x y = 1 by unfold Lib.compareInt; rw [if_neg h1, if_pos h2]]
      go_enter Tryz.func131, Tryz.ntmps131
      go_wp2_with fail
      refine (nan64 x _).mono ?_
      rintro e w2 ⟨rfl, rfl⟩
      go_wp2_with fail
      refine (nan64 y _).mono ?_
      rintro e w2 ⟨rfl, rfl⟩
      go_wp2_with fail
      go_ret
      exact ⟨rfl, rfl⟩
    · rw [show Lib.compareInt x y = 0 by unfold Lib.compareInt; rw [if_neg h1, if_neg (show ¬ x > y from h2)]]
      go_enter Tryz.func131, Tryz.ntmps131
      go_wp2_with fail
      refine (nan64 x _).mono ?_
      rintro e w2 ⟨rfl, rfl⟩
      go_wp2_with fail
      refine (nan64 y _).mono ?_
      rintro e w2 ⟨rfl, rfl⟩
      go_wp2_with fail
      go_ret
      exact ⟨rfl, rfl⟩
set_option maxRecDepth 20000 in
set_option maxHeartbeats 1600000 in
theorem vcomp_any (a b : Vl) (w : World) :
    Calls Tryz.prog 97 #[.agg #[.int .i64 a.kind, .int .i64 a.int, .string a.str], .agg #[.int .i64 b.kind, .int .i64 b.int, .string b.str]] w (fun e w' => e = .returned (.int .i64 (cmpV a b)) ∧ Gr w w') := by
  obtain ⟨ak, an, as'⟩ := a
  obtain ⟨bk, bn, bs⟩ := b
  obtain ⟨z, hz⟩ : ∃ z, z = cmpV ⟨ak, an, as'⟩ ⟨bk, bn, bs⟩ := ⟨_, rfl⟩
  rw [← hz]
  simp only
  have HZ := Lib.hid hz
  clear hz
  have k2 := two_blk w 83 83 [.int .i64 ak, .int .i64 an, .string as'] [.int .i64 bk, .int .i64 bn, .string bs]
  change Bk ((w.alloc (.cells #[.int .i64 ak, .int .i64 an, .string as'] 83)).alloc (.cells #[.int .i64 bk, .int .i64 bn, .string bs] 83)) _ _ _ ∧ Bk ((w.alloc (.cells #[.int .i64 ak, .int .i64 an, .string as'] 83)).alloc (.cells #[.int .i64 bk, .int .i64 bn, .string bs] 83)) _ _ _ at k2
  have hx1 : Gr w ((w.alloc (.cells #[.int .i64 ak, .int .i64 an, .string as'] 83)).alloc (.cells #[.int .i64 bk, .int .i64 bn, .string bs] 83)) := ((Gr.refl w).alloc _).alloc _
  go_enter Tryz.func97, Tryz.ntmps97
  go_upto_region 1 with fail
  generalize ((w.alloc (.cells #[.int .i64 ak, .int .i64 an, .string as'] 83)).alloc (.cells #[.int .i64 bk, .int .i64 bn, .string bs] 83)) = w1 at *
  obtain ⟨ka, kb⟩ := k2
  have a0 := ka.cell (i := 0) (by simp); have a1 := ka.cell (i := 1) (by simp); have a2 := ka.cell (i := 2) (by simp)
  have b0 := kb.cell (i := 0) (by simp); have b1 := kb.cell (i := 1) (by simp); have b2 := kb.cell (i := 2) (by simp)
  simp only [List.getElem_cons_zero, List.getElem_cons_succ] at a0 a1 a2 b0 b1 b2
  have HX := Lib.hid hx1
  clear ka kb hx1
  by_cases hk : ak = bk
  · have g1 : (ak != bk) = false := by simpa using hk
    by_cases hn : an = bn
    · have g2 : (an != bn) = false := by simpa using hn
      have HQ : Hid (z = strC as' bs) := Lib.hid (by rw [HZ.out]; unfold cmpV; rw [if_neg (by simpa using hk), if_neg (by simpa using hn)])
      clear hk hn
      go_wp2_with fail
      refine (Tryz.strings_Compare as' bs _).mono ?_
      rintro e w2 ⟨rfl, rfl⟩
      go_wp2_with fail
      go_ret
      exact ⟨by rw [HQ.out]; rfl, HX.out⟩
    · have g2 : (an != bn) = true := by simpa using hn
      have HQ : Hid (z = Lib.compareInt an bn) := Lib.hid (by rw [HZ.out]; unfold cmpV; rw [if_neg (by simpa using hk), if_pos hn])
      clear hk hn
      go_wp2_with fail
      refine (cmp64 an bn _).mono ?_
      rintro e w2 ⟨rfl, rfl⟩
      go_wp2_with fail
      go_ret
      exact ⟨by rw [HQ.out]; rfl, HX.out⟩
  · have g1 : (ak != bk) = true := by simpa using hk
    have HQ : Hid (z = Lib.compareInt ak bk) := Lib.hid (by rw [HZ.out]; unfold cmpV; rw [if_pos hk])
    clear hk
    go_wp2_with fail
    refine (Tryz.cmp_Compare_int ak bk _).mono ?_
    rintro e w2 ⟨rfl, rfl⟩
    go_wp2_with fail
    go_ret
    exact ⟨by rw [HQ.out]; rfl, HX.out⟩
theorem lexC_at {α : Type} {c : α → α → Int} : ∀ {xs ys : List α} {i : Nat}, i ≤ xs.length → i ≤ ys.length → lexC c (xs.take i) (ys.take i) = 0 → lexC c xs ys = lexC c (xs.drop i) (ys.drop i)
  | _, _, 0, _, _, _ => by simp
  | a :: xs, b :: ys, i + 1, h1, h2, h => by
    simp only [List.take_succ_cons, lexC] at h
    simp only [List.drop_succ_cons]
    by_cases h0 : c a b = 0
    · rw [if_pos h0] at h
      rw [← lexC_at (by simpa using h1) (by simpa using h2) h]
      simp only [lexC]
      rw [if_pos h0]
    · rw [if_neg h0] at h
      exact absurd h h0
theorem lexC_take {α : Type} {c : α → α → Int} : ∀ {xs ys : List α} {i : Nat} (h1 : i < xs.length) (h2 : i < ys.length), lexC c (xs.take i) (ys.take i) = 0 → c xs[i] ys[i] = 0 → lexC c (xs.take (i + 1)) (ys.take (i + 1)) = 0
  | a :: xs, b :: ys, 0, _, _, _, h => by
    simp only [List.getElem_cons_zero] at h
    simp [lexC, h]
  | a :: xs, b :: ys, i + 1, h1, h2, h, k => by
    simp only [List.take_succ_cons, lexC] at h ⊢
    simp only [List.getElem_cons_succ] at k
    by_cases h0 : c a b = 0
    · rw [if_pos h0] at h ⊢
      exact lexC_take (by simpa using h1) (by simpa using h2) h k
    · rw [if_neg h0] at h
      exact absurd h h0
set_option maxRecDepth 20000 in
set_option maxHeartbeats 1600000 in
theorem rcompby_any {F G : Nat → Prop} {w : World} {A B : Option Addr} {n c m d : Nat} {xs ys : List Vl} (hA : Sl rdVl F w (.slice A n c) xs) (hB : Sl rdVl G w (.slice B m d) ys) (hn : n ≤ 1048576) (hm : m ≤ 1048576) :
    Calls Tryz.prog 69 #[.slice A n c, .slice B m d, .slice none 0 0] w (fun e w' => e = .returned (.int .i64 (cmpR xs ys)) ∧ Gr w w') := by
  have hxn := hA.cap.1; have hyn := hB.cap.1
  have HA := Lib.hid hA; have HB := Lib.hid hB; have HXN := Lib.hid hxn; have HYN := Lib.hid hyn
  obtain ⟨z, hz⟩ : ∃ z, z = cmpR xs ys := ⟨_, rfl⟩
  rw [← hz]
  have HZ := Lib.hid hz
  obtain ⟨p, hp⟩ : ∃ p, p = min n m := ⟨_, rfl⟩
  have hpn : p ≤ n := by omega
  have hpm : p ≤ m := by omega
  have HP := Lib.hid hp
  have hmin : min (n : Int) (m : Int) = (p : Int) := by omega
  clear hA hB hxn hyn hz hp
  go_enter Tryz.func69, Tryz.ntmps69
  go_wp2_with fail
  go_loopw [14] (fun t wr => ∃ i : Nat, i ≤ p ∧ t = .int .i64 (i : Int) ∧ Hid (lexC cmpV (xs.take i) (ys.take i) = 0) ∧ Gr w wr) (fun t _ => p - (intOf t).toNat)
  case atStart => exact ⟨0, Nat.zero_le _, rfl, Lib.hid (by simp [lexC]), Gr.refl _⟩
  case round =>
    obtain ⟨i, hi, rfl, HE, hgr⟩ := hrel
    obtain ⟨W, rfl⟩ : ∃ W : World, W = wr := ⟨_, rfl⟩
    have HG := Lib.hid hgr
    by_cases hlt : i < p
    · have i1 : (0 : Int) ≤ (i : Int) := by omega
      have i2 : (i : Int) < (p : Int) := by omega
      have i3 : (i : Int) < (n : Int) := by omega
      have i4 : (i : Int) < (m : Int) := by omega
      have hix : i < xs.length := by have := HXN.out; omega
      have hiy : i < ys.length := by have := HYN.out; omega
      obtain ⟨ad, rfl, -, a0, a1, a2⟩ := HA.out.vl hix
      obtain ⟨bd, rfl, -, b0, b1, b2⟩ := HB.out.vl hiy
      replace a0 := hgr.cell a0; replace a1 := hgr.cell a1; replace a2 := hgr.cell a2; replace b0 := hgr.cell b0; replace b1 := hgr.cell b1; replace b2 := hgr.cell b2
      have hcut : lexC cmpV xs ys = lexC cmpV (xs.drop i) (ys.drop i) := lexC_at (by omega) (by omega) HE.out
      have hstep : cmpV xs[i] ys[i] = 0 → lexC cmpV (xs.take (i + 1)) (ys.take (i + 1)) = 0 := lexC_take hix hiy HE.out
      have hstop : cmpV xs[i] ys[i] ≠ 0 → z = cmpV xs[i] ys[i] := fun h => by
        rw [HZ.out]
        unfold cmpR
        rw [hcut, List.drop_eq_getElem_cons hix, List.drop_eq_getElem_cons hiy]
        show (if cmpV xs[i] ys[i] = 0 then _ else _) = _
        rw [if_neg h]
      have HV := Lib.hid (fun (V : World) => vcomp_any xs[i] ys[i] V)
      obtain ⟨x, hx⟩ : ∃ x, x = xs[i] := ⟨_, rfl⟩
      obtain ⟨y, hy⟩ : ∃ y, y = ys[i] := ⟨_, rfl⟩
      rw [← hx] at a0 a1 a2 hstep hstop HV
      rw [← hy] at b0 b1 b2 hstep hstop HV
      obtain ⟨xk, xn, xs'⟩ := x
      obtain ⟨yk, yn, ys'⟩ := y
      simp only at a0 a1 a2 b0 b1 b2 HV
      have HST := Lib.hid hstep; have HSP := Lib.hid hstop
      clear hx hy hcut hstep hstop hgr
      go_upto_region 4 with fail
      go_region_held3 (fun V => Gr W V ∧ V.cell? (ad.add (i * 3)) = some (.int .i64 xk) ∧ V.cell? ⟨(ad.add (i * 3)).block, (ad.add (i * 3)).off + 1, none⟩ = some (.int .i64 xn) ∧ V.cell? ⟨(ad.add (i * 3)).block, (ad.add (i * 3)).off + 2, none⟩ = some (.string xs') ∧ V.cell? (bd.add (i * 3)) = some (.int .i64 yk) ∧ V.cell? ⟨(bd.add (i * 3)).block, (bd.add (i * 3)).off + 1, none⟩ = some (.int .i64 yn) ∧ V.cell? ⟨(bd.add (i * 3)).block, (bd.add (i * 3)).off + 2, none⟩ = some (.string ys'))
        ((refine (fun he => ⟨he, Gr.cell he a0, Gr.cell he a1, Gr.cell he a2, Gr.cell he b0, Gr.cell he b1, Gr.cell he b2⟩) ?_; repeat (first | exact Gr.refl _ | exact (Gr.refl _).drew | refine Gr.drew ?_ | refine Gr.trans ?_ (by assumption))))
        (first
          | (go_at_call 97; (with_reducible refine (HV.out _).mono ?_); rintro e wi ⟨rfl, hei⟩))
      have hfin := And.left (b := _ ∧ _) (by assumption)
      obtain ⟨X, rfl⟩ : ∃ X : World, X = wi := ⟨_, rfl⟩
      have HX := Lib.hid (HG.out.trans hfin)
      obtain ⟨q, hq⟩ : ∃ q, q = cmpV ⟨xk, xn, xs'⟩ ⟨yk, yn, ys'⟩ := ⟨_, rfl⟩
      rw [← hq] at HST HSP ⊢
      clear hfin hei a0 a1 a2 b0 b1 b2 hq
      by_cases hq0 : q = 0
      · subst hq0
        have HS := Lib.hid (HST.out rfl)
        go_wp2_with fail
        go_roundw
        case rel => exact ⟨i + 1, by omega, by go_num, HS, HX.out⟩
        case measure => simp [intOf]; omega
      · have HS := Lib.hid (HSP.out hq0)
        have hqb : (q == 0) = false := by simpa using hq0
        clear hq0
        go_wp2_with fail
        go_ret
        exact ⟨by rw [HS.out]; rfl, HX.out⟩
    · obtain rfl : i = p := by omega
      have hdi : ¬ (i : Int) < (i : Int) := by omega
      have hcut : lexC cmpV xs ys = lexC cmpV (xs.drop i) (ys.drop i) := lexC_at (by have := HXN.out; omega) (by have := HYN.out; omega) HE.out
      have hz2 : z = lexC cmpV (xs.drop i) (ys.drop i) := by rw [HZ.out]; exact hcut
      have hl1 : (xs.drop i).length = n - i := by rw [List.length_drop, ← HXN.out]
      have hl2 : (ys.drop i).length = m - i := by rw [List.length_drop, ← HYN.out]
      have HP2 := HP.out
      obtain ⟨l1, h1⟩ : ∃ l, l = xs.drop i := ⟨_, rfl⟩
      obtain ⟨l2, h2⟩ : ∃ l, l = ys.drop i := ⟨_, rfl⟩
      rw [← h1] at hl1 hz2
      rw [← h2] at hl2 hz2
      clear h1 h2 hcut hgr
      by_cases hnm : n < m
      · have HQ : Hid (z = -1) := Lib.hid (by
          rw [hz2]
          cases l1 with
          | nil => cases l2 with
            | nil => simp at hl2; omega
            | cons _ _ => rfl
          | cons _ _ => simp at hl1; omega)
        have g1 : (n : Int) < (m : Int) := by omega
        clear hz2 hl1 hl2 HP2
        go_wp2_with fail
        go_ret
        exact ⟨by rw [HQ.out]; rfl, HG.out⟩
      · have g1 : ¬ (n : Int) < (m : Int) := by omega
        by_cases hmn : m < n
        · have HQ : Hid (z = 1) := Lib.hid (by
            rw [hz2]
            cases l2 with
            | nil => cases l1 with
              | nil => simp at hl1; omega
              | cons _ _ => rfl
            | cons _ _ => simp at hl2; omega)
          have g2 : (m : Int) < (n : Int) := by omega
          clear hz2 hl1 hl2 HP2
          go_wp2_with fail
          go_ret
          exact ⟨by rw [HQ.out]; rfl, HG.out⟩
        · have HQ : Hid (z = 0) := Lib.hid (by
            rw [hz2]
            cases l2 with
            | nil => cases l1 with
              | nil => rfl
              | cons _ _ => simp at hl1; omega
            | cons _ _ => simp at hl2; omega)
          have g2 : ¬ (m : Int) < (n : Int) := by omega
          clear hz2 hl1 hl2 HP2
          go_wp2_with fail
          go_ret
          exact ⟨by rw [HQ.out]; rfl, HG.out⟩
theorem rcomp_any {F G : Nat → Prop} {w : World} {A B : Option Addr} {n c m d : Nat} {xs ys : List Vl} (hA : Sl rdVl F w (.slice A n c) xs) (hB : Sl rdVl G w (.slice B m d) ys) (hn : n ≤ 1048576) (hm : m ≤ 1048576) :
    Calls Tryz.prog 98 #[.slice A n c, .slice B m d] w (fun e w' => e = .returned (.int .i64 (cmpR xs ys)) ∧ Gr w w') := by
  have H := Lib.hid (rcompby_any hA hB hn hm)
  clear hA hB
  go_enter Tryz.func98, Tryz.ntmps98
  go_wp2_with fail
  refine H.out.mono ?_
  rintro e w2 ⟨rfl, hg⟩
  have HG := Lib.hid hg
  clear hg
  go_wp2_with fail
  go_ret
  exact ⟨rfl, HG.out⟩
theorem requal_any {F G : Nat → Prop} {w : World} {A B : Option Addr} {n c m d : Nat} {xs ys : List Vl} (hA : Sl rdVl F w (.slice A n c) xs) (hB : Sl rdVl G w (.slice B m d) ys) (hn : n ≤ 1048576) (hm : m ≤ 1048576) :
    Calls Tryz.prog 70 #[.slice A n c, .slice B m d] w (fun e w' => e = .returned (.bool (cmpR xs ys == 0)) ∧ Gr w w') := by
  have H := Lib.hid (rcomp_any hA hB hn hm)
  obtain ⟨z, hz⟩ : ∃ z, z = cmpR xs ys := ⟨_, rfl⟩
  rw [← hz] at H ⊢
  clear hA hB hz
  go_enter Tryz.func70, Tryz.ntmps70
  go_wp2_with fail
  refine H.out.mono ?_
  rintro e w2 ⟨rfl, hg⟩
  have HG := Lib.hid hg
  clear hg
  go_wp2_with fail
  go_ret
  exact ⟨rfl, HG.out⟩
end Go.Proofs.YtmmmdinncmbjkaaGreat
namespace Go.Proofs.YtmmmdinncmbjkaaGreat
open Go.RowKit Go.Maps
set_option maxRecDepth 20000 in
set_option maxHeartbeats 1600000 in
theorem clone_vls {F : Nat → Prop} {w : World} {A : Option Addr} {n c : Nat} {xs : List Value} (hcl : Cl F w A xs) (hl : xs.length = n * 3) (h1 : ∀ u ∈ xs, u.oneCell' = true) (hn : n ≤ 1048576) :
    Calls Tryz.prog 45 #[.slice A n c] w (Ret (fun x w' => w'.ownsRow w.heap.size 83 3 x n xs) w) := by
  obtain ⟨i0, hi0, hz0, hz1, hz2⟩ := info_parts info_val
  have HI0 := Lib.hid (And.intro hi0 (And.intro hz0 (And.intro hz1 hz2))); clear hi0 hz0 hz1 hz2
  have HCL := Lib.hid hcl; have HL := Lib.hid hl; have HO := Lib.hid h1
  clear hl h1
  rcases A with _ | ad
  · have HX : Hid (n = 0 ∧ xs = []) := Lib.hid (by
      rcases hcl with rfl | ⟨ad, e, -⟩
      · have := HL.out; simp at this; exact ⟨by omega, rfl⟩
      · cases e)
    clear hcl
    have q22 : ∀ (w : World) (n c n' c' : Nat), (binOp .eql 81 (.slice none n c) (.slice none n' c')).run Tryz.prog w = .ok (.bool true) w := fun w n c n' c' => Lib.run_eql_slice_nil w _ _ none n c n' c' Tryz.underlying81
    go_enter Tryz.func45, Tryz.ntmps45
    go_wp2_with fail
    go_ret
    exact Ret.mk (Ext.refl _) (by rw [HX.out.1, HX.out.2]; exact World.ownsRow_nil _ _ _ _)
  · have q22 : ∀ (w : World) (a : Addr) (n c n' c' : Nat), (binOp .eql 81 (.slice (some a) n c) (.slice none n' c')).run Tryz.prog w = .ok (.bool false) w := fun w a n c n' c' => Lib.run_eql_slice_nil w _ _ (some a) n c n' c' Tryz.underlying81
    clear hcl
    go_enter Tryz.func45, Tryz.ntmps45
    go_wp2_with (first | (at_builtin; refine wpList_append_opt rfl _ _ 81 rfl w.heap.size 83 i0 (.agg #[.int .i64 0, .int .i64 0, .string ⟨#[]⟩]) 3 32 Tryz.underlying81 HI0.out.1 HI0.out.2.1 HI0.out.2.2.1 HI0.out.2.2.2 rfl (by omega) (.slice (some ⟨w.heap.size, 0, none⟩) 0 0) 0 [] rfl (World.ownsRow_made w #[] 0 (Nat.le_refl _) (Nat.zero_le _) rfl) (some ad) n c xs rfl HL.out ((HCL.out.ext ((Ext.refl w).alloc _)).news) HO.out (by simp only [maxLen]; omega) (by omega) (by simp) ?_; intro v9 w9 hr9 hg9 hl9; rw [Nat.zero_add, List.nil_append] at hr9; obtain ⟨A9, c9, rfl⟩ := own_slice hr9; have HR9 := Lib.hid hr9; have HE9 : Hid (Ext w w9) := Lib.hid (((Ext.refl w).alloc _).grown hg9 (fun q hq => by simp [Value.ownBlock] at hq; omega)); clear hr9 hg9 hl9))
    go_ret
    exact Ret.mk HE9.out HR9.out
set_option maxRecDepth 20000 in
set_option maxHeartbeats 1600000 in
theorem clone_rws {F : Nat → Prop} {w : World} {A : Option Addr} {n c : Nat} {xs : List Value} (hcl : Cl F w A xs) (hl : xs.length = n * 1) (h1 : ∀ u ∈ xs, u.oneCell' = true) (hn : n ≤ 1048576) :
    Calls Tryz.prog 110 #[.slice A n c] w (Ret (fun x w' => w'.ownsRow w.heap.size 81 1 x n xs) w) := by
  obtain ⟨i0, hi0, hz0, hz1, hz2⟩ := info_parts info_row
  have HI0 := Lib.hid (And.intro hi0 (And.intro hz0 (And.intro hz1 hz2))); clear hi0 hz0 hz1 hz2
  have HCL := Lib.hid hcl; have HL := Lib.hid hl; have HO := Lib.hid h1
  clear hl h1
  rcases A with _ | ad
  · have HX : Hid (n = 0 ∧ xs = []) := Lib.hid (by
      rcases hcl with rfl | ⟨ad, e, -⟩
      · have := HL.out; simp at this; exact ⟨by omega, rfl⟩
      · cases e)
    clear hcl
    have q22 : ∀ (w : World) (n c n' c' : Nat), (binOp .eql 52 (.slice none n c) (.slice none n' c')).run Tryz.prog w = .ok (.bool true) w := fun w n c n' c' => Lib.run_eql_slice_nil w _ _ none n c n' c' Tryz.underlying52
    go_enter Tryz.func110, Tryz.ntmps110
    go_wp2_with fail
    go_ret
    exact Ret.mk (Ext.refl _) (by rw [HX.out.1, HX.out.2]; exact World.ownsRow_nil _ _ _ _)
  · have q22 : ∀ (w : World) (a : Addr) (n c n' c' : Nat), (binOp .eql 52 (.slice (some a) n c) (.slice none n' c')).run Tryz.prog w = .ok (.bool false) w := fun w a n c n' c' => Lib.run_eql_slice_nil w _ _ (some a) n c n' c' Tryz.underlying52
    clear hcl
    go_enter Tryz.func110, Tryz.ntmps110
    go_wp2_with (first | (at_builtin; refine wpList_append_opt rfl _ _ 52 rfl w.heap.size 81 i0 (.slice none 0 0) 1 24 Tryz.underlying52 HI0.out.1 HI0.out.2.1 HI0.out.2.2.1 HI0.out.2.2.2 rfl (by omega) (.slice (some ⟨w.heap.size, 0, none⟩) 0 0) 0 [] rfl (World.ownsRow_made w #[] 0 (Nat.le_refl _) (Nat.zero_le _) rfl) (some ad) n c xs rfl HL.out ((HCL.out.ext ((Ext.refl w).alloc _)).news) HO.out (by simp only [maxLen]; omega) (by omega) (by simp) ?_; intro v9 w9 hr9 hg9 hl9; rw [Nat.zero_add, List.nil_append] at hr9; obtain ⟨A9, c9, rfl⟩ := own_slice hr9; have HR9 := Lib.hid hr9; have HE9 : Hid (Ext w w9) := Lib.hid (((Ext.refl w).alloc _).grown hg9 (fun q hq => by simp [Value.ownBlock] at hq; omega)); clear hr9 hg9 hl9))
    go_ret
    exact Ret.mk HE9.out HR9.out
theorem vls_one (xs : List Vl) : ∀ u ∈ vcells xs, u.oneCell' = true := by
  intro u hu
  unfold vcells at hu
  rw [List.mem_flatMap] at hu
  obtain ⟨x, -, hx⟩ := hu
  simp only [Vl.cells, List.mem_cons, List.not_mem_nil, or_false] at hx
  rcases hx with rfl | rfl | rfl <;> rfl
theorem vls_len (xs : List Vl) : (vcells xs).length = xs.length * 3 := by
  unfold vcells
  induction xs with
  | nil => rfl
  | cons a l ih => rw [List.flatMap_cons, List.length_append, ih]; simp [Vl.cells]; omega
theorem Sl.cls {F : Nat → Prop} {w : World} {A : Option Addr} {n c : Nat} {xs : List Vl} (h : Sl rdVl F w (.slice A n c) xs) : Cl F w A (vcells xs) := by
  rcases xs with _ | ⟨x, l⟩
  · exact .inl rfl
  · have h0 := h
    obtain ⟨A', c', e, -, hh⟩ := h
    injection e with e1
    subst e1
    obtain ⟨ad, cs, rfl, hF, -⟩ := hh 0 (by simp)
    refine .inr ⟨ad, rfl, hF, fun j hj => ?_⟩
    rw [vls_len] at hj
    have hall : ∀ cs ∈ (x :: l).map Vl.cells, cs.length = 3 := fun cs hcs => by obtain ⟨y, _, rfl⟩ := List.mem_map.1 hcs; rfl
    have hq : j / 3 < (x :: l).length := by omega
    obtain ⟨ad', cs', e, -, hr, hc⟩ := hh (j / 3) hq
    injection e with e
    subst e
    have e2 : cs' = Vl.cells ((x :: l)[j / 3]) := hr
    subst e2
    have hm : j % 3 < 3 := Nat.mod_lt _ (by decide)
    have h1 := hc (j % 3) hm
    have h2 := flat_get (css := (x :: l).map Vl.cells) (i := j / 3) hall (by simpa using hq) hm
    have ej : j / 3 * 3 + j % 3 = j := Nat.div_add_mod' j 3
    rw [← List.flatMap_def, List.getElem_map, ej] at h2
    have hjf : j < (vcells (x :: l)).length := by rw [vls_len]; exact hj
    have hlc : j % 3 < (Vl.cells ((x :: l)[j / 3])).length := hm
    have h1' : w.cell? (ad.add (j / 3 * 3 + j % 3)) = some ((Vl.cells ((x :: l)[j / 3]))[j % 3]'hlc) := h1
    rw [ej] at h1'
    rw [h1', ← List.getElem?_eq_getElem hlc, ← h2]
    exact List.getElem?_eq_getElem hjf
theorem own_vls {w : World} {base n : Nat} {v : Value} {xs : List Vl} (h : w.ownsRow base 83 3 v n (vcells xs)) : Sl rdVl (fun k => base ≤ k) w v xs := (Rw.of_flat (cells := Vl.cells) (sz := 3) (hl := fun _ => rfl) h).sl (by decide)
/-- A copy of a row, in memory of its own. -/
theorem clone_row {F : Nat → Prop} {w : World} {A : Option Addr} {n c : Nat} {xs : List Vl} (h : Sl rdVl F w (.slice A n c) xs) (hn : n ≤ 1048576) :
    Calls Tryz.prog 45 #[.slice A n c] w (Ret (fun x w' => ∃ A' c', x = .slice A' n c' ∧ Sl rdVl (fun k => w.heap.size ≤ k) w' x xs) w) := by
  refine (clone_vls h.cls (by rw [vls_len, ← h.cap.1]) (vls_one _) hn).mono ?_
  rintro e w' ⟨x, rfl, he, ho⟩
  obtain ⟨A', c', rfl⟩ := own_slice ho
  exact ⟨_, rfl, he, _, _, rfl, own_vls ho⟩
def valR (r : List Vl) : Bool := r.all (fun v => valB v.kind v.int v.str)
set_option maxRecDepth 20000 in
set_option maxHeartbeats 1600000 in
theorem rvalid_any {F : Nat → Prop} {w : World} {A : Option Addr} {n c : Nat} {xs : List Vl} (h : Sl rdVl F w (.slice A n c) xs) (hn : n ≤ 1048576) (hz : ∀ v ∈ xs, v.str.size ≤ maxLen) :
    Calls Tryz.prog 86 #[.slice A n c] w (Ret (fun x _ => x = .bool (valR xs)) w) := by
  have hxn := h.cap.1
  have HA := Lib.hid h; have HXN := Lib.hid hxn; have HZ := Lib.hid hz
  obtain ⟨z, hz'⟩ : ∃ z, z = valR xs := ⟨_, rfl⟩
  rw [← hz']
  have HV := Lib.hid hz'
  clear h hxn hz hz'
  go_enter Tryz.func86, Tryz.ntmps86
  go_wp2_with fail
  go_loopw [6] (fun t wr => ∃ i : Nat, i ≤ n ∧ t = .int .i64 (i : Int) ∧ Hid ((xs.take i).all (fun v => valB v.kind v.int v.str) = true) ∧ Ext w wr) (fun t _ => n - (intOf t).toNat)
  case atStart => exact ⟨0, Nat.zero_le _, rfl, Lib.hid (by simp), Ext.refl _⟩
  case round =>
    obtain ⟨i, hi, rfl, HE, hx⟩ := hrel
    obtain ⟨W, rfl⟩ : ∃ W : World, W = wr := ⟨_, rfl⟩
    have HX := Lib.hid hx
    by_cases hlt : i < n
    · have i1 : (0 : Int) ≤ (i : Int) := by omega
      have i2 : (i : Int) < (n : Int) := by omega
      have hix : i < xs.length := by have := HXN.out; omega
      obtain ⟨ad, rfl, -, a0, a1, a2⟩ := HA.out.vl hix
      replace a0 := hx.cell a0; replace a1 := hx.cell a1; replace a2 := hx.cell a2
      have hmem := List.getElem_mem hix
      have hzs := HZ.out _ hmem
      have hgo : valB xs[i].kind xs[i].int xs[i].str = true → (xs.take (i + 1)).all (fun v => valB v.kind v.int v.str) = true := fun h => by
        rw [List.take_succ_eq_append_getElem hix, List.all_append, HE.out]
        simp [h]
      have hno : valB xs[i].kind xs[i].int xs[i].str = false → z = false := fun h => by
        rw [HV.out]
        unfold valR
        rw [List.all_eq_false]
        exact ⟨_, hmem, by simp [h]⟩
      obtain ⟨x, hx⟩ : ∃ x, x = xs[i] := ⟨_, rfl⟩
      rw [← hx] at a0 a1 a2 hgo hno hzs
      obtain ⟨xk, xn, xs'⟩ := x
      simp only at a0 a1 a2 hgo hno hzs
      have HGO := Lib.hid hgo; have HNO := Lib.hid hno
      have HC := Lib.hid (fun (V : World) => vvalid_any xk xn xs' V hzs)
      clear hx hmem hgo hno
      go_wp2_with fail
      refine (HC.out _).mono ?_
      rintro e w2 ⟨y, rfl, he2, rfl⟩
      have HX2 := Lib.hid (HX.out.trans he2)
      clear he2 a0 a1 a2
      rcases hb : valB xk xn xs' with _ | _
      · have HF := Lib.hid (HNO.out hb)
        clear hb
        go_wp2_with fail
        go_ret
        exact Ret.mk HX2.out (by rw [HF.out]; rfl)
      · have HT := Lib.hid (HGO.out hb)
        clear hb
        go_wp2_with fail
        go_roundw
        case rel => exact ⟨i + 1, by omega, by go_num, HT, HX2.out⟩
        case measure => simp [intOf]; omega
    · obtain rfl : i = n := by omega
      have hdi : ¬ (i : Int) < (i : Int) := by omega
      have HT : Hid (z = true) := Lib.hid (by
        have h := HE.out
        rw [List.take_of_length_le (by have := HXN.out; omega)] at h
        rw [HV.out]
        exact h)
      clear hx
      go_wp2_with fail
      go_ret
      exact Ret.mk HX.out (by rw [HT.out]; rfl)
end Go.Proofs.YtmmmdinncmbjkaaGreat
