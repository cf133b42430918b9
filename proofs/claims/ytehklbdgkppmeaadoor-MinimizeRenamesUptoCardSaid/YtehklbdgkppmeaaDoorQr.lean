/- Contracts: ordinalref25.In, Vars. -/
import Derived.Test.YtehklbdgkppmeaaDoorQb
namespace Go.Proofs.YtehklbdgkppmeaaDoor
open Go.RowKit Go.Maps

theorem Strs.of_own {w : World} {base n : Nat} {e : TypeId} {v : Value} {l : List ByteArray} (h : w.ownsRow base e 1 v n (l.map Sv)) : Strs (fun k => v.ownBlock = some k ∧ base ≤ k) w v l := by
  have hn : n = l.length := by have := h.1; simp at this; omega
  subst hn
  obtain ⟨A, c, rfl, hc, hcl⟩ := Cl.of_own h
  exact ⟨A, c, rfl, by simpa using hc, hcl⟩

set_option maxRecDepth 20000 in
set_option maxHeartbeats 800000 in
theorem in25 {F : Nat → Prop} {w : World} {v : Value} {l : List ByteArray} {s : ByteArray} (h : Strs F w v l) (hl : l.length ≤ 1048577) :
    Calls Tryd.prog 16 #[v, .string s] w (fun e w' => e = .returned (.bool (decide (s ∈ l))) ∧ w = w') := by
  obtain ⟨A, c, rfl, hc, hcl⟩ := h
  obtain ⟨n, hn⟩ : ∃ n, n = l.length := ⟨_, rfl⟩
  rw [← hn] at hc hl ⊢
  have HN := Lib.hid hn; have HCL := Lib.hid hcl
  clear hn hcl
  go_enter Tryd.func16, Tryd.ntmps16
  go_wp2_with fail
  go_loopw [5] (fun q wr => ∃ i : Nat, i ≤ n ∧ q = .int .i64 (i : Int) ∧ (∀ j (h : j < l.length), j < i → l[j] ≠ s) ∧ wr = w) (fun q _ => n - (intOf q).toNat)
  case atStart => exact ⟨0, Nat.zero_le _, rfl, fun _ _ h => absurd h (by omega), rfl⟩
  case round =>
    obtain ⟨i, hi, rfl, hne, rfl⟩ := hrel
    have HNE := Lib.hid hne
    clear hne
    by_cases hlt : i < n
    · have hil : i < l.length := by have := HN.out; omega
      obtain ⟨ad, rfl, -, c0⟩ := HCL.out.at' (j := i) (x := .string l[i]) (by simp [hil])
      obtain ⟨y, hy⟩ : ∃ y, y = l[i] := ⟨_, rfl⟩
      rw [← hy] at c0
      have HY := Lib.hid hy
      clear hy
      have i1 : (0 : Int) ≤ (i : Int) := by omega
      have i2 : (i : Int) < (n : Int) := by omega
      by_cases hyx : y = s
      · subst hyx
        go_wp2_with fail
        go_ret
        rw [decide_eq_true (show y ∈ l by rw [HY.out]; exact List.getElem_mem _)]
        exact ⟨rfl, rfl⟩
      · have HYX := Lib.hid hyx
        have hyx1 : ¬ y.toList = s.toList := fun e => hyx (toList_inj e)
        have hyx2 : (y.toList == s.toList) = false := by simp [hyx1]
        clear hyx
        go_wp2_with fail
        all_goals first
          | contradiction
          | (go_roundw
             case rel =>
               refine ⟨i + 1, by omega, by go_num, fun j hj hji => ?_, trivial⟩
               rcases Nat.lt_or_ge j i with h | h
               · exact HNE.out j hj h
               · obtain rfl : j = i := by omega
                 rw [← HY.out]; exact HYX.out
             case measure => simp [intOf]; omega)
    · obtain rfl : i = n := by omega
      have hdn : ¬ (i : Int) < (i : Int) := by omega
      go_wp2_with fail
      go_ret
      have hmem : s ∉ l := by
        intro hm
        obtain ⟨j, hj, e⟩ := List.getElem_of_mem hm
        exact HNE.out j hj (by have := HN.out; omega) e
      rw [decide_eq_false hmem]
      exact ⟨rfl, rfl⟩

/-- The variables of the terms so far. -/
structure VsI (w wr : World) (L : List Tm) (t : Value) (m : Nat) : Prop where
  row : wr.ownsRow w.heap.size 9 1 t m ((varsT L).map Sv)
  ext : Ext w wr
theorem VsI.same {w wr : World} {L : List Tm} {t : Value} {m : Nat} {x : Tm} (h : VsI w wr L t m) (hx : x.var = ⟨#[]⟩ ∨ x.var ∈ varsT L) : VsI w wr (L ++ [x]) t m := by
  have e : varsT (L ++ [x]) = varsT L := by rw [varsT_snoc, addV, if_pos hx]
  exact ⟨by rw [e]; exact h.row, h.ext⟩
theorem VsI.more {w wr wb w9 : World} {L : List Tm} {t t' : Value} {m : Nat} {x : Tm} (h : VsI w wr L t m) (hx : ¬ (x.var = ⟨#[]⟩ ∨ x.var ∈ varsT L)) (he : Ext wr wb) (hr : w9.ownsRow w.heap.size 9 1 t' (m + 1) ((varsT L).map Sv ++ [Sv x.var])) (hg : wb.grownBy w9 t.ownBlock) : VsI w w9 (L ++ [x]) t' (m + 1) := by
  have e : varsT (L ++ [x]) = varsT L ++ [x.var] := by rw [varsT_snoc, addV, if_neg hx]
  refine ⟨?_, (h.ext.trans he).grown hg (fun k hk => (h.row.lt k hk).1)⟩
  rw [e, List.map_append]
  exact hr

set_option maxRecDepth 20000 in
set_option maxHeartbeats 1600000 in
theorem vars25 {F : Nat → Prop} {w : World} {v : Value} {xs : List At} (h : Ats F w v xs) (hl : xs.length ≤ 1048576) (hal : (allT xs).length ≤ 1048576) :
    Calls Tryd.prog 15 #[v] w (Ret (fun x w' => w'.ownsRow w.heap.size 9 1 x (varsT (allT xs)).length ((varsT (allT xs)).map Sv)) w) := by
  obtain ⟨A, c, rfl, hc, hat⟩ := h.at'
  obtain ⟨n, hn⟩ : ∃ n, n = xs.length := ⟨_, rfl⟩
  rw [← hn] at hc hl ⊢
  have HN := Lib.hid hn; have HAT := Lib.hid hat; have HAL := Lib.hid hal
  clear hn hat hal h
  obtain ⟨i0, hi0, hz0, hz1, hz2⟩ := info_parts info_str
  have HI0 := Lib.hid (And.intro hi0 (And.intro hz0 (And.intro hz1 hz2))); clear hi0 hz0 hz1 hz2
  go_enter Tryd.func15, Tryd.ntmps15
  go_wp2_with fail
  go_loopw [3, 4] (fun t q wr => ∃ i m : Nat, i ≤ n ∧ q = .int .i64 (i : Int) ∧ VsI w wr (allT (xs.take i)) t m) (fun _ q _ => n - (intOf q).toNat)
  case atStart => exact ⟨0, 0, Nat.zero_le _, rfl, World.ownsRow_nil _ _ _ _, Ext.refl _⟩
  case round =>
    obtain ⟨i, m0, hi, rfl, hI⟩ := hrel
    by_cases hlt : i < n
    · have i1 : (0 : Int) ≤ (i : Int) := by omega
      have i2 : (i : Int) < (n : Int) := by omega
      have hix : i < xs.length := by have := HN.out; omega
      obtain ⟨ad, B, d, rfl, -, -, -, c2, hd, hcl⟩ := HAT.out i hix
      have htk : allT (xs.take (i + 1)) = allT (xs.take i) ++ xs[i].terms := allT_take hix
      have htl := terms_le hix
      obtain ⟨ts, hts⟩ : ∃ ts, ts = xs[i].terms := ⟨_, rfl⟩
      rw [← hts] at c2 hd hcl htk htl
      obtain ⟨nt, hnt⟩ : ∃ nt, nt = ts.length := ⟨_, rfl⟩
      rw [← hnt] at c2 hd htl
      have hnt2 : nt ≤ 1048576 := by have := HAL.out; omega
      have HNT := Lib.hid hnt; have HC2 := Lib.hid c2; have HCL := Lib.hid hcl; have HTK := Lib.hid htk
      have hsum := HAL.out
      have hsum2 : (allT (xs.take i)).length + nt ≤ 1048576 := by
        have h1 := allT_le (xs := xs) (i + 1)
        rw [htk, List.length_append, ← hnt] at h1
        omega
      clear hts hnt c2 hcl htk hsum
      go_wp2_with fail
      go_loopw [3, 5] (fun t q wr => ∃ k m : Nat, k ≤ nt ∧ q = .int .i64 (k : Int) ∧ VsI w wr (allT (xs.take i) ++ ts.take k) t m) (fun _ q _ => nt - (intOf q).toNat)
      case atStart => exact ⟨0, m0, Nat.zero_le _, rfl, by simpa using hI⟩
      case round =>
        clear hI
        obtain ⟨k, m, hk, rfl, hK⟩ := hrel
        obtain ⟨At, ct, rfl⟩ := own_slice hK.row
        have HK := Lib.hid hK
        have c2 := hK.ext.cell HC2.out
        clear hK
        by_cases hkt : k < nt
        · have k1 : (0 : Int) ≤ (k : Int) := by omega
          have k2 : (k : Int) < (nt : Int) := by omega
          have hkz : k < ts.length := by have := HNT.out; omega
          obtain ⟨ad2, rfl, -, d0, -⟩ := HCL.out.term (i := k) hkz
          replace d0 := HK.out.ext.cell d0
          have etk : allT (xs.take i) ++ ts.take (k + 1) = (allT (xs.take i) ++ ts.take k) ++ [ts[k]] := by rw [List.take_succ_eq_append_getElem hkz, List.append_assoc]
          obtain ⟨x, hx⟩ : ∃ x, x = ts[k] := ⟨_, rfl⟩
          rw [← hx] at d0 etk
          have hlen : (varsT (allT (xs.take i) ++ ts.take k)).length ≤ 1048576 := by
            have h0 := foldV_length (allT (xs.take i) ++ ts.take k) []
            have h1 : (varsT (allT (xs.take i) ++ ts.take k)).length ≤ [].length + (allT (xs.take i) ++ ts.take k).length := h0
            simp only [List.length_append, List.length_take, List.length_nil] at h1
            omega
          obtain ⟨L, hL⟩ : ∃ L, L = allT (xs.take i) ++ ts.take k := ⟨_, rfl⟩
          rw [← hL] at HK etk hlen
          have HETK := Lib.hid etk
          clear hL hx etk
          have hrow := HK.out.row
          have hm : m = (varsT L).length := by have h := hrow.1; simp at h; omega
          rw [← hm] at hlen
          have HM := Lib.hid hm; have HROW := Lib.hid hrow
          obtain ⟨s, hs⟩ : ∃ s, s = x.var := ⟨_, rfl⟩
          rw [← hs] at d0
          have HS := Lib.hid hs
          have hww := HK.out.ext.size
          clear hm hrow hs
          by_cases he : s = ⟨#[]⟩
          · have hk1 := HK.out.same (x := x) (.inl (by rw [← HS.out]; exact he))
            rw [← HETK.out] at hk1
            have HK1 := Lib.hid hk1
            have he2 := var_eq he
            clear he hk1
            go_wp2_with fail
            go_roundw
            case rel => exact ⟨k + 1, m, by omega, by go_num, HK1.out⟩
            case measure => simp [intOf]; omega
          · have HE := Lib.hid he
            have he2 := var_ne he
            clear he
            go_wp2_with fail
            refine (in25 (s := s) (Strs.of_own HROW.out) (by have := HM.out; omega)).mono ?_
            rintro e w2 ⟨rfl, rfl⟩
            by_cases hin : s ∈ varsT L
            · rw [decide_eq_true hin]
              have hk1 := HK.out.same (x := x) (.inr (by rw [← HS.out]; exact hin))
              rw [← HETK.out] at hk1
              have HK1 := Lib.hid hk1
              clear hin hk1
              go_wp2_with fail
              go_roundw
              case rel => exact ⟨k + 1, m, by omega, by go_num, HK1.out⟩
              case measure => simp [intOf]; omega
            · rw [decide_eq_false hin]
              have HIN := Lib.hid hin
              clear hin
              go_wp2_with (first | (at_builtin; refine wpList_append_at rfl _ _ 26 rfl w.heap.size 9 i0 (.string ⟨#[]⟩) 1 16 Tryd.underlying26 HI0.out.1 HI0.out.2.1 HI0.out.2.2.1 HI0.out.2.2.2 rfl (by omega) (.slice At m ct) m ((varsT L).map Sv) rfl (HROW.out.alloc _) ⟨wr.heap.size, 0, none⟩ 1 1 [Sv s] rfl rfl (laid_news wr _ _) (by simp [Value.oneCell']) (by simp only [maxLen]; omega) (by omega) (by simp; omega) ?_; intro v' w' hr' hgr hland; have HR' := Lib.hid hr'; have HGR := Lib.hid hgr; clear hr' hgr hland))
              go_roundw
              case rel =>
                refine ⟨k + 1, m + 1, by omega, by go_num, ?_⟩
                rw [HETK.out]
                have hr' := HR'.out
                have hgr := HGR.out
                rw [HS.out] at hr'
                exact HK.out.more (by rw [← HS.out]; exact fun h => by rcases h with h | h; exact HE.out h; exact HIN.out h) ((Ext.refl wr).alloc _) hr' hgr
              case measure => simp [intOf]; omega
        · obtain rfl : k = nt := by omega
          have hdn : ¬ (k : Int) < (k : Int) := by omega
          go_wp2_with fail
          go_roundw
          case rel =>
            refine ⟨i + 1, m, by omega, by go_num, ?_⟩
            rw [HTK.out]
            have h := HK.out
            have et : ts.take k = ts := by rw [HNT.out]; exact List.take_length
            rwa [et] at h
          case measure => simp [intOf]; omega
    · obtain rfl : i = n := by omega
      have hdn : ¬ (i : Int) < (i : Int) := by omega
      have HI := Lib.hid hI
      clear hI
      go_wp2_with fail
      go_ret
      have h := HI.out
      have et : xs.take i = xs := by rw [HN.out]; exact List.take_length
      rw [et] at h
      have e : m0 = (varsT (allT xs)).length := by have := h.row.1; simp at this; omega
      rw [← e]
      exact Ret.mk h.ext h.row
end Go.Proofs.YtehklbdgkppmeaaDoor
