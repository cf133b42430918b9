/- Contracts: slices.Contains at terms, homomorphism.terms. -/
import Derived.Test.YtiahaofjmcjdiaaDoorHy
namespace Go.Proofs.YtiahaofjmcjdiaaDoor
open Go.RowKit Go.Maps

set_option maxRecDepth 20000 in
set_option maxHeartbeats 800000 in
theorem contains_term {F : Nat → Prop} {w : World} {v : Value} {ts : List Tm} {t : Tm} (h : Ts F w v ts) (hl : ts.length ≤ 1048577) :
    Calls Tryd.prog 41 #[v, t.val] w (Ret (fun x _ => x = .bool (decide (t ∈ ts))) w) := by
  have HH := Lib.hid h; have HL := Lib.hid hl
  obtain ⟨A, c, n, hv⟩ : ∃ A c n, v = .slice A n c := by obtain ⟨A, c, hv, _⟩ := h; exact ⟨A, c, _, hv⟩
  subst hv
  clear h hl
  go_enter Tryd.func41, Tryd.ntmps41
  go_wp2_with fail
  have hx : Ext w (w.alloc (.cells #[.string t.var, .int .i64 t.kind, .int .i64 t.int, .string t.str] 47)) := (Ext.refl w).alloc _
  refine (index_term (HH.out.ext hx) HL.out).mono ?_
  rintro e w2 ⟨x, rfl, he2, r, rfl, hr⟩
  have HE2 := Lib.hid (hx.trans he2)
  clear hx he2
  rcases hr with ⟨rfl, hr⟩ | ⟨i, rfl, hi, hr⟩
  · have HR : Hid (decide (t ∈ ts) = false) := Lib.hid (decide_eq_false (fun hm => by
      obtain ⟨j, hj, e⟩ := List.getElem_of_mem hm
      have := hr j hj
      simp [List.getElem?_eq_getElem hj, e] at this))
    clear hr
    go_wp2_with fail
    go_ret
    exact Ret.mk HE2.out (by rw [HR.out]; rfl)
  · have HR : Hid (decide (t ∈ ts) = true) := Lib.hid (decide_eq_true (by
      simp [List.getElem?_eq_getElem hi] at hr
      rw [← hr]; exact List.getElem_mem hi))
    have hle : decide ((0 : Int) ≤ (i : Int)) = true := decide_eq_true (by omega)
    clear hr
    go_wp2_with fail
    go_ret
    exact Ret.mk HE2.out (by rw [HR.out]; rfl)

/-- The distinct terms, in order. -/
def addD (ts : List Tm) (t : Tm) : List Tm := if t ∈ ts then ts else ts ++ [t]
def distT (l : List Tm) : List Tm := l.foldl addD []
theorem distT_snoc (l : List Tm) (t : Tm) : distT (l ++ [t]) = addD (distT l) t := by simp [distT]
theorem addD_length (ts : List Tm) (t : Tm) : (addD ts t).length ≤ ts.length + 1 := by unfold addD; split <;> simp
theorem foldD_length : ∀ (l ts : List Tm), (l.foldl addD ts).length ≤ ts.length + l.length
  | [], _ => by simp
  | t :: l, ts => by have := foldD_length l (addD ts t); have := addD_length ts t; simp at *; omega
theorem distT_length (l : List Tm) : (distT l).length ≤ l.length := by have := foldD_length l []; simpa [distT] using this

/-- After the terms l. -/
structure DiI (w wr : World) (l : List Tm) (t : Value) (m : Nat) : Prop where
  row : wr.ownsRow w.heap.size 47 4 t m (tcells (distT l))
  ext : Ext w wr
theorem DiI.len {w wr : World} {l : List Tm} {t : Value} {m : Nat} (h : DiI w wr l t m) : m = (distT l).length := by have := h.row.1; rw [tcells_length] at this; omega
theorem DiI.ts {w wr : World} {l : List Tm} {t : Value} {m : Nat} (h : DiI w wr l t m) : Ts (fun k => t.ownBlock = some k ∧ w.heap.size ≤ k) wr t (distT l) := by
  obtain ⟨A, c, h1, h2, h3⟩ := Cl.of_own h.row
  have e := h.len
  subst e
  exact ⟨A, c, h1, h2, h3⟩
theorem DiI.fore {w wr w' : World} {l : List Tm} {t : Value} {m : Nat} (h : DiI w wr l t m) (he : Ext wr w') : DiI w w' l t m := ⟨own_fr h.row (he.fr (fun _ => False)) (fun _ _ h => h), h.ext.trans he⟩
theorem DiI.same {w wr : World} {l : List Tm} {t : Value} {m : Nat} {x : Tm} (h : DiI w wr l t m) (hx : x ∈ distT l) : DiI w wr (l ++ [x]) t m := by
  have e : distT (l ++ [x]) = distT l := by rw [distT_snoc, addD, if_pos hx]
  exact ⟨by rw [e]; exact h.row, h.ext⟩
theorem DiI.more {w wr wb w9 : World} {l : List Tm} {t t' : Value} {m : Nat} {x : Tm} (h : DiI w wr l t m) (hx : x ∉ distT l) (he : Ext wr wb) (hr : w9.ownsRow w.heap.size 47 4 t' (m + 1) (tcells (distT l) ++ [.string x.var, .int .i64 x.kind, .int .i64 x.int, .string x.str])) (hg : wb.grownBy w9 t.ownBlock) : DiI w w9 (l ++ [x]) t' (m + 1) := by
  have e : distT (l ++ [x]) = distT l ++ [x] := by rw [distT_snoc, addD, if_neg hx]
  refine ⟨?_, (h.ext.trans he).grown hg (fun k hk => (h.row.lt k hk).1)⟩
  rw [e, tcells_append]
  exact hr

set_option maxRecDepth 20000 in
set_option maxHeartbeats 1600000 in
theorem terms_any {F : Nat → Prop} {w : World} {sv : Value} {Ac : Option Addr} {nc cc : Nat} {xs : List At} (h : Ats F w sv xs) (hbd : Bd xs) :
    Calls Tryd.prog 25 #[.agg #[sv, .slice Ac nc cc]] w (Ret (fun x w' => w'.ownsRow w.heap.size 47 4 x (distT (allT xs)).length (tcells (distT (allT xs)))) w) := by
  obtain ⟨A, c, rfl, hc, hat⟩ := h.at'
  obtain ⟨n, hn⟩ : ∃ n, n = xs.length := ⟨_, rfl⟩
  rw [← hn] at hc ⊢
  have hl : n ≤ 1048576 := by rw [hn]; exact hbd.len
  have HN := Lib.hid hn; have HAT := Lib.hid hat; have HBD := Lib.hid hbd
  clear hn hat h hbd
  obtain ⟨i0, hi0, hz0, hz1, hz2⟩ := info_parts info_term
  have HI0 := Lib.hid (And.intro hi0 (And.intro hz0 (And.intro hz1 hz2))); clear hi0 hz0 hz1 hz2
  go_enter Tryd.func25, Tryd.ntmps25
  go_wp2_with fail
  have hx1 : Ext w (w.alloc (.cells #[.slice A n c, .slice Ac nc cc] 25)) := (Ext.refl w).alloc _
  generalize (w.alloc (.cells #[.slice A n c, .slice Ac nc cc] 25)) = w1 at *
  have HX1 := Lib.hid hx1
  clear hx1
  go_loopw [3, 11] (fun t q wr => ∃ i m : Nat, i ≤ n ∧ q = .int .i64 (i : Int) ∧ DiI w wr (allT (xs.take i)) t m) (fun _ q _ => n - (intOf q).toNat)
  case atStart => exact ⟨0, 0, Nat.zero_le _, rfl, World.ownsRow_nil _ _ _ _, HX1.out⟩
  case round =>
    obtain ⟨i, m0, hi, rfl, hI⟩ := hrel
    obtain ⟨wo, rfl⟩ : ∃ wo : World, wo = wr := ⟨_, rfl⟩
    have HI := Lib.hid hI
    obtain ⟨At0, ct0, rfl⟩ := own_slice hI.row
    by_cases hlt : i < n
    · have i1 : (0 : Int) ≤ (i : Int) := by omega
      have i2 : (i : Int) < (n : Int) := by omega
      have hix : i < xs.length := by have := HN.out; omega
      obtain ⟨ad, B, d, rfl, -, c0, c1, c2, hd, htc⟩ := HAT.out i hix
      replace c0 := hI.ext.cell c0
      replace c1 := hI.ext.cell c1
      replace c2 := hI.ext.cell c2
      have htn := terms_le hix
      obtain ⟨a, ha⟩ : ∃ a, a = xs[i] := ⟨_, rfl⟩
      rw [← ha] at c0 c1 c2 hd htc htn
      obtain ⟨nt, hnt⟩ : ∃ nt, nt = a.terms.length := ⟨_, rfl⟩
      rw [← hnt] at c2 hd htn
      have hnt2 : nt ≤ 1048576 := by have := HBD.out.all; omega
      have HA := Lib.hid ha; have HNT := Lib.hid hnt; have HTC := Lib.hid htc
      clear hnt ha htc htn hI
      go_wp2_with fail
      have hx3 : Ext wo (wo.alloc (.cells #[.bool a.neg, .string a.rel, .slice B nt d] 61)) := (Ext.refl wo).alloc _
      generalize (wo.alloc (.cells #[.bool a.neg, .string a.rel, .slice B nt d] 61)) = w3 at *
      have HX3 := Lib.hid hx3
      clear hx3 c0 c1 c2
      go_loopw [3, 18] (fun t q wr => ∃ j m : Nat, j ≤ nt ∧ q = .int .i64 (j : Int) ∧ DiI w wr (allT (xs.take i) ++ a.terms.take j) t m) (fun _ q _ => nt - (intOf q).toNat)
      case atStart => exact ⟨0, m0, Nat.zero_le _, rfl, by simpa using HI.out.fore HX3.out⟩
      case round =>
        obtain ⟨j, m, hj, rfl, hJ⟩ := hrel
        have HJ := Lib.hid hJ
        obtain ⟨At, ct, rfl⟩ := own_slice hJ.row
        by_cases hjt : j < nt
        · have j1 : (0 : Int) ≤ (j : Int) := by omega
          have j2 : (j : Int) < (nt : Int) := by omega
          have hjl : j < a.terms.length := by have := HNT.out; omega
          obtain ⟨ad2, rfl, -, d0, d1, d2, d3⟩ := HTC.out.term (i := j) hjl
          replace d0 := hJ.ext.cell d0
          replace d1 := hJ.ext.cell d1
          replace d2 := hJ.ext.cell d2
          replace d3 := hJ.ext.cell d3
          obtain ⟨x, hx⟩ : ∃ x, x = a.terms[j] := ⟨_, rfl⟩
          rw [← hx] at d0 d1 d2 d3
          have HX := Lib.hid hx
          have hlen : (distT (allT (xs.take i) ++ a.terms.take j)).length ≤ 1048576 := by
            have h0 := distT_length (allT (xs.take i) ++ a.terms.take j)
            have h1 := allT_le (xs := xs) (i + 1)
            rw [allT_take hix, List.length_append, ← HA.out] at h1
            have h2 := HBD.out.all
            simp only [List.length_append, List.length_take] at h0
            omega
          have hm : m ≤ 1048576 := by rw [hJ.len]; exact hlen
          have etk : allT (xs.take i) ++ a.terms.take (j + 1) = (allT (xs.take i) ++ a.terms.take j) ++ [x] := by rw [List.take_succ_eq_append_getElem hjl, HX.out, List.append_assoc]
          have HETK := Lib.hid etk; have HLEN := Lib.hid hlen
          have hwb : w.heap.size ≤ wr.heap.size := hJ.ext.size
          clear etk hx hJ hlen
          obtain ⟨L, hL⟩ : ∃ L, L = allT (xs.take i) ++ a.terms.take j := ⟨_, rfl⟩
          rw [← hL] at HJ HETK HLEN
          clear hL
          go_wp2_with fail
          have hx4 : Ext wr (wr.alloc (.cells #[.string x.var, .int .i64 x.kind, .int .i64 x.int, .string x.str] 47)) := (Ext.refl wr).alloc _
          have kt := Bk.new wr 47 [.string x.var, .int .i64 x.kind, .int .i64 x.int, .string x.str]
          change Bk (wr.alloc (.cells #[.string x.var, .int .i64 x.kind, .int .i64 x.int, .string x.str] 47)) _ _ _ at kt
          generalize (wr.alloc (.cells #[.string x.var, .int .i64 x.kind, .int .i64 x.int, .string x.str] 47)) = w4 at *
          refine (contains_term (t := x) (HJ.out.fore hx4).ts (by have := HLEN.out; omega)).mono ?_
          rintro e w5 ⟨y, rfl, he5, rfl⟩
          have HJ5 := Lib.hid ((HJ.out.fore hx4).fore he5)
          have k5 := kt.ext he5
          have s0 := k5.cell (i := 0) (by simp)
          have s1 := k5.cell (i := 1) (by simp)
          have s2 := k5.cell (i := 2) (by simp)
          have s3 := k5.cell (i := 3) (by simp)
          simp only [List.getElem_cons_zero, List.getElem_cons_succ] at s0 s1 s2 s3
          have hwb5 : w.heap.size ≤ w5.heap.size := HJ5.out.ext.size
          clear kt hx4 he5 d0 d1 d2 d3 k5
          by_cases hmem : x ∈ distT L
          · rw [decide_eq_true hmem]
            have HMEM := Lib.hid hmem
            clear hmem
            go_wp2_with fail
            go_roundw
            case rel => exact ⟨j + 1, m, by omega, by go_num, by rw [HETK.out]; exact HJ5.out.same HMEM.out⟩
            case measure => simp [intOf]; omega
          · rw [decide_eq_false hmem]
            have HMEM := Lib.hid hmem
            clear hmem
            go_wp2_with (first | (at_builtin; refine wpList_append_at rfl _ _ 33 rfl w.heap.size 47 i0 (.agg #[.string ⟨#[]⟩, .int .i64 0, .int .i64 0, .string ⟨#[]⟩]) 4 48 Tryd.underlying33 HI0.out.1 HI0.out.2.1 HI0.out.2.2.1 HI0.out.2.2.2 rfl (by omega) _ m (tcells (distT L)) rfl (HJ5.out.row.alloc _) ⟨w5.heap.size, 0, none⟩ 1 1 [.string x.var, .int .i64 x.kind, .int .i64 x.int, .string x.str] rfl rfl (laid_news w5 _ _) (by simp [Value.oneCell']) (by simp only [maxLen]; omega) (by omega) (by simp; omega) ?_; intro v' w' hr' hgr hland; have HM := Lib.hid (HJ5.out.more HMEM.out ((Ext.refl w5).alloc _) hr' hgr); clear hr' hgr hland))
            go_roundw
            case rel => exact ⟨j + 1, m + 1, by omega, by go_num, by rw [HETK.out]; exact HM.out⟩
            case measure => simp [intOf]; omega
        · obtain rfl : j = nt := by omega
          have hdn : ¬ (j : Int) < (j : Int) := by omega
          clear hJ
          go_wp2_with fail
          go_roundw
          case rel =>
            refine ⟨i + 1, m, by omega, by go_num, ?_⟩
            rw [allT_take hix, ← HA.out]
            have h := HJ.out
            have et : a.terms.take j = a.terms := by rw [HNT.out]; exact List.take_length
            rwa [et] at h
          case measure => simp [intOf]; omega
    · obtain rfl : i = n := by omega
      have hdn : ¬ (i : Int) < (i : Int) := by omega
      clear hI
      go_wp2_with fail
      go_ret
      have h := HI.out
      have et : xs.take i = xs := by rw [HN.out]; exact List.take_length
      rw [et] at h
      have hh : Ret (fun x w' => w'.ownsRow w.heap.size 47 4 x (distT (allT xs)).length (tcells (distT (allT xs)))) w (.returned (.slice At0 m0 ct0)) wo := by
        rw [← h.len]; exact Ret.mk h.ext h.row
      exact hh
end Go.Proofs.YtiahaofjmcjdiaaDoor
