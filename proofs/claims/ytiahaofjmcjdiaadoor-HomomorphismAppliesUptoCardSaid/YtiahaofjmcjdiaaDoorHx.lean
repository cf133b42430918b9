/- Contracts: slices.IndexFunc and ContainsFunc at atoms and at terms, for the closures that are handed in. -/
import Derived.Test.YtiahaofjmcjdiaaDoorHw
namespace Go.Proofs.YtiahaofjmcjdiaaDoor
open Go.RowKit Go.Maps

/-- An index below n where p holds, or -1. -/
def IdxOut (n : Nat) (p : Nat → Bool) (x : Value) : Prop := ∃ r : Int, x = .int .i64 r ∧ ((r = -1 ∧ ∀ i, i < n → p i = false) ∨ ∃ i : Nat, r = (i : Int) ∧ i < n ∧ p i = true)
def anyB (n : Nat) (p : Nat → Bool) : Bool := (List.range n).any p
theorem anyB_true {n i : Nat} {p : Nat → Bool} (hi : i < n) (h : p i = true) : anyB n p = true := List.any_eq_true.2 ⟨i, List.mem_range.2 hi, h⟩
theorem anyB_false {n : Nat} {p : Nat → Bool} (h : ∀ i, i < n → p i = false) : anyB n p = false := List.any_eq_false.2 (fun i hi => by rw [h i (List.mem_range.1 hi)]; simp)

set_option maxRecDepth 20000 in
set_option maxHeartbeats 800000 in
theorem index_large {F : Nat → Prop} {w : World} {v : Value} {xs : List At}  {p : Nat → Bool} (h : Ats F w v xs) (hl : xs.length ≤ 1048577)
    (hp : ∀ i (hi : i < xs.length) B d W, xs[i].terms.length ≤ d → Cl F w B (tcells xs[i].terms) → Ext w W → Calls Tryd.prog 39 #[.agg #[.bool xs[i].neg, .string xs[i].rel, .slice B xs[i].terms.length d]] W (Ret (fun x _ => x = .bool (p i)) W)) :
    Calls Tryd.prog 44 #[v, .func (.func 39) #[] #[]] w (Ret (fun x _ => IdxOut xs.length p x) w) := by
  obtain ⟨A, c, rfl, hc, hat⟩ := h.at'
  obtain ⟨n, hn⟩ : ∃ n, n = xs.length := ⟨_, rfl⟩
  rw [← hn] at hc hl ⊢
  have HN := Lib.hid hn; have HAT := Lib.hid hat; have HP := Lib.hid hp
  clear hn hat hp
  go_enter Tryd.func44, Tryd.ntmps44
  go_wp2_with fail
  go_loopw [8] (fun q wr => ∃ i : Nat, i ≤ n ∧ q = .int .i64 (i : Int) ∧ (∀ j, j < i → p j = false) ∧ Ext w wr) (fun q _ => n - (intOf q).toNat)
  case atStart => exact ⟨0, Nat.zero_le _, rfl, fun _ h => absurd h (by omega), Ext.refl _⟩
  case round =>
    obtain ⟨i, hi, rfl, hgo, hext⟩ := hrel
    have HGO := Lib.hid hgo; have HE := Lib.hid hext
    clear hgo
    by_cases hlt : i < n
    · have i1 : (0 : Int) ≤ (i : Int) := by omega
      have i2 : (i : Int) < (n : Int) := by omega
      have hix : i < xs.length := by have := HN.out; omega
      obtain ⟨ad, B, d, rfl, -, c0, c1, c2, hd, htc⟩ := HAT.out i hix
      replace c0 := hext.cell c0
      replace c1 := hext.cell c1
      replace c2 := hext.cell c2
      have HC := Lib.hid (HP.out i hix B d wr hd htc hext)
      clear htc hext hd
      generalize xs[i].neg = ng at *
      generalize xs[i].rel = rl at *
      generalize xs[i].terms.length = nt at *
      go_wp2_with fail
      refine HC.out.mono ?_
      rintro e w2 ⟨x, rfl, he2, rfl⟩
      have HE2 := Lib.hid (HE.out.trans he2)
      clear he2
      rcases hpi : p i with _ | _
      · have HPI := Lib.hid hpi
        clear hpi
        go_wp2_with fail
        go_roundw
        case rel =>
          refine ⟨i + 1, by omega, by go_num, fun j hji => ?_, HE2.out⟩
          rcases Nat.lt_or_ge j i with h | h
          · exact HGO.out j h
          · obtain rfl : j = i := by omega
            exact HPI.out
        case measure => simp [intOf]; omega
      · have HPI := Lib.hid hpi
        clear hpi
        go_wp2_with fail
        go_ret
        exact Ret.mk HE2.out ⟨_, rfl, .inr ⟨i, rfl, hlt, HPI.out⟩⟩
    · obtain rfl : i = n := by omega
      have hdn : ¬ (i : Int) < (i : Int) := by omega
      go_wp2_with fail
      go_ret
      exact Ret.mk HE.out ⟨_, rfl, .inl ⟨rfl, HGO.out⟩⟩

set_option maxRecDepth 20000 in
set_option maxHeartbeats 800000 in
theorem contains_large {F : Nat → Prop} {w : World} {v : Value} {xs : List At}  {p : Nat → Bool} (h : Ats F w v xs) (hl : xs.length ≤ 1048577)
    (hp : ∀ i (hi : i < xs.length) B d W, xs[i].terms.length ≤ d → Cl F w B (tcells xs[i].terms) → Ext w W → Calls Tryd.prog 39 #[.agg #[.bool xs[i].neg, .string xs[i].rel, .slice B xs[i].terms.length d]] W (Ret (fun x _ => x = .bool (p i)) W)) :
    Calls Tryd.prog 28 #[v, .func (.func 39) #[] #[]] w (Ret (fun x _ => x = .bool (anyB xs.length p)) w) := by
  have HI := Lib.hid (index_large (p := p) h hl hp)
  clear hp
  obtain ⟨A, c, n, hv⟩ : ∃ A c n, v = .slice A n c := by obtain ⟨A, c, vs, hv, _⟩ := h; exact ⟨A, c, _, hv⟩
  subst hv
  clear h
  go_enter Tryd.func28, Tryd.ntmps28
  go_wp2_with fail
  refine HI.out.mono ?_
  rintro e w2 ⟨x, rfl, he2, r, rfl, hr⟩
  have HE2 := Lib.hid he2
  rcases hr with ⟨rfl, hr⟩ | ⟨i, rfl, hi, hr⟩
  · have HR := Lib.hid (anyB_false hr)
    clear hr he2
    go_wp2_with fail
    go_ret
    exact Ret.mk HE2.out (by rw [HR.out]; rfl)
  · have HR := Lib.hid (anyB_true hi hr)
    have hle : decide ((0 : Int) ≤ (i : Int)) = true := decide_eq_true (by omega)
    clear hr he2
    go_wp2_with fail
    go_ret
    exact Ret.mk HE2.out (by rw [HR.out]; rfl)

set_option maxRecDepth 20000 in
set_option maxHeartbeats 800000 in
theorem index_agrees {F : Nat → Prop} {w : World} {v : Value} {xs : List At} {g1 g2 : Nat} {p : Nat → Bool} (h : Ats F w v xs) (hl : xs.length ≤ 1048577)
    (hp : ∀ i (hi : i < xs.length) B d W, xs[i].terms.length ≤ d → Cl F w B (tcells xs[i].terms) → Ext w W → Calls Tryd.prog 29 #[.agg #[.bool xs[i].neg, .string xs[i].rel, .slice B xs[i].terms.length d], .pointer (some ⟨g1, 0, none⟩), .pointer (some ⟨g2, 0, none⟩)] W (Ret (fun x _ => x = .bool (p i)) W)) :
    Calls Tryd.prog 44 #[v, .func (.func 29) #[] #[.pointer (some ⟨g1, 0, none⟩), .pointer (some ⟨g2, 0, none⟩)]] w (Ret (fun x _ => IdxOut xs.length p x) w) := by
  obtain ⟨A, c, rfl, hc, hat⟩ := h.at'
  obtain ⟨n, hn⟩ : ∃ n, n = xs.length := ⟨_, rfl⟩
  rw [← hn] at hc hl ⊢
  have HN := Lib.hid hn; have HAT := Lib.hid hat; have HP := Lib.hid hp
  clear hn hat hp
  go_enter Tryd.func44, Tryd.ntmps44
  go_wp2_with fail
  go_loopw [8] (fun q wr => ∃ i : Nat, i ≤ n ∧ q = .int .i64 (i : Int) ∧ (∀ j, j < i → p j = false) ∧ Ext w wr) (fun q _ => n - (intOf q).toNat)
  case atStart => exact ⟨0, Nat.zero_le _, rfl, fun _ h => absurd h (by omega), Ext.refl _⟩
  case round =>
    obtain ⟨i, hi, rfl, hgo, hext⟩ := hrel
    have HGO := Lib.hid hgo; have HE := Lib.hid hext
    clear hgo
    by_cases hlt : i < n
    · have i1 : (0 : Int) ≤ (i : Int) := by omega
      have i2 : (i : Int) < (n : Int) := by omega
      have hix : i < xs.length := by have := HN.out; omega
      obtain ⟨ad, B, d, rfl, -, c0, c1, c2, hd, htc⟩ := HAT.out i hix
      replace c0 := hext.cell c0
      replace c1 := hext.cell c1
      replace c2 := hext.cell c2
      have HC := Lib.hid (HP.out i hix B d wr hd htc hext)
      clear htc hext hd
      generalize xs[i].neg = ng at *
      generalize xs[i].rel = rl at *
      generalize xs[i].terms.length = nt at *
      go_wp2_with fail
      refine HC.out.mono ?_
      rintro e w2 ⟨x, rfl, he2, rfl⟩
      have HE2 := Lib.hid (HE.out.trans he2)
      clear he2
      rcases hpi : p i with _ | _
      · have HPI := Lib.hid hpi
        clear hpi
        go_wp2_with fail
        go_roundw
        case rel =>
          refine ⟨i + 1, by omega, by go_num, fun j hji => ?_, HE2.out⟩
          rcases Nat.lt_or_ge j i with h | h
          · exact HGO.out j h
          · obtain rfl : j = i := by omega
            exact HPI.out
        case measure => simp [intOf]; omega
      · have HPI := Lib.hid hpi
        clear hpi
        go_wp2_with fail
        go_ret
        exact Ret.mk HE2.out ⟨_, rfl, .inr ⟨i, rfl, hlt, HPI.out⟩⟩
    · obtain rfl : i = n := by omega
      have hdn : ¬ (i : Int) < (i : Int) := by omega
      go_wp2_with fail
      go_ret
      exact Ret.mk HE.out ⟨_, rfl, .inl ⟨rfl, HGO.out⟩⟩

set_option maxRecDepth 20000 in
set_option maxHeartbeats 800000 in
theorem contains_agrees {F : Nat → Prop} {w : World} {v : Value} {xs : List At} {g1 g2 : Nat} {p : Nat → Bool} (h : Ats F w v xs) (hl : xs.length ≤ 1048577)
    (hp : ∀ i (hi : i < xs.length) B d W, xs[i].terms.length ≤ d → Cl F w B (tcells xs[i].terms) → Ext w W → Calls Tryd.prog 29 #[.agg #[.bool xs[i].neg, .string xs[i].rel, .slice B xs[i].terms.length d], .pointer (some ⟨g1, 0, none⟩), .pointer (some ⟨g2, 0, none⟩)] W (Ret (fun x _ => x = .bool (p i)) W)) :
    Calls Tryd.prog 28 #[v, .func (.func 29) #[] #[.pointer (some ⟨g1, 0, none⟩), .pointer (some ⟨g2, 0, none⟩)]] w (Ret (fun x _ => x = .bool (anyB xs.length p)) w) := by
  have HI := Lib.hid (index_agrees (p := p) h hl hp)
  clear hp
  obtain ⟨A, c, n, hv⟩ : ∃ A c n, v = .slice A n c := by obtain ⟨A, c, vs, hv, _⟩ := h; exact ⟨A, c, _, hv⟩
  subst hv
  clear h
  go_enter Tryd.func28, Tryd.ntmps28
  go_wp2_with fail
  refine HI.out.mono ?_
  rintro e w2 ⟨x, rfl, he2, r, rfl, hr⟩
  have HE2 := Lib.hid he2
  rcases hr with ⟨rfl, hr⟩ | ⟨i, rfl, hi, hr⟩
  · have HR := Lib.hid (anyB_false hr)
    clear hr he2
    go_wp2_with fail
    go_ret
    exact Ret.mk HE2.out (by rw [HR.out]; rfl)
  · have HR := Lib.hid (anyB_true hi hr)
    have hle : decide ((0 : Int) ≤ (i : Int)) = true := decide_eq_true (by omega)
    clear hr he2
    go_wp2_with fail
    go_ret
    exact Ret.mk HE2.out (by rw [HR.out]; rfl)

set_option maxRecDepth 20000 in
set_option maxHeartbeats 800000 in
theorem index_mention {F : Nat → Prop} {w : World} {v : Value} {xs : List Tm} {g1 : Nat} {p : Nat → Bool} (h : Ts F w v xs) (hl : xs.length ≤ 1048577)
    (hp : ∀ i (hi : i < xs.length) W, Ext w W → Calls Tryd.prog 43 #[xs[i].val, .pointer (some ⟨g1, 0, none⟩)] W (Ret (fun x _ => x = .bool (p i)) W)) :
    Calls Tryd.prog 49 #[v, .func (.func 43) #[] #[.pointer (some ⟨g1, 0, none⟩)]] w (Ret (fun x _ => IdxOut xs.length p x) w) := by
  obtain ⟨A, c, rfl, hc, hat⟩ := h
  obtain ⟨n, hn⟩ : ∃ n, n = xs.length := ⟨_, rfl⟩
  rw [← hn] at hc hl ⊢
  have HN := Lib.hid hn; have HAT := Lib.hid hat; have HP := Lib.hid hp
  clear hn hat hp
  go_enter Tryd.func49, Tryd.ntmps49
  go_wp2_with fail
  go_loopw [8] (fun q wr => ∃ i : Nat, i ≤ n ∧ q = .int .i64 (i : Int) ∧ (∀ j, j < i → p j = false) ∧ Ext w wr) (fun q _ => n - (intOf q).toNat)
  case atStart => exact ⟨0, Nat.zero_le _, rfl, fun _ h => absurd h (by omega), Ext.refl _⟩
  case round =>
    obtain ⟨i, hi, rfl, hgo, hext⟩ := hrel
    have HGO := Lib.hid hgo; have HE := Lib.hid hext
    clear hgo
    by_cases hlt : i < n
    · have i1 : (0 : Int) ≤ (i : Int) := by omega
      have i2 : (i : Int) < (n : Int) := by omega
      have hix : i < xs.length := by have := HN.out; omega
      obtain ⟨ad, rfl, -, c0, c1, c2, c3⟩ := HAT.out.term (i := i) hix
      replace c0 := hext.cell c0
      replace c1 := hext.cell c1
      replace c2 := hext.cell c2
      replace c3 := hext.cell c3
      have HC := Lib.hid (HP.out i hix wr hext)
      clear hext
      generalize xs[i] = x0 at *
      go_wp2_with fail
      refine HC.out.mono ?_
      rintro e w2 ⟨x, rfl, he2, rfl⟩
      have HE2 := Lib.hid (HE.out.trans he2)
      clear he2
      rcases hpi : p i with _ | _
      · have HPI := Lib.hid hpi
        clear hpi
        go_wp2_with fail
        go_roundw
        case rel =>
          refine ⟨i + 1, by omega, by go_num, fun j hji => ?_, HE2.out⟩
          rcases Nat.lt_or_ge j i with h | h
          · exact HGO.out j h
          · obtain rfl : j = i := by omega
            exact HPI.out
        case measure => simp [intOf]; omega
      · have HPI := Lib.hid hpi
        clear hpi
        go_wp2_with fail
        go_ret
        exact Ret.mk HE2.out ⟨_, rfl, .inr ⟨i, rfl, hlt, HPI.out⟩⟩
    · obtain rfl : i = n := by omega
      have hdn : ¬ (i : Int) < (i : Int) := by omega
      go_wp2_with fail
      go_ret
      exact Ret.mk HE.out ⟨_, rfl, .inl ⟨rfl, HGO.out⟩⟩

set_option maxRecDepth 20000 in
set_option maxHeartbeats 800000 in
theorem contains_mention {F : Nat → Prop} {w : World} {v : Value} {xs : List Tm} {g1 : Nat} {p : Nat → Bool} (h : Ts F w v xs) (hl : xs.length ≤ 1048577)
    (hp : ∀ i (hi : i < xs.length) W, Ext w W → Calls Tryd.prog 43 #[xs[i].val, .pointer (some ⟨g1, 0, none⟩)] W (Ret (fun x _ => x = .bool (p i)) W)) :
    Calls Tryd.prog 42 #[v, .func (.func 43) #[] #[.pointer (some ⟨g1, 0, none⟩)]] w (Ret (fun x _ => x = .bool (anyB xs.length p)) w) := by
  have HI := Lib.hid (index_mention (p := p) h hl hp)
  clear hp
  obtain ⟨A, c, n, hv⟩ : ∃ A c n, v = .slice A n c := by obtain ⟨A, c, hv, _⟩ := h; exact ⟨A, c, _, hv⟩
  subst hv
  clear h
  go_enter Tryd.func42, Tryd.ntmps42
  go_wp2_with fail
  refine HI.out.mono ?_
  rintro e w2 ⟨x, rfl, he2, r, rfl, hr⟩
  have HE2 := Lib.hid he2
  rcases hr with ⟨rfl, hr⟩ | ⟨i, rfl, hi, hr⟩
  · have HR := Lib.hid (anyB_false hr)
    clear hr he2
    go_wp2_with fail
    go_ret
    exact Ret.mk HE2.out (by rw [HR.out]; rfl)
  · have HR := Lib.hid (anyB_true hi hr)
    have hle : decide ((0 : Int) ≤ (i : Int)) = true := decide_eq_true (by omega)
    clear hr he2
    go_wp2_with fail
    go_ret
    exact Ret.mk HE2.out (by rw [HR.out]; rfl)


set_option maxRecDepth 20000 in
theorem large1 {w : World} {ng : Bool} {rl : ByteArray} {B : Option Addr} {nt d : Nat} (hnt : nt ≤ 6) :
    Calls Tryd.prog 39 #[.agg #[.bool ng, .string rl, .slice B nt d]] w (Ret (fun x _ => x = .bool false) w) := by
  have h6 : decide ((6 : Int) < (nt : Int)) = false := decide_eq_false (by omega)
  go_enter Tryd.func39, Tryd.ntmps39
  go_wp2_with fail
  go_ret
  exact Ret.mk ((Ext.refl w).alloc _) rfl

set_option maxRecDepth 20000 in
theorem large_false {F : Nat → Prop} {w : World} {sv : Value} {Ac : Option Addr} {nc cc : Nat} {xs : List At} (h : Ats F w sv xs) (hl : xs.length ≤ 8) (ht : ∀ a ∈ xs, a.terms.length ≤ 6) :
    Calls Tryd.prog 23 #[.agg #[sv, .slice Ac nc cc]] w (Ret (fun x _ => x = .bool false) w) := by
  have HH := Lib.hid h; have HT := Lib.hid ht
  obtain ⟨A, c, n, hv, hn⟩ : ∃ A c n, sv = .slice A n c ∧ n = xs.length := by obtain ⟨A, c, vs, hv, _⟩ := h; exact ⟨A, c, _, hv, rfl⟩
  subst hv
  have h8 : decide ((8 : Int) < (n : Int)) = false := decide_eq_false (by omega)
  have HL := Lib.hid hl
  clear h ht hl hn
  go_enter Tryd.func23, Tryd.ntmps23
  go_wp2_with fail
  have hx : Ext w (w.alloc (.cells #[.slice A n c, .slice Ac nc cc] 25)) := (Ext.refl w).alloc _
  refine (contains_large (p := fun _ => false) (HH.out.ext hx) (by have := HL.out; omega) (fun i hi B d W _ _ _ => large1 (HT.out _ (List.getElem_mem hi)))).mono ?_
  rintro e w2 ⟨x, rfl, he2, rfl⟩
  rw [anyB_false (fun _ _ => rfl)]
  have HE := Lib.hid (hx.trans he2)
  clear hx he2
  go_wp2_with fail
  go_ret
  exact Ret.mk HE.out rfl
end Go.Proofs.YtiahaofjmcjdiaaDoor
