/- Find and Check on small pure rules, no variable fixed. -/
import Derived.Test.YtiahaofjmcjdiaaDoorHva
namespace Go.Proofs.YtiahaofjmcjdiaaDoor
open Go.RowKit

/-- What the frame knows of a rule's atoms. -/
structure Rg (xs : List At) : Prop where
  bd : Bd xs
  rng : ∀ a ∈ xs, ∀ t ∈ a.terms, -9223372036854775808 ≤ t.kind ∧ t.kind ≤ 9223372036854775807 ∧ -9223372036854775808 ≤ t.int ∧ t.int ≤ 9223372036854775807
/-- A small pure rule. -/
structure Sp (xs : List At) : Prop where
  rg : Rg xs
  sm : Small xs 0
  ng : ∀ a ∈ xs, a.neg = false
theorem Sp.good {xs : List At} (h : Sp xs) : ∀ a ∈ xs, a.Good := fun a ha => ⟨h.ng a ha, fun t ht => (h.sm.str a ha t ht).2⟩
theorem Sp.pure {xs : List At} (h : Sp xs) : hpureB xs 0 = true := decide_eq_true ⟨h.good, rfl⟩
theorem Sp.tok {xs : List At} (h : Sp xs) : ∀ a ∈ xs, ∀ t ∈ a.terms, TOk t := fun a ha t ht => by
  have h1 := (h.sm.str a ha t ht).1
  obtain ⟨r1, r2, r3, r4⟩ := h.rg.rng a ha t ht
  exact ⟨by omega, by omega, r1, r2, r3, r4⟩
theorem Sp.aok {xs : List At} (h : Sp xs) : AOk xs := ⟨h.rg.bd, fun a ha => by have := (h.sm.terms a ha).1; omega, h.tok⟩
theorem Sp.vars {xs : List At} (h : Sp xs) : (varsT (allT xs)).length ≤ 4 := Nat.le_trans (vars_small xs) h.sm.vars
theorem Sp.all {xs : List At} (h : Sp xs) : (allT xs).length ≤ 30 := by
  have h1 := allT_small (fun a ha => (h.sm.terms a ha).1)
  have h2 := h.sm.len
  omega
theorem Sp.vsize {xs : List At} (h : Sp xs) : ∀ v ∈ varsT (allT xs), v.size ≤ 60 := varsT_mem_size (fun t ht => by
  obtain ⟨a, ha, hta⟩ := allT_iff.1 ht
  have := (h.sm.str a ha t hta).1
  omega)
theorem find_sp {F G : Nat → Prop} {w : World} {svF svT : Value} {AF AT : Option Addr} {ccF ccT : Nat} {xs ys : List At} (hF : Ats F w svF xs) (hT : Ats G w svT ys) (hx : Sp xs) (hy : Sp ys) :
    Calls Tryd.prog 9 #[.agg #[svF, .slice AF 0 ccF], .agg #[svT, .slice AT 0 ccT], .slice none 0 0] w (FindPost xs ys [] w) :=
  find_good (H := fun _ => True) (fx := []) hF hT ⟨none, 0, rfl, by simp, .inl rfl⟩ hx.rg.bd hy.rg.bd (Lib.hid hx.pure) (Lib.hid hy.pure) (by have := hx.sm.len; omega) (by have := hy.sm.len; omega)
    (Lib.hid (fun a ha => (hx.sm.terms a ha).1)) (Lib.hid (fun a ha => (hy.sm.terms a ha).1)) (by have := hx.vars; omega) (Nat.le_trans (distT_length _) (by have := hy.all; omega)) (by simp) (Lib.hid (by simp)) (Lib.hid (fun v hv => Nat.le_trans (hx.vsize v hv) (by simp [maxLen])))
theorem check_sp {F G H : Nat → Prop} {w : World} {svF svT vm : Value} {AF AT : Option Addr} {ccF ccT : Nat} {xs ys : List At} {im : ByteArray → Option Tm} (hF : Ats F w svF xs) (hT : Ats G w svT ys) (hM : Prs H w vm (pairsOf (varsT (allT xs)) im)) (hx : Sp xs) (hy : Sp ys) (htab : TabE w) (hh : Hom im xs ys) (hv : ∀ v ∈ varsT (allT xs), (im v).isSome = true) :
    Calls Tryd.prog 18 #[.agg #[svF, .slice AF 0 ccF], .agg #[svT, .slice AT 0 ccT], .slice none 0 0, vm] w (Ret (fun x _ => x = .bool true) w) := by
  have hsz : ∀ v ∈ varsT (allT xs), v.size ≤ maxLen := fun v hv => Nat.le_trans (hx.vsize v hv) (by simp [maxLen])
  have h := check_good (AF := AF) (AT := AT) (ccF := ccF) (ccT := ccT) hF hT hM hx.aok hy.aok (Lib.hid hx.pure) (Lib.hid hy.pure) (Lib.hid (fun p hp => by
    obtain ⟨v, hv, rfl⟩ := List.mem_map.1 hp
    exact hsz v hv)) (by have := hx.vars; simp [pairsOf]; omega) htab (Lib.hid hsz) (Lib.hid (fun s t hs => by
    have hm := firstP_mem hs
    obtain ⟨v, hvm, e⟩ := List.mem_map.1 hm
    injection e with e1 e2
    obtain ⟨u, hu, he⟩ := hom_cands hh hv v hvm
    rw [he] at e2
    obtain ⟨b, hb, hub⟩ := allT_iff.1 (distT_iff.1 hu)
    subst e2
    exact hy.tok b hb _ hub))
  rwa [check_hom hh hv hx.ng hy.ng] at h
end Go.Proofs.YtiahaofjmcjdiaaDoor
