/- Plain words: what ast.Check and check.Check answer. Contracts: value.Valid, catalog.Valid, ast.valid. -/
import Derived.Test.YtmmmdinncmbjkaaGreatMf02
namespace Go.Proofs.YtmmmdinncmbjkaaGreat
open Go.RowKit Go.Maps
/-- The first answer that is not 0. -/
def firstE {α : Type} (f : α → Int) : List α → Int
  | [] => 0
  | a :: l => if f a = 0 then firstE f l else f a
section
variable {α : Type} {f g : α → Int} {l : List α}
theorem firstE_zero : firstE f l = 0 ↔ ∀ a ∈ l, f a = 0 := by
  induction l with
  | nil => simp [firstE]
  | cons a l ih =>
    unfold firstE
    by_cases h : f a = 0
    · rw [if_pos h, ih]
      simp [h]
    · rw [if_neg h]
      simp [h]
theorem firstE_at {i : Nat} (hi : i < l.length) (h0 : ∀ j (_ : j < i) (_ : j < l.length), f l[j] = 0) (h1 : f l[i] ≠ 0) : firstE f l = f l[i] := by
  induction l generalizing i with
  | nil => simp at hi
  | cons a l ih =>
    unfold firstE
    rcases i with _ | i
    · exact if_neg h1
    · have ha : f a = 0 := h0 0 (by omega) (by simp)
      rw [if_pos ha]
      exact ih (i := i) (by simpa using hi) (fun j hj hl => h0 (j + 1) (by omega) (by simpa using hl)) h1
theorem firstE_all (h0 : ∀ j (_ : j < l.length), f l[j] = 0) : firstE f l = 0 := firstE_zero.2 (fun a ha => by
  obtain ⟨j, hj, rfl⟩ := List.getElem_of_mem ha
  exact h0 j hj)
end
/-- The same over places. -/
def firstI (f : Nat → Int) (n : Nat) : Int := firstE f (List.range n)
theorem firstI_zero {f : Nat → Int} {n : Nat} : firstI f n = 0 ↔ ∀ i, i < n → f i = 0 := by unfold firstI; rw [firstE_zero]; simp
theorem firstI_at {f : Nat → Int} {n i : Nat} (hi : i < n) (h0 : ∀ j, j < i → f j = 0) (h1 : f i ≠ 0) : firstI f n = f i := by
  unfold firstI
  rw [firstE_at (i := i) (by simpa using hi) (fun j hj hl => by simpa using h0 j hj) (by simpa using h1)]
  simp
/-- A walk over a list that may stop with an error. -/
def runX {σ α : Type} (f : σ → α → Except Int σ) : List α → σ → Except Int σ
  | [], s => .ok s
  | a :: l, s => match f s a with
    | .ok s' => runX f l s'
    | .error e => .error e
section
variable {σ α : Type} {f : σ → α → Except Int σ}
theorem runX_append : ∀ (l m : List α) (s : σ), runX f (l ++ m) s = match runX f l s with | .ok s' => runX f m s' | .error e => .error e
  | [], m, s => rfl
  | a :: l, m, s => by
    have e1 : ∀ (k : List α), runX f (a :: k) s = match f s a with | .ok s' => runX f k s' | .error e => .error e := fun k => rfl
    rw [List.cons_append, e1, e1]
    cases f s a with
    | ok s' => exact runX_append l m s'
    | error e => rfl
theorem runX_take {l : List α} {i : Nat} (hi : i < l.length) {s s' : σ} (h : runX f (l.take i) s = .ok s') : runX f (l.take (i + 1)) s = f s' l[i] := by
  rw [List.take_succ_eq_append_getElem hi, runX_append, h]
  have e1 : runX f [l[i]] s' = match f s' l[i] with | .ok s' => runX f [] s' | .error e => .error e := rfl
  show runX f [l[i]] s' = _
  rw [e1]
  cases f s' l[i] <;> rfl
theorem runX_stop {l : List α} {i : Nat} (hi : i < l.length) {s s' : σ} {e : Int} (h : runX f (l.take i) s = .ok s') (h1 : f s' l[i] = .error e) : runX f l s = .error e := by
  have h2 := runX_take hi h
  rw [h1] at h2
  rw [← List.take_append_drop (i + 1) l, runX_append, h2]
end
/-- A letter of a name. -/
def letB (c : UInt8) : Bool := decide (97 ≤ c.toNat ∧ c.toNat ≤ 122 ∨ 65 ≤ c.toNat ∧ c.toNat ≤ 90)
def tailB (c : UInt8) : Bool := decide (c.toNat = 95 ∨ 48 ≤ c.toNat ∧ c.toNat ≤ 57)
def chB (s : ByteArray) (i : Nat) : Bool := letB (s.data.toList.getD i 0) || (decide (i ≠ 0) && tailB (s.data.toList.getD i 0))
/-- A relation's name. -/
def catB (s : ByteArray) : Bool := decide (s ≠ ⟨#[]⟩) && decide (s.size ≤ 16) && (List.range s.size).all (chB s)
def kwords : List ByteArray := [⟨#[99, 111, 117, 110, 116]⟩, ⟨#[100, 101, 115, 99]⟩, ⟨#[109, 97, 120]⟩, ⟨#[109, 105, 110]⟩, ⟨#[110, 111, 116]⟩, ⟨#[111, 114, 100, 101, 114]⟩, ⟨#[115, 117, 109]⟩]
/-- A name of a query. -/
def nameB (s : ByteArray) : Bool := !(decide (s ∈ kwords)) && catB s
theorem nameB_ne {s : ByteArray} (h : nameB s = true) : s ≠ ⟨#[]⟩ := by
  unfold nameB catB at h
  simp only [Bool.and_eq_true, decide_eq_true_eq] at h
  exact h.2.1.1
/-- A value. -/
def valB (k n : Int) (s : ByteArray) : Bool := if k = 1 then decide (s = ⟨#[]⟩) else if k = 2 then decide (n = 0 ∧ s.size ≤ 24) else false
def termE (t : Tm) : Int := if t.var = ⟨#[]⟩ then (if valB t.kind t.int t.str = true then 0 else 4) else if nameB t.var = true then (if t.kind = 0 ∧ t.int = 0 ∧ t.str = ⟨#[]⟩ then 0 else 1) else 7
def atomE (a : At) : Int := if nameB a.rel = true then (if a.terms.length ≤ 6 then firstE termE a.terms else 12) else 7
def condE (c : Cd) : Int := if nameB c.var = true then (if 0 ≤ c.op ∧ c.op ≤ 5 then (if valB c.kind c.int c.str = true then 0 else 4) else 2) else 7
def itemsE (r : Rl) : Int := if r.ats = [] then 10 else if r.ats.length ≤ 8 ∧ r.cds.length ≤ 8 then (if firstE atomE r.ats = 0 then firstE condE r.cds else firstE atomE r.ats) else 12
/-- The variables of a rule, by first occurrence. -/
def varsC (r : Rl) : List ByteArray := r.cds.foldl (fun vs c => addV vs c.var) (varsT (allT r.ats))
/-- Bound by a positive atom. -/
def posT (xs : List At) : List Tm := xs.flatMap (fun a => if a.neg = true then [] else a.terms)
def boundB (r : Rl) (v : ByteArray) : Bool := decide (v ≠ ⟨#[]⟩) && (posT r.ats).any (fun t => decide (t.var = v))
def ruleE (nd : List ByteArray) (r : Rl) : Int := if itemsE r = 0 then (if (varsC r).length ≤ 8 then (if (nd ++ varsC r).all (boundB r) = true then 0 else 22) else 12) else itemsE r
def headE (hd : List ByteArray) : Int := if hd.length ≤ 6 then firstI (fun i => if nameB (hd.getD i ⟨#[]⟩) = true then (if hd.getD i ⟨#[]⟩ ∈ hd.take i then 8 else 0) else 7) hd.length else 12
def aggE (ag : Int) (av : ByteArray) : Int := if ag = 0 ∨ ag = 1 then (if av = ⟨#[]⟩ then 0 else 1) else if ag = 2 ∨ ag = 3 ∨ ag = 4 then (if nameB av = true then 0 else 7) else 2
def needV (hd : List ByteArray) (av : ByteArray) : List ByteArray := if av = ⟨#[]⟩ then hd else hd ++ [av]
def orderE (hd : List ByteArray) (od : List Ky) : Int := firstI (fun i => if (od.map Ky.var).getD i ⟨#[]⟩ ∈ hd then (if (od.map Ky.var).getD i ⟨#[]⟩ ∈ (od.map Ky.var).take i then 8 else 0) else 7) od.length
/-- What ast.Check answers. -/
def astE (q : Qy) : Int :=
  if q.rs = [] then 10 else if q.rs.length ≤ 3 ∧ (q.rs.length ≤ 1 ∨ q.ag = 0) then
    (if headE q.hd = 0 then (if aggE q.ag q.av = 0 then (if firstE (ruleE (needV q.hd q.av)) q.rs = 0 then orderE q.hd q.od else firstE (ruleE (needV q.hd q.av)) q.rs) else aggE q.ag q.av) else headE q.hd) else 12
/-- Kinds of variables. -/
abbrev Km := ByteArray → Option Int
def updK (m : Km) (s : ByteArray) (k : Int) : Km := fun t => if t = s then some k else m t
def kindT (m : Km) (p : Tm × Int) : Except Int Km :=
  if p.1.var = ⟨#[]⟩ then (if p.1.kind = p.2 then .ok m else .error 5)
  else match m p.1.var with
    | some k => if k = p.2 then .ok m else .error 5
    | none => .ok (updK m p.1.var p.2)
def findS (ss : List Sc) (s : ByteArray) : Option Sc := ss.find? (fun x => decide (x.name = s))
def kindA (ss : List Sc) (m : Km) (a : At) : Except Int Km :=
  match findS ss a.rel with
  | none => .error 7
  | some s => if a.terms.length = s.kinds.length then runX kindT (a.terms.zip s.kinds) m else .error 6
def inferX (ss : List Sc) (r : Rl) : Except Int Km := runX (kindA ss) r.ats (fun _ => none)
def errX {σ : Type} : Except Int σ → Int
  | .ok _ => 0
  | .error e => e
def kmOf (ss : List Sc) (r : Rl) : Km := match inferX ss r with | .ok m => m | .error _ => fun _ => none
/-- All variables of a are in b. -/
def covB (a b : At) : Bool := a.terms.all (fun t => decide (t.var = ⟨#[]⟩) || b.terms.any (fun u => decide (u.var = t.var)))
def guardI (xs : List At) (a : At) : Option Nat := xs.findIdx? (fun b => !b.neg && covB a b)
def negE (xs : List At) (a : At) : Int := if a.neg = true then (if (guardI xs a).isSome = true then 0 else 23) else 0
def kindE (m : Km) (c : Cd) : Int := if c.kind = (m c.var).getD 0 then 0 else 5
def verifyE (m : Km) (r : Rl) : Int := if firstE (kindE m) r.cds = 0 then firstE (negE r.ats) r.ats else firstE (kindE m) r.cds
/-- What check.Check answers. -/
def checkE (ss : List Sc) (q : Qy) : Int :=
  if astE q = 0 then
    (if firstE (fun r => errX (inferX ss r)) q.rs = 0 then
      (if firstE (fun r => verifyE (kmOf ss r) r) q.rs = 0 then
        (if q.rs.all (fun r => q.hd.all (fun v => decide ((kmOf ss r v).getD 0 = (kmOf ss (q.rs.headD ⟨[], []⟩) v).getD 0))) = true then
          (if q.ag = 2 ∧ (kmOf ss (q.rs.headD ⟨[], []⟩) q.av).getD 0 ≠ 1 then 5 else 0) else 5)
      else firstE (fun r => verifyE (kmOf ss r) r) q.rs)
    else firstE (fun r => errX (inferX ss r)) q.rs)
  else astE q
end Go.Proofs.YtmmmdinncmbjkaaGreat
namespace Go.Proofs.YtmmmdinncmbjkaaGreat
open Go.RowKit Go.Maps
set_option maxRecDepth 20000 in
theorem vvalid_any (k n : Int) (s : ByteArray) (w : World) (hs : s.size ≤ maxLen) :
    Calls Tryz.prog 74 #[.agg #[.int .i64 k, .int .i64 n, .string s]] w (Ret (fun x _ => x = .bool (valB k n s)) w) := by
  have hsz : s.size ≤ 9223372036854775807 := by simpa [maxLen] using hs
  by_cases h1 : k = 1
  · have e : valB k n s = s.toList.isEmpty := by unfold valB; rw [if_pos h1, var_empty]
    rw [e]
    subst h1
    obtain ⟨b, hb⟩ : ∃ b, b = s.toList.isEmpty := ⟨_, rfl⟩
    rw [← hb]
    rcases b with _ | _
    all_goals
      have hz := hb.symm
      clear hb e
      go_enter Tryz.func74, Tryz.ntmps74
      go_wp2_with fail
      go_ret
      exact Ret.mk ((Ext.refl w).alloc _) rfl
  · have h1' : (k == 1) = false := beq_false_of_ne h1
    by_cases h2 : k = 2
    · have e : valB k n s = decide (n = 0 ∧ s.size ≤ 24) := by unfold valB; rw [if_neg h1, if_pos h2]
      rw [e]
      subst h2
      clear h1 h1' e
      by_cases h3 : n = 0
      · subst h3
        by_cases h4 : s.size ≤ 24
        · have h5 : (s.size : Int) ≤ 24 := by omega
          rw [show decide ((0 : Int) = 0 ∧ s.size ≤ 24) = true from decide_eq_true ⟨rfl, h4⟩]
          go_enter Tryz.func74, Tryz.ntmps74
          go_wp2_with fail
          go_ret
          exact Ret.mk ((Ext.refl w).alloc _) rfl
        · have h5 : ¬ (s.size : Int) ≤ 24 := by omega
          rw [show decide ((0 : Int) = 0 ∧ s.size ≤ 24) = false from decide_eq_false (fun h => h4 h.2)]
          go_enter Tryz.func74, Tryz.ntmps74
          go_wp2_with fail
          go_ret
          exact Ret.mk ((Ext.refl w).alloc _) rfl
      · have h4 : (n == 0) = false := beq_false_of_ne h3
        rw [show decide (n = 0 ∧ s.size ≤ 24) = false from decide_eq_false (fun h => h3 h.1)]
        go_enter Tryz.func74, Tryz.ntmps74
        go_wp2_with fail
        go_ret
        exact Ret.mk ((Ext.refl w).alloc _) rfl
    · have h2' : (k == 2) = false := beq_false_of_ne h2
      have e : valB k n s = false := by unfold valB; rw [if_neg h1, if_neg h2]
      rw [e]
      clear e
      go_enter Tryz.func74, Tryz.ntmps74
      go_wp2_with fail
      go_ret
      exact Ret.mk ((Ext.refl w).alloc _) rfl
end Go.Proofs.YtmmmdinncmbjkaaGreat
