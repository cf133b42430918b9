/- Words for memory; contracts of homomorphism.Find and ast.Vars. -/
import Derived.Test.YtehklbdgkppmeaaDoorProg
import Derived.Test.YtehklbdgkppmeaaDoorShelf
import Derived.BigQuiet
import Derived.Deep.AppendLies
import Derived.Deep.CutBlock
import Derived.Deep.DeepCutAuto
import Derived.Deep.QuietTactic
import Derived.Deep.RegionHeld3
import Derived.Deep.RegionLaw
import Derived.Deep.Upon
import Derived.KernelRfl
import Derived.Laws.BytesString
import Derived.Laws.EntriesVeiled
import Derived.Lib.AppendStr
import Derived.Lib.Hide
import Derived.Lib.ItoaLen
import Derived.Maps.OwnOps
import Derived.Maps.OwnSet
import Derived.Maps.Views
import Derived.Shelf.Slices.Clone
import Derived.WalkKit
import Derived.WalkLawsBesides
import Derived.WalkSpells
namespace Go.Proofs.YtehklbdgkppmeaaDoor
open Go.RowKit Go.Maps

/-- Only blocks of S, and what is new, may have turned. -/
structure Fr (S : Nat → Prop) (w w' : World) : Prop where
  os : w'.os = w.os
  tape : w'.tape = w.tape
  output : w'.output = w.output
  size : w.heap.size ≤ w'.heap.size
  block : ∀ k, k < w.heap.size → ¬ S k → w'.heap[k]? = w.heap[k]?
/-- All that was there is as it was; there may be more. -/
def Ext (w w' : World) : Prop := Below w.heap.size w w'
theorem Ext.refl (w : World) : Ext w w := Below.refl _ _
theorem Ext.size {w w' : World} (h : Ext w w') : w.heap.size ≤ w'.heap.size := Below.size h
theorem Ext.trans {a b c : World} (h : Ext a b) (k : Ext b c) : Ext a c := Below.trans h (Below.mono k h.size)
theorem Ext.drew {a w : World} (h : Ext a w) : Ext a w.drew := Below.drew h
theorem Ext.drewN {a w : World} (h : Ext a w) (n : Nat) : Ext a (w.drewN n) := ⟨h.os, h.tape, h.output, h.size, h.block⟩
theorem Ext.alloc {a w : World} (h : Ext a w) (o : Obj) : Ext a (w.alloc o) := Below.alloc h h.size o
theorem Ext.setCell {a w : World} (h : Ext a w) {p : Addr} (hp : a.heap.size ≤ p.block) (u : Value) : Ext a (w.setCell p u) := Below.setCell h hp u
theorem Ext.heap {w w' : World} (h : Ext w w') {k : Nat} (hk : k < w.heap.size) : w'.heap[k]? = w.heap[k]? := Below.block h k hk
theorem Ext.fr {w w' : World} (h : Ext w w') (S : Nat → Prop) : Fr S w w' := ⟨h.os, h.tape, h.output, h.size, fun _ hk _ => h.heap hk⟩
theorem Fr.refl (S : Nat → Prop) (w : World) : Fr S w w := (Ext.refl w).fr S
theorem Fr.mono {S T : Nat → Prop} {w w' : World} (h : Fr S w w') (hs : ∀ k, k < w.heap.size → S k → T k) : Fr T w w' := ⟨h.os, h.tape, h.output, h.size, fun k hk hn => h.block k hk (fun e => hn (hs k hk e))⟩
theorem Fr.trans {S : Nat → Prop} {a b c : World} (h : Fr S a b) (k : Fr S b c) : Fr S a c :=
  ⟨k.os.trans h.os, k.tape.trans h.tape, k.output.trans h.output, Nat.le_trans h.size k.size, fun i hi hn => (k.block i (Nat.lt_of_lt_of_le hi h.size) hn).trans (h.block i hi hn)⟩
theorem Fr.comp {S T : Nat → Prop} {a b c : World} (h : Fr S a b) (k : Fr T b c) (hs : ∀ k, T k → S k ∨ a.heap.size ≤ k) : Fr S a c :=
  ⟨k.os.trans h.os, k.tape.trans h.tape, k.output.trans h.output, Nat.le_trans h.size k.size, fun i hi hn => (k.block i (Nat.lt_of_lt_of_le hi h.size) (fun e => by rcases hs i e with h1 | h1; exact hn h1; omega)).trans (h.block i hi hn)⟩
theorem Fr.ext {S : Nat → Prop} {a b c : World} (h : Fr S a b) (k : Ext b c) : Fr S a c := h.trans (k.fr S)
/-- Where all that turned is new, seen from a. -/
theorem Fr.new {S : Nat → Prop} {a w w' : World} (ha : Ext a w) (h : Fr S w w') (hS : ∀ k, S k → a.heap.size ≤ k) : Ext a w' :=
  ⟨h.os.trans ha.os, h.tape.trans ha.tape, h.output.trans ha.output, Nat.le_trans ha.size h.size,
    fun k hk => (h.block k (Nat.lt_of_lt_of_le hk ha.size) (fun e => by have := hS k e; omega)).trans (ha.heap hk)⟩
theorem Fr.grown {S : Nat → Prop} {a w w' : World} {row : Option Nat} (h : Fr S a w) (hg : w.grownBy w' row) (hr : ∀ k, row = some k → S k ∨ a.heap.size ≤ k) : Fr S a w' :=
  ⟨hg.os.trans h.os, hg.tape.trans h.tape, hg.output.trans h.output, Nat.le_trans h.size hg.size, fun k hk hn =>
    (hg.block k (Nat.lt_of_lt_of_le hk h.size) (fun e => by rcases hr k e.symm with h1 | h1; exact hn h1; omega)).trans (h.block k hk hn)⟩
theorem Fr.setCell {S : Nat → Prop} {a w : World} (h : Fr S a w) {p : Addr} (hp : S p.block ∨ a.heap.size ≤ p.block) (u : Value) : Fr S a (w.setCell p u) :=
  ⟨h.os, h.tape, h.output, by simpa [World.setCell] using h.size, fun i hi hn => (Below.heap_setCell w p u i (by
    rintro rfl
    rcases hp with e | e
    · exact hn e
    · omega)).trans (h.block i hi hn)⟩
theorem Ext.grown {a w w' : World} {row : Option Nat} (h : Ext a w) (hg : w.grownBy w' row) (hr : ∀ k, row = some k → a.heap.size ≤ k) : Ext a w' := Below.grown h hg h.size hr
theorem grown_fr {w w' : World} {row : Option Nat} (hg : w.grownBy w' row) : Fr (fun k => row = some k) w w' := ⟨hg.os, hg.tape, hg.output, hg.size, fun k hk hn => hg.block k hk (fun e => hn e.symm)⟩
theorem cell_lt {w : World} {p : Addr} {v : Value} (h : w.cell? p = some v) : p.block < w.heap.size := by
  rcases Nat.lt_or_ge p.block w.heap.size with hlt | hge
  · exact hlt
  · simp [World.cell?, Array.getElem?_eq_none hge] at h
theorem Ext.cell {w w' : World} (h : Ext w w') {p : Addr} {v : Value} (hc : w.cell? p = some v) : w'.cell? p = some v := (Below.cell h (cell_lt hc)).trans hc
theorem Fr.cell {S : Nat → Prop} {w w' : World} (h : Fr S w w') {p : Addr} {v : Value} (hc : w.cell? p = some v) (hp : ¬ S p.block) : w'.cell? p = some v :=
  (World.cell?_of_block (h.block _ (cell_lt hc) hp)).trans hc
theorem block_add (a : Addr) (n : Nat) : (a.add n).block = a.block := by unfold Addr.add; split <;> rfl
theorem add_add (a : Addr) (i j : Nat) : (a.add i).add j = a.add (i + j) := by
  unfold Addr.add
  by_cases hi : i = 0 <;> by_cases hj : j = 0 <;> simp [hi, hj, Nat.add_assoc]
theorem add_own (g i : Nat) : (⟨g, 0, none⟩ : Addr).add i = ⟨g, i, none⟩ := by rcases i with _ | i <;> simp [Addr.add]
/-- Block g is just the cells xs, none frozen. -/
def Bk (w : World) (g : Nat) (t : TypeId) (xs : List Value) : Prop := w.heap[g]? = some (.cells xs.toArray t (0, 0))
theorem Bk.lt {w : World} {g : Nat} {t : TypeId} {xs : List Value} (h : Bk w g t xs) : g < w.heap.size := by
  rcases Nat.lt_or_ge g w.heap.size with h1 | h1
  · exact h1
  · unfold Bk at h; rw [Array.getElem?_eq_none h1] at h; cases h
theorem Bk.cell {w : World} {g : Nat} {t : TypeId} {xs : List Value} (h : Bk w g t xs) {i : Nat} (hi : i < xs.length) : w.cell? ⟨g, i, none⟩ = some xs[i] := by
  unfold Bk at h; simp [World.cell?, h, hi]
theorem Bk.free {w : World} {g : Nat} {t : TypeId} {xs : List Value} (h : Bk w g t xs) (i : Nat) : w.frozen? ⟨g, i, none⟩ = false := by
  unfold Bk at h; simp [World.frozen?, h]
theorem Bk.set {w : World} {g : Nat} {t : TypeId} {xs : List Value} (h : Bk w g t xs) (i : Nat) (u : Value) : Bk (w.setCell ⟨g, i, none⟩ u) g t (xs.set i u) := by
  unfold Bk at h ⊢; simp [World.setCell, Array.getElem?_modify, h]
theorem Bk.far {w : World} {g : Nat} {t : TypeId} {xs : List Value} (h : Bk w g t xs) {p : Addr} (hp : g ≠ p.block) (u : Value) : Bk (w.setCell p u) g t xs :=
  (Below.heap_setCell w p u g hp).trans h
theorem Bk.ext {w w' : World} {g : Nat} {t : TypeId} {xs : List Value} (h : Bk w g t xs) (he : Ext w w') : Bk w' g t xs := (he.heap h.lt).trans h
theorem Bk.fr {S : Nat → Prop} {w w' : World} {g : Nat} {t : TypeId} {xs : List Value} (h : Bk w g t xs) (hf : Fr S w w') (hg : ¬ S g) : Bk w' g t xs := (hf.block g h.lt hg).trans h
theorem Bk.alloc {w : World} {g : Nat} {t : TypeId} {xs : List Value} (h : Bk w g t xs) (o : Obj) : Bk (w.alloc o) g t xs := h.ext ((Ext.refl w).alloc o)
theorem Bk.new (w : World) (t : TypeId) (xs : List Value) : Bk (w.alloc (.cells xs.toArray t)) w.heap.size t xs := by
  show (w.heap.push _)[w.heap.size]? = _
  simp
theorem Bk.ne {w : World} {g h : Nat} {t u : TypeId} {xs : List Value} {o : Array Value} (hb : Bk w g t xs) (hc : w.heap[h]? = some (.cells o u (0, 0))) (htu : t ≠ u) : g ≠ h := fun e => by
  subst e
  have := hb.symm.trans hc
  injection this with this; injection this with _ this; exact htu this
/-- A returned value, and old memory as it was. -/
def Ret (S : Value → World → Prop) (w : World) (e : Ending) (w' : World) : Prop := ∃ v, e = .returned v ∧ Ext w w' ∧ S v w'
theorem Ret.mk {S : Value → World → Prop} {w w' : World} {v : Value} (he : Ext w w') (hs : S v w') : Ret S w (.returned v) w' := ⟨v, rfl, he, hs⟩
/-- Cells in a row, from an address that lies in F (if there are any). -/
def Cl (F : Nat → Prop) (w : World) (A : Option Addr) (xs : List Value) : Prop :=
  xs = [] ∨ ∃ ad, A = some ad ∧ F ad.block ∧ ∀ j (h : j < xs.length), w.cell? (ad.add j) = some xs[j]
theorem Cl.ext {F : Nat → Prop} {w w' : World} {A : Option Addr} {xs : List Value} (h : Cl F w A xs) (he : Ext w w') : Cl F w' A xs := by
  rcases h with h | ⟨ad, h1, h2, h3⟩
  · exact .inl h
  · exact .inr ⟨ad, h1, h2, fun j hj => he.cell (h3 j hj)⟩
theorem Cl.fr {S F : Nat → Prop} {w w' : World} {A : Option Addr} {xs : List Value} (h : Cl F w A xs) (hf : Fr S w w') (hs : ∀ k, F k → ¬ S k) : Cl F w' A xs := by
  rcases h with h | ⟨ad, h1, h2, h3⟩
  · exact .inl h
  · exact .inr ⟨ad, h1, h2, fun j hj => hf.cell (h3 j hj) (by rw [block_add]; exact hs _ h2)⟩
theorem Cl.mono {F G : Nat → Prop} {w : World} {A : Option Addr} {xs : List Value} (h : Cl F w A xs) (hs : ∀ k, k < w.heap.size → F k → G k) : Cl G w A xs := by
  rcases h with h | ⟨ad, h1, h2, h3⟩
  · exact .inl h
  · rcases xs with _ | ⟨x, xs⟩
    · exact .inl rfl
    · refine .inr ⟨ad, h1, hs _ ?_ h2, h3⟩
      have := cell_lt (h3 0 (by simp))
      rwa [block_add] at this
theorem Cl.at' {F : Nat → Prop} {w : World} {A : Option Addr} {xs : List Value} (h : Cl F w A xs) {j : Nat} {x : Value} (hj : xs[j]? = some x) : ∃ ad, A = some ad ∧ F ad.block ∧ w.cell? (ad.add j) = some x := by
  rcases h with rfl | ⟨ad, h1, h2, h3⟩
  · simp at hj
  · obtain ⟨hl, e⟩ := List.getElem?_eq_some_iff.1 hj
    exact ⟨ad, h1, h2, by rw [h3 j hl, e]⟩
theorem Cl.of_own {w : World} {base size n : Nat} {e : TypeId} {v : Value} {xs : List Value} (h : w.ownsRow base e size v n xs) : ∃ A c, v = .slice A n c ∧ n ≤ c ∧ Cl (fun k => v.ownBlock = some k ∧ base ≤ k) w A xs := by
  obtain ⟨hl, h⟩ := h
  rcases h with ⟨rfl, rfl⟩ | ⟨g, cap, cur, rfl, hb, hc, hn, hm, hs, hx⟩
  · exact ⟨none, 0, rfl, Nat.le_refl _, .inl (by simpa using hl)⟩
  · refine ⟨_, _, rfl, hn, .inr ⟨_, rfl, ⟨rfl, hb⟩, fun j hj => ?_⟩⟩
    subst hx
    rw [add_own]
    have hj2 : j < cur.size := by simp at hj; omega
    simp [World.cell?, hc, hj2]
theorem own_slice {w : World} {base size n : Nat} {e : TypeId} {v : Value} {xs : List Value} (h : w.ownsRow base e size v n xs) : ∃ A c, v = .slice A n c := by
  obtain ⟨A, c, h, _⟩ := Cl.of_own h; exact ⟨A, c, h⟩
/-- A term: a variable's name, or a constant. -/
structure Tm where
  var : ByteArray
  kind : Int
  int : Int
  str : ByteArray
deriving DecidableEq
def Tm.cells (t : Tm) : List Value := [.string t.var, .int .i64 t.kind, .int .i64 t.int, .string t.str]
abbrev Tm.val (t : Tm) : Value := .agg #[.string t.var, .int .i64 t.kind, .int .i64 t.int, .string t.str]
def tcells (ts : List Tm) : List Value := ts.flatMap Tm.cells
theorem tcells_length (ts : List Tm) : (tcells ts).length = ts.length * 4 := by
  induction ts with
  | nil => rfl
  | cons t ts ih => simp [tcells, Tm.cells] at ih ⊢; omega
theorem tcells_append (ts us : List Tm) : tcells (ts ++ us) = tcells ts ++ tcells us := by simp [tcells]
theorem tcells_get : ∀ {ts : List Tm} {i : Nat} (hi : i < ts.length) (j : Nat), j < 4 → (tcells ts)[4 * i + j]? = (ts[i].cells)[j]?
  | t :: ts, 0, _, j, hj => by
    simp only [tcells, List.flatMap_cons, Nat.mul_zero, Nat.zero_add, List.getElem_cons_zero]
    rw [List.getElem?_append_left (by simpa [Tm.cells] using hj)]
  | t :: ts, i + 1, hi, j, hj => by
    have ih := tcells_get (ts := ts) (i := i) (by simpa using hi) j hj
    simp only [tcells, List.flatMap_cons, List.getElem_cons_succ] at ih ⊢
    rw [List.getElem?_append_right (by simp [Tm.cells]; omega)]
    rw [← ih]
    congr 1
    simp [Tm.cells]; omega
/-- A slice of terms. -/
def Ts (F : Nat → Prop) (w : World) (v : Value) (ts : List Tm) : Prop := ∃ A c, v = .slice A ts.length c ∧ ts.length ≤ c ∧ Cl F w A (tcells ts)
theorem Ts.ext {F : Nat → Prop} {w w' : World} {v : Value} {ts : List Tm} (h : Ts F w v ts) (he : Ext w w') : Ts F w' v ts := let ⟨A, c, h1, h2, h3⟩ := h; ⟨A, c, h1, h2, h3.ext he⟩
theorem Ts.fr {S F : Nat → Prop} {w w' : World} {v : Value} {ts : List Tm} (h : Ts F w v ts) (hf : Fr S w w') (hs : ∀ k, F k → ¬ S k) : Ts F w' v ts := let ⟨A, c, h1, h2, h3⟩ := h; ⟨A, c, h1, h2, h3.fr hf hs⟩
theorem Ts.mono {F G : Nat → Prop} {w : World} {v : Value} {ts : List Tm} (h : Ts F w v ts) (hs : ∀ k, k < w.heap.size → F k → G k) : Ts G w v ts := let ⟨A, c, h1, h2, h3⟩ := h; ⟨A, c, h1, h2, h3.mono hs⟩
theorem add_succ' (a : Addr) (n j : Nat) : a.add (n + (j + 1)) = ⟨(a.add n).block, (a.add n).off + (j + 1), none⟩ := by
  rw [← add_add]
  generalize a.add n = p
  simp [Addr.add]
/-- Term i, as four cells, in the walk's spelling. -/
theorem Cl.term {F : Nat → Prop} {w : World} {A : Option Addr} {ts : List Tm} (h : Cl F w A (tcells ts)) {i : Nat} (hi : i < ts.length) : ∃ ad, A = some ad ∧ F ad.block ∧ w.cell? (ad.add (i * 4)) = some (.string ts[i].var) ∧ w.cell? ⟨(ad.add (i * 4)).block, (ad.add (i * 4)).off + 1, none⟩ = some (.int .i64 ts[i].kind) ∧ w.cell? ⟨(ad.add (i * 4)).block, (ad.add (i * 4)).off + 2, none⟩ = some (.int .i64 ts[i].int) ∧ w.cell? ⟨(ad.add (i * 4)).block, (ad.add (i * 4)).off + 3, none⟩ = some (.string ts[i].str) := by
  obtain ⟨ad, h1, h2, c0⟩ := h.at' ((tcells_get hi 0 (by omega)).trans rfl)
  obtain ⟨ad1, e1, _, c1⟩ := h.at' ((tcells_get hi 1 (by omega)).trans rfl)
  obtain ⟨ad2, e2, _, c2⟩ := h.at' ((tcells_get hi 2 (by omega)).trans rfl)
  obtain ⟨ad3, e3, _, c3⟩ := h.at' ((tcells_get hi 3 (by omega)).trans rfl)
  subst h1
  injection e1 with e1; injection e2 with e2; injection e3 with e3
  subst e1 e2 e3
  rw [show 4 * i + 0 = i * 4 by omega] at c0
  rw [show 4 * i + 1 = i * 4 + (0 + 1) by omega, add_succ'] at c1
  rw [show 4 * i + 2 = i * 4 + (1 + 1) by omega, add_succ'] at c2
  rw [show 4 * i + 3 = i * 4 + (2 + 1) by omega, add_succ'] at c3
  exact ⟨ad, rfl, h2, c0, c1, c2, c3⟩
/-- The row lies where it lay, or in the block that is new. -/
def Lands (w : World) (v v' : Value) : Prop := v'.ownBlock = v.ownBlock ∨ v'.ownBlock = some w.heap.size
theorem run_append_at {P : Program} (w : World) (base : Nat) (t ty e : TypeId) (i : TypeInfo) (z : Value) (size bytes : Nat) (ht : P.underlying t = some (.slice e)) (hi : P.info? e = some i) (hz : i.zero = some z)
    (hsize : i.size = size) (hby : i.bytes = bytes) (hzs : z.cells.size = size) (hsz : 0 < size)
    (v : Value) (n : Nat) (xs : List Value) (hown : w.ownsRow base e size v n xs)
    (a : Addr) (m c : Nat) (news : List Value) (hl : news.length = m * size) (hnews : ∀ j u, news[j]? = some u → w.cell? (a.add j) = some u) (h1 : ∀ u ∈ news, u.oneCell' = true)
    (h63 : n + m ≤ maxLen) (hbytes : (n + m) * bytes ≤ 140737488355328) (hbase : base ≤ w.heap.size) :
    ∃ v' w', (Builtin.append_ #[t, t] ty #[v, .slice (some a) m c]).run P w = .ok v' w' ∧ w'.ownsRow base e size v' (n + m) (xs ++ news) ∧ w.grownBy w' v.ownBlock ∧ Lands w v v' := by
  obtain ⟨v', w', hr, h2, h3, h4⟩ := run_append_own (P := P) w base t ty e i z size bytes ht hi hz hsize hby hzs hsz v n xs hown a m c news hl hnews h1 h63 hbytes hbase
  refine ⟨v', w', hr, h2, h3, ?_⟩
  subst hsize
  subst hby
  have hsmall : n + m ≤ 9223372036854775807 := by simp only [maxLen] at h63; omega
  rcases hown.2 with ⟨rfl, rfl⟩ | ⟨g, cap, cur, rfl, hbg, hg, hnc, hcm, hcs, htake⟩
  · by_cases hm : m = 0
    · left; rw [h4.2 ⟨rfl, hm⟩]
    · have hr2 := run_append_nil (P := P) w t ty e i z ht hi hz a m c news hl hnews (by omega) (by omega) (by have hb := hbytes; simp only [Nat.zero_add] at hb; omega)
      rw [hr] at hr2
      injection hr2 with e1 _
      subst e1
      right; rfl
  · by_cases hroom : n + m ≤ cap
    · have hfit : n * i.size + news.length ≤ cur.size := by rw [hl, hcs, ← Nat.add_mul]; exact Nat.mul_le_mul_right _ hroom
      have hr2 := run_append_room (P := P) w t ty e i ht hi g n cap cur hg a m c news hl hnews h1 hroom hfit
      rw [hr] at hr2
      injection hr2 with e1 _
      subst e1
      left; rfl
    · have holds : ∀ j u, xs[j]? = some u → w.cell? ((⟨g, 0, none⟩ : Addr).add j) = some u := hown.cells (g := g) rfl
      have hr2 := run_append_grow (P := P) w t ty e i z ht hi hz ⟨g, 0, none⟩ n cap xs hown.1 holds a m c news hl hnews (by omega) (by omega) (growslice_fits (by omega) hbytes)
      rw [hr] at hr2
      injection hr2 with e1 _
      subst e1
      right; rfl
theorem wpList_append_at {P : Program} {w : World} {ops : Array Oper} {rest : List Oper} {o : Oper} {a : Act} {Q : Exit → Act → World → Prop} (hgd : o.guard = none) (s y : Operand) (t : TypeId)
    (ho : o.op = .call { callee := .builtin .append, args := #[s, y], argTypes := #[t, t] })
    (base : Nat) (e : TypeId) (i : TypeInfo) (z : Value) (size bytes : Nat) (ht : P.underlying t = some (.slice e)) (hi : P.info? e = some i) (hz : i.zero = some z) (hsize : i.size = size) (hby : i.bytes = bytes) (hzs : z.cells.size = size) (hsz : 0 < size)
    (v : Value) (n : Nat) (xs : List Value) (hs : a.eval s = v) (hown : w.ownsRow base e size v n xs) (ad : Addr) (m c : Nat) (news : List Value) (hx : a.eval y = .slice (some ad) m c) (hl : news.length = m * size) (hnews : ∀ j u, news[j]? = some u → w.cell? (ad.add j) = some u) (h1 : ∀ u ∈ news, u.oneCell' = true)
    (h63 : n + m ≤ maxLen) (hbytes : (n + m) * bytes ≤ 140737488355328) (hbase : base ≤ w.heap.size)
    (h : ∀ v' w', w'.ownsRow base e size v' (n + m) (xs ++ news) → w.grownBy w' v.ownBlock → Lands w v v' → wpList P ops Q rest (a.put o.dst v') w') : wpList P ops Q (o :: rest) a w :=
  wpList_plain hgd fun K hK => by
    obtain ⟨v', w', hr, h2, h3, h4⟩ := run_append_at (P := P) w base t o.type e i z size bytes ht hi hz hsize hby hzs hsz v n xs hown ad m c news hl hnews h1 h63 hbytes hbase
    unfold Oper.wp execOp
    simp only [ho, resolve, invoke, builtin, Sem.run_bind, Sem.run_pure, Result.andThen_ok, List.map_toArray, List.map_cons, List.map_nil, hs, hx, hr]
    exact hK _ _ (h v' w' h2 h3 h4)
/-- A block of cells just laid, as the news of an append. -/
theorem laid_news (w : World) (t : TypeId) (xs : List Value) : ∀ j u, xs[j]? = some u → (w.alloc (.cells xs.toArray t)).cell? ((⟨w.heap.size, 0, none⟩ : Addr).add j) = some u := by
  intro j u hu
  obtain ⟨hj, rfl⟩ := List.getElem?_eq_some_iff.1 hu
  rw [add_own]
  exact (Bk.new w t xs).cell hj
theorem var_empty (s : ByteArray) : s.toList.isEmpty = decide (s = ⟨#[]⟩) := by
  by_cases h : s = ⟨#[]⟩
  · subst h; rw [ByteArray.toList_eq]; rfl
  · have : s.toList ≠ [] := fun e => h ((toList_nil_iff_emptyBytes s).1 e)
    rw [decide_eq_false h]
    rcases hs : s.toList with _ | ⟨a, l⟩
    · exact absurd hs this
    · rfl
theorem nil_toList : (ByteArray.mk #[]).toList = [] := by rw [ByteArray.toList_eq]
theorem toList_inj {a b : ByteArray} (h : a.toList = b.toList) : a = b := by
  rw [ByteArray.toList_eq, ByteArray.toList_eq] at h
  exact Go.WideShapes.bytes_inj h
theorem Tm.ext4 {x u : Tm} (h1 : x.var.toList = u.var.toList) (h2 : x.kind = u.kind) (h3 : x.int = u.int) (h4 : x.str.toList = u.str.toList) : x = u := by
  obtain ⟨a, b, c, d⟩ := x; obtain ⟨a', b', c', d'⟩ := u
  simp only at h1 h2 h3 h4
  rw [toList_inj h1, h2, h3, toList_inj h4]
theorem info_term : (Tryd.prog.info? 66).map (fun i => (i.zero, i.size, i.bytes)) = some (some (.agg #[.string ⟨#[]⟩, .int .i64 0, .int .i64 0, .string ⟨#[]⟩]), 4, 48) := by kernel_rfl
abbrev I64 (n : Int) : Value := .int .i64 n
/-- A slice of ints. -/
def Ins (F : Nat → Prop) (w : World) (v : Value) (zs : List Int) : Prop := ∃ A c, v = .slice A zs.length c ∧ zs.length ≤ c ∧ Cl F w A (zs.map I64)
theorem Ins.ext {F : Nat → Prop} {w w' : World} {v : Value} {zs : List Int} (h : Ins F w v zs) (he : Ext w w') : Ins F w' v zs := let ⟨A, c, h1, h2, h3⟩ := h; ⟨A, c, h1, h2, h3.ext he⟩
theorem Ins.fr {S F : Nat → Prop} {w w' : World} {v : Value} {zs : List Int} (h : Ins F w v zs) (hf : Fr S w w') (hs : ∀ k, F k → ¬ S k) : Ins F w' v zs := let ⟨A, c, h1, h2, h3⟩ := h; ⟨A, c, h1, h2, h3.fr hf hs⟩
theorem Ins.mono {F G : Nat → Prop} {w : World} {v : Value} {zs : List Int} (h : Ins F w v zs) (hs : ∀ k, k < w.heap.size → F k → G k) : Ins G w v zs := let ⟨A, c, h1, h2, h3⟩ := h; ⟨A, c, h1, h2, h3.mono hs⟩
theorem Ins.of_own {w : World} {base n : Nat} {e : TypeId} {v : Value} {zs : List Int} (h : w.ownsRow base e 1 v n (zs.map I64)) : Ins (fun k => v.ownBlock = some k ∧ base ≤ k) w v zs := by
  have hn : n = zs.length := by have := h.1; simp at this; omega
  subst hn
  obtain ⟨A, c, h1, h2, h3⟩ := Cl.of_own h
  exact ⟨A, c, h1, h2, h3⟩
theorem Cl.int {F : Nat → Prop} {w : World} {A : Option Addr} {zs : List Int} (h : Cl F w A (zs.map I64)) {i : Nat} (hi : i < zs.length) : ∃ ad, A = some ad ∧ F ad.block ∧ w.cell? (ad.add i) = some (.int .i64 zs[i]) :=
  h.at' (by simp [hi])
/-- An atom. -/
structure At where
  neg : Bool
  rel : ByteArray
  terms : List Tm
def acells : List At → List Value → List Value
  | a :: xs, v :: vs => .bool a.neg :: .string a.rel :: v :: acells xs vs
  | _, _ => []
theorem acells_get : ∀ {xs : List At} {vs : List Value} {i : Nat} (hi : i < xs.length) (hv : i < vs.length), (acells xs vs)[i * 3]? = some (.bool xs[i].neg) ∧ (acells xs vs)[i * 3 + 1]? = some (.string xs[i].rel) ∧ (acells xs vs)[i * 3 + 2]? = some vs[i]
  | a :: xs, v :: vs, 0, _, _ => ⟨rfl, rfl, rfl⟩
  | a :: xs, v :: vs, i + 1, hi, hv => by
    obtain ⟨h1, h2, h3⟩ := acells_get (xs := xs) (vs := vs) (i := i) (by simpa using hi) (by simpa using hv)
    rw [show (i + 1) * 3 = i * 3 + 1 + 1 + 1 by omega]
    exact ⟨h1, h2, h3⟩
/-- A slice of atoms. -/
def Ats (F : Nat → Prop) (w : World) (v : Value) (xs : List At) : Prop :=
  ∃ A c vs, v = .slice A xs.length c ∧ xs.length ≤ c ∧ vs.length = xs.length ∧ Cl F w A (acells xs vs) ∧ ∀ i (h : i < xs.length) (h' : i < vs.length), Ts F w vs[i] xs[i].terms
theorem Ats.ext {F : Nat → Prop} {w w' : World} {v : Value} {xs : List At} (h : Ats F w v xs) (he : Ext w w') : Ats F w' v xs := let ⟨A, c, vs, h1, h2, h3, h4, h5⟩ := h; ⟨A, c, vs, h1, h2, h3, h4.ext he, fun i h h' => (h5 i h h').ext he⟩
theorem Ats.fr {S F : Nat → Prop} {w w' : World} {v : Value} {xs : List At} (h : Ats F w v xs) (hf : Fr S w w') (hs : ∀ k, F k → ¬ S k) : Ats F w' v xs := let ⟨A, c, vs, h1, h2, h3, h4, h5⟩ := h; ⟨A, c, vs, h1, h2, h3, h4.fr hf hs, fun i h h' => (h5 i h h').fr hf hs⟩
/-- Atom i, as three cells, in the walk's spelling. -/
theorem Cl.atom {F : Nat → Prop} {w : World} {A : Option Addr} {xs : List At} {vs : List Value} (h : Cl F w A (acells xs vs)) {i : Nat} (hi : i < xs.length) (hv : i < vs.length) : ∃ ad, A = some ad ∧ F ad.block ∧ w.cell? (ad.add (i * 3)) = some (.bool xs[i].neg) ∧ w.cell? ⟨(ad.add (i * 3)).block, (ad.add (i * 3)).off + 1, none⟩ = some (.string xs[i].rel) ∧ w.cell? ⟨(ad.add (i * 3)).block, (ad.add (i * 3)).off + 2, none⟩ = some vs[i] := by
  obtain ⟨g0, g1, g2⟩ := acells_get hi hv
  obtain ⟨ad, h1, h2, c0⟩ := h.at' g0
  obtain ⟨ad1, e1, _, c1⟩ := h.at' g1
  obtain ⟨ad2, e2, _, c2⟩ := h.at' g2
  subst h1
  injection e1 with e1; injection e2 with e2
  subst e1 e2
  rw [show i * 3 + 1 = i * 3 + (0 + 1) by omega, add_succ'] at c1
  rw [show i * 3 + 2 = i * 3 + (1 + 1) by omega, add_succ'] at c2
  exact ⟨ad, rfl, h2, c0, c1, c2⟩
/-- An atom of the reference. -/
structure RAt where
  rel : ByteArray
  terms : List Int
deriving DecidableEq
def rcells : List RAt → List Value → List Value
  | a :: xs, v :: vs => .string a.rel :: v :: rcells xs vs
  | _, _ => []
/-- A slice of the reference's atoms. -/
def Ras (F : Nat → Prop) (w : World) (v : Value) (xs : List RAt) : Prop :=
  ∃ A c vs, v = .slice A xs.length c ∧ xs.length ≤ c ∧ vs.length = xs.length ∧ Cl F w A (rcells xs vs) ∧ ∀ i (h : i < xs.length) (h' : i < vs.length), Ins F w vs[i] xs[i].terms
theorem Ras.ext {F : Nat → Prop} {w w' : World} {v : Value} {xs : List RAt} (h : Ras F w v xs) (he : Ext w w') : Ras F w' v xs := let ⟨A, c, vs, h1, h2, h3, h4, h5⟩ := h; ⟨A, c, vs, h1, h2, h3, h4.ext he, fun i h h' => (h5 i h h').ext he⟩
theorem Ras.fr {S F : Nat → Prop} {w w' : World} {v : Value} {xs : List RAt} (h : Ras F w v xs) (hf : Fr S w w') (hs : ∀ k, F k → ¬ S k) : Ras F w' v xs := let ⟨A, c, vs, h1, h2, h3, h4, h5⟩ := h; ⟨A, c, vs, h1, h2, h3, h4.fr hf hs, fun i h h' => (h5 i h h').fr hf hs⟩
theorem own_bk {w : World} {b s n k g : Nat} {e t : TypeId} {v : Value} {xs ys : List Value} (h : w.ownsRow b e s v n xs) (hb : Bk w g t ys) (he : e ≠ t) (hk : v.ownBlock = some k) : k ≠ g := by
  rcases h.2 with ⟨rfl, _⟩ | ⟨g', cap, cur, rfl, _, hc, _⟩
  · simp [Value.ownBlock] at hk
  · simp [Value.ownBlock] at hk
    subst hk
    exact (hb.ne hc (fun e' => he e'.symm)).symm
theorem own_fr {S : Nat → Prop} {w w' : World} {b s n : Nat} {e : TypeId} {v : Value} {xs : List Value} (h : w.ownsRow b e s v n xs) (hf : Fr S w w') (hs : ∀ k, v.ownBlock = some k → ¬ S k) : w'.ownsRow b e s v n xs := by
  obtain ⟨h1, h2⟩ := h
  refine ⟨h1, ?_⟩
  rcases h2 with h2 | ⟨g, cap, cur, rfl, h3, h4, h5⟩
  · exact .inl h2
  · have hlt : g < w.heap.size := by
      rcases Nat.lt_or_ge g w.heap.size with h | h
      · exact h
      · rw [Array.getElem?_eq_none h] at h4; cases h4
    exact .inr ⟨g, cap, cur, rfl, h3, (hf.block g hlt (hs g rfl)).trans h4, h5⟩
def allT (xs : List At) : List Tm := xs.flatMap (·.terms)
theorem allT_take {xs : List At} {i : Nat} (h : i < xs.length) : allT (xs.take (i + 1)) = allT (xs.take i) ++ xs[i].terms := by
  unfold allT
  rw [List.take_succ_eq_append_getElem h, List.flatMap_append, List.flatMap_cons, List.flatMap_nil, List.append_nil]
theorem allT_le {xs : List At} (i : Nat) : (allT (xs.take i)).length ≤ (allT xs).length := by
  have h : xs = xs.take i ++ xs.drop i := (List.take_append_drop i xs).symm
  have e : allT xs = allT (xs.take i) ++ allT (xs.drop i) := by simp only [allT]; rw [← List.flatMap_append, ← h]
  rw [e]; simp
/-- The distinct terms of atoms, in order. -/
def tStep (only : Bool) (out : List Int) (x : Int) : List Int := if x ∉ out ∧ (x < 0 ∨ only = false) then out ++ [x] else out
def termsL (only : Bool) (l : List Int) : List Int := l.foldl (tStep only) []
theorem termsL_snoc (only : Bool) (l : List Int) (x : Int) : termsL only (l ++ [x]) = tStep only (termsL only l) x := by simp [termsL]
/-- After i atoms and k terms of the next. -/
structure TmI (w wr : World) (only : Bool) (l : List Int) (t : Value) (m : Nat) : Prop where
  row : wr.ownsRow w.heap.size 3 1 t m ((termsL only l).map I64)
  ext : Ext w wr
theorem TmI.same {w wr : World} {only : Bool} {l : List Int} {t : Value} {m : Nat} {x : Int} (h : TmI w wr only l t m) (hx : ¬ (x ∉ termsL only l ∧ (x < 0 ∨ only = false))) : TmI w wr only (l ++ [x]) t m := by
  have e : termsL only (l ++ [x]) = termsL only l := by rw [termsL_snoc, tStep, if_neg hx]
  exact ⟨by rw [e]; exact h.row, h.ext⟩
theorem TmI.more {w wr wb w9 : World} {only : Bool} {l : List Int} {t t' : Value} {m : Nat} {x : Int} (h : TmI w wr only l t m) (hx : x ∉ termsL only l ∧ (x < 0 ∨ only = false)) (he : Ext wr wb) (hr : w9.ownsRow w.heap.size 3 1 t' (m + 1) ((termsL only l).map I64 ++ [I64 x])) (hg : wb.grownBy w9 t.ownBlock) : TmI w w9 only (l ++ [x]) t' (m + 1) := by
  have e : termsL only (l ++ [x]) = termsL only l ++ [x] := by rw [termsL_snoc, tStep, if_pos hx]
  refine ⟨?_, (h.ext.trans he).grown hg (fun k hk => (h.row.lt k hk).1)⟩
  rw [e, List.map_append]
  exact hr
/-- Atom i, with the slice of its terms. -/
theorem Ats.at' {F : Nat → Prop} {w : World} {v : Value} {xs : List At} (h : Ats F w v xs) : ∃ A c, v = .slice A xs.length c ∧ xs.length ≤ c ∧ ∀ i (hi : i < xs.length), ∃ ad B d, A = some ad ∧ F ad.block ∧
    w.cell? (ad.add (i * 3)) = some (.bool xs[i].neg) ∧ w.cell? ⟨(ad.add (i * 3)).block, (ad.add (i * 3)).off + 1, none⟩ = some (.string xs[i].rel) ∧ w.cell? ⟨(ad.add (i * 3)).block, (ad.add (i * 3)).off + 2, none⟩ = some (.slice B xs[i].terms.length d) ∧ xs[i].terms.length ≤ d ∧ Cl F w B (tcells xs[i].terms) := by
  obtain ⟨A, c, vs, rfl, hc, hvs, hcl, hts⟩ := h
  refine ⟨A, c, rfl, hc, fun i hi => ?_⟩
  obtain ⟨ad, h1, h2, c0, c1, c2⟩ := hcl.atom (i := i) hi (by omega)
  obtain ⟨B, d, e, hd, hc2⟩ := hts i hi (by omega)
  rw [e] at c2
  exact ⟨ad, B, d, h1, h2, c0, c1, c2, hd, hc2⟩
theorem terms_le {xs : List At} {i : Nat} (hi : i < xs.length) : xs[i].terms.length ≤ (allT xs).length := by
  have h1 := allT_le (xs := xs) (i + 1)
  rw [allT_take hi, List.length_append] at h1
  omega
/-- A term that is not both a variable and a constant. -/
def Tm.Ok (t : Tm) : Prop := t.var = ⟨#[]⟩ ∨ (t.kind = 0 ∧ t.int = 0 ∧ t.str = ⟨#[]⟩)
instance (t : Tm) : Decidable t.Ok := by unfold Tm.Ok; infer_instance
def At.Good (a : At) : Prop := a.neg = false ∧ ∀ t ∈ a.terms, t.Ok
instance (a : At) : Decidable a.Good := by unfold At.Good; infer_instance
def hpureB (xs : List At) (nc : Nat) : Bool := decide ((∀ a ∈ xs, a.Good) ∧ nc = 0)
theorem var_ne {s : ByteArray} (h : ¬ s = ⟨#[]⟩) : s.toList.isEmpty = false := by rw [var_empty, decide_eq_false h]
theorem var_eq {s : ByteArray} (h : s = ⟨#[]⟩) : s.toList.isEmpty = true := by rw [var_empty, decide_eq_true h]
theorem str_nil {s : ByteArray} (h : s.toList = []) : s = ⟨#[]⟩ := toList_inj (by rw [h, nil_toList])
set_option maxRecDepth 20000 in
set_option maxHeartbeats 1600000 in
theorem hpure_any {F : Nat → Prop} {w : World} {sv : Value} {Ac : Option Addr} {nc cc : Nat} {xs : List At} (h : Ats F w sv xs) (hl : xs.length ≤ 1048576) (hal : (allT xs).length ≤ 1048576) :
    Calls Tryd.prog 61 #[.agg #[sv, .slice Ac nc cc]] w (Ret (fun x _ => x = .bool (hpureB xs nc)) w) := by
  obtain ⟨A, c, rfl, hc, hat⟩ := h.at'
  obtain ⟨n, hn⟩ : ∃ n, n = xs.length := ⟨_, rfl⟩
  rw [← hn] at hc hl ⊢
  have HN := Lib.hid hn; have HAT := Lib.hid hat; have HAL := Lib.hid hal
  clear hn hat h hal
  go_enter Tryd.func61, Tryd.ntmps61
  go_wp2_with fail
  have hx1 : Ext w (w.alloc (.cells #[.slice A n c, .slice Ac nc cc] 25)) := (Ext.refl w).alloc _
  have k1 := Bk.new w 25 [.slice A n c, .slice Ac nc cc]
  change Bk (w.alloc (.cells #[.slice A n c, .slice Ac nc cc] 25)) _ _ _ at k1
  generalize (w.alloc (.cells #[.slice A n c, .slice Ac nc cc] 25)) = w1 at *
  have HX1 := Lib.hid hx1
  clear hx1
  go_loopw [10] (fun q wr => ∃ i : Nat, i ≤ n ∧ q = .int .i64 (i : Int) ∧ (∀ j (h : j < xs.length), j < i → xs[j].Good) ∧ Ext w1 wr) (fun q _ => n - (intOf q).toNat)
  case atStart => exact ⟨0, Nat.zero_le _, rfl, fun _ _ h => absurd h (by omega), Ext.refl _⟩
  case round =>
    obtain ⟨i, hi, rfl, hgo, hext⟩ := hrel
    have HGO := Lib.hid hgo
    have HE := Lib.hid hext
    clear hgo
    obtain ⟨wo, rfl⟩ : ∃ wo : World, wo = wr := ⟨_, rfl⟩
    by_cases hlt : i < n
    · have i1 : (0 : Int) ≤ (i : Int) := by omega
      have i2 : (i : Int) < (n : Int) := by omega
      have hix : i < xs.length := by have := HN.out; omega
      obtain ⟨ad, B, d, rfl, -, c0, c1, c2, hd, htc⟩ := HAT.out i hix
      have hxr := HX1.out.trans hext
      replace c0 := hxr.cell c0
      replace c1 := hxr.cell c1
      replace c2 := hxr.cell c2
      have htn := terms_le hix
      obtain ⟨a, ha⟩ : ∃ a, a = xs[i] := ⟨_, rfl⟩
      rw [← ha] at c0 c1 c2 hd htc htn
      obtain ⟨nt, hnt⟩ : ∃ nt, nt = a.terms.length := ⟨_, rfl⟩
      rw [← hnt] at c2 hd htn
      have hnt2 : nt ≤ 1048576 := by have := HAL.out; omega
      have HXR := Lib.hid hxr; have HA := Lib.hid ha; have HNT := Lib.hid hnt; have HTC := Lib.hid htc
      clear hnt hext hxr ha htc htn
      rcases hneg : a.neg with _ | _
      · rw [hneg] at c0
        have HNEG := Lib.hid hneg
        clear hneg
        go_wp2_with fail
        have hx2 : Ext wo (wo.alloc (.cells #[.bool false, .string a.rel, .slice B nt d] 39)) := (Ext.refl wo).alloc _
        generalize (wo.alloc (.cells #[.bool false, .string a.rel, .slice B nt d] 39)) = w2 at *
        have HX2 := Lib.hid hx2
        clear hx2 c0 c1 c2
        go_loopw [19] (fun q wr => ∃ j : Nat, j ≤ nt ∧ q = .int .i64 (j : Int) ∧ (∀ k (h : k < a.terms.length), k < j → a.terms[k].Ok) ∧ Ext w2 wr) (fun q _ => nt - (intOf q).toNat)
        case atStart => exact ⟨0, Nat.zero_le _, rfl, fun _ _ h => absurd h (by omega), Ext.refl _⟩
        case round =>
          obtain ⟨j, hj, rfl, hok, hext2⟩ := hrel
          have HOK := Lib.hid hok; have HE2 := Lib.hid hext2
          clear hok
          by_cases hjt : j < nt
          · have j1 : (0 : Int) ≤ (j : Int) := by omega
            have j2 : (j : Int) < (nt : Int) := by omega
            have hjl : j < a.terms.length := by have := HNT.out; omega
            obtain ⟨ad2, rfl, -, d0, d1, d2, d3⟩ := HTC.out.term (i := j) hjl
            have hxw := (HXR.out.trans HX2.out).trans hext2
            replace d0 := hxw.cell d0
            replace d1 := hxw.cell d1
            replace d2 := hxw.cell d2
            replace d3 := hxw.cell d3
            obtain ⟨x, hx⟩ : ∃ x, x = a.terms[j] := ⟨_, rfl⟩
            rw [← hx] at d0 d1 d2 d3
            have HX := Lib.hid hx; have HXW := Lib.hid hxw
            clear hx hxw hext2
            have hnext : x.Ok → ∀ k (h : k < a.terms.length), k < j + 1 → a.terms[k].Ok := fun hxo k hk hkj => by
              rcases Nat.lt_or_ge k j with h | h
              · exact HOK.out k hk h
              · obtain rfl : k = j := by omega
                rw [← HX.out]; exact hxo
            have HNX := Lib.hid hnext
            clear hnext
            by_cases hv : x.var = ⟨#[]⟩
            · have hve := var_eq hv
              have HV := Lib.hid hv
              clear hv
              go_wp2_with fail
              go_roundw
              case rel => exact ⟨j + 1, by omega, by go_num, HNX.out (.inl HV.out), HE2.out.alloc _⟩
              case measure => simp [intOf]; omega
            · have hve := var_ne hv
              by_cases hz : x.kind = 0 ∧ x.int = 0 ∧ x.str = ⟨#[]⟩
              · have HZ := Lib.hid hz
                rw [hz.1] at d1
                rw [hz.2.1] at d2
                rw [hz.2.2] at d3
                clear hz hv
                go_wp2_with fail
                go_roundw
                case rel => exact ⟨j + 1, by omega, by go_num, HNX.out (.inr HZ.out), HE2.out.alloc _⟩
                case measure => simp [intOf]; omega
              · have HZ := Lib.hid hz; have HV := Lib.hid hv
                clear hz hv
                go_wp2_with fail
                all_goals first
                  | (exfalso; exact HZ.out ⟨by assumption, by assumption, str_nil (by assumption)⟩)
                  | (go_ret
                     rw [hpureB, decide_eq_false (fun h => by
                       have h1 := (h.1 _ (List.getElem_mem hix)).2 x (by rw [← HA.out, HX.out]; exact List.getElem_mem _)
                       rcases h1 with h1 | h1
                       · exact HV.out h1
                       · exact HZ.out h1)]
                     exact Ret.mk (HXW.out.alloc _) rfl)
          · obtain rfl : j = nt := by omega
            have hdn : ¬ (j : Int) < (j : Int) := by omega
            go_wp2_with fail
            go_roundw
            case rel =>
              refine ⟨i + 1, by omega, by go_num, fun k hk hki => ?_, (HE.out.trans HX2.out).trans HE2.out⟩
              rcases Nat.lt_or_ge k i with h | h
              · exact HGO.out k hk h
              · obtain rfl : k = i := by omega
                rw [← HA.out]
                refine ⟨HNEG.out, fun t ht => ?_⟩
                obtain ⟨m, hm, rfl⟩ := List.getElem_of_mem ht
                exact HOK.out m hm (by have := HNT.out; omega)
            case measure => simp [intOf]; omega
      · rw [hneg] at c0
        have HNEG := Lib.hid hneg
        clear hneg
        go_wp2_with fail
        go_ret
        rw [hpureB, decide_eq_false (fun h => by have := (h.1 _ (List.getElem_mem hix)).1; rw [← HA.out, HNEG.out] at this; cases this)]
        exact Ret.mk (HXR.out.alloc _) rfl
    · obtain rfl : i = n := by omega
      have hdn : ¬ (i : Int) < (i : Int) := by omega
      have e1 := (k1.ext hext).cell (i := 1) (by simp)
      simp only [List.getElem_cons_zero, List.getElem_cons_succ] at e1
      have hall : ∀ a ∈ xs, a.Good := fun a ha => by
        obtain ⟨j, hj, rfl⟩ := List.getElem_of_mem ha
        exact HGO.out j hj (by have := HN.out; omega)
      have HALL := Lib.hid hall
      clear hall
      have hb : ∀ nc, hpureB xs nc = decide (nc = 0) := fun nc => decide_eq_decide.2 ⟨fun h => h.2, fun h => ⟨HALL.out, h⟩⟩
      have HB := Lib.hid hb
      clear hb
      by_cases h0 : nc = 0
      · subst h0
        go_wp2_with fail
        go_ret
        rw [HB.out 0]
        exact Ret.mk (HX1.out.trans HE.out) rfl
      · have h0' : ((nc : Int) == 0) = false := by have : ¬ (nc : Int) = 0 := by omega
                                                   exact beq_false_of_ne this
        have H0 := Lib.hid h0
        clear h0
        go_wp2_with fail
        go_ret
        rw [HB.out nc, decide_eq_false H0.out]
        exact Ret.mk (HX1.out.trans HE.out) rfl
theorem Ats.mono {F G : Nat → Prop} {w : World} {v : Value} {xs : List At} (h : Ats F w v xs) (hs : ∀ k, k < w.heap.size → F k → G k) : Ats G w v xs :=
  let ⟨A, c, vs, h1, h2, h3, h4, h5⟩ := h; ⟨A, c, vs, h1, h2, h3, h4.mono hs, fun i h h' => (h5 i h h').mono hs⟩
/-- Bounds that every input of the second form meets. -/
structure Bd (xs : List At) : Prop where
  len : xs.length ≤ 1048576
  all : (allT xs).length ≤ 1048576
  rel : ∀ a ∈ xs, a.rel.size ≤ 1048576
  str : ∀ a ∈ xs, ∀ t ∈ a.terms, t.var.size ≤ 1048576 ∧ t.str.size ≤ 1048576
theorem law_str : Keyed Tryd.prog 9 := string_keyed Tryd.underlying9
/-- An element reads as itself. -/
abbrev Rv (v : Value) : Option (DataW Value × List MemPlace) := some (.held v, [])
/-- Block b is a map of at most n entries: f says what it holds. -/
def MapV (w : World) (b n : Nat) (f : ByteArray → Option Value) : Prop :=
  ∃ D : DataW Value, w.ownsMap Tryd.prog 9 Rv b n D ∧ Tidy D ∧ (∀ s : ByteArray, ∀ zd, D.atKey (.string s.data.toList) zd = match f s with | some v => .held v | none => zd) ∧ ∀ s : ByteArray, Maps.has D (.string s.data.toList) = (f s).isSome
theorem MapV.made (w : World) : MapV (w.alloc (.map #[] 0)) w.heap.size 0 (fun _ => none) := ⟨.map [], World.ownsMap_made w _ _ _, tidy_empty, fun _ _ => rfl, fun _ => rfl⟩
theorem MapV.lt {w : World} {b n : Nat} {f : ByteArray → Option Value} (h : MapV w b n f) : b < w.heap.size := let ⟨_, h, _⟩ := h; h.lt
theorem MapV.fr {S : Nat → Prop} {w w' : World} {b n : Nat} {f : ByteArray → Option Value} (h : MapV w b n f) (hf : Fr S w w') (hb : ¬ S b) : MapV w' b n f := by
  obtain ⟨D, ⟨es, clock, h1, h2⟩, h3⟩ := h
  have hlt : b < w.heap.size := by
    rcases Nat.lt_or_ge b w.heap.size with h | h
    · exact h
    · rw [Array.getElem?_eq_none h] at h1; cases h1
  exact ⟨D, ⟨es, clock, (hf.block b hlt hb).trans h1, h2⟩, h3⟩
theorem MapV.ext {w w' : World} {b n : Nat} {f : ByteArray → Option Value} (h : MapV w b n f) (he : Ext w w') : MapV w' b n f := h.fr (he.fr (fun _ => False)) (fun h => h)
theorem MapV.mono {w : World} {b n m : Nat} {f : ByteArray → Option Value} (h : MapV w b n f) (hm : n ≤ m) : MapV w b m f := let ⟨D, h1, h2⟩ := h; ⟨D, h1.mono hm, h2⟩
def updV (f : ByteArray → Option Value) (s : ByteArray) (v : Option Value) : ByteArray → Option Value := fun t => if t = s then v else f t
theorem key_ne {s t : ByteArray} (h : t ≠ s) : (Lit.string t.data.toList) ≠ .string s.data.toList := fun e => by injection e with e; exact h (Go.WideShapes.bytes_inj e)
theorem keyOf_str (s : ByteArray) (hs : s.size ≤ maxLen) : keyOf Tryd.prog 9 (.string s) = some (.string s.data.toList) := Go.WideMaps.keyOf_string_mk Tryd.underlying9 hs
theorem put_view {D : DataW Value} {f : ByteArray → Option Value} (ht : Tidy D) (h1 : ∀ s : ByteArray, ∀ zd, D.atKey (.string s.data.toList) zd = match f s with | some v => .held v | none => zd) (h2 : ∀ s : ByteArray, Maps.has D (.string s.data.toList) = (f s).isSome) (s : ByteArray) (v : Value) :
    Tidy (D.put (.string s.data.toList) (.held v)) ∧ (∀ t : ByteArray, ∀ zd, (D.put (.string s.data.toList) (.held v)).atKey (.string t.data.toList) zd = match updV f s (some v) t with | some v => .held v | none => zd) ∧ ∀ t : ByteArray, Maps.has (D.put (.string s.data.toList) (.held v)) (.string t.data.toList) = (updV f s (some v) t).isSome := by
  have hk : WideAt.IsKeyLit (Lit.string s.data.toList) := trivial
  refine ⟨ht.put hk _, fun t zd => ?_, fun t => ?_⟩
  · by_cases e : t = s
    · subst e; rw [atKey_put_same ht.isMap hk]; simp [updV]
    · rw [atKey_put_other (key_ne e), h1 t zd]; simp [updV, e]
  · by_cases e : t = s
    · subst e; rw [has_put_same ht.isMap hk]; simp [updV]
    · rw [has_put_other (key_ne e), h2 t]; simp [updV, e]
/-- m[k]. -/
theorem wpList_lookup_V {w : World} {ops : Array Oper} {rest : List Oper} {o : Oper} {a : Act} {Q : Exit → Act → World → Prop} (hg : o.guard = none) (m x : Operand) (t e : TypeId) (hop : o.op = Op.lookup t m x false)
    (ht : Tryd.prog.underlying t = some (.map 9 e)) (z : Value) (hz : (zeroValue e).run Tryd.prog w = .ok z w) (b n : Nat) (f : ByteArray → Option Value)
    (hm : a.eval m = .map (some b)) (hown : MapV w b n f) (s : ByteArray) (hx : a.eval x = .string s) (hs : s.size ≤ maxLen) (u : Value) (hu : (f s).getD z = u)
    (hK : wpList Tryd.prog ops Q rest (a.put o.dst u) w) : wpList Tryd.prog ops Q (o :: rest) a w := by
  refine wpList_plain hg fun K' hK' => ?_
  obtain ⟨D, hD, -, hat, -⟩ := hown
  obtain ⟨v, ps, hrun, hv⟩ := hD.lookup law_str ht hz (zd := .held z) (zp := []) rfl (keyOf_str s hs)
  have hvu : v = u := by
    have h1 := hat s (.held z)
    rw [h1] at hv
    rcases hf : f s with _ | y
    · rw [hf] at hv hu; simp at hv hu; rw [hv.1, hu]
    · rw [hf] at hv hu; simp at hv hu; rw [hv.1, hu]
  subst hvu
  unfold Oper.wp
  simp [execOp, hop, hm, hx, hrun, Result.andThen]
  exact hK' _ _ hK
/-- v, ok := m[k]. -/
theorem wpList_lookup_okV {w : World} {ops : Array Oper} {rest : List Oper} {o : Oper} {a : Act} {Q : Exit → Act → World → Prop} (hg : o.guard = none) (m x : Operand) (t e : TypeId) (hop : o.op = Op.lookup t m x true)
    (ht : Tryd.prog.underlying t = some (.map 9 e)) (z : Value) (hz : (zeroValue e).run Tryd.prog w = .ok z w) (b n : Nat) (f : ByteArray → Option Value)
    (hm : a.eval m = .map (some b)) (hown : MapV w b n f) (s : ByteArray) (hx : a.eval x = .string s) (hs : s.size ≤ maxLen) (u : Value) (hu : (f s).getD z = u) (ok : Bool) (hok : (f s).isSome = ok)
    (hK : wpList Tryd.prog ops Q rest (a.put o.dst (.tuple #[u, .bool ok])) w) : wpList Tryd.prog ops Q (o :: rest) a w := by
  refine wpList_plain hg fun K' hK' => ?_
  obtain ⟨D, hD, -, hat, hhas⟩ := hown
  obtain ⟨v, ps, hrun, hv⟩ := hD.look_ok law_str ht hz (zd := .held z) (zp := []) rfl (keyOf_str s hs)
  have hvu : v = u := by
    have h1 := hat s (.held z)
    rw [h1] at hv
    rcases hf : f s with _ | y
    · rw [hf] at hv hu; simp at hv hu; rw [hv.1, hu]
    · rw [hf] at hv hu; simp at hv hu; rw [hv.1, hu]
  subst hvu
  rw [hhas s, hok] at hrun
  unfold Oper.wp
  simp [execOp, hop, hm, hx, hrun, Result.andThen]
  exact hK' _ _ hK
/-- m[k] = v. -/
theorem wpList_update_V {w : World} {ops : Array Oper} {rest : List Oper} {o : Oper} {a : Act} {Q : Exit → Act → World → Prop} (hg : o.guard = none) (m x v : Operand) (t e : TypeId) (hop : o.op = Op.mapUpdate t m x v)
    (ht : Tryd.prog.underlying t = some (.map 9 e)) (b n : Nat) (f : ByteArray → Option Value)
    (hm : a.eval m = .map (some b)) (hown : MapV w b n f) (hn : n < maxLen) (s : ByteArray) (u : Value) (hx : a.eval x = .string s) (hs : s.size ≤ maxLen) (hv : a.eval v = u)
    (hK : ∀ w', MapV w' b (n + 1) (updV f s (some u)) → w.grownBy w' (some b) → wpList Tryd.prog ops Q rest (a.put o.dst undef) w') : wpList Tryd.prog ops Q (o :: rest) a w := by
  obtain ⟨D, hD, hti, hat, hhas⟩ := hown
  obtain ⟨p1, p2, p3⟩ := put_view hti hat hhas s u
  exact wpList_mapUpdate_own w hg m x v t hop 9 e law_str ht Rv b n D hm hD hn (.string s) u (.string s.data.toList) hx hv (keyOf_str s hs) (.held u) [] rfl (fun w' h1 h2 => hK w' ⟨_, h1, p1, p2, p3⟩ h2)
/-- An entry of a map literal. -/
theorem wpList_insert_V {w : World} {ops : Array Oper} {rest : List Oper} {o : Oper} {a : Act} {Q : Exit → Act → World → Prop} (hg : o.guard = none) (m x v : Operand) (t e : TypeId) (hop : o.op = Op.insert t m x v)
    (ht : Tryd.prog.underlying t = some (.map 9 e)) (b n : Nat) (f : ByteArray → Option Value)
    (hm : a.eval m = .map (some b)) (hown : MapV w b n f) (hn : n < maxLen) (s : ByteArray) (u : Value) (hx : a.eval x = .string s) (hs : s.size ≤ maxLen) (hv : a.eval v = u)
    (hK : ∀ w', MapV w' b (n + 1) (updV f s (some u)) → w.grownBy w' (some b) → wpList Tryd.prog ops Q rest (a.put o.dst undef) w') : wpList Tryd.prog ops Q (o :: rest) a w := by
  obtain ⟨D, hD, hti, hat, hhas⟩ := hown
  obtain ⟨p1, p2, p3⟩ := put_view hti hat hhas s u
  refine wpList_plain hg fun K' hK' => ?_
  obtain ⟨w', hrun, r1, r2⟩ := hD.update law_str ht hn (keyOf_str s hs) (val := u) (d := .held u) (ps := []) rfl
  unfold Oper.wp
  simp [execOp, hop, hm, hx, hv, hrun, Result.andThen]
  exact hK' _ _ (hK w' ⟨_, r1, p1, p2, p3⟩ r2)
theorem zero_bool (w : World) : (zeroValue 4).run Tryd.prog w = .ok (.bool false) w := by kernel_rfl
theorem zero_term (w : World) : (zeroValue 66).run Tryd.prog w = .ok (.agg #[.string ⟨#[]⟩, .int .i64 0, .int .i64 0, .string ⟨#[]⟩]) w := by kernel_rfl
theorem info_str : (Tryd.prog.info? 9).map (fun i => (i.zero, i.size, i.bytes)) = some (some (.string ⟨#[]⟩), 1, 16) := by kernel_rfl
abbrev Sv (s : ByteArray) : Value := .string s
instance memBA (s : ByteArray) : (vs : List ByteArray) → Decidable (s ∈ vs)
  | [] => isFalse (by simp)
  | v :: vs => if h : s = v then isTrue (by simp [h]) else match memBA s vs with
    | isTrue h' => isTrue (List.mem_cons_of_mem _ h')
    | isFalse h' => isFalse (fun e => by rcases List.mem_cons.1 e with e | e; exact h e; exact h' e)
/-- Names, each once, the empty one never. -/
def addV (vs : List ByteArray) (s : ByteArray) : List ByteArray := if s = ⟨#[]⟩ ∨ s ∈ vs then vs else vs ++ [s]
def seenF (vs : List ByteArray) : ByteArray → Option Value := fun s => if s = ⟨#[]⟩ ∨ s ∈ vs then some (.bool true) else none
/-- The two variables that the closure has captured, the map and the row. -/
structure VarB (w : World) (base b gs gv n : Nat) (vv : Value) (vs : List ByteArray) : Prop where
  map : MapV w b n (seenF vs)
  seen : Bk w gs 68 [.map (some b)]
  vars : Bk w gv 26 [vv]
  row : w.ownsRow base 9 1 vv vs.length (vs.map Sv)
theorem VarB.ext {w w' : World} {base b gs gv n : Nat} {vv : Value} {vs : List ByteArray} (h : VarB w base b gs gv n vv vs) (he : Ext w w') : VarB w' base b gs gv n vv vs :=
  ⟨h.map.ext he, h.seen.ext he, h.vars.ext he, own_fr h.row (he.fr (fun _ => False)) (fun _ _ h => h)⟩
set_option maxRecDepth 20000 in
set_option maxHeartbeats 800000 in
theorem add_old {w : World} {base b gs gv n : Nat} {vv : Value} {vs : List ByteArray} {s : ByteArray} (h : VarB w base b gs gv n vv vs) (hs : s.size ≤ maxLen) (ho : Hid (s = ⟨#[]⟩ ∨ s ∈ vs)) :
    Calls Tryd.prog 57 #[.string s, .pointer (some ⟨gs, 0, none⟩), .pointer (some ⟨gv, 0, none⟩)] w (fun e w' => e = .returned (.tuple #[]) ∧ w = w') := by
  have d0 := h.seen.cell (i := 0) (by simp)
  simp only [List.getElem_cons_zero] at d0
  have HM := Lib.hid h.map
  clear h
  go_enter Tryd.func57, Tryd.ntmps57
  go_wp2_with (first | (at_lookup; refine wpList_lookup_V rfl _ _ 68 4 rfl Tryd.underlying68 (.bool false) (zero_bool _) b n (seenF vs) rfl HM.out s rfl hs (.bool true) (by rw [seenF, if_pos ho.out]; rfl) ?_))
  exact bodyPost_end (results_none rfl _ _ _) rfl ⟨rfl, rfl⟩
theorem MapV.ne {w : World} {b n g : Nat} {f : ByteArray → Option Value} {t : TypeId} {xs : List Value} (h : MapV w b n f) (hb : Bk w g t xs) : g ≠ b := by
  obtain ⟨D, ⟨es, clock, h1, _⟩, _⟩ := h
  rintro rfl
  have := hb.symm.trans h1
  injection this with this; cases this
theorem MapV.ne_own {w : World} {b n base size m k : Nat} {f : ByteArray → Option Value} {e : TypeId} {v : Value} {xs : List Value} (h : MapV w b n f) (hr : w.ownsRow base e size v m xs) (hk : v.ownBlock = some k) : k ≠ b := by
  obtain ⟨D, ⟨es, clock, h1, _⟩, _⟩ := h
  rcases hr.2 with ⟨rfl, _⟩ | ⟨g, cap, cur, rfl, _, hc, _⟩
  · simp [Value.ownBlock] at hk
  · simp [Value.ownBlock] at hk
    subst hk
    rintro rfl
    have := hc.symm.trans h1
    injection this with this; cases this
theorem seenF_add {vs : List ByteArray} {s : ByteArray} (h : ¬ (s = ⟨#[]⟩ ∨ s ∈ vs)) : updV (seenF vs) s (some (.bool true)) = seenF (vs ++ [s]) := by
  funext t
  unfold updV seenF
  by_cases e : t = s
  · subst e; rw [if_pos rfl, if_pos (.inr (by simp))]
  · rw [if_neg e]
    by_cases h2 : t = ⟨#[]⟩ ∨ t ∈ vs
    · rw [if_pos h2, if_pos (h2.imp id (fun h => by simp [h]))]
    · rw [if_neg h2, if_neg (fun h3 => h2 (h3.imp id (fun h4 => by simp [e] at h4; exact h4)))]
/-- What add leaves. -/
def AddPost (base b gs gv n : Nat) (vv : Value) (vs : List ByteArray) (s : ByteArray) (w : World) (e : Ending) (w' : World) : Prop :=
  ∃ vv', e = .returned (.tuple #[]) ∧ VarB w' base b gs gv (n + 1) vv' (addV vs s) ∧ Fr (fun k => k = b ∨ k = gv ∨ vv.ownBlock = some k) w w' ∧ (vv'.ownBlock = vv.ownBlock ∨ ∀ k, vv'.ownBlock = some k → w.heap.size ≤ k)
set_option maxRecDepth 20000 in
set_option maxHeartbeats 800000 in
theorem add_new {w : World} {base b gs gv n : Nat} {vv : Value} {vs : List ByteArray} {s : ByteArray} (h : VarB w base b gs gv n vv vs) (hbase : base ≤ w.heap.size) (hn : n ≤ 2097152) (hl : vs.length ≤ 1048576) (hs : s.size ≤ maxLen) (ho : Hid (¬ (s = ⟨#[]⟩ ∨ s ∈ vs))) :
    Calls Tryd.prog 57 #[.string s, .pointer (some ⟨gs, 0, none⟩), .pointer (some ⟨gv, 0, none⟩)] w (AddPost base b gs gv n vv vs s w) := by
  obtain ⟨A, c, rfl⟩ := own_slice h.row
  have d0 := h.seen.cell (i := 0) (by simp)
  simp only [List.getElem_cons_zero] at d0
  have HH := Lib.hid h
  obtain ⟨m, hm⟩ : ∃ m, m = vs.length := ⟨_, rfl⟩
  have HMM := Lib.hid hm
  clear h hm
  obtain ⟨i0, hi0, hz0, hz1, hz2⟩ := info_parts info_str
  have HI0 := Lib.hid (And.intro hi0 (And.intro hz0 (And.intro hz1 hz2))); clear hi0 hz0 hz1 hz2
  go_enter Tryd.func57, Tryd.ntmps57
  go_wp2_with (first
    | (at_lookup; refine wpList_lookup_V rfl _ _ 68 4 rfl Tryd.underlying68 (.bool false) (zero_bool _) b n (seenF vs) rfl HH.out.map s rfl hs (.bool false) (by rw [seenF, if_neg ho.out]; rfl) ?_)
    | (at_mapUpdate; refine wpList_update_V rfl _ _ _ 68 4 rfl Tryd.underlying68 b n (seenF vs) rfl HH.out.map (by simp only [maxLen]; omega) s (.bool true) rfl hs rfl ?_; intro w1 hm1 hg1; have hv1 : Bk w1 gv 26 [.slice A vs.length c] := Bk.fr HH.out.vars (grown_fr hg1) (fun e => by injection e with e; exact HH.out.map.ne HH.out.vars e.symm); have a0 := hv1.cell (i := 0) (by simp); simp only [List.getElem_cons_zero] at a0; have HR1 := Lib.hid (own_fr HH.out.row (grown_fr hg1) (fun k hk e => by injection e with e; exact HH.out.map.ne_own HH.out.row hk e.symm)); have HM1 := Lib.hid hm1; have HG1 := Lib.hid hg1; have HV1 := Lib.hid hv1; have hsz1 : base ≤ w1.heap.size := Nat.le_trans hbase hg1.size; clear hm1 hg1 hv1)
    | (at_builtin; refine wpList_append_at rfl _ _ 26 rfl base 9 i0 (.string ⟨#[]⟩) 1 16 Tryd.underlying26 HI0.out.1 HI0.out.2.1 HI0.out.2.2.1 HI0.out.2.2.2 rfl (by omega) _ vs.length (vs.map Sv) rfl (HR1.out.alloc _) ⟨w1.heap.size, 0, none⟩ 1 1 [.string s] rfl rfl (laid_news w1 _ _) (by simp [Value.oneCell']) (by simp only [maxLen]; omega) (by omega) (by simp; omega) ?_; intro v9 w9 hr9 hg9 hl9; obtain ⟨A9, c9, rfl⟩ := own_slice hr9; have hv9 : Bk w9 gv 26 [.slice A vs.length c] := Bk.fr (HV1.out.alloc _) (grown_fr hg9) (fun e => own_bk HR1.out HV1.out (by decide) e rfl); have b0 := hv9.cell (i := 0) (by simp); have f0 := hv9.free 0; simp only [List.getElem_cons_zero] at b0; have HR9 := Lib.hid hr9; have HG9 := Lib.hid hg9; have HL9 := Lib.hid hl9; have HV9 := Lib.hid hv9; clear hr9 hg9 hl9 hv9))
  refine bodyPost_end (results_none rfl _ _ _) rfl ⟨.slice A9 (vs.length + 1) c9, rfl, ?_, ?_, ?_⟩
  · have hgb : gv ≠ b := HH.out.map.ne HH.out.vars
    have hsb : gs ≠ b := HH.out.map.ne HH.out.seen
    have hgs : gs ≠ gv := HH.out.seen.ne (o := [Value.slice A vs.length c].toArray) HH.out.vars (by decide)
    have hob : ∀ k, (Value.slice A vs.length c).ownBlock = some k → k ≠ b ∧ k ≠ gs := fun k hk => ⟨HH.out.map.ne_own HH.out.row hk, own_bk HH.out.row HH.out.seen (by decide) hk⟩
    have hset : Fr (fun k => k = gv) w9 (w9.setCell ⟨gv, 0, none⟩ (.slice A9 (vs.length + 1) c9)) := Fr.setCell (S := fun k => k = gv) (Fr.refl _ w9) (p := ⟨gv, 0, none⟩) (.inl rfl) _
    have e : addV vs s = vs ++ [s] := by rw [addV, if_neg ho.out]
    rw [e]
    refine ⟨?_, ?_, ?_, ?_⟩
    · rw [← seenF_add ho.out]
      exact ((((HM1.out).ext ((Ext.refl w1).alloc _)).fr (grown_fr HG9.out) (fun e => (hob b e).1 rfl))).fr hset (fun e => hgb e.symm)
    · exact ((((HH.out.seen.fr (grown_fr HG1.out) (fun e => by injection e with e; exact hsb e.symm)).alloc _).fr (grown_fr HG9.out) (fun e => (hob gs e).2 rfl))).fr hset hgs
    · exact HV9.out.set 0 _
    · rw [List.length_append, List.map_append]
      exact own_fr HR9.out hset (fun k hk e => by subst e; exact own_bk HR9.out HV9.out (by decide) hk rfl)
  · exact Fr.setCell (Fr.comp (((grown_fr HG1.out).mono (T := fun k => k = b ∨ k = gv ∨ (Value.slice A vs.length c).ownBlock = some k) (fun k _ e => .inl (by injection e with e; exact e.symm))).ext ((Ext.refl w1).alloc _)) (grown_fr HG9.out) (fun k hk => .inl (.inr (.inr hk)))) (.inl (.inr (.inl rfl))) _
  · rcases HL9.out with h | h
    · exact .inl h
    · right; intro k hk; rw [h] at hk; injection hk with hk; subst hk; have := HG1.out.size; simp; omega
theorem add_any {w : World} {base b gs gv n : Nat} {vv : Value} {vs : List ByteArray} {s : ByteArray} (h : VarB w base b gs gv n vv vs) (hbase : base ≤ w.heap.size) (hn : n ≤ 2097152) (hl : vs.length ≤ 1048576) (hs : s.size ≤ maxLen) :
    Calls Tryd.prog 57 #[.string s, .pointer (some ⟨gs, 0, none⟩), .pointer (some ⟨gv, 0, none⟩)] w (AddPost base b gs gv n vv vs s w) := by
  by_cases ho : s = ⟨#[]⟩ ∨ s ∈ vs
  · refine (add_old h hs (Lib.hid ho)).mono ?_
    rintro e w' ⟨rfl, rfl⟩
    exact ⟨vv, rfl, by rw [addV, if_pos ho]; exact ⟨h.map.mono (by omega), h.seen, h.vars, h.row⟩, Fr.refl _ _, .inl rfl⟩
  · exact add_new h hbase hn hl hs (Lib.hid ho)
def varsT (l : List Tm) : List ByteArray := l.foldl (fun vs t => addV vs t.var) []
theorem varsT_snoc (l : List Tm) (t : Tm) : varsT (l ++ [t]) = addV (varsT l) t.var := by simp [varsT]
theorem addV_length (vs : List ByteArray) (s : ByteArray) : (addV vs s).length ≤ vs.length + 1 := by unfold addV; split <;> simp
theorem foldV_length : ∀ (l : List Tm) (vs : List ByteArray), (l.foldl (fun vs t => addV vs t.var) vs).length ≤ vs.length + l.length
  | [], _ => by simp
  | t :: l, vs => by have := foldV_length l (addV vs t.var); have := addV_length vs t.var; simp at *; omega
theorem varsT_length (l : List Tm) : (varsT l).length ≤ l.length := by have := foldV_length l []; simpa [varsT] using this
/-- After the terms l. -/
structure VaI (w wr : World) (b gs gv n : Nat) (vv : Value) (l : List Tm) (bx : List Value) : Prop where
  vb : VarB wr w.heap.size b gs gv n vv (varsT l)
  ext : Ext w wr
  box : Bk wr w.heap.size 25 bx
  cnt : n ≤ 1 + l.length
theorem VaI.fore {w wr w' : World} {b gs gv n : Nat} {vv : Value} {l : List Tm} {bx : List Value} (h : VaI w wr b gs gv n vv l bx) (he : Ext wr w') : VaI w w' b gs gv n vv l bx := ⟨h.vb.ext he, h.ext.trans he, h.box.ext he, h.cnt⟩
theorem VaI.step {w wr w1 w2 : World} {b gs gv n : Nat} {vv : Value} {l : List Tm} {bx : List Value} {t : Tm} {e : Ending} (h : VaI w wr b gs gv n vv l bx) (hb : w.heap.size ≤ b) (hg : w.heap.size < gv) (he : Ext wr w1) (hp : AddPost w.heap.size b gs gv n vv (varsT l) t.var w1 e w2) :
    ∃ vv', VaI w w2 b gs gv (n + 1) vv' (l ++ [t]) bx := by
  obtain ⟨vv', -, h1, h2, h3⟩ := hp
  have hr := (h.fore he).vb.row
  refine ⟨vv', ?_, ?_, ?_, by have := h.cnt; simp; omega⟩
  · rw [varsT_snoc]; exact h1
  · exact Fr.new (h.ext.trans he) h2 (fun k hk => by
      rcases hk with hk | hk | hk
      · omega
      · omega
      · exact (hr.lt k hk).1)
  · refine (h.box.ext he).fr h2 (fun hk => ?_)
    rcases hk with hk | hk | hk
    · exact (h.fore he).vb.map.ne (h.box.ext he) hk
    · omega
    · exact own_bk hr (h.box.ext he) (by decide) hk rfl
set_option maxRecDepth 20000 in
set_option maxHeartbeats 1600000 in
theorem vars_any {F : Nat → Prop} {w : World} {sv : Value} {Ac : Option Addr} {cc : Nat} {xs : List At} (h : Ats F w sv xs) (hbd : Bd xs) :
    Calls Tryd.prog 46 #[.agg #[sv, .slice Ac 0 cc]] w (Ret (fun x w' => w'.ownsRow w.heap.size 9 1 x (varsT (allT xs)).length ((varsT (allT xs)).map Sv)) w) := by
  obtain ⟨A, c, rfl, hc, hat⟩ := h.at'
  obtain ⟨n, hn⟩ : ∃ n, n = xs.length := ⟨_, rfl⟩
  rw [← hn] at hc ⊢
  have hl : n ≤ 1048576 := by rw [hn]; exact hbd.len
  have HN := Lib.hid hn; have HAT := Lib.hid hat; have HBD := Lib.hid hbd
  clear hn hat h hbd
  have hmm := @run_makeMap Tryd.prog
  have HM0 := Lib.hid (MapV.made ((w.alloc (.cells #[.slice A n c, .slice Ac 0 cc] 25)).alloc (.cells #[.slice none 0 0] 26)))
  have hsz0 : ((w.alloc (.cells #[.slice A n c, .slice Ac 0 cc] 25)).alloc (.cells #[.slice none 0 0] 26)).heap.size = w.heap.size + 1 + 1 := by simp
  rw [hsz0] at HM0
  have hB0 : Bk (((w.alloc (.cells #[.slice A n c, .slice Ac 0 cc] 25)).alloc (.cells #[.slice none 0 0] 26)).alloc (.map #[] 0)) w.heap.size 25 [.slice A n c, .slice Ac 0 cc] ∧ Bk (((w.alloc (.cells #[.slice A n c, .slice Ac 0 cc] 25)).alloc (.cells #[.slice none 0 0] 26)).alloc (.map #[] 0)) (w.heap.size + 1) 26 [.slice none 0 0] ∧ Ext w (((w.alloc (.cells #[.slice A n c, .slice Ac 0 cc] 25)).alloc (.cells #[.slice none 0 0] 26)).alloc (.map #[] 0)) := by
    refine ⟨((Bk.new w _ [.slice A n c, .slice Ac 0 cc]).alloc _).alloc _, ?_, (((Ext.refl w).alloc _).alloc _).alloc _⟩
    have h := Bk.new (w.alloc (.cells #[.slice A n c, .slice Ac 0 cc] 25)) 26 [.slice none 0 0]
    rw [show (w.alloc (.cells #[.slice A n c, .slice Ac 0 cc] 25)).heap.size = w.heap.size + 1 by simp] at h
    exact h.alloc _
  have HB0 := Lib.hid hB0
  clear hsz0 hB0
  go_enter Tryd.func46, Tryd.ntmps46
  go_wp2_with (first
    | (refine wpList_insert_V rfl _ _ _ 68 4 rfl Tryd.underlying68 (w.heap.size + 1 + 1) 0 (fun _ => none) rfl HM0.out (by simp [maxLen]) ⟨#[]⟩ (.bool true) rfl (by decide) rfl ?_; intro w1 hm1 hg1; have kx : Bk w1 w.heap.size 25 [.slice A n c, .slice Ac 0 cc] := Bk.fr HB0.out.1 (grown_fr hg1) (fun e => by injection e with e; omega); have kv : Bk w1 (w.heap.size + 1) 26 [.slice none 0 0] := Bk.fr HB0.out.2.1 (grown_fr hg1) (fun e => by injection e with e; omega); have a0 := kx.cell (i := 0) (by simp); simp only [List.getElem_cons_zero] at a0; have hlt0 := kx.lt; have HM1 := Lib.hid hm1; have HKX := Lib.hid kx; have HKV := Lib.hid kv; have HE1 := Lib.hid (HB0.out.2.2.grown hg1 (fun k e => by injection e with e; omega)); clear hm1 hg1 kx kv))
  have hst : VaI w (w1.alloc (.cells #[.map (some (w.heap.size + 1 + 1))] 68)) (w.heap.size + 1 + 1) w1.heap.size (w.heap.size + 1) 1 (.slice none 0 0) [] [.slice A n c, .slice Ac 0 cc] := by
    refine ⟨⟨?_, Bk.new w1 _ [.map (some (w.heap.size + 1 + 1))], HKV.out.alloc _, World.ownsRow_nil _ _ _ _⟩, HE1.out.alloc _, HKX.out.alloc _, by simp⟩
    have e : updV (fun _ => none) ⟨#[]⟩ (some (.bool true)) = seenF (varsT []) := by
      funext t
      unfold updV seenF
      by_cases h : t = ⟨#[]⟩
      · rw [if_pos h, if_pos (.inl h)]
      · rw [if_neg h, if_neg (fun h2 => by rcases h2 with h2 | h2; exact h h2; simp [varsT] at h2)]
    rw [← e]
    exact HM1.out.ext ((Ext.refl w1).alloc _)
  have HST := Lib.hid hst
  obtain ⟨gs, hgs⟩ : ∃ gs, gs = w1.heap.size := ⟨_, rfl⟩
  rw [← hgs] at HST ⊢
  clear hst a0 hlt0 hmm
  generalize (w1.alloc (.cells #[.map (some (w.heap.size + 1 + 1))] 68)) = w2 at *
  clear hgs
  go_loopw [18] (fun q wr => ∃ (i m : Nat) (vv : Value), i ≤ n ∧ q = .int .i64 (i : Int) ∧ VaI w wr (w.heap.size + 1 + 1) gs (w.heap.size + 1) m vv (allT (xs.take i)) [.slice A n c, .slice Ac 0 cc]) (fun q _ => n - (intOf q).toNat)
  case atStart => exact ⟨0, 1, .slice none 0 0, Nat.zero_le _, rfl, HST.out⟩
  case round =>
    clear HST
    obtain ⟨i, m0, vv, hi, rfl, hI⟩ := hrel
    obtain ⟨wo, rfl⟩ : ∃ wo : World, wo = wr := ⟨_, rfl⟩
    have HI := Lib.hid hI
    by_cases hlt : i < n
    · have i1 : (0 : Int) ≤ (i : Int) := by omega
      have i2 : (i : Int) < (n : Int) := by omega
      have hix : i < xs.length := by have := HN.out; omega
      obtain ⟨ad, B, d, rfl, -, c0, c1, c2, hd, htc⟩ := HAT.out i hix
      replace c0 := hI.ext.cell c0
      replace c1 := hI.ext.cell c1
      replace c2 := hI.ext.cell c2
      have htn := terms_le hix
      obtain ⟨a, ha⟩ : ∃ a, a = xs[i] := ⟨_, rfl⟩
      rw [← ha] at c0 c1 c2 hd htc htn
      obtain ⟨nt, hnt⟩ : ∃ nt, nt = a.terms.length := ⟨_, rfl⟩
      rw [← hnt] at c2 hd htn
      have hnt2 : nt ≤ 1048576 := by have := HBD.out.all; omega
      have HA := Lib.hid ha; have HNT := Lib.hid hnt; have HTC := Lib.hid htc
      clear hnt ha htc htn hI
      go_wp2_with fail
      have hx3 : Ext wo (wo.alloc (.cells #[.bool a.neg, .string a.rel, .slice B nt d] 39)) := (Ext.refl wo).alloc _
      generalize (wo.alloc (.cells #[.bool a.neg, .string a.rel, .slice B nt d] 39)) = w3 at *
      have HX3 := Lib.hid hx3
      clear hx3 c0 c1 c2
      go_loopw [25] (fun q wr => ∃ (j m : Nat) (vv : Value), j ≤ nt ∧ q = .int .i64 (j : Int) ∧ VaI w wr (w.heap.size + 1 + 1) gs (w.heap.size + 1) m vv (allT (xs.take i) ++ a.terms.take j) [.slice (some ad) n c, .slice Ac 0 cc]) (fun q _ => nt - (intOf q).toNat)
      case atStart => exact ⟨0, m0, vv, Nat.zero_le _, rfl, by simpa using HI.out.fore HX3.out⟩
      case round =>
        obtain ⟨j, m, vj, hj, rfl, hJ⟩ := hrel
        have HJ := Lib.hid hJ
        by_cases hjt : j < nt
        · have j1 : (0 : Int) ≤ (j : Int) := by omega
          have j2 : (j : Int) < (nt : Int) := by omega
          have hjl : j < a.terms.length := by have := HNT.out; omega
          obtain ⟨ad2, rfl, -, d0, d1, d2, d3⟩ := HTC.out.term (i := j) hjl
          replace d0 := hJ.ext.cell d0
          replace d1 := hJ.ext.cell d1
          replace d2 := hJ.ext.cell d2
          replace d3 := hJ.ext.cell d3
          have hsb := HBD.out.str _ (List.getElem_mem hix) (a.terms[j]) (by rw [← HA.out]; exact List.getElem_mem _)
          obtain ⟨x, hx⟩ : ∃ x, x = a.terms[j] := ⟨_, rfl⟩
          rw [← hx] at d0 d1 d2 d3 hsb
          have HX := Lib.hid hx
          have hsv : x.var.size ≤ maxLen := by simp only [maxLen]; have := hsb.1; omega
          have hlen : (varsT (allT (xs.take i) ++ a.terms.take j)).length ≤ 1048576 ∧ m ≤ 2097152 := by
            have h0 := varsT_length (allT (xs.take i) ++ a.terms.take j)
            have h1 := allT_le (xs := xs) (i + 1)
            rw [allT_take hix, List.length_append, ← HA.out] at h1
            have h2 := HBD.out.all
            have h3 := hJ.cnt
            simp only [List.length_append, List.length_take] at h0 h3
            omega
          have HLEN := Lib.hid hlen
          have hwb : w.heap.size ≤ wr.heap.size := hJ.ext.size
          clear hx hJ hsb hlen
          go_wp2_with fail
          have hx4 : Ext wr (wr.alloc (.cells #[.string x.var, .int .i64 x.kind, .int .i64 x.int, .string x.str] 66)) := (Ext.refl wr).alloc _
          refine (add_any (HJ.out.fore hx4).vb (Nat.le_trans hwb hx4.size) HLEN.out.2 HLEN.out.1 hsv).mono ?_
          intro e w5 hpost
          obtain ⟨vv', hstep⟩ := VaI.step (t := x) HJ.out (by omega) (by omega) hx4 hpost
          obtain ⟨-, rfl, -⟩ := hpost
          have HS5 := Lib.hid hstep
          clear hstep hx4 d0 d1 d2 d3
          go_wp2_with fail
          go_roundw
          case rel =>
            refine ⟨j + 1, m + 1, vv', by omega, by go_num, ?_⟩
            rw [List.take_succ_eq_append_getElem hjl, ← HX.out, ← List.append_assoc]
            exact HS5.out
          case measure => simp [intOf]; omega
        · obtain rfl : j = nt := by omega
          have hdn : ¬ (j : Int) < (j : Int) := by omega
          clear hJ
          go_wp2_with fail
          go_roundw
          case rel =>
            refine ⟨i + 1, m, vj, by omega, by go_num, ?_⟩
            rw [allT_take hix, ← HA.out]
            have h := HJ.out
            have et : a.terms.take j = a.terms := by rw [HNT.out]; exact List.take_length
            rwa [et] at h
          case measure => simp [intOf]; omega
    · obtain rfl : i = n := by omega
      have hdn : ¬ (i : Int) < (i : Int) := by omega
      have e1 := hI.box.cell (i := 1) (by simp)
      have e2 := hI.vb.vars.cell (i := 0) (by simp)
      simp only [List.getElem_cons_zero, List.getElem_cons_succ] at e1 e2
      obtain ⟨Av, cv, rfl⟩ := own_slice hI.vb.row
      obtain ⟨mv, hmv⟩ : ∃ mv, mv = (varsT (allT (xs.take i))).length := ⟨_, rfl⟩
      rw [← hmv] at e2
      have HMV := Lib.hid hmv
      clear hI hmv
      go_wp2_with fail
      refine wp_loop_rounds 1 ?_
      rw [rounds_succ]
      go_wp2_with fail
      go_ret
      have h := HI.out
      have et : xs.take i = xs := by rw [HN.out]; exact List.take_length
      have em : mv = (varsT (allT xs)).length := by rw [HMV.out, et]
      rw [et] at h
      have hh : Ret (fun x w' => w'.ownsRow w.heap.size 9 1 x (varsT (allT xs)).length ((varsT (allT xs)).map Sv)) w (.returned (.slice Av mv cv)) wo := by
        rw [em]; exact Ret.mk h.ext h.vb.row
      exact hh
/-- An index below n where p holds, or -1. -/
def IdxOut (n : Nat) (p : Nat → Bool) (x : Value) : Prop := ∃ r : Int, x = .int .i64 r ∧ ((r = -1 ∧ ∀ i, i < n → p i = false) ∨ ∃ i : Nat, r = (i : Int) ∧ i < n ∧ p i = true)
def anyB (n : Nat) (p : Nat → Bool) : Bool := (List.range n).any p
theorem anyB_true {n i : Nat} {p : Nat → Bool} (hi : i < n) (h : p i = true) : anyB n p = true := List.any_eq_true.2 ⟨i, List.mem_range.2 hi, h⟩
theorem anyB_false {n : Nat} {p : Nat → Bool} (h : ∀ i, i < n → p i = false) : anyB n p = false := List.any_eq_false.2 (fun i hi => by rw [h i (List.mem_range.1 hi)]; simp)
set_option maxRecDepth 20000 in
set_option maxHeartbeats 800000 in
theorem index_large {F : Nat → Prop} {w : World} {v : Value} {xs : List At}  {p : Nat → Bool} (h : Ats F w v xs) (hl : xs.length ≤ 1048577)
    (hp : ∀ i (hi : i < xs.length) B d W, xs[i].terms.length ≤ d → Cl F w B (tcells xs[i].terms) → Ext w W → Calls Tryd.prog 80 #[.agg #[.bool xs[i].neg, .string xs[i].rel, .slice B xs[i].terms.length d]] W (Ret (fun x _ => x = .bool (p i)) W)) :
    Calls Tryd.prog 84 #[v, .func (.func 80) #[] #[]] w (Ret (fun x _ => IdxOut xs.length p x) w) := by
  obtain ⟨A, c, rfl, hc, hat⟩ := h.at'
  obtain ⟨n, hn⟩ : ∃ n, n = xs.length := ⟨_, rfl⟩
  rw [← hn] at hc hl ⊢
  have HN := Lib.hid hn; have HAT := Lib.hid hat; have HP := Lib.hid hp
  clear hn hat hp
  go_enter Tryd.func84, Tryd.ntmps84
  go_wp2_with fail
  go_loopw [8] (fun q wr => ∃ i : Nat, i ≤ n ∧ q = .int .i64 (i : Int) ∧ (∀ j, j < i → p j = false) ∧ Ext w wr) (fun q _ => n - (intOf q).toNat)
  case atStart => exact ⟨0, Nat.zero_le _, rfl, fun _ h => absurd h (by omega), Ext.refl _⟩
  case round =>
    obtain ⟨i, hi, rfl, hgo, hext⟩ := hrel
    have HGO := Lib.hid hgo; have HE := Lib.hid hext
    clear hgo
    by_cases hlt : i < n
    · have i1 : (0 : Int) ≤ (i : Int) := by omega
      have i2 : (i : Int) < (n : Int) := by omega
      have hix : i < xs.length := by have := HN.out; omega
      obtain ⟨ad, B, d, rfl, -, c0, c1, c2, hd, htc⟩ := HAT.out i hix
      replace c0 := hext.cell c0
      replace c1 := hext.cell c1
      replace c2 := hext.cell c2
      have HC := Lib.hid (HP.out i hix B d wr hd htc hext)
      clear htc hext hd
      generalize xs[i].neg = ng at *
      generalize xs[i].rel = rl at *
      generalize xs[i].terms.length = nt at *
      go_wp2_with fail
      refine HC.out.mono ?_
      rintro e w2 ⟨x, rfl, he2, rfl⟩
      have HE2 := Lib.hid (HE.out.trans he2)
      clear he2
      rcases hpi : p i with _ | _
      · have HPI := Lib.hid hpi
        clear hpi
        go_wp2_with fail
        go_roundw
        case rel =>
          refine ⟨i + 1, by omega, by go_num, fun j hji => ?_, HE2.out⟩
          rcases Nat.lt_or_ge j i with h | h
          · exact HGO.out j h
          · obtain rfl : j = i := by omega
            exact HPI.out
        case measure => simp [intOf]; omega
      · have HPI := Lib.hid hpi
        clear hpi
        go_wp2_with fail
        go_ret
        exact Ret.mk HE2.out ⟨_, rfl, .inr ⟨i, rfl, hlt, HPI.out⟩⟩
    · obtain rfl : i = n := by omega
      have hdn : ¬ (i : Int) < (i : Int) := by omega
      go_wp2_with fail
      go_ret
      exact Ret.mk HE.out ⟨_, rfl, .inl ⟨rfl, HGO.out⟩⟩
set_option maxRecDepth 20000 in
set_option maxHeartbeats 800000 in
theorem contains_large {F : Nat → Prop} {w : World} {v : Value} {xs : List At}  {p : Nat → Bool} (h : Ats F w v xs) (hl : xs.length ≤ 1048577)
    (hp : ∀ i (hi : i < xs.length) B d W, xs[i].terms.length ≤ d → Cl F w B (tcells xs[i].terms) → Ext w W → Calls Tryd.prog 80 #[.agg #[.bool xs[i].neg, .string xs[i].rel, .slice B xs[i].terms.length d]] W (Ret (fun x _ => x = .bool (p i)) W)) :
    Calls Tryd.prog 66 #[v, .func (.func 80) #[] #[]] w (Ret (fun x _ => x = .bool (anyB xs.length p)) w) := by
  have HI := Lib.hid (index_large (p := p) h hl hp)
  clear hp
  obtain ⟨A, c, n, hv⟩ : ∃ A c n, v = .slice A n c := by obtain ⟨A, c, vs, hv, _⟩ := h; exact ⟨A, c, _, hv⟩
  subst hv
  clear h
  go_enter Tryd.func66, Tryd.ntmps66
  go_wp2_with fail
  refine HI.out.mono ?_
  rintro e w2 ⟨x, rfl, he2, r, rfl, hr⟩
  have HE2 := Lib.hid he2
  rcases hr with ⟨rfl, hr⟩ | ⟨i, rfl, hi, hr⟩
  · have HR := Lib.hid (anyB_false hr)
    clear hr he2
    go_wp2_with fail
    go_ret
    exact Ret.mk HE2.out (by rw [HR.out]; rfl)
  · have HR := Lib.hid (anyB_true hi hr)
    have hle : decide ((0 : Int) ≤ (i : Int)) = true := decide_eq_true (by omega)
    clear hr he2
    go_wp2_with fail
    go_ret
    exact Ret.mk HE2.out (by rw [HR.out]; rfl)
set_option maxRecDepth 20000 in
set_option maxHeartbeats 800000 in
theorem index_agrees {F : Nat → Prop} {w : World} {v : Value} {xs : List At} {g1 g2 : Nat} {p : Nat → Bool} (h : Ats F w v xs) (hl : xs.length ≤ 1048577)
    (hp : ∀ i (hi : i < xs.length) B d W, xs[i].terms.length ≤ d → Cl F w B (tcells xs[i].terms) → Ext w W → Calls Tryd.prog 67 #[.agg #[.bool xs[i].neg, .string xs[i].rel, .slice B xs[i].terms.length d], .pointer (some ⟨g1, 0, none⟩), .pointer (some ⟨g2, 0, none⟩)] W (Ret (fun x _ => x = .bool (p i)) W)) :
    Calls Tryd.prog 84 #[v, .func (.func 67) #[] #[.pointer (some ⟨g1, 0, none⟩), .pointer (some ⟨g2, 0, none⟩)]] w (Ret (fun x _ => IdxOut xs.length p x) w) := by
  obtain ⟨A, c, rfl, hc, hat⟩ := h.at'
  obtain ⟨n, hn⟩ : ∃ n, n = xs.length := ⟨_, rfl⟩
  rw [← hn] at hc hl ⊢
  have HN := Lib.hid hn; have HAT := Lib.hid hat; have HP := Lib.hid hp
  clear hn hat hp
  go_enter Tryd.func84, Tryd.ntmps84
  go_wp2_with fail
  go_loopw [8] (fun q wr => ∃ i : Nat, i ≤ n ∧ q = .int .i64 (i : Int) ∧ (∀ j, j < i → p j = false) ∧ Ext w wr) (fun q _ => n - (intOf q).toNat)
  case atStart => exact ⟨0, Nat.zero_le _, rfl, fun _ h => absurd h (by omega), Ext.refl _⟩
  case round =>
    obtain ⟨i, hi, rfl, hgo, hext⟩ := hrel
    have HGO := Lib.hid hgo; have HE := Lib.hid hext
    clear hgo
    by_cases hlt : i < n
    · have i1 : (0 : Int) ≤ (i : Int) := by omega
      have i2 : (i : Int) < (n : Int) := by omega
      have hix : i < xs.length := by have := HN.out; omega
      obtain ⟨ad, B, d, rfl, -, c0, c1, c2, hd, htc⟩ := HAT.out i hix
      replace c0 := hext.cell c0
      replace c1 := hext.cell c1
      replace c2 := hext.cell c2
      have HC := Lib.hid (HP.out i hix B d wr hd htc hext)
      clear htc hext hd
      generalize xs[i].neg = ng at *
      generalize xs[i].rel = rl at *
      generalize xs[i].terms.length = nt at *
      go_wp2_with fail
      refine HC.out.mono ?_
      rintro e w2 ⟨x, rfl, he2, rfl⟩
      have HE2 := Lib.hid (HE.out.trans he2)
      clear he2
      rcases hpi : p i with _ | _
      · have HPI := Lib.hid hpi
        clear hpi
        go_wp2_with fail
        go_roundw
        case rel =>
          refine ⟨i + 1, by omega, by go_num, fun j hji => ?_, HE2.out⟩
          rcases Nat.lt_or_ge j i with h | h
          · exact HGO.out j h
          · obtain rfl : j = i := by omega
            exact HPI.out
        case measure => simp [intOf]; omega
      · have HPI := Lib.hid hpi
        clear hpi
        go_wp2_with fail
        go_ret
        exact Ret.mk HE2.out ⟨_, rfl, .inr ⟨i, rfl, hlt, HPI.out⟩⟩
    · obtain rfl : i = n := by omega
      have hdn : ¬ (i : Int) < (i : Int) := by omega
      go_wp2_with fail
      go_ret
      exact Ret.mk HE.out ⟨_, rfl, .inl ⟨rfl, HGO.out⟩⟩
set_option maxRecDepth 20000 in
set_option maxHeartbeats 800000 in
theorem contains_agrees {F : Nat → Prop} {w : World} {v : Value} {xs : List At} {g1 g2 : Nat} {p : Nat → Bool} (h : Ats F w v xs) (hl : xs.length ≤ 1048577)
    (hp : ∀ i (hi : i < xs.length) B d W, xs[i].terms.length ≤ d → Cl F w B (tcells xs[i].terms) → Ext w W → Calls Tryd.prog 67 #[.agg #[.bool xs[i].neg, .string xs[i].rel, .slice B xs[i].terms.length d], .pointer (some ⟨g1, 0, none⟩), .pointer (some ⟨g2, 0, none⟩)] W (Ret (fun x _ => x = .bool (p i)) W)) :
    Calls Tryd.prog 66 #[v, .func (.func 67) #[] #[.pointer (some ⟨g1, 0, none⟩), .pointer (some ⟨g2, 0, none⟩)]] w (Ret (fun x _ => x = .bool (anyB xs.length p)) w) := by
  have HI := Lib.hid (index_agrees (p := p) h hl hp)
  clear hp
  obtain ⟨A, c, n, hv⟩ : ∃ A c n, v = .slice A n c := by obtain ⟨A, c, vs, hv, _⟩ := h; exact ⟨A, c, _, hv⟩
  subst hv
  clear h
  go_enter Tryd.func66, Tryd.ntmps66
  go_wp2_with fail
  refine HI.out.mono ?_
  rintro e w2 ⟨x, rfl, he2, r, rfl, hr⟩
  have HE2 := Lib.hid he2
  rcases hr with ⟨rfl, hr⟩ | ⟨i, rfl, hi, hr⟩
  · have HR := Lib.hid (anyB_false hr)
    clear hr he2
    go_wp2_with fail
    go_ret
    exact Ret.mk HE2.out (by rw [HR.out]; rfl)
  · have HR := Lib.hid (anyB_true hi hr)
    have hle : decide ((0 : Int) ≤ (i : Int)) = true := decide_eq_true (by omega)
    clear hr he2
    go_wp2_with fail
    go_ret
    exact Ret.mk HE2.out (by rw [HR.out]; rfl)
set_option maxRecDepth 20000 in
set_option maxHeartbeats 800000 in
theorem index_mention {F : Nat → Prop} {w : World} {v : Value} {xs : List Tm} {g1 : Nat} {p : Nat → Bool} (h : Ts F w v xs) (hl : xs.length ≤ 1048577)
    (hp : ∀ i (hi : i < xs.length) W, Ext w W → Calls Tryd.prog 83 #[xs[i].val, .pointer (some ⟨g1, 0, none⟩)] W (Ret (fun x _ => x = .bool (p i)) W)) :
    Calls Tryd.prog 93 #[v, .func (.func 83) #[] #[.pointer (some ⟨g1, 0, none⟩)]] w (Ret (fun x _ => IdxOut xs.length p x) w) := by
  obtain ⟨A, c, rfl, hc, hat⟩ := h
  obtain ⟨n, hn⟩ : ∃ n, n = xs.length := ⟨_, rfl⟩
  rw [← hn] at hc hl ⊢
  have HN := Lib.hid hn; have HAT := Lib.hid hat; have HP := Lib.hid hp
  clear hn hat hp
  go_enter Tryd.func93, Tryd.ntmps93
  go_wp2_with fail
  go_loopw [8] (fun q wr => ∃ i : Nat, i ≤ n ∧ q = .int .i64 (i : Int) ∧ (∀ j, j < i → p j = false) ∧ Ext w wr) (fun q _ => n - (intOf q).toNat)
  case atStart => exact ⟨0, Nat.zero_le _, rfl, fun _ h => absurd h (by omega), Ext.refl _⟩
  case round =>
    obtain ⟨i, hi, rfl, hgo, hext⟩ := hrel
    have HGO := Lib.hid hgo; have HE := Lib.hid hext
    clear hgo
    by_cases hlt : i < n
    · have i1 : (0 : Int) ≤ (i : Int) := by omega
      have i2 : (i : Int) < (n : Int) := by omega
      have hix : i < xs.length := by have := HN.out; omega
      obtain ⟨ad, rfl, -, c0, c1, c2, c3⟩ := HAT.out.term (i := i) hix
      replace c0 := hext.cell c0
      replace c1 := hext.cell c1
      replace c2 := hext.cell c2
      replace c3 := hext.cell c3
      have HC := Lib.hid (HP.out i hix wr hext)
      clear hext
      generalize xs[i] = x0 at *
      go_wp2_with fail
      refine HC.out.mono ?_
      rintro e w2 ⟨x, rfl, he2, rfl⟩
      have HE2 := Lib.hid (HE.out.trans he2)
      clear he2
      rcases hpi : p i with _ | _
      · have HPI := Lib.hid hpi
        clear hpi
        go_wp2_with fail
        go_roundw
        case rel =>
          refine ⟨i + 1, by omega, by go_num, fun j hji => ?_, HE2.out⟩
          rcases Nat.lt_or_ge j i with h | h
          · exact HGO.out j h
          · obtain rfl : j = i := by omega
            exact HPI.out
        case measure => simp [intOf]; omega
      · have HPI := Lib.hid hpi
        clear hpi
        go_wp2_with fail
        go_ret
        exact Ret.mk HE2.out ⟨_, rfl, .inr ⟨i, rfl, hlt, HPI.out⟩⟩
    · obtain rfl : i = n := by omega
      have hdn : ¬ (i : Int) < (i : Int) := by omega
      go_wp2_with fail
      go_ret
      exact Ret.mk HE.out ⟨_, rfl, .inl ⟨rfl, HGO.out⟩⟩
set_option maxRecDepth 20000 in
set_option maxHeartbeats 800000 in
theorem contains_mention {F : Nat → Prop} {w : World} {v : Value} {xs : List Tm} {g1 : Nat} {p : Nat → Bool} (h : Ts F w v xs) (hl : xs.length ≤ 1048577)
    (hp : ∀ i (hi : i < xs.length) W, Ext w W → Calls Tryd.prog 83 #[xs[i].val, .pointer (some ⟨g1, 0, none⟩)] W (Ret (fun x _ => x = .bool (p i)) W)) :
    Calls Tryd.prog 82 #[v, .func (.func 83) #[] #[.pointer (some ⟨g1, 0, none⟩)]] w (Ret (fun x _ => x = .bool (anyB xs.length p)) w) := by
  have HI := Lib.hid (index_mention (p := p) h hl hp)
  clear hp
  obtain ⟨A, c, n, hv⟩ : ∃ A c n, v = .slice A n c := by obtain ⟨A, c, hv, _⟩ := h; exact ⟨A, c, _, hv⟩
  subst hv
  clear h
  go_enter Tryd.func82, Tryd.ntmps82
  go_wp2_with fail
  refine HI.out.mono ?_
  rintro e w2 ⟨x, rfl, he2, r, rfl, hr⟩
  have HE2 := Lib.hid he2
  rcases hr with ⟨rfl, hr⟩ | ⟨i, rfl, hi, hr⟩
  · have HR := Lib.hid (anyB_false hr)
    clear hr he2
    go_wp2_with fail
    go_ret
    exact Ret.mk HE2.out (by rw [HR.out]; rfl)
  · have HR := Lib.hid (anyB_true hi hr)
    have hle : decide ((0 : Int) ≤ (i : Int)) = true := decide_eq_true (by omega)
    clear hr he2
    go_wp2_with fail
    go_ret
    exact Ret.mk HE2.out (by rw [HR.out]; rfl)
set_option maxRecDepth 20000 in
theorem large1 {w : World} {ng : Bool} {rl : ByteArray} {B : Option Addr} {nt d : Nat} (hnt : nt ≤ 6) :
    Calls Tryd.prog 80 #[.agg #[.bool ng, .string rl, .slice B nt d]] w (Ret (fun x _ => x = .bool false) w) := by
  have h6 : decide ((6 : Int) < (nt : Int)) = false := decide_eq_false (by omega)
  go_enter Tryd.func80, Tryd.ntmps80
  go_wp2_with fail
  go_ret
  exact Ret.mk ((Ext.refl w).alloc _) rfl
set_option maxRecDepth 20000 in
theorem large_false {F : Nat → Prop} {w : World} {sv : Value} {Ac : Option Addr} {nc cc : Nat} {xs : List At} (h : Ats F w sv xs) (hl : xs.length ≤ 8) (ht : ∀ a ∈ xs, a.terms.length ≤ 6) :
    Calls Tryd.prog 62 #[.agg #[sv, .slice Ac nc cc]] w (Ret (fun x _ => x = .bool false) w) := by
  have HH := Lib.hid h; have HT := Lib.hid ht
  obtain ⟨A, c, n, hv, hn⟩ : ∃ A c n, sv = .slice A n c ∧ n = xs.length := by obtain ⟨A, c, vs, hv, _⟩ := h; exact ⟨A, c, _, hv, rfl⟩
  subst hv
  have h8 : decide ((8 : Int) < (n : Int)) = false := decide_eq_false (by omega)
  have HL := Lib.hid hl
  clear h ht hl hn
  go_enter Tryd.func62, Tryd.ntmps62
  go_wp2_with fail
  have hx : Ext w (w.alloc (.cells #[.slice A n c, .slice Ac nc cc] 25)) := (Ext.refl w).alloc _
  refine (contains_large (p := fun _ => false) (HH.out.ext hx) (by have := HL.out; omega) (fun i hi B d W _ _ _ => large1 (HT.out _ (List.getElem_mem hi)))).mono ?_
  rintro e w2 ⟨x, rfl, he2, rfl⟩
  rw [anyB_false (fun _ _ => rfl)]
  have HE := Lib.hid (hx.trans he2)
  clear hx he2
  go_wp2_with fail
  go_ret
  exact Ret.mk HE.out rfl
theorem Tm.ne4 {x t : Tm} (h : x ≠ t) : ¬ t.var.toList = x.var.toList ∨ (t.var.toList = x.var.toList ∧ (¬ t.kind = x.kind ∨ (t.kind = x.kind ∧ (¬ t.int = x.int ∨ (t.int = x.int ∧ ¬ t.str.toList = x.str.toList))))) := by
  by_cases h1 : t.var.toList = x.var.toList
  · by_cases h2 : t.kind = x.kind
    · by_cases h3 : t.int = x.int
      · by_cases h4 : t.str.toList = x.str.toList
        · exact absurd (Tm.ext4 h1.symm h2.symm h3.symm h4.symm) h
        · exact .inr ⟨h1, .inr ⟨h2, .inr ⟨h3, h4⟩⟩⟩
      · exact .inr ⟨h1, .inr ⟨h2, .inl h3⟩⟩
    · exact .inr ⟨h1, .inl h2⟩
  · exact .inl h1
theorem anyB_list {α : Type} (l : List α) (f : α → Bool) : anyB l.length (fun i => (l[i]?.map f).getD false) = l.any f := by
  unfold anyB
  rw [Bool.eq_iff_iff, List.any_eq_true, List.any_eq_true]
  constructor
  · rintro ⟨i, hi, h⟩
    have hi' := List.mem_range.1 hi
    rw [List.getElem?_eq_getElem hi'] at h
    exact ⟨l[i], List.getElem_mem hi', by simpa using h⟩
  · rintro ⟨x, hx, h⟩
    obtain ⟨i, hi, rfl⟩ := List.getElem_of_mem hx
    exact ⟨i, List.mem_range.2 hi, by rw [List.getElem?_eq_getElem hi]; simpa using h⟩
set_option maxRecDepth 20000 in
theorem mentions1 {w : World} {t : Tm} {g : Nat} {v : ByteArray} (hg : Bk w g 9 [.string v]) :
    Calls Tryd.prog 83 #[t.val, .pointer (some ⟨g, 0, none⟩)] w (Ret (fun x _ => x = .bool (decide (t.var = v))) w) := by
  have d0 := hg.cell (i := 0) (by simp)
  have hlt := hg.lt
  simp only [List.getElem_cons_zero] at d0
  have hd : decide (t.var = v) = decide (t.var.toList = v.toList) := decide_eq_decide.2 ⟨fun h => by rw [h], toList_inj⟩
  have HD := Lib.hid hd
  clear hg hd
  by_cases h : t.var = v
  · have HH := Lib.hid h
    have h2 : t.var.toList = v.toList := by rw [h]
    clear h
    go_enter Tryd.func83, Tryd.ntmps83
    go_wp2_with fail
    go_ret
    exact Ret.mk ((Ext.refl w).alloc _) (by rw [decide_eq_true HH.out]; rfl)
  · have HH := Lib.hid h
    have h2 : (t.var.toList == v.toList) = false := beq_false_of_ne (fun e => h (toList_inj e))
    have h3 : ¬ t.var.toList = v.toList := fun e => h (toList_inj e)
    clear h
    go_enter Tryd.func83, Tryd.ntmps83
    go_wp2_with fail
    go_ret
    exact Ret.mk ((Ext.refl w).alloc _) (by rw [decide_eq_false HH.out]; first | rfl | simp [h3])
/-- A variable occurs among terms. -/
def mentB (ts : List Tm) (v : ByteArray) : Bool := ts.any (fun t => decide (t.var = v))
set_option maxRecDepth 20000 in
set_option maxHeartbeats 800000 in
theorem mentions_any {F : Nat → Prop} {w : World} {ng : Bool} {rl v : ByteArray} {sv : Value} {ts : List Tm} (h : Ts F w sv ts) (hl : ts.length ≤ 1048576) :
    Calls Tryd.prog 65 #[.agg #[.bool ng, .string rl, sv], .string v] w (Ret (fun x _ => x = .bool (mentB ts v)) w) := by
  have HH := Lib.hid h; have HL := Lib.hid hl
  obtain ⟨A, c, n, hv⟩ : ∃ A c n, sv = .slice A n c := by obtain ⟨A, c, hv, _⟩ := h; exact ⟨A, c, _, hv⟩
  subst hv
  clear h hl
  go_enter Tryd.func65, Tryd.ntmps65
  go_wp2_with fail
  have hx : Ext w ((w.alloc (.cells #[.bool ng, .string rl, .slice A n c] 39)).alloc (.cells #[.string v] 9)) := ((Ext.refl w).alloc _).alloc _
  have kb : Bk ((w.alloc (.cells #[.bool ng, .string rl, .slice A n c] 39)).alloc (.cells #[.string v] 9)) (w.heap.size + 1) 9 [.string v] := by
    have h := Bk.new (w.alloc (.cells #[.bool ng, .string rl, .slice A n c] 39)) 9 [.string v]
    rw [show (w.alloc (.cells #[.bool ng, .string rl, .slice A n c] 39)).heap.size = w.heap.size + 1 by simp] at h
    exact h
  generalize ((w.alloc (.cells #[.bool ng, .string rl, .slice A n c] 39)).alloc (.cells #[.string v] 9)) = w1 at *
  refine (contains_mention (p := fun i => (ts[i]?.map (fun t => decide (t.var = v))).getD false) (HH.out.ext hx) (by have := HL.out; omega) (fun i hi W hE => ?_)).mono ?_
  · rw [List.getElem?_eq_getElem hi]
    exact mentions1 (kb.ext hE)
  rintro e w2 ⟨x, rfl, he2, rfl⟩
  rw [show anyB ts.length (fun i => (ts[i]?.map (fun t => decide (t.var = v))).getD false) = mentB ts v from anyB_list ts _]
  have HE := Lib.hid (hx.trans he2)
  clear hx he2 kb
  go_wp2_with fail
  go_ret
  exact Ret.mk HE.out rfl
set_option maxRecDepth 20000 in
set_option maxHeartbeats 800000 in
theorem index_term {F : Nat → Prop} {w : World} {v : Value} {ts : List Tm} {t : Tm} (h : Ts F w v ts) (hl : ts.length ≤ 1048577) :
    Calls Tryd.prog 92 #[v, t.val] w (Ret (fun x _ => IdxOut ts.length (fun i => (ts[i]?.map (fun u => decide (u = t))).getD false) x) w) := by
  obtain ⟨A, c, rfl, hc, hcl⟩ := h
  obtain ⟨n, hn⟩ : ∃ n, n = ts.length := ⟨_, rfl⟩
  rw [← hn] at hc hl ⊢
  have HN := Lib.hid hn; have HCL := Lib.hid hcl
  clear hn hcl
  go_enter Tryd.func92, Tryd.ntmps92
  go_wp2_with fail
  have hx1 : Ext w (w.alloc (.cells #[.string t.var, .int .i64 t.kind, .int .i64 t.int, .string t.str] 66)) := (Ext.refl w).alloc _
  have k1 := Bk.new w 66 [.string t.var, .int .i64 t.kind, .int .i64 t.int, .string t.str]
  change Bk (w.alloc (.cells #[.string t.var, .int .i64 t.kind, .int .i64 t.int, .string t.str] 66)) _ _ _ at k1
  generalize (w.alloc (.cells #[.string t.var, .int .i64 t.kind, .int .i64 t.int, .string t.str] 66)) = w1 at *
  have e0 := k1.cell (i := 0) (by simp)
  have e1 := k1.cell (i := 1) (by simp)
  have e2 := k1.cell (i := 2) (by simp)
  have e3 := k1.cell (i := 3) (by simp)
  simp only [List.getElem_cons_zero, List.getElem_cons_succ] at e0 e1 e2 e3
  have HE0 := Lib.hid (And.intro e0 (And.intro e1 (And.intro e2 e3)))
  have HX1 := Lib.hid hx1
  clear hx1 k1 e0 e1 e2 e3
  go_loopw [8] (fun q wr => ∃ i : Nat, i ≤ n ∧ q = .int .i64 (i : Int) ∧ (∀ j (h : j < ts.length), j < i → ts[j] ≠ t) ∧ Ext w1 wr) (fun q _ => n - (intOf q).toNat)
  case atStart => exact ⟨0, Nat.zero_le _, rfl, fun _ _ h => absurd h (by omega), Ext.refl _⟩
  case round =>
    obtain ⟨i, hi, rfl, hne, hE1⟩ := hrel
    have HNE := Lib.hid hne
    clear hne
    obtain ⟨e0, e1, e2, e3⟩ := HE0.out
    replace e0 := hE1.cell e0
    replace e1 := hE1.cell e1
    replace e2 := hE1.cell e2
    replace e3 := hE1.cell e3
    have HXD := Lib.hid (HX1.out.trans hE1); have HED := Lib.hid hE1
    clear hE1
    by_cases hlt : i < n
    · have hit : i < ts.length := by have := HN.out; omega
      obtain ⟨ad, rfl, -, c0, c1, c2, c3⟩ := HCL.out.term (i := i) hit
      replace c0 := HXD.out.cell c0
      replace c1 := HXD.out.cell c1
      replace c2 := HXD.out.cell c2
      replace c3 := HXD.out.cell c3
      obtain ⟨x, hx⟩ : ∃ x, x = ts[i] := ⟨_, rfl⟩
      rw [← hx] at c0 c1 c2 c3
      have HX := Lib.hid hx
      clear hx
      have i1 : (0 : Int) ≤ (i : Int) := by omega
      have i2 : (i : Int) < (n : Int) := by omega
      by_cases hxu : x = t
      · subst hxu
        go_wp2_with fail
        go_quiet (fail)
        go_wp2_with fail
        go_ret
        refine Ret.mk (HXD.out.drewN _) ⟨_, rfl, .inr ⟨i, rfl, hlt, ?_⟩⟩
        show (Option.map (fun u => decide (u = x)) ts[i]?).getD false = true
        rw [List.getElem?_eq_getElem hit, ← HX.out]
        simp
      · have HXU := Lib.hid hxu
        rcases Tm.ne4 hxu with h1 | ⟨h1, h2 | ⟨h2, h3 | ⟨h3, h4⟩⟩⟩
        all_goals
          clear hxu
          go_wp2_with fail
          go_quiet (fail)
          go_wp2_with fail
          go_roundw
          case rel =>
            refine ⟨i + 1, by omega, by go_num, fun j hj hji => ?_, HED.out.drewN _⟩
            rcases Nat.lt_or_ge j i with h | h
            · exact HNE.out j hj h
            · obtain rfl : j = i := by omega
              rw [← HX.out]; exact HXU.out
          case measure => simp [intOf]; omega
    · obtain rfl : i = n := by omega
      have hdn : ¬ (i : Int) < (i : Int) := by omega
      go_wp2_with fail
      go_ret
      refine Ret.mk HXD.out ⟨_, rfl, .inl ⟨rfl, fun j hj => ?_⟩⟩
      have hjt : j < ts.length := by have := HN.out; omega
      show (Option.map (fun u => decide (u = t)) ts[j]?).getD false = false
      rw [List.getElem?_eq_getElem hjt]
      simp [HNE.out j hjt hj]
set_option maxRecDepth 20000 in
set_option maxHeartbeats 800000 in
theorem contains_term {F : Nat → Prop} {w : World} {v : Value} {ts : List Tm} {t : Tm} (h : Ts F w v ts) (hl : ts.length ≤ 1048577) :
    Calls Tryd.prog 81 #[v, t.val] w (Ret (fun x _ => x = .bool (decide (t ∈ ts))) w) := by
  have HH := Lib.hid h; have HL := Lib.hid hl
  obtain ⟨A, c, n, hv⟩ : ∃ A c n, v = .slice A n c := by obtain ⟨A, c, hv, _⟩ := h; exact ⟨A, c, _, hv⟩
  subst hv
  clear h hl
  go_enter Tryd.func81, Tryd.ntmps81
  go_wp2_with fail
  have hx : Ext w (w.alloc (.cells #[.string t.var, .int .i64 t.kind, .int .i64 t.int, .string t.str] 66)) := (Ext.refl w).alloc _
  refine (index_term (HH.out.ext hx) HL.out).mono ?_
  rintro e w2 ⟨x, rfl, he2, r, rfl, hr⟩
  have HE2 := Lib.hid (hx.trans he2)
  clear hx he2
  rcases hr with ⟨rfl, hr⟩ | ⟨i, rfl, hi, hr⟩
  · have HR : Hid (decide (t ∈ ts) = false) := Lib.hid (decide_eq_false (fun hm => by
      obtain ⟨j, hj, e⟩ := List.getElem_of_mem hm
      have := hr j hj
      simp [List.getElem?_eq_getElem hj, e] at this))
    clear hr
    go_wp2_with fail
    go_ret
    exact Ret.mk HE2.out (by rw [HR.out]; rfl)
  · have HR : Hid (decide (t ∈ ts) = true) := Lib.hid (decide_eq_true (by
      simp [List.getElem?_eq_getElem hi] at hr
      rw [← hr]; exact List.getElem_mem hi))
    have hle : decide ((0 : Int) ≤ (i : Int)) = true := decide_eq_true (by omega)
    clear hr
    go_wp2_with fail
    go_ret
    exact Ret.mk HE2.out (by rw [HR.out]; rfl)
/-- The distinct terms, in order. -/
def addD (ts : List Tm) (t : Tm) : List Tm := if t ∈ ts then ts else ts ++ [t]
def distT (l : List Tm) : List Tm := l.foldl addD []
theorem distT_snoc (l : List Tm) (t : Tm) : distT (l ++ [t]) = addD (distT l) t := by simp [distT]
theorem addD_length (ts : List Tm) (t : Tm) : (addD ts t).length ≤ ts.length + 1 := by unfold addD; split <;> simp
theorem foldD_length : ∀ (l ts : List Tm), (l.foldl addD ts).length ≤ ts.length + l.length
  | [], _ => by simp
  | t :: l, ts => by have := foldD_length l (addD ts t); have := addD_length ts t; simp at *; omega
theorem distT_length (l : List Tm) : (distT l).length ≤ l.length := by have := foldD_length l []; simpa [distT] using this
/-- After the terms l. -/
structure DiI (w wr : World) (l : List Tm) (t : Value) (m : Nat) : Prop where
  row : wr.ownsRow w.heap.size 66 4 t m (tcells (distT l))
  ext : Ext w wr
theorem DiI.len {w wr : World} {l : List Tm} {t : Value} {m : Nat} (h : DiI w wr l t m) : m = (distT l).length := by have := h.row.1; rw [tcells_length] at this; omega
theorem DiI.ts {w wr : World} {l : List Tm} {t : Value} {m : Nat} (h : DiI w wr l t m) : Ts (fun k => t.ownBlock = some k ∧ w.heap.size ≤ k) wr t (distT l) := by
  obtain ⟨A, c, h1, h2, h3⟩ := Cl.of_own h.row
  have e := h.len
  subst e
  exact ⟨A, c, h1, h2, h3⟩
theorem DiI.fore {w wr w' : World} {l : List Tm} {t : Value} {m : Nat} (h : DiI w wr l t m) (he : Ext wr w') : DiI w w' l t m := ⟨own_fr h.row (he.fr (fun _ => False)) (fun _ _ h => h), h.ext.trans he⟩
theorem DiI.same {w wr : World} {l : List Tm} {t : Value} {m : Nat} {x : Tm} (h : DiI w wr l t m) (hx : x ∈ distT l) : DiI w wr (l ++ [x]) t m := by
  have e : distT (l ++ [x]) = distT l := by rw [distT_snoc, addD, if_pos hx]
  exact ⟨by rw [e]; exact h.row, h.ext⟩
theorem DiI.more {w wr wb w9 : World} {l : List Tm} {t t' : Value} {m : Nat} {x : Tm} (h : DiI w wr l t m) (hx : x ∉ distT l) (he : Ext wr wb) (hr : w9.ownsRow w.heap.size 66 4 t' (m + 1) (tcells (distT l) ++ [.string x.var, .int .i64 x.kind, .int .i64 x.int, .string x.str])) (hg : wb.grownBy w9 t.ownBlock) : DiI w w9 (l ++ [x]) t' (m + 1) := by
  have e : distT (l ++ [x]) = distT l ++ [x] := by rw [distT_snoc, addD, if_neg hx]
  refine ⟨?_, (h.ext.trans he).grown hg (fun k hk => (h.row.lt k hk).1)⟩
  rw [e, tcells_append]
  exact hr
set_option maxRecDepth 20000 in
set_option maxHeartbeats 1600000 in
theorem terms_any {F : Nat → Prop} {w : World} {sv : Value} {Ac : Option Addr} {nc cc : Nat} {xs : List At} (h : Ats F w sv xs) (hbd : Bd xs) :
    Calls Tryd.prog 63 #[.agg #[sv, .slice Ac nc cc]] w (Ret (fun x w' => w'.ownsRow w.heap.size 66 4 x (distT (allT xs)).length (tcells (distT (allT xs)))) w) := by
  obtain ⟨A, c, rfl, hc, hat⟩ := h.at'
  obtain ⟨n, hn⟩ : ∃ n, n = xs.length := ⟨_, rfl⟩
  rw [← hn] at hc ⊢
  have hl : n ≤ 1048576 := by rw [hn]; exact hbd.len
  have HN := Lib.hid hn; have HAT := Lib.hid hat; have HBD := Lib.hid hbd
  clear hn hat h hbd
  obtain ⟨i0, hi0, hz0, hz1, hz2⟩ := info_parts info_term
  have HI0 := Lib.hid (And.intro hi0 (And.intro hz0 (And.intro hz1 hz2))); clear hi0 hz0 hz1 hz2
  go_enter Tryd.func63, Tryd.ntmps63
  go_wp2_with fail
  have hx1 : Ext w (w.alloc (.cells #[.slice A n c, .slice Ac nc cc] 25)) := (Ext.refl w).alloc _
  generalize (w.alloc (.cells #[.slice A n c, .slice Ac nc cc] 25)) = w1 at *
  have HX1 := Lib.hid hx1
  clear hx1
  go_loopw [3, 11] (fun t q wr => ∃ i m : Nat, i ≤ n ∧ q = .int .i64 (i : Int) ∧ DiI w wr (allT (xs.take i)) t m) (fun _ q _ => n - (intOf q).toNat)
  case atStart => exact ⟨0, 0, Nat.zero_le _, rfl, World.ownsRow_nil _ _ _ _, HX1.out⟩
  case round =>
    obtain ⟨i, m0, hi, rfl, hI⟩ := hrel
    obtain ⟨wo, rfl⟩ : ∃ wo : World, wo = wr := ⟨_, rfl⟩
    have HI := Lib.hid hI
    obtain ⟨At0, ct0, rfl⟩ := own_slice hI.row
    by_cases hlt : i < n
    · have i1 : (0 : Int) ≤ (i : Int) := by omega
      have i2 : (i : Int) < (n : Int) := by omega
      have hix : i < xs.length := by have := HN.out; omega
      obtain ⟨ad, B, d, rfl, -, c0, c1, c2, hd, htc⟩ := HAT.out i hix
      replace c0 := hI.ext.cell c0
      replace c1 := hI.ext.cell c1
      replace c2 := hI.ext.cell c2
      have htn := terms_le hix
      obtain ⟨a, ha⟩ : ∃ a, a = xs[i] := ⟨_, rfl⟩
      rw [← ha] at c0 c1 c2 hd htc htn
      obtain ⟨nt, hnt⟩ : ∃ nt, nt = a.terms.length := ⟨_, rfl⟩
      rw [← hnt] at c2 hd htn
      have hnt2 : nt ≤ 1048576 := by have := HBD.out.all; omega
      have HA := Lib.hid ha; have HNT := Lib.hid hnt; have HTC := Lib.hid htc
      clear hnt ha htc htn hI
      go_wp2_with fail
      have hx3 : Ext wo (wo.alloc (.cells #[.bool a.neg, .string a.rel, .slice B nt d] 39)) := (Ext.refl wo).alloc _
      generalize (wo.alloc (.cells #[.bool a.neg, .string a.rel, .slice B nt d] 39)) = w3 at *
      have HX3 := Lib.hid hx3
      clear hx3 c0 c1 c2
      go_loopw [3, 18] (fun t q wr => ∃ j m : Nat, j ≤ nt ∧ q = .int .i64 (j : Int) ∧ DiI w wr (allT (xs.take i) ++ a.terms.take j) t m) (fun _ q _ => nt - (intOf q).toNat)
      case atStart => exact ⟨0, m0, Nat.zero_le _, rfl, by simpa using HI.out.fore HX3.out⟩
      case round =>
        obtain ⟨j, m, hj, rfl, hJ⟩ := hrel
        have HJ := Lib.hid hJ
        obtain ⟨At, ct, rfl⟩ := own_slice hJ.row
        by_cases hjt : j < nt
        · have j1 : (0 : Int) ≤ (j : Int) := by omega
          have j2 : (j : Int) < (nt : Int) := by omega
          have hjl : j < a.terms.length := by have := HNT.out; omega
          obtain ⟨ad2, rfl, -, d0, d1, d2, d3⟩ := HTC.out.term (i := j) hjl
          replace d0 := hJ.ext.cell d0
          replace d1 := hJ.ext.cell d1
          replace d2 := hJ.ext.cell d2
          replace d3 := hJ.ext.cell d3
          obtain ⟨x, hx⟩ : ∃ x, x = a.terms[j] := ⟨_, rfl⟩
          rw [← hx] at d0 d1 d2 d3
          have HX := Lib.hid hx
          have hlen : (distT (allT (xs.take i) ++ a.terms.take j)).length ≤ 1048576 := by
            have h0 := distT_length (allT (xs.take i) ++ a.terms.take j)
            have h1 := allT_le (xs := xs) (i + 1)
            rw [allT_take hix, List.length_append, ← HA.out] at h1
            have h2 := HBD.out.all
            simp only [List.length_append, List.length_take] at h0
            omega
          have hm : m ≤ 1048576 := by rw [hJ.len]; exact hlen
          have etk : allT (xs.take i) ++ a.terms.take (j + 1) = (allT (xs.take i) ++ a.terms.take j) ++ [x] := by rw [List.take_succ_eq_append_getElem hjl, HX.out, List.append_assoc]
          have HETK := Lib.hid etk; have HLEN := Lib.hid hlen
          have hwb : w.heap.size ≤ wr.heap.size := hJ.ext.size
          clear etk hx hJ hlen
          obtain ⟨L, hL⟩ : ∃ L, L = allT (xs.take i) ++ a.terms.take j := ⟨_, rfl⟩
          rw [← hL] at HJ HETK HLEN
          clear hL
          go_wp2_with fail
          have hx4 : Ext wr (wr.alloc (.cells #[.string x.var, .int .i64 x.kind, .int .i64 x.int, .string x.str] 66)) := (Ext.refl wr).alloc _
          have kt := Bk.new wr 66 [.string x.var, .int .i64 x.kind, .int .i64 x.int, .string x.str]
          change Bk (wr.alloc (.cells #[.string x.var, .int .i64 x.kind, .int .i64 x.int, .string x.str] 66)) _ _ _ at kt
          generalize (wr.alloc (.cells #[.string x.var, .int .i64 x.kind, .int .i64 x.int, .string x.str] 66)) = w4 at *
          refine (contains_term (t := x) (HJ.out.fore hx4).ts (by have := HLEN.out; omega)).mono ?_
          rintro e w5 ⟨y, rfl, he5, rfl⟩
          have HJ5 := Lib.hid ((HJ.out.fore hx4).fore he5)
          have k5 := kt.ext he5
          have s0 := k5.cell (i := 0) (by simp)
          have s1 := k5.cell (i := 1) (by simp)
          have s2 := k5.cell (i := 2) (by simp)
          have s3 := k5.cell (i := 3) (by simp)
          simp only [List.getElem_cons_zero, List.getElem_cons_succ] at s0 s1 s2 s3
          have hwb5 : w.heap.size ≤ w5.heap.size := HJ5.out.ext.size
          clear kt hx4 he5 d0 d1 d2 d3 k5
          by_cases hmem : x ∈ distT L
          · rw [decide_eq_true hmem]
            have HMEM := Lib.hid hmem
            clear hmem
            go_wp2_with fail
            go_roundw
            case rel => exact ⟨j + 1, m, by omega, by go_num, by rw [HETK.out]; exact HJ5.out.same HMEM.out⟩
            case measure => simp [intOf]; omega
          · rw [decide_eq_false hmem]
            have HMEM := Lib.hid hmem
            clear hmem
            go_wp2_with (first | (at_builtin; refine wpList_append_at rfl _ _ 37 rfl w.heap.size 66 i0 (.agg #[.string ⟨#[]⟩, .int .i64 0, .int .i64 0, .string ⟨#[]⟩]) 4 48 Tryd.underlying37 HI0.out.1 HI0.out.2.1 HI0.out.2.2.1 HI0.out.2.2.2 rfl (by omega) _ m (tcells (distT L)) rfl (HJ5.out.row.alloc _) ⟨w5.heap.size, 0, none⟩ 1 1 [.string x.var, .int .i64 x.kind, .int .i64 x.int, .string x.str] rfl rfl (laid_news w5 _ _) (by simp [Value.oneCell']) (by simp only [maxLen]; omega) (by omega) (by simp; omega) ?_; intro v' w' hr' hgr hland; have HM := Lib.hid (HJ5.out.more HMEM.out ((Ext.refl w5).alloc _) hr' hgr); clear hr' hgr hland))
            go_roundw
            case rel => exact ⟨j + 1, m + 1, by omega, by go_num, by rw [HETK.out]; exact HM.out⟩
            case measure => simp [intOf]; omega
        · obtain rfl : j = nt := by omega
          have hdn : ¬ (j : Int) < (j : Int) := by omega
          clear hJ
          go_wp2_with fail
          go_roundw
          case rel =>
            refine ⟨i + 1, m, by omega, by go_num, ?_⟩
            rw [allT_take hix, ← HA.out]
            have h := HJ.out
            have et : a.terms.take j = a.terms := by rw [HNT.out]; exact List.take_length
            rwa [et] at h
          case measure => simp [intOf]; omega
    · obtain rfl : i = n := by omega
      have hdn : ¬ (i : Int) < (i : Int) := by omega
      clear hI
      go_wp2_with fail
      go_ret
      have h := HI.out
      have et : xs.take i = xs := by rw [HN.out]; exact List.take_length
      rw [et] at h
      have hh : Ret (fun x w' => w'.ownsRow w.heap.size 66 4 x (distT (allT xs)).length (tcells (distT (allT xs)))) w (.returned (.slice At0 m0 ct0)) wo := by
        rw [← h.len]; exact Ret.mk h.ext h.row
      exact hh
/-- The images so far, as the map holds them. -/
def imF (im : ByteArray → Option Tm) : ByteArray → Option Value := fun s => (im s).map Tm.val
def imgT (im : ByteArray → Option Tm) (t : Tm) : Option Tm := if t.var = ⟨#[]⟩ then some t else im t.var
def okB (im : ByteArray → Option Tm) (t u : Tm) : Bool := match imgT im t with | some v => decide (v = u) | none => true
def agB (im : ByteArray → Option Tm) (ra : ByteArray) (ta : List Tm) (rb : ByteArray) (tb : List Tm) : Bool := decide (ra = rb) && decide (ta.length = tb.length) && (ta.zip tb).all (fun p => okB im p.1 p.2)
theorem agB_rel {im : ByteArray → Option Tm} {ra rb : ByteArray} {ta tb : List Tm} (h : ra ≠ rb) : agB im ra ta rb tb = false := by simp [agB, h]
theorem agB_len {im : ByteArray → Option Tm} {ra rb : ByteArray} {ta tb : List Tm} (h : ta.length ≠ tb.length) : agB im ra ta rb tb = false := by simp [agB, h]
theorem agB_at {im : ByteArray → Option Tm} {ra rb : ByteArray} {ta tb : List Tm} {i : Nat} (hi : i < ta.length) (hj : i < tb.length) (h : okB im ta[i] tb[i] = false) : agB im ra ta rb tb = false := by
  have hz : i < (ta.zip tb).length := by simp; omega
  have : (ta.zip tb).all (fun p => okB im p.1 p.2) = false := List.all_eq_false.2 ⟨(ta.zip tb)[i], List.getElem_mem hz, by rw [List.getElem_zip]; simp [h]⟩
  simp [agB, this]
theorem agB_all {im : ByteArray → Option Tm} {ra : ByteArray} {ta tb : List Tm} (hl : ta.length = tb.length) (h : ∀ i (hi : i < ta.length) (hj : i < tb.length), okB im ta[i] tb[i] = true) : agB im ra ta ra tb = true := by
  have : (ta.zip tb).all (fun p => okB im p.1 p.2) = true := List.all_eq_true.2 (fun p hp => by
    obtain ⟨i, hi, rfl⟩ := List.getElem_of_mem hp
    rw [List.getElem_zip]
    simp at hi
    exact h i (by omega) (by omega))
  simp [agB, hl, this]
set_option maxRecDepth 20000 in
set_option maxHeartbeats 1600000 in
theorem agrees_any {F G : Nat → Prop} {w : World} {na nb : Bool} {ra rb : ByteArray} {Ba Bb : Option Addr} {da db bm n : Nat} {ta tb : List Tm} {im : ByteArray → Option Tm} (ha : Cl F w Ba (tcells ta)) (hb : Cl G w Bb (tcells tb)) (hda : ta.length ≤ da) (hdb : tb.length ≤ db) (hl : ta.length ≤ 1048576) (hs : ∀ t ∈ ta, t.var.size ≤ maxLen) (hm : MapV w bm n (imF im)) :
    Calls Tryd.prog 68 #[.agg #[.bool na, .string ra, .slice Ba ta.length da], .agg #[.bool nb, .string rb, .slice Bb tb.length db], .map (some bm)] w (Ret (fun x _ => x = .bool (agB im ra ta rb tb)) w) := by
  obtain ⟨nt, hnt⟩ : ∃ nt, nt = ta.length := ⟨_, rfl⟩
  obtain ⟨nu, hnu⟩ : ∃ nu, nu = tb.length := ⟨_, rfl⟩
  rw [← hnt, ← hnu]
  rw [← hnt] at hda hl
  rw [← hnu] at hdb
  have HNT := Lib.hid hnt; have HNU := Lib.hid hnu; have HA := Lib.hid ha; have HB := Lib.hid hb; have HS := Lib.hid hs; have HM := Lib.hid hm
  clear hnt hnu ha hb hs hm
  by_cases hrel : ra = rb
  · subst hrel
    by_cases hlen : nt = nu
    · subst hlen
      go_enter Tryd.func68, Tryd.ntmps68
      go_wp2_with fail
      have hx1 : Ext w ((w.alloc (.cells #[.bool na, .string ra, .slice Ba nt da] 39)).alloc (.cells #[.bool nb, .string ra, .slice Bb nt db] 39)) := ((Ext.refl w).alloc _).alloc _
      have k2 : Bk ((w.alloc (.cells #[.bool na, .string ra, .slice Ba nt da] 39)).alloc (.cells #[.bool nb, .string ra, .slice Bb nt db] 39)) (w.heap.size + 1) 39 [.bool nb, .string ra, .slice Bb nt db] := by
        have h := Bk.new (w.alloc (.cells #[.bool na, .string ra, .slice Ba nt da] 39)) 39 [.bool nb, .string ra, .slice Bb nt db]
        rw [show (w.alloc (.cells #[.bool na, .string ra, .slice Ba nt da] 39)).heap.size = w.heap.size + 1 by simp] at h
        exact h
      generalize ((w.alloc (.cells #[.bool na, .string ra, .slice Ba nt da] 39)).alloc (.cells #[.bool nb, .string ra, .slice Bb nt db] 39)) = w1 at *
      have HX1 := Lib.hid hx1; have HK2 := Lib.hid k2
      clear hx1 k2
      go_loopw [28] (fun q wr => ∃ i : Nat, i ≤ nt ∧ q = .int .i64 (i : Int) ∧ (∀ j (h : j < ta.length) (h' : j < tb.length), j < i → okB im ta[j] tb[j] = true) ∧ Ext w1 wr) (fun q _ => nt - (intOf q).toNat)
      case atStart => exact ⟨0, Nat.zero_le _, rfl, fun _ _ _ h => absurd h (by omega), Ext.refl _⟩
      case round =>
        obtain ⟨i, hi, rfl, hok, hext⟩ := hrel
        have HOK := Lib.hid hok; have HE := Lib.hid hext
        clear hok
        by_cases hlt : i < nt
        · have i1 : (0 : Int) ≤ (i : Int) := by omega
          have i2 : (i : Int) < (nt : Int) := by omega
          have hia : i < ta.length := by have := HNT.out; omega
          have hib : i < tb.length := by have := HNU.out; omega
          obtain ⟨ada, rfl, -, c0, c1, c2, c3⟩ := HA.out.term (i := i) hia
          obtain ⟨adb, rfl, -, d0, d1, d2, d3⟩ := HB.out.term (i := i) hib
          have hxr := HX1.out.trans hext
          replace c0 := hxr.cell c0
          replace c1 := hxr.cell c1
          replace c2 := hxr.cell c2
          replace c3 := hxr.cell c3
          have hsv := HS.out _ (List.getElem_mem hia)
          obtain ⟨x, hx⟩ : ∃ x, x = ta[i] := ⟨_, rfl⟩
          obtain ⟨u, hu⟩ : ∃ u, u = tb[i] := ⟨_, rfl⟩
          rw [← hx] at c0 c1 c2 c3 hsv
          rw [← hu] at d0 d1 d2 d3
          have HXU := Lib.hid (And.intro hx hu)
          have HD := Lib.hid (And.intro d0 (And.intro d1 (And.intro d2 d3)))
          have HXR := Lib.hid hxr
          clear hx hu hext hxr d0 d1 d2 d3
          go_upto_region 6 with fail
          have hx2 : Ext wr (wr.alloc (.cells #[.string x.var, .int .i64 x.kind, .int .i64 x.int, .string x.str] 66)) := (Ext.refl wr).alloc _
          have k8 := Bk.new wr 66 [.string x.var, .int .i64 x.kind, .int .i64 x.int, .string x.str]
          change Bk (wr.alloc (.cells #[.string x.var, .int .i64 x.kind, .int .i64 x.int, .string x.str] 66)) _ _ _ at k8
          have hsz2 : (wr.alloc (.cells #[.string x.var, .int .i64 x.kind, .int .i64 x.int, .string x.str] 66)).heap.size = wr.heap.size + 1 := by simp
          generalize (wr.alloc (.cells #[.string x.var, .int .i64 x.kind, .int .i64 x.int, .string x.str] 66)) = w2 at *
          have s0 := k8.cell (i := 0) (by simp)
          have s1 := k8.cell (i := 1) (by simp)
          have s2 := k8.cell (i := 2) (by simp)
          have s3 := k8.cell (i := 3) (by simp)
          simp only [List.getElem_cons_zero, List.getElem_cons_succ] at s0 s1 s2 s3
          have HX2 := Lib.hid (HE.out.trans hx2); have HXW := Lib.hid (HXR.out.trans hx2); have HK8 := Lib.hid k8
          clear hx2 k8 c0 c1 c2 c3
          obtain ⟨kn, hkn⟩ : ∃ kn, kn = x.var.toList.isEmpty := ⟨_, rfl⟩
          have hkn2 : x.var.toList.isEmpty = kn := hkn.symm
          have HKN := Lib.hid hkn
          clear hkn
          go_cut [9, 10] (fun s9 s10 wx => s9 = .pointer (some ⟨wr.heap.size + 1, 0, none⟩) ∧ s10 = .bool kn ∧ Bk wx (wr.heap.size + 1) 66 [.string x.var, .int .i64 x.kind, .int .i64 x.int, .string x.str] ∧ Ext w2 wx)
          case first =>
            go_region
            go_wp2_with fail
            go_meet
            exact ⟨rfl, rfl, by rw [← hsz2]; exact Bk.new w2.drew _ [_, _, _, _], (Ext.refl w2).drew.alloc _⟩
          case rest =>
            obtain ⟨rfl, rfl, k9, he9⟩ := hcut
            obtain ⟨U, rfl⟩ : ∃ U : World, U = wc := ⟨_, rfl⟩
            have HU := Lib.hid (HXW.out.trans he9); have HUE := Lib.hid (HX2.out.trans he9)
            have k8 := HK8.out.ext he9
            have hlt9 : wr.heap.size + 1 < U.heap.size := k9.lt
            clear he9 s0 s1 s2 s3 hsz2
            go_upto_if 38 with fail
            go_cut [10, 37, 38] (fun s10 s37 s38 wx => ∃ (kb : Bool) (y : Tm), s10 = .bool kb ∧ Bk wx (wr.heap.size + 1) 66 [.string y.var, .int .i64 y.kind, .int .i64 y.int, .string y.str] ∧ Fr (fun k => k = wr.heap.size + 1) U wx ∧ imgT im x = (if kb = true then some y else none))
            case first =>
              rcases kn with _ | _
              · have hv : ¬ x.var = ⟨#[]⟩ := fun h => by have := HKN.out; rw [var_eq h] at this; cases this
                have f8 := k8.cell (i := 0) (by simp)
                have f9 := k9.cell (i := 0) (by simp)
                have f91 := k9.cell (i := 1) (by simp)
                have f92 := k9.cell (i := 2) (by simp)
                have f93 := k9.cell (i := 3) (by simp)
                simp only [List.getElem_cons_zero, List.getElem_cons_succ] at f8 f9 f91 f92 f93
                have r0 := k9.free 0
                have r1 := k9.free 1
                have r2 := k9.free 2
                have r3 := k9.free 3
                have HK9 := Lib.hid k9
                have himg : imgT im x = im x.var := by rw [imgT, if_neg hv]
                have HIM := Lib.hid himg
                clear himg hv
                rcases him : im x.var with _ | y
                · have HY := Lib.hid him
                  clear him
                  go_wp2_with (first | (at_lookup; refine wpList_lookup_okV rfl _ _ 87 66 rfl Tryd.underlying87 (.agg #[.string ⟨#[]⟩, .int .i64 0, .int .i64 0, .string ⟨#[]⟩]) (zero_term _) bm n (imF im) rfl (HM.out.ext HU.out) x.var rfl hsv (.agg #[.string ⟨#[]⟩, .int .i64 0, .int .i64 0, .string ⟨#[]⟩]) (by rw [imF, HY.out]; rfl) false (by rw [imF, HY.out]; rfl) ?_))
                  go_meet
                  exact ⟨false, ⟨⟨#[]⟩, 0, 0, ⟨#[]⟩⟩, rfl, (((HK9.out.set 0 _).set 1 _).set 2 _).set 3 _, (((Fr.refl (fun k => k = wr.heap.size + 1) U).setCell (.inl rfl) _).setCell (.inl rfl) _).setCell (.inl rfl) _ |>.setCell (.inl rfl) _, by rw [HIM.out, HY.out]; rfl⟩
                · have HY := Lib.hid him
                  clear him
                  go_wp2_with (first | (at_lookup; refine wpList_lookup_okV rfl _ _ 87 66 rfl Tryd.underlying87 (.agg #[.string ⟨#[]⟩, .int .i64 0, .int .i64 0, .string ⟨#[]⟩]) (zero_term _) bm n (imF im) rfl (HM.out.ext HU.out) x.var rfl hsv (.agg #[.string y.var, .int .i64 y.kind, .int .i64 y.int, .string y.str]) (by rw [imF, HY.out]; rfl) true (by rw [imF, HY.out]; rfl) ?_))
                  go_meet
                  exact ⟨true, y, rfl, (((HK9.out.set 0 _).set 1 _).set 2 _).set 3 _, (((Fr.refl (fun k => k = wr.heap.size + 1) U).setCell (.inl rfl) _).setCell (.inl rfl) _).setCell (.inl rfl) _ |>.setCell (.inl rfl) _, by rw [HIM.out, HY.out]; rfl⟩
              · have hv : x.var = ⟨#[]⟩ := by
                  have := HKN.out
                  rw [var_empty] at this
                  exact of_decide_eq_true this.symm
                have HV := Lib.hid hv; have HK9 := Lib.hid k9
                clear hv k9 k8
                go_wp2_with fail
                go_meet
                exact ⟨true, x, rfl, HK9.out, Fr.refl _ _, by rw [imgT, if_pos HV.out]; rfl⟩
            case rest =>
              obtain ⟨kb, y, rfl, k9', hf9, himg⟩ := hcut
              obtain ⟨V, rfl⟩ : ∃ V : World, V = wc := ⟨_, rfl⟩
              have hwr : w.heap.size + 1 < wr.heap.size := (HK2.out.ext HE.out).lt
              have hnew : ∀ k, k < wr.heap.size → ¬ (k = wr.heap.size + 1) := fun k hk e => by omega
              have hVw : Ext w V := hf9.new HU.out (fun k hk => by omega)
              have hVE : Ext w1 V := hf9.new HUE.out (fun k hk => by have := HE.out.size; omega)
              obtain ⟨d0, d1, d2, d3⟩ := HD.out
              replace d0 := hVw.cell d0
              replace d1 := hVw.cell d1
              replace d2 := hVw.cell d2
              replace d3 := hVw.cell d3
              have kbx := HK2.out.ext hVE
              have b2 := kbx.cell (i := 2) (by simp)
              have y0 := k9'.cell (i := 0) (by simp)
              have y1 := k9'.cell (i := 1) (by simp)
              have y2 := k9'.cell (i := 2) (by simp)
              have y3 := k9'.cell (i := 3) (by simp)
              simp only [List.getElem_cons_zero, List.getElem_cons_succ] at b2 y0 y1 y2 y3
              have HVW := Lib.hid hVw; have HVE := Lib.hid hVE; have HIMG := Lib.hid himg
              have hnext : okB im x u = true → ∀ j (h : j < ta.length) (h' : j < tb.length), j < i + 1 → okB im ta[j] tb[j] = true := fun hxo j h h' hji => by
                rcases Nat.lt_or_ge j i with h2 | h2
                · exact HOK.out j h h' h2
                · obtain rfl : j = i := by omega
                  rw [← HXU.out.1, ← HXU.out.2]; exact hxo
              have HNX := Lib.hid hnext
              clear hnext k9 k8 k9' hf9 himg hVw hVE kbx hnew HU HUE HK8 HX2 HXW HKN hkn2
              rcases kb with _ | _
              · have HO : Hid (okB im x u = true) := Lib.hid (by rw [okB, HIMG.out]; rfl)
                go_wp2_with fail
                go_quiet (fail)
                go_wp2_with fail
                go_roundw
                case rel => exact ⟨i + 1, by omega, by go_num, HNX.out HO.out, HVE.out.drewN _⟩
                case measure => simp [intOf]; omega
              · by_cases hyu : y = u
                · have HO : Hid (okB im x u = true) := Lib.hid (by rw [okB, HIMG.out]; simp [hyu])
                  subst hyu
                  go_wp2_with fail
                  go_quiet (fail)
                  go_wp2_with fail
                  go_roundw
                  case rel => exact ⟨i + 1, by omega, by go_num, HNX.out HO.out, HVE.out.drewN _⟩
                  case measure => simp [intOf]; omega
                · have HO : Hid (okB im x u = false) := Lib.hid (by rw [okB, HIMG.out]; simp [hyu])
                  rcases Tm.ne4 (x := u) (t := y) (fun e => hyu e.symm) with h1 | ⟨h1, h2 | ⟨h2, h3 | ⟨h3, h4⟩⟩⟩
                  all_goals
                    clear hyu
                    go_wp2_with fail
                    go_quiet (fail)
                    go_wp2_with fail
                    go_ret
                    refine Ret.mk (HVW.out.drewN _) ?_
                    rw [agB_at hia hib (by rw [← HXU.out.1, ← HXU.out.2]; exact HO.out)]
                    rfl
        · obtain rfl : i = nt := by omega
          have hdn : ¬ (i : Int) < (i : Int) := by omega
          go_wp2_with fail
          go_ret
          refine Ret.mk (HX1.out.trans HE.out) ?_
          rw [agB_all (by rw [← HNT.out, ← HNU.out]) (fun j h h' => HOK.out j h h' (by have := HNT.out; omega))]
          rfl
    · have hlen2 : ¬ (nt : Int) = (nu : Int) := by omega
      have HNL : Hid (ta.length ≠ tb.length) := Lib.hid (by rw [← HNT.out, ← HNU.out]; exact hlen)
      clear hlen
      go_enter Tryd.func68, Tryd.ntmps68
      go_wp2_with fail
      all_goals first
        | contradiction
        | (go_ret
           refine Ret.mk (((Ext.refl w).alloc _).alloc _) ?_
           rw [agB_len HNL.out]
           rfl)
  · have hrel2 : ¬ ra.toList = rb.toList := fun e => hrel (toList_inj e)
    have HNR := Lib.hid hrel
    clear hrel
    go_enter Tryd.func68, Tryd.ntmps68
    go_wp2_with fail
    all_goals first
      | contradiction
      | (go_ret
         refine Ret.mk (((Ext.refl w).alloc _).alloc _) ?_
         rw [agB_rel HNR.out]
         rfl)
set_option maxRecDepth 20000 in
set_option maxHeartbeats 800000 in
theorem find11 {F G : Nat → Prop} {w : World} {ga gi bm n : Nat} {na nb : Bool} {ra rb : ByteArray} {Ba Bb : Option Addr} {da db : Nat} {ta tb : List Tm} {im : ByteArray → Option Tm} (ha : Cl F w Ba (tcells ta)) (hb : Cl G w Bb (tcells tb)) (hda : ta.length ≤ da) (hdb : tb.length ≤ db) (hl : ta.length ≤ 1048576) (hs : ∀ t ∈ ta, t.var.size ≤ maxLen)
    (ka : Bk w ga 39 [.bool na, .string ra, .slice Ba ta.length da]) (ki : Bk w gi 87 [.map (some bm)]) (hm : MapV w bm n (imF im)) :
    Calls Tryd.prog 67 #[.agg #[.bool nb, .string rb, .slice Bb tb.length db], .pointer (some ⟨ga, 0, none⟩), .pointer (some ⟨gi, 0, none⟩)] w (Ret (fun x _ => x = .bool (agB im ra ta rb tb)) w) := by
  have a0 := ka.cell (i := 0) (by simp)
  have a1 := ka.cell (i := 1) (by simp)
  have a2 := ka.cell (i := 2) (by simp)
  have b0 := ki.cell (i := 0) (by simp)
  simp only [List.getElem_cons_zero, List.getElem_cons_succ] at a0 a1 a2 b0
  have l1 := ka.lt
  have l2 := ki.lt
  have hx : Ext w (w.alloc (.cells #[.bool nb, .string rb, .slice Bb tb.length db] 39)) := (Ext.refl w).alloc _
  have HC := Lib.hid (agrees_any (na := na) (nb := nb) (ra := ra) (rb := rb) (ha.ext hx) (hb.ext hx) hda hdb hl hs (hm.ext hx))
  have HX := Lib.hid hx
  clear ha hb hda hdb hl hs ka ki hm hx
  generalize ta.length = nt at *
  generalize tb.length = nu at *
  go_enter Tryd.func67, Tryd.ntmps67
  go_wp2_with fail
  refine HC.out.mono ?_
  rintro e w2 ⟨x, rfl, he2, rfl⟩
  have HE := Lib.hid (HX.out.trans he2)
  clear he2
  go_wp2_with fail
  go_ret
  exact Ret.mk HE.out rfl
/-- Whether each atom that matters still has an image. -/
def anyAg (im : ByteArray → Option Tm) (a : At) (ys : List At) : Bool := ys.any (fun b => agB im a.rel a.terms b.rel b.terms)
def matters (v : ByteArray) (a : At) : Bool := decide (v = ⟨#[]⟩) || mentB a.terms v
def possB (im : ByteArray → Option Tm) (xs ys : List At) (v : ByteArray) : Bool := xs.all (fun a => !(matters v a && !(anyAg im a ys)))
set_option maxRecDepth 20000 in
set_option maxHeartbeats 1600000 in
theorem find1 {F G : Nat → Prop} {w : World} {gf gt gi bm n : Nat} {svF svT scF scT : Value} {xs ys : List At} {im : ByteArray → Option Tm} {v : ByteArray} (hF : Ats F w svF xs) (hG : Ats G w svT ys) (hbx : Bd xs) (hby : Bd ys)
    (kf : Bk w gf 25 [svF, scF]) (kt : Bk w gt 25 [svT, scT]) (ki : Bk w gi 87 [.map (some bm)]) (hm : MapV w bm n (imF im)) :
    Calls Tryd.prog 64 #[.string v, .pointer (some ⟨gf, 0, none⟩), .pointer (some ⟨gt, 0, none⟩), .pointer (some ⟨gi, 0, none⟩)] w (Ret (fun x _ => x = .bool (possB im xs ys v)) w) := by
  have HG := Lib.hid hG
  obtain ⟨A, c, rfl, hc, hat⟩ := hF.at'
  obtain ⟨A2, c2, n2, hv2⟩ : ∃ A c n, svT = .slice A n c := by obtain ⟨A, c, vs, hv, _⟩ := hG; exact ⟨A, c, _, hv⟩
  subst hv2
  obtain ⟨nx, hn⟩ : ∃ nx, nx = xs.length := ⟨_, rfl⟩
  rw [← hn] at hc kf
  have hl : nx ≤ 1048576 := by rw [hn]; exact hbx.len
  have HN := Lib.hid hn; have HAT := Lib.hid hat; have HBX := Lib.hid hbx; have HBY := Lib.hid hby
  have HK := Lib.hid (And.intro kf (And.intro kt (And.intro ki hm)))
  have f0 := kf.cell (i := 0) (by simp)
  simp only [List.getElem_cons_zero, List.getElem_cons_succ] at f0
  clear hn hat hbx hby hF hG kf kt ki hm
  go_enter Tryd.func64, Tryd.ntmps64
  go_wp2_with fail
  clear f0
  go_loopw [11] (fun q wr => ∃ i : Nat, i ≤ nx ∧ q = .int .i64 (i : Int) ∧ (∀ j (h : j < xs.length), j < i → (!(matters v xs[j] && !(anyAg im xs[j] ys))) = true) ∧ Ext w wr) (fun q _ => nx - (intOf q).toNat)
  case atStart => exact ⟨0, Nat.zero_le _, rfl, fun _ _ h => absurd h (by omega), Ext.refl _⟩
  case round =>
    obtain ⟨i, hi, rfl, hok, hext⟩ := hrel
    have HOK := Lib.hid hok; have HE := Lib.hid hext
    clear hok
    by_cases hlt : i < nx
    · have i1 : (0 : Int) ≤ (i : Int) := by omega
      have i2 : (i : Int) < (nx : Int) := by omega
      have hix : i < xs.length := by have := HN.out; omega
      obtain ⟨ad, B, d, rfl, -, c0, c1, c2', hd, htc⟩ := HAT.out i hix
      replace c0 := hext.cell c0
      replace c1 := hext.cell c1
      replace c2' := hext.cell c2'
      have htn := terms_le hix
      have hst := HBX.out.str _ (List.getElem_mem hix)
      obtain ⟨a, ha⟩ : ∃ a, a = xs[i] := ⟨_, rfl⟩
      rw [← ha] at c0 c1 c2' hd htc htn hst
      have hnt2 : a.terms.length ≤ 1048576 := by have := HBX.out.all; omega
      have HA := Lib.hid ha
      obtain ⟨kf, kt, ki, hm⟩ := HK.out
      have hx2 : Ext wr (wr.alloc (.cells #[.bool a.neg, .string a.rel, .slice B a.terms.length d] 39)) := (Ext.refl wr).alloc _
      have k7 := Bk.new wr 39 [.bool a.neg, .string a.rel, .slice B a.terms.length d]
      change Bk (wr.alloc (.cells #[.bool a.neg, .string a.rel, .slice B a.terms.length d] 39)) _ _ _ at k7
      have hwx := hext.trans hx2
      have HTC := Lib.hid htc; have HST := Lib.hid hst; have HD := Lib.hid hd; have HN2 := Lib.hid hnt2
      have HCON := Lib.hid (fun (W : World) (hW : Ext w W) (hk : Bk W wr.heap.size 39 [.bool a.neg, .string a.rel, .slice B a.terms.length d]) => contains_agrees (g1 := wr.heap.size) (g2 := gi) (p := fun j => (ys[j]?.map (fun b => agB im a.rel a.terms b.rel b.terms)).getD false) (HG.out.ext hW) (Nat.le_succ_of_le HBY.out.len) (fun j hj B2 d2 X hd2 hc2 hE => by
        rw [List.getElem?_eq_getElem hj]
        exact find11 (HTC.out.ext (hW.trans hE)) (hc2.ext hE) HD.out hd2 HN2.out (fun t ht => by have := (HST.out t ht).1; simp only [maxLen]; omega) (hk.ext hE) ((HK.out.2.2.1.ext hW).ext hE) ((HK.out.2.2.2.ext hW).ext hE)))
      have HMEN := Lib.hid (fun (W : World) (hW : Ext w W) => mentions_any (ng := a.neg) (rl := a.rel) (v := v) (sv := .slice B a.terms.length d) (ts := a.terms) ⟨B, d, rfl, HD.out, HTC.out.ext hW⟩ HN2.out)
      have HKT := Lib.hid kt
      clear ha htc htn hst hd hext kf kt ki hm
      obtain ⟨nt, hnt⟩ : ∃ nt, nt = a.terms.length := ⟨_, rfl⟩
      rw [← hnt] at c2' hnt2 k7 hx2 hwx HCON HMEN
      clear hnt HD HN2 HTC
      by_cases hv : v = ⟨#[]⟩
      · have hve : v.toList.isEmpty = true := var_eq hv
        have HV := Lib.hid hv
        clear hv
        have t0 := (HKT.out.ext hwx).cell (i := 0) (by simp)
        simp only [List.getElem_cons_zero, List.getElem_cons_succ] at t0
        have HMAT : Hid (matters v a = true) := Lib.hid (by simp [matters, HV.out])
        go_wp2_with fail
        have W4 := hwx
        have K4 := k7
        refine (HCON.out _ W4 K4).mono ?_
        rintro e w5 ⟨x5, rfl, he5, rfl⟩
        rw [show anyB ys.length (fun j => (ys[j]?.map (fun b => agB im a.rel a.terms b.rel b.terms)).getD false) = anyAg im a ys from anyB_list ys _]
        have HE5 := Lib.hid (W4.trans he5)
        clear he5 W4 K4 t0
        rcases hag : anyAg im a ys with _ | _
        · have HAG := Lib.hid hag
          clear hag
          go_wp2_with fail
          go_ret
          refine Ret.mk HE5.out ?_
          rw [show possB im xs ys v = false from List.all_eq_false.2 ⟨xs[i], List.getElem_mem hix, by rw [← HA.out, HAG.out, HMAT.out]; simp⟩]
          rfl
        · have HAG := Lib.hid hag
          clear hag
          go_wp2_with fail
          go_roundw
          case rel =>
            refine ⟨i + 1, by omega, by go_num, fun j hj hji => ?_, HE5.out⟩
            rcases Nat.lt_or_ge j i with h | h
            · exact HOK.out j hj h
            · obtain rfl : j = i := by omega
              rw [← HA.out, HAG.out]; simp
          case measure => simp [intOf]; omega
      · have hve : v.toList.isEmpty = false := var_ne hv
        have HV := Lib.hid hv
        clear hv
        go_wp2_with fail
        refine (HMEN.out _ hwx).mono ?_
        rintro e w4 ⟨x4, rfl, he4, rfl⟩
        have W4 := hwx.trans he4
        have K4 := k7.ext he4
        have t0 := (HKT.out.ext W4).cell (i := 0) (by simp)
        simp only [List.getElem_cons_zero, List.getElem_cons_succ] at t0
        clear hwx hx2 k7 he4 c0 c1 c2'
        rcases hmen : mentB a.terms v with _ | _
        · have HMAT : Hid (matters v a = false) := Lib.hid (by simp [matters, HV.out, hmen])
          have HW4 := Lib.hid W4
          clear hmen W4 K4 t0
          go_wp2_with fail
          go_roundw
          case rel =>
            refine ⟨i + 1, by omega, by go_num, fun j hj hji => ?_, HW4.out⟩
            rcases Nat.lt_or_ge j i with h | h
            · exact HOK.out j hj h
            · obtain rfl : j = i := by omega
              rw [← HA.out, HMAT.out]; simp
          case measure => simp [intOf]; omega
        · have HMAT : Hid (matters v a = true) := Lib.hid (by simp [matters, hmen])
          clear hmen
          go_wp2_with fail
          refine (HCON.out _ W4 K4).mono ?_
          rintro e w5 ⟨x5, rfl, he5, rfl⟩
          rw [show anyB ys.length (fun j => (ys[j]?.map (fun b => agB im a.rel a.terms b.rel b.terms)).getD false) = anyAg im a ys from anyB_list ys _]
          have HE5 := Lib.hid (W4.trans he5)
          clear he5 W4 K4 t0
          rcases hag : anyAg im a ys with _ | _
          · have HAG := Lib.hid hag
            clear hag
            go_wp2_with fail
            go_ret
            refine Ret.mk HE5.out ?_
            rw [show possB im xs ys v = false from List.all_eq_false.2 ⟨xs[i], List.getElem_mem hix, by rw [← HA.out, HAG.out, HMAT.out]; simp⟩]
            rfl
          · have HAG := Lib.hid hag
            clear hag
            go_wp2_with fail
            go_roundw
            case rel =>
              refine ⟨i + 1, by omega, by go_num, fun j hj hji => ?_, HE5.out⟩
              rcases Nat.lt_or_ge j i with h | h
              · exact HOK.out j hj h
              · obtain rfl : j = i := by omega
                rw [← HA.out, HAG.out]; simp
            case measure => simp [intOf]; omega
    · obtain rfl : i = nx := by omega
      have hdn : ¬ (i : Int) < (i : Int) := by omega
      go_wp2_with fail
      go_ret
      refine Ret.mk HE.out ?_
      rw [show possB im xs ys v = true from List.all_eq_true.2 (fun a ha => by
        obtain ⟨j, hj, rfl⟩ := List.getElem_of_mem ha
        exact HOK.out j hj (by have := HN.out; omega))]
      rfl
/-- delete(m, k). -/
theorem wpList_delete_V {w : World} {ops : Array Oper} {rest : List Oper} {o : Oper} {a : Act} {Q : Exit → Act → World → Prop} (hg : o.guard = none) (m x : Operand) (t e : TypeId) (hop : o.op = Op.call { callee := Callee.builtin Builtin.delete, args := #[m, x], argTypes := #[t, 9] })
    (ht : Tryd.prog.underlying t = some (.map 9 e)) (b n : Nat) (f : ByteArray → Option Value)
    (hm : a.eval m = .map (some b)) (hown : MapV w b n f) (s : ByteArray) (hx : a.eval x = .string s) (hs : s.size ≤ maxLen)
    (hK : ∀ w', MapV w' b n (updV f s none) → w.grownBy w' (some b) → wpList Tryd.prog ops Q rest (a.put o.dst (.tuple #[])) w') : wpList Tryd.prog ops Q (o :: rest) a w := by
  obtain ⟨D, hD, hti, hat, hhas⟩ := hown
  refine wpList_delete_own w hg m x t 9 hop e law_str ht Rv b n D hm hD (.string s) (.string s.data.toList) hx (keyOf_str s hs) (fun w' h1 h2 => hK w' ⟨_, h1, hti.del _, fun u zd => ?_, fun u => ?_⟩ h2.grown)
  · by_cases e : u = s
    · subst e; rw [atKey_del_same]; simp [updV]
    · rw [atKey_del_other (key_ne e), hat u zd]; simp [updV, e]
  · by_cases e : u = s
    · subst e; rw [has_del_same]; simp [updV]
    · rw [has_del_other (key_ne e), hhas u]; simp [updV, e]
def updT (im : ByteArray → Option Tm) (v : ByteArray) (o : Option Tm) : ByteArray → Option Tm := fun s => if s = v then o else im s
theorem imF_upd (im : ByteArray → Option Tm) (v : ByteArray) (o : Option Tm) : imF (updT im v o) = updV (imF im) v (o.map Tm.val) := by
  funext s; unfold imF updT updV; split <;> rfl
theorem updT_twice (im : ByteArray → Option Tm) (v : ByteArray) (o p : Option Tm) : updT (updT im v o) v p = updT im v p := by
  funext s; unfold updT; split <;> rfl
theorem updT_none {im : ByteArray → Option Tm} {v : ByteArray} (h : im v = none) : updT im v none = im := by
  funext s; unfold updT; split
  · rename_i e; rw [e, h]
  · rfl
/-- The term that is a variable. -/
abbrev varT (v : ByteArray) : Tm := ⟨v, 0, 0, ⟨#[]⟩⟩
/-- The search: the first candidate that is possible and can be gone on from. -/
def asg (P : (ByteArray → Option Tm) → ByteArray → Bool) (pin : ByteArray → Bool) (cs : List Tm) : List ByteArray → (ByteArray → Option Tm) → Option (ByteArray → Option Tm)
  | [], im => some im
  | v :: vs, im => cs.findSome? (fun t => if pin v = true ∧ t ≠ varT v then none else if P (updT im v (some t)) v = true then asg P pin cs vs (updT im v (some t)) else none)
def pinF (pin : ByteArray → Bool) : ByteArray → Option Value := fun s => if pin s = true then some (.bool true) else none
/-- How many stores into the map at most. -/
def stores (c : Nat) : Nat → Nat
  | 0 => 0
  | k + 1 => c * (1 + stores c k)
/-- The blocks of what the closures have captured. -/
structure Cap where
  (gF gT gI gV gC gP gPo gAs bm bp : Nat)
structure FE (w : World) (k : Cap) (xs ys : List At) (vs : List ByteArray) (cs : List Tm) (pin : ByteArray → Bool) : Prop where
  fr' : ∃ sv sc, Bk w k.gF 25 [sv, sc] ∧ Ats (fun j => j ≠ k.bm) w sv xs
  to' : ∃ sv sc, Bk w k.gT 25 [sv, sc] ∧ Ats (fun j => j ≠ k.bm) w sv ys
  img : Bk w k.gI 87 [.map (some k.bm)]
  vars : ∃ A c, Bk w k.gV 26 [.slice A vs.length c] ∧ vs.length ≤ c ∧ Cl (fun j => j ≠ k.bm) w A (vs.map Sv)
  cand : ∃ A c, Bk w k.gC 37 [.slice A cs.length c] ∧ cs.length ≤ c ∧ Cl (fun j => j ≠ k.bm) w A (tcells cs)
  pins : Bk w k.gP 68 [.map (some k.bp)] ∧ ∃ np, MapV w k.bp np (pinF pin)
  poss : Bk w k.gPo 73 [.func (.func 64) #[] #[.pointer (some ⟨k.gF, 0, none⟩), .pointer (some ⟨k.gT, 0, none⟩), .pointer (some ⟨k.gI, 0, none⟩)]]
  asn : Bk w k.gAs 113 [.func (.func 69) #[] #[.pointer (some ⟨k.gV, 0, none⟩), .pointer (some ⟨k.gC, 0, none⟩), .pointer (some ⟨k.gP, 0, none⟩), .pointer (some ⟨k.gI, 0, none⟩), .pointer (some ⟨k.gPo, 0, none⟩), .pointer (some ⟨k.gAs, 0, none⟩)]]
  nbp : k.bp ≠ k.bm
theorem FE.fr {w w' : World} {k : Cap} {xs ys : List At} {vs : List ByteArray} {cs : List Tm} {pin : ByteArray → Bool} {n : Nat} {f : ByteArray → Option Value} (h : FE w k xs ys vs cs pin) (hm : MapV w k.bm n f) (hf : Fr (fun j => j = k.bm) w w') : FE w' k xs ys vs cs pin := by
  have hb : ∀ {g : Nat} {t : TypeId} {l : List Value}, Bk w g t l → Bk w' g t l := fun hk => hk.fr hf (hm.ne hk)
  obtain ⟨sv, sc, h1, h2⟩ := h.fr'
  obtain ⟨sv', sc', h3, h4⟩ := h.to'
  obtain ⟨A, c, h5, h6, h7⟩ := h.vars
  obtain ⟨A', c', h8, h9, h10⟩ := h.cand
  obtain ⟨h11, np, h12⟩ := h.pins
  exact ⟨⟨sv, sc, hb h1, h2.fr hf (fun k hk e => hk e)⟩, ⟨sv', sc', hb h3, h4.fr hf (fun k hk e => hk e)⟩, hb h.img, ⟨A, c, hb h5, h6, h7.fr hf (fun k hk e => hk e)⟩, ⟨A', c', hb h8, h9, h10.fr hf (fun k hk e => hk e)⟩, ⟨hb h11, np, h12.fr hf h.nbp⟩, hb h.poss, hb h.asn, h.nbp⟩
/-- What assign leaves. -/
def AsgPost (k : Cap) (n : Nat) (im : ByteArray → Option Tm) (R : Option (ByteArray → Option Tm)) (m : Nat) (w : World) (e : Ending) (w' : World) : Prop :=
  Fr (fun j => j = k.bm) w w' ∧ match R with
    | some im' => e = .returned (.bool true) ∧ ∃ n', MapV w' k.bm n' (imF im')
    | none => e = .returned (.bool false) ∧ ∃ n', n' ≤ n + m ∧ MapV w' k.bm n' (imF im)
theorem find_first {α β : Type} {f : α → Option β} {l : List α} {j : Nat} {b : β} (hj : j < l.length) (h : f l[j] = some b) (hn : ∀ i (hi : i < l.length), i < j → f l[i] = none) : l.findSome? f = some b := by
  induction l generalizing j with
  | nil => simp at hj
  | cons a l ih =>
    rcases j with _ | j
    · simp only [List.getElem_cons_zero] at h; simp [List.findSome?_cons, h]
    · have h0 : f a = none := hn 0 (by simp) (by omega)
      rw [List.findSome?_cons, h0]
      exact ih (j := j) (by simpa using hj) (by simpa using h) (fun i hi hij => by have := hn (i + 1) (by simp; omega) (by omega); simpa using this)
theorem find_none {α β : Type} {f : α → Option β} {l : List α} (hn : ∀ i (hi : i < l.length), f l[i] = none) : l.findSome? f = none :=
  List.findSome?_eq_none_iff.2 (fun x hx => by obtain ⟨i, hi, rfl⟩ := List.getElem_of_mem hx; exact hn i hi)
/-- After j candidates. -/
def AsI (k : Cap) (w : World) (im : ByteArray → Option Tm) (v : ByteArray) (f : Tm → Option (ByteArray → Option Tm)) (cs : List Tm) (n sn j : Nat) (wr : World) : Prop :=
  ∃ (m : Nat) (o : Option Tm), (∀ l (h : l < cs.length), l < j → f cs[l] = none) ∧ Fr (fun b => b = k.bm) w wr ∧ MapV wr k.bm m (imF (updT im v o)) ∧ m ≤ n + j * (1 + sn)
set_option maxRecDepth 20000 in
set_option maxHeartbeats 1600000 in
theorem assign_any {k : Cap} {xs ys : List At} {vs : List ByteArray} {cs : List Tm} {pin : ByteArray → Bool} (hbx : Bd xs) (hby : Bd ys) (hcs : cs.length ≤ 1000) (hvl : vs.length ≤ 1000) (hvs : ∀ v ∈ vs, v.size ≤ maxLen) :
    ∀ (rest : List ByteArray) (i n : Nat) (im : ByteArray → Option Tm) (w : World), vs.drop i = rest → i ≤ vs.length → FE w k xs ys vs cs pin → MapV w k.bm n (imF im) → (∀ v ∈ rest, im v = none) → rest.Nodup → n + stores cs.length rest.length ≤ 1000000000000000000 →
    Calls Tryd.prog 69 #[.int .i64 (i : Int), .pointer (some ⟨k.gV, 0, none⟩), .pointer (some ⟨k.gC, 0, none⟩), .pointer (some ⟨k.gP, 0, none⟩), .pointer (some ⟨k.gI, 0, none⟩), .pointer (some ⟨k.gPo, 0, none⟩), .pointer (some ⟨k.gAs, 0, none⟩)] w
      (AsgPost k n im (asg (fun im v => possB im xs ys v) pin cs rest im) (stores cs.length rest.length) w) := by
  intro rest
  induction rest with
  | nil =>
    intro i n im w hd hi hfe hm _ _ _
    have hil : i = vs.length := by have := List.drop_eq_nil_iff.1 hd; omega
    obtain ⟨A, c, kv, hc, -⟩ := hfe.vars
    have a0 := kv.cell (i := 0) (by simp)
    simp only [List.getElem_cons_zero] at a0
    rw [← hil] at a0
    have HM := Lib.hid hm
    clear hd hi hfe hm kv hc hvs hbx hby
    go_enter Tryd.func69, Tryd.ntmps69
    go_wp2_with fail
    go_ret
    exact ⟨Fr.refl _ _, rfl, n, HM.out⟩
  | cons v rest ih =>
    intro i n im w hd hi hfe hm hnone hnd hst
    have hiv : i < vs.length := by
      rcases Nat.lt_or_ge i vs.length with h | h
      · exact h
      · rw [List.drop_eq_nil_of_le h] at hd; cases hd
    have hvi : vs[i] = v ∧ vs.drop (i + 1) = rest := by
      rw [List.drop_eq_getElem_cons hiv] at hd
      injection hd with h1 h2
      exact ⟨h1, h2⟩
    obtain ⟨sn, hsn⟩ : ∃ sn, sn = stores cs.length rest.length := ⟨_, rfl⟩
    have hst2 : n + cs.length * (1 + sn) ≤ 1000000000000000000 := by rw [hsn]; exact hst
    obtain ⟨f, hf⟩ : ∃ f, f = fun t => if pin v = true ∧ t ≠ varT v then none else if possB (updT im v (some t)) xs ys v = true then asg (fun im v => possB im xs ys v) pin cs rest (updT im v (some t)) else none := ⟨_, rfl⟩
    have hR : asg (fun im v => possB im xs ys v) pin cs (v :: rest) im = cs.findSome? f := by rw [hf]; rfl
    have hv0 : im v = none := hnone v (by simp)
    have hsv : v.size ≤ maxLen := hvs v (by rw [← hvi.1]; exact List.getElem_mem hiv)
    have hS : stores cs.length (v :: rest).length = cs.length * (1 + sn) := by rw [hsn]; rfl
    rw [hR, hS]
    have HR := Lib.hid hf; have HSN := Lib.hid hsn; have HVI := Lib.hid hvi; have HND := Lib.hid hnd; have HNONE := Lib.hid hnone; have HV0 := Lib.hid hv0
    obtain ⟨A, c, kv, hc, hclv⟩ := hfe.vars
    obtain ⟨Ac, cc, kc, hcc, hclc⟩ := hfe.cand
    have a0 := kv.cell (i := 0) (by simp)
    have a1 := kc.cell (i := 0) (by simp)
    simp only [List.getElem_cons_zero] at a0 a1
    obtain ⟨ad, rfl, -, a2⟩ := hclv.at' (j := i) (x := .string v) (by simp [hiv, hvi.1])
    have HFE := Lib.hid hfe; have HM := Lib.hid hm; have HCLC := Lib.hid hclc; have HIH := Lib.hid ih; have HBX := Lib.hid hbx; have HBY := Lib.hid hby
    obtain ⟨nv, hnv⟩ : ∃ nv, nv = vs.length := ⟨_, rfl⟩
    obtain ⟨nc, hnc⟩ : ∃ nc, nc = cs.length := ⟨_, rfl⟩
    rw [← hnv] at a0 hc hvl hiv
    rw [← hnc] at a1 hcc hcs hst2 ⊢
    have HNV := Lib.hid hnv; have HNC := Lib.hid hnc
    have j1 : (0 : Int) ≤ (i : Int) := by omega
    have j2 : (i : Int) < (nv : Int) := by omega
    have j3 : ((i : Int) == (nv : Int)) = false := beq_false_of_ne (by omega)
    clear hd hi hfe hm hnone hnd hst hvs hbx hby ih hf hR hvi hsn hv0 hS kv kc hclv hclc hnv hnc
    go_enter Tryd.func69, Tryd.ntmps69
    go_wp2_with fail
    clear a0 a1 a2 j3
    go_loopw [22] (fun q wr => ∃ j : Nat, j ≤ nc ∧ q = .int .i64 (j : Int) ∧ AsI k w im v f cs n sn j wr) (fun q _ => nc - (intOf q).toNat)
    case atStart => exact ⟨0, Nat.zero_le _, rfl, n, none, fun _ _ h => absurd h (by omega), Fr.refl _ _, by rw [updT_none HV0.out]; exact HM.out, by omega⟩
    case round =>
      obtain ⟨j, hj, rfl, m, o, hnn, hfr, hmv, hmb⟩ := hrel
      have HNN := Lib.hid hnn; have HFR := Lib.hid hfr; have HMV := Lib.hid hmv; have HMB := Lib.hid hmb
      clear hnn
      by_cases hlt : j < nc
      · have k1 : (0 : Int) ≤ (j : Int) := by omega
        have k2 : (j : Int) < (nc : Int) := by omega
        have hjc : j < cs.length := by have := HNC.out; omega
        obtain ⟨ad2, rfl, hFa, d0, d1, d2, d3⟩ := HCLC.out.term (i := j) hjc
        replace d0 := hfr.cell d0 (by rw [block_add]; exact hFa)
        replace d1 := hfr.cell d1 (by simp only [block_add]; exact hFa)
        replace d2 := hfr.cell d2 (by simp only [block_add]; exact hFa)
        replace d3 := hfr.cell d3 (by simp only [block_add]; exact hFa)
        obtain ⟨x, hx⟩ : ∃ x, x = cs[j] := ⟨_, rfl⟩
        rw [← hx] at d0 d1 d2 d3
        have HX := Lib.hid hx
        have hfe := HFE.out.fr HM.out hfr
        have hx1 : Ext wr (wr.alloc (.cells #[.string x.var, .int .i64 x.kind, .int .i64 x.int, .string x.str] 66)) := (Ext.refl wr).alloc _
        have kt := Bk.new wr 66 [.string x.var, .int .i64 x.kind, .int .i64 x.int, .string x.str]
        change Bk (wr.alloc (.cells #[.string x.var, .int .i64 x.kind, .int .i64 x.int, .string x.str] 66)) _ _ _ at kt
        have hfe1 := hfe.fr hmv (hx1.fr _)
        have hmv1 := hmv.ext hx1
        obtain ⟨kp, np, hpm⟩ := hfe1.pins
        have p0 := kp.cell (i := 0) (by simp)
        have p1 := hfe1.img.cell (i := 0) (by simp)
        simp only [List.getElem_cons_zero] at p0 p1
        have HFE1 := Lib.hid hfe1; have HMV1 := Lib.hid hmv1; have HPM := Lib.hid hpm; have HKT := Lib.hid kt; have HX1 := Lib.hid hx1
        have hnext : f x = none → ∀ l (h : l < cs.length), l < j + 1 → f cs[l] = none := fun hfx l h hl => by
          rcases Nat.lt_or_ge l j with h2 | h2
          · exact HNN.out l h h2
          · obtain rfl : l = j := by omega
            rw [← HX.out]; exact hfx
        have HNX := Lib.hid hnext
        have hmm : m < maxLen := by
          have : j * (1 + sn) ≤ nc * (1 + sn) := Nat.mul_le_mul_right _ (by omega)
          simp only [maxLen]; omega
        clear hnext hx hfe hfe1 hmv1 kp hpm hfr hmv hmb hx1
        go_upto_region 7 with fail
        have s0 := kt.cell (i := 0) (by simp)
        have s1 := kt.cell (i := 1) (by simp)
        have s2 := kt.cell (i := 2) (by simp)
        have s3 := kt.cell (i := 3) (by simp)
        simp only [List.getElem_cons_zero, List.getElem_cons_succ] at s0 s1 s2 s3
        generalize (wr.alloc (.cells #[.string x.var, .int .i64 x.kind, .int .i64 x.int, .string x.str] 66)) = wy at *
        clear kt d0 d1 d2 d3
        by_cases hpin : pin v = true
        · by_cases hxv : x = varT v
          · have HGO0 : Hid (¬ (pin v = true ∧ x ≠ varT v)) := Lib.hid (fun h => h.2 hxv)
            have hpv : (pinF pin v).getD (.bool false) = .bool true := by rw [pinF, if_pos hpin]; rfl
            have HPV := Lib.hid hpv
            have HXV := Lib.hid hxv
            subst hxv
            clear hpin hpv
            have hgo : f (varT v) = if possB (updT im v (some (varT v))) xs ys v = true then asg (fun im v => possB im xs ys v) pin cs rest (updT im v (some (varT v))) else none := by rw [HR.out]; simp only; rw [if_neg HGO0.out]
            have HGO := Lib.hid hgo
            clear hgo
            go_wp2_with (first
              | (at_lookup; refine wpList_lookup_V rfl _ _ 68 4 rfl Tryd.underlying68 (.bool false) (zero_bool _) k.bp np (pinF pin) rfl HPM.out v rfl hsv (.bool true) HPV.out ?_)
              | (at_mapUpdate; refine wpList_update_V rfl _ _ _ 87 66 rfl Tryd.underlying87 k.bm m (imF (updT im v o)) rfl HMV1.out hmm v (.agg #[.string v, .int .i64 0, .int .i64 0, .string ⟨#[]⟩]) rfl hsv rfl ?_; intro w3 hm3 hg3; have hm3' : MapV w3 k.bm (m + 1) (imF (updT im v (some (varT v)))) := (by have e := imF_upd (updT im v o) v (some (varT v)); rw [updT_twice] at e; rw [e]; exact hm3); have hf3 : Fr (fun b => b = k.bm) wy w3 := (grown_fr hg3).mono (fun b _ e => by injection e with e; exact e.symm); have hfe3 := HFE1.out.fr HMV1.out hf3; have q0 := hfe3.poss.cell (i := 0) (by simp); simp only [List.getElem_cons_zero] at q0; have HM3 := Lib.hid hm3'; have HF3 := Lib.hid hf3; have HFE3 := Lib.hid hfe3; clear hm3 hg3 hm3' hf3 hfe3))
            obtain ⟨svF, scF, kF, hF⟩ := HFE3.out.fr'
            obtain ⟨svT, scT, kT, hT⟩ := HFE3.out.to'
            refine (find1 (v := v) hF hT HBX.out HBY.out kF kT HFE3.out.img HM3.out).mono ?_
            rintro e w4 ⟨y, rfl, he4, rfl⟩
            have hfe4 := HFE3.out.fr HM3.out (he4.fr _)
            have HM4 := Lib.hid (HM3.out.ext he4)
            have q1 := hfe4.asn.cell (i := 0) (by simp)
            simp only [List.getElem_cons_zero] at q1
            have HFE4 := Lib.hid hfe4
            have HF4 := Lib.hid ((((HFR.out.ext HX1.out).trans HF3.out)).ext he4)
            clear kF kT hF hT he4 hfe4 q0 s0 s1 s2 s3 p0 p1
            have hmb2 : m + 1 ≤ n + (j + 1) * (1 + sn) := by have := HMB.out; rw [Nat.succ_mul]; omega
            have hmb3 : m + 1 + sn ≤ n + (j + 1) * (1 + sn) := by have := HMB.out; rw [Nat.succ_mul]; omega
            have hmb4 : m + 1 + sn ≤ 1000000000000000000 := by
              have : (j + 1) * (1 + sn) ≤ nc * (1 + sn) := Nat.mul_le_mul_right _ (by omega)
              omega
            rcases hpo : possB (updT im v (some (varT v))) xs ys v with _ | _
            · have HF0 : Hid (f (varT v) = none) := Lib.hid (by rw [HGO.out, hpo]; simp)
              clear hpo q1
              go_wp2_with fail
              go_roundw
              case rel =>
                first
                  | exact ⟨j + 1, by omega, by go_num, m + 1, some (varT v), HNX.out HF0.out, HF4.out, HM4.out, hmb2⟩
                  | exact ⟨_, _, _, ⟨j + 1, by omega, rfl, m + 1, some (varT v), HNX.out HF0.out, HF4.out, HM4.out, hmb2⟩, rfl, rfl, by go_num⟩
              case measure => simp [intOf]; omega
            · have HFX : Hid (f (varT v) = asg (fun im v => possB im xs ys v) pin cs rest (updT im v (some (varT v)))) := Lib.hid (by rw [HGO.out, hpo]; simp)
              clear hpo
              have hnone2 : ∀ u ∈ rest, updT im v (some (varT v)) u = none := fun u hu => by
                have hne : u ≠ v := fun e => (List.nodup_cons.1 HND.out).1 (e ▸ hu)
                rw [updT, if_neg hne]
                exact HNONE.out u (List.mem_cons_of_mem _ hu)
              have HCALL := Lib.hid (HIH.out (i + 1) (m + 1) (updT im v (some (varT v))) w4 HVI.out.2 (by have := HNV.out; omega) HFE4.out HM4.out hnone2 (List.nodup_cons.1 HND.out).2 (by rw [← HSN.out]; exact hmb4))
              rw [← HSN.out] at HCALL
              have hcast : ((i + 1 : Nat) : Int) = (i : Int) + 1 := by omega
              rw [hcast] at HCALL
              clear hnone2 hcast
              go_wp2_with fail
              refine HCALL.out.mono ?_
              intro e w5 hpost
              obtain ⟨hf5, hpost⟩ := hpost
              have HF5 := Lib.hid (HF4.out.trans hf5)
              clear hf5 q1
              rcases has : asg (fun im v => possB im xs ys v) pin cs rest (updT im v (some (varT v))) with _ | im'
              · rw [has] at hpost
                obtain ⟨rfl, n5, hn5, hm5⟩ := hpost
                have HF0 : Hid (f (varT v) = none) := Lib.hid (by rw [HFX.out, has])
                have HM5 := Lib.hid hm5; have HN5 := Lib.hid hn5
                clear has hm5 hn5
                go_wp2_with fail
                go_roundw
                case rel =>
                  first
                    | exact ⟨j + 1, by omega, by go_num, n5, some (varT v), HNX.out HF0.out, HF5.out, HM5.out, Nat.le_trans HN5.out hmb3⟩
                    | exact ⟨_, _, _, ⟨j + 1, by omega, rfl, n5, some (varT v), HNX.out HF0.out, HF5.out, HM5.out, Nat.le_trans HN5.out hmb3⟩, rfl, rfl, by go_num⟩
                case measure => simp [intOf]; omega
              · rw [has] at hpost
                obtain ⟨rfl, n5, hm5⟩ := hpost
                have HF0 : Hid (f (varT v) = some im') := Lib.hid (by rw [HFX.out, has])
                have HM5 := Lib.hid hm5
                clear has hm5
                go_wp2_with fail
                go_ret
                refine ⟨HF5.out, ?_⟩
                rw [find_first hjc (by rw [← HX.out]; exact HF0.out) HNN.out]
                exact ⟨rfl, n5, HM5.out⟩
          · have HF0 : Hid (f x = none) := Lib.hid (by rw [HR.out]; simp only; rw [if_pos ⟨hpin, hxv⟩])
            have hpv : (pinF pin v).getD (.bool false) = .bool true := by rw [pinF, if_pos hpin]; rfl
            have HPV := Lib.hid hpv
            rcases Tm.ne4 (x := varT v) (t := x) (fun e => hxv e.symm) with h1 | ⟨h1, h2 | ⟨h2, h3 | ⟨h3, h4⟩⟩⟩
            all_goals
              try (rw [show (varT v).str.toList = [] from nil_toList] at h4)
              clear hxv hpin hpv
              go_wp2_with (first | (at_lookup; refine wpList_lookup_V rfl _ _ 68 4 rfl Tryd.underlying68 (.bool false) (zero_bool _) k.bp np (pinF pin) rfl HPM.out v rfl hsv (.bool true) HPV.out ?_))
              go_roundw
              case rel => exact ⟨j + 1, by omega, by go_num, m, o, HNX.out HF0.out, HFR.out.ext HX1.out, HMV1.out, by have := HMB.out; rw [Nat.succ_mul]; omega⟩
              case measure => simp [intOf]; omega
        · have HGO0 : Hid (¬ (pin v = true ∧ x ≠ varT v)) := Lib.hid (fun h => hpin h.1)
          have hpv : (pinF pin v).getD (.bool false) = .bool false := by rw [pinF, if_neg hpin]; rfl
          have HPV := Lib.hid hpv
          clear hpin hpv
          have hgo : f x = if possB (updT im v (some x)) xs ys v = true then asg (fun im v => possB im xs ys v) pin cs rest (updT im v (some x)) else none := by rw [HR.out]; simp only; rw [if_neg HGO0.out]
          have HGO := Lib.hid hgo
          clear hgo
          go_wp2_with (first
            | (at_lookup; refine wpList_lookup_V rfl _ _ 68 4 rfl Tryd.underlying68 (.bool false) (zero_bool _) k.bp np (pinF pin) rfl HPM.out v rfl hsv (.bool false) HPV.out ?_)
            | (at_mapUpdate; refine wpList_update_V rfl _ _ _ 87 66 rfl Tryd.underlying87 k.bm m (imF (updT im v o)) rfl HMV1.out hmm v (.agg #[.string x.var, .int .i64 x.kind, .int .i64 x.int, .string x.str]) rfl hsv rfl ?_; intro w3 hm3 hg3; have hm3' : MapV w3 k.bm (m + 1) (imF (updT im v (some x))) := (by have e := imF_upd (updT im v o) v (some x); rw [updT_twice] at e; rw [e]; exact hm3); have hf3 : Fr (fun b => b = k.bm) wy w3 := (grown_fr hg3).mono (fun b _ e => by injection e with e; exact e.symm); have hfe3 := HFE1.out.fr HMV1.out hf3; have q0 := hfe3.poss.cell (i := 0) (by simp); simp only [List.getElem_cons_zero] at q0; have HM3 := Lib.hid hm3'; have HF3 := Lib.hid hf3; have HFE3 := Lib.hid hfe3; clear hm3 hg3 hm3' hf3 hfe3))
          obtain ⟨svF, scF, kF, hF⟩ := HFE3.out.fr'
          obtain ⟨svT, scT, kT, hT⟩ := HFE3.out.to'
          refine (find1 (v := v) hF hT HBX.out HBY.out kF kT HFE3.out.img HM3.out).mono ?_
          rintro e w4 ⟨y, rfl, he4, rfl⟩
          have hfe4 := HFE3.out.fr HM3.out (he4.fr _)
          have HM4 := Lib.hid (HM3.out.ext he4)
          have q1 := hfe4.asn.cell (i := 0) (by simp)
          simp only [List.getElem_cons_zero] at q1
          have HFE4 := Lib.hid hfe4
          have HF4 := Lib.hid ((((HFR.out.ext HX1.out).trans HF3.out)).ext he4)
          clear kF kT hF hT he4 hfe4 q0 s0 s1 s2 s3 p0 p1
          have hmb2 : m + 1 ≤ n + (j + 1) * (1 + sn) := by have := HMB.out; rw [Nat.succ_mul]; omega
          have hmb3 : m + 1 + sn ≤ n + (j + 1) * (1 + sn) := by have := HMB.out; rw [Nat.succ_mul]; omega
          have hmb4 : m + 1 + sn ≤ 1000000000000000000 := by
            have : (j + 1) * (1 + sn) ≤ nc * (1 + sn) := Nat.mul_le_mul_right _ (by omega)
            omega
          rcases hpo : possB (updT im v (some x)) xs ys v with _ | _
          · have HF0 : Hid (f x = none) := Lib.hid (by rw [HGO.out, hpo]; simp)
            clear hpo q1
            go_wp2_with fail
            go_roundw
            case rel =>
              first
                | exact ⟨j + 1, by omega, by go_num, m + 1, some x, HNX.out HF0.out, HF4.out, HM4.out, hmb2⟩
                | exact ⟨_, _, _, ⟨j + 1, by omega, rfl, m + 1, some x, HNX.out HF0.out, HF4.out, HM4.out, hmb2⟩, rfl, rfl, by go_num⟩
            case measure => simp [intOf]; omega
          · have HFX : Hid (f x = asg (fun im v => possB im xs ys v) pin cs rest (updT im v (some x))) := Lib.hid (by rw [HGO.out, hpo]; simp)
            clear hpo
            have hnone2 : ∀ u ∈ rest, updT im v (some x) u = none := fun u hu => by
              have hne : u ≠ v := fun e => (List.nodup_cons.1 HND.out).1 (e ▸ hu)
              rw [updT, if_neg hne]
              exact HNONE.out u (List.mem_cons_of_mem _ hu)
            have HCALL := Lib.hid (HIH.out (i + 1) (m + 1) (updT im v (some x)) w4 HVI.out.2 (by have := HNV.out; omega) HFE4.out HM4.out hnone2 (List.nodup_cons.1 HND.out).2 (by rw [← HSN.out]; exact hmb4))
            rw [← HSN.out] at HCALL
            have hcast : ((i + 1 : Nat) : Int) = (i : Int) + 1 := by omega
            rw [hcast] at HCALL
            clear hnone2 hcast
            go_wp2_with fail
            refine HCALL.out.mono ?_
            intro e w5 hpost
            obtain ⟨hf5, hpost⟩ := hpost
            have HF5 := Lib.hid (HF4.out.trans hf5)
            clear hf5 q1
            rcases has : asg (fun im v => possB im xs ys v) pin cs rest (updT im v (some x)) with _ | im'
            · rw [has] at hpost
              obtain ⟨rfl, n5, hn5, hm5⟩ := hpost
              have HF0 : Hid (f x = none) := Lib.hid (by rw [HFX.out, has])
              have HM5 := Lib.hid hm5; have HN5 := Lib.hid hn5
              clear has hm5 hn5
              go_wp2_with fail
              go_roundw
              case rel =>
                first
                  | exact ⟨j + 1, by omega, by go_num, n5, some x, HNX.out HF0.out, HF5.out, HM5.out, Nat.le_trans HN5.out hmb3⟩
                  | exact ⟨_, _, _, ⟨j + 1, by omega, rfl, n5, some x, HNX.out HF0.out, HF5.out, HM5.out, Nat.le_trans HN5.out hmb3⟩, rfl, rfl, by go_num⟩
              case measure => simp [intOf]; omega
            · rw [has] at hpost
              obtain ⟨rfl, n5, hm5⟩ := hpost
              have HF0 : Hid (f x = some im') := Lib.hid (by rw [HFX.out, has])
              have HM5 := Lib.hid hm5
              clear has hm5
              go_wp2_with fail
              go_ret
              refine ⟨HF5.out, ?_⟩
              rw [find_first hjc (by rw [← HX.out]; exact HF0.out) HNN.out]
              exact ⟨rfl, n5, HM5.out⟩
      · obtain rfl : j = nc := by omega
        have hdn : ¬ (j : Int) < (j : Int) := by omega
        have hfe := HFE.out.fr HM.out hfr
        have p1 := hfe.img.cell (i := 0) (by simp)
        simp only [List.getElem_cons_zero] at p1
        clear hfe hfr hmv hmb
        go_wp2_with (first | (at_delete; refine wpList_delete_V rfl _ _ 87 66 rfl Tryd.underlying87 k.bm m (imF (updT im v o)) rfl HMV.out v rfl hsv ?_; intro w3 hm3 hg3; have hm3' : MapV w3 k.bm m (imF im) := (by have e := imF_upd (updT im v o) v none; rw [updT_twice, updT_none HV0.out] at e; rw [e]; exact hm3); have HM3 := Lib.hid hm3'; have HF3 := Lib.hid (HFR.out.grown hg3 (fun b e => .inl (by injection e with e; exact e.symm))); clear hm3 hg3 hm3'))
        go_ret
        refine ⟨HF3.out, ?_⟩
        rw [find_none (fun l h => HNN.out l h (by have := HNC.out; omega))]
        exact ⟨rfl, m, HMB.out, HM3.out⟩
/-- The search that Find does. -/
def findS (xs ys : List At) (fx : List ByteArray) : Option (ByteArray → Option Tm) :=
  if possB (fun _ => none) xs ys ⟨#[]⟩ = true then asg (fun im v => possB im xs ys v) (fun s => decide (s ∈ fx)) (distT (allT ys)) (varsT (allT xs)) (fun _ => none) else none
def zeroT : Tm := ⟨⟨#[]⟩, 0, 0, ⟨#[]⟩⟩
def pairC (v : ByteArray) (t : Tm) : List Value := [.string v, .string t.var, .int .i64 t.kind, .int .i64 t.int, .string t.str]
def pcells (l : List (ByteArray × Tm)) : List Value := l.flatMap (fun p => pairC p.1 p.2)
def pairsOf (vs : List ByteArray) (im : ByteArray → Option Tm) : List (ByteArray × Tm) := vs.map (fun v => (v, (im v).getD zeroT))
/-- What Find leaves. -/
def FindPost (xs ys : List At) (fx : List ByteArray) (w : World) (e : Ending) (w' : World) : Prop :=
  Ext w w' ∧ match findS xs ys fx with
    | none => e = .returned (.tuple #[.slice none 0 0, .bool false, .int .i64 0])
    | some im => ∃ v, e = .returned (.tuple #[v, .bool true, .int .i64 0]) ∧ w'.ownsRow w.heap.size 102 5 v (varsT (allT xs)).length (pcells (pairsOf (varsT (allT xs)) im))
theorem varsT_nodup (l : List Tm) : (varsT l).Nodup := by
  suffices hs : ∀ (l : List Tm) (vs : List ByteArray), vs.Nodup → (l.foldl (fun vs t => addV vs t.var) vs).Nodup from hs l [] List.Pairwise.nil
  intro l
  induction l with
  | nil => intro vs h; exact h
  | cons t l ih =>
    intro vs h
    refine ih _ ?_
    simp only [addV]
    split
    · exact h
    · rename_i hn
      exact List.nodup_append.2 ⟨h, List.nodup_cons.2 ⟨by simp, List.Pairwise.nil⟩, fun a ha b hb e => by simp at hb; subst hb; subst e; exact hn (.inr ha)⟩
/-- A slice of names. -/
def Strs (F : Nat → Prop) (w : World) (v : Value) (l : List ByteArray) : Prop := ∃ A c, v = .slice A l.length c ∧ l.length ≤ c ∧ Cl F w A (l.map Sv)
theorem pinF_snoc (l : List ByteArray) (s : ByteArray) : updV (pinF (fun t => decide (t ∈ l))) s (some (.bool true)) = pinF (fun t => decide (t ∈ l ++ [s])) := by
  funext t
  unfold updV pinF
  by_cases e : t = s
  · rw [if_pos e, if_pos (by simp [e])]
  · rw [if_neg e]
    by_cases h : t ∈ l
    · rw [if_pos (by simp [h]), if_pos (by simp [h])]
    · rw [if_neg (by simp [h]), if_neg (by simp [h, e])]
theorem pcells_snoc (l : List (ByteArray × Tm)) (v : ByteArray) (t : Tm) : pcells (l ++ [(v, t)]) = pcells l ++ pairC v t := by simp [pcells]
theorem info_pair : (Tryd.prog.info? 102).map (fun i => (i.zero, i.size, i.bytes)) = some (some (.agg #[.string ⟨#[]⟩, .string ⟨#[]⟩, .int .i64 0, .int .i64 0, .string ⟨#[]⟩]), 5, 64) := by kernel_rfl
theorem own_base {w : World} {b b' size n : Nat} {e : TypeId} {v : Value} {xs : List Value} (h : w.ownsRow b e size v n xs) (hb : b' ≤ b) : w.ownsRow b' e size v n xs := by
  obtain ⟨h1, h2⟩ := h
  refine ⟨h1, ?_⟩
  rcases h2 with h2 | ⟨g, cap, cur, h3, h4, h5⟩
  · exact .inl h2
  · exact .inr ⟨g, cap, cur, h3, Nat.le_trans hb h4, h5⟩
theorem five_new (w : World) (o0 o2 o3 o4 : List Value) (t0 t2 t3 t4 : TypeId) (W : World) (hW : W = ((((w.alloc (.cells o0.toArray t0)).alloc (.map #[] 0)).alloc (.cells o2.toArray t2)).alloc (.cells o3.toArray t3)).alloc (.cells o4.toArray t4)) :
    Bk W w.heap.size t0 o0 ∧ MapV W (w.heap.size + 1) 0 (fun _ => none) ∧ Bk W (w.heap.size + 1 + 1) t2 o2 ∧ Bk W (w.heap.size + 1 + 1 + 1) t3 o3 ∧ Bk W (w.heap.size + 1 + 1 + 1 + 1) t4 o4 ∧ Ext w W := by
  subst hW
  have k0 := Bk.new w t0 o0
  have k1 := MapV.made (w.alloc (.cells o0.toArray t0))
  have k2 := Bk.new ((w.alloc (.cells o0.toArray t0)).alloc (.map #[] 0)) t2 o2
  have k3 := Bk.new (((w.alloc (.cells o0.toArray t0)).alloc (.map #[] 0)).alloc (.cells o2.toArray t2)) t3 o3
  have k4 := Bk.new ((((w.alloc (.cells o0.toArray t0)).alloc (.map #[] 0)).alloc (.cells o2.toArray t2)).alloc (.cells o3.toArray t3)) t4 o4
  rw [show (w.alloc (.cells o0.toArray t0)).heap.size = w.heap.size + 1 by simp] at k1
  rw [show ((w.alloc (.cells o0.toArray t0)).alloc (.map #[] 0)).heap.size = w.heap.size + 1 + 1 by simp] at k2
  rw [show (((w.alloc (.cells o0.toArray t0)).alloc (.map #[] 0)).alloc (.cells o2.toArray t2)).heap.size = w.heap.size + 1 + 1 + 1 by simp] at k3
  rw [show ((((w.alloc (.cells o0.toArray t0)).alloc (.map #[] 0)).alloc (.cells o2.toArray t2)).alloc (.cells o3.toArray t3)).heap.size = w.heap.size + 1 + 1 + 1 + 1 by simp] at k4
  have E : ∀ (X : World) (o : Obj), Ext X (X.alloc o) := fun X o => (Ext.refl X).alloc o
  exact ⟨(((k0.alloc _).alloc _).alloc _).alloc _, ((k1.ext (E _ _)).ext (E _ _)).ext (E _ _), (k2.alloc _).alloc _, k3.alloc _, k4, ((((E w _).trans (E _ _)).trans (E _ _)).trans (E _ _)).trans (E _ _)⟩
theorem stores_le (c : Nat) : ∀ k, stores c k + 1 ≤ (c + 1) ^ k
  | 0 => by simp [stores]
  | k + 1 => by
    have h := stores_le c k
    have h2 := Nat.mul_le_mul_left c h
    rw [Nat.pow_succ, Nat.mul_comm ((c + 1) ^ k) (c + 1), Nat.add_mul]
    simp only [stores, Nat.one_mul]
    rw [Nat.add_comm 1 (stores c k)]
    omega
theorem stores_ok {c k : Nat} (hc : c ≤ 48) (hk : k ≤ 8) : 0 + stores c k ≤ 1000000000000000000 := by
  have h1 := stores_le c k
  have h2 : (c + 1) ^ k ≤ 49 ^ 8 := Nat.le_trans (Nat.pow_le_pow_left (show c + 1 ≤ 49 by omega) k) (Nat.pow_le_pow_right (by omega) hk)
  have h3 : 49 ^ 8 ≤ 1000000000000000000 := by decide
  omega
theorem Cl.own {w : World} {base size n m : Nat} {e : TypeId} {A : Option Addr} {c : Nat} {xs : List Value} (h : w.ownsRow base e size (.slice A n c) m xs) (G : Nat → Prop) (hG : ∀ k, k < w.heap.size → G k) : n ≤ c ∧ n = m ∧ Cl G w A xs := by
  obtain ⟨A', c', h1, h2, h3⟩ := Cl.of_own h
  injection h1 with h4 h5 h6
  subst h4 h5 h6
  exact ⟨h2, rfl, h3.mono (fun k hk _ => hG k hk)⟩
set_option maxRecDepth 100000 in
set_option maxHeartbeats 3200000 in
theorem find_good {F G H : Nat → Prop} {w : World} {svF svT vx : Value} {AF AT : Option Addr} {ccF ccT : Nat} {xs ys : List At} {fx : List ByteArray} (hF : Ats F w svF xs) (hT : Ats G w svT ys) (hX : Strs H w vx fx) (hbx : Bd xs) (hby : Bd ys) (hpx : Hid (hpureB xs 0 = true)) (hpy : Hid (hpureB ys 0 = true))
    (hlx : xs.length ≤ 8) (hly : ys.length ≤ 8) (htx : Hid (∀ a ∈ xs, a.terms.length ≤ 6)) (hty : Hid (∀ a ∈ ys, a.terms.length ≤ 6)) (hvx : (varsT (allT xs)).length ≤ 8) (hcy : (distT (allT ys)).length ≤ 48) (hfx : fx.length ≤ 1000) (hfs : Hid (∀ v ∈ fx, v.size ≤ maxLen)) (hvs : Hid (∀ v ∈ varsT (allT xs), v.size ≤ maxLen)) :
    Calls Tryd.prog 52 #[.agg #[svF, .slice AF 0 ccF], .agg #[svT, .slice AT 0 ccT], vx] w (FindPost xs ys fx w) := by
  have HF := Lib.hid hF; have HT := Lib.hid hT; have HBX := Lib.hid hbx; have HBY := Lib.hid hby
  obtain ⟨A1, c1, n1, h1⟩ : ∃ A c n, svF = .slice A n c := by obtain ⟨A, c, vs, hv, _⟩ := hF; exact ⟨A, c, _, hv⟩
  obtain ⟨A2, c2, n2, h2⟩ : ∃ A c n, svT = .slice A n c := by obtain ⟨A, c, vs, hv, _⟩ := hT; exact ⟨A, c, _, hv⟩
  obtain ⟨Ax, cx, rfl, hcx, hclx⟩ := hX
  subst h1 h2
  obtain ⟨nf, hnf⟩ : ∃ nf, nf = fx.length := ⟨_, rfl⟩
  rw [← hnf] at hcx hfx ⊢
  have HNF := Lib.hid hnf; have HCLX := Lib.hid hclx; have HLX := Lib.hid (And.intro hlx hly)
  clear hF hT hbx hby hnf hclx hlx hly
  have hmk := @run_makeMap Tryd.prog
  go_enter Tryd.func52, Tryd.ntmps52
  go_wp2_with fail
  have hx : Ext w ((w.alloc (.cells #[.slice A1 n1 c1, .slice AF 0 ccF] 25)).alloc (.cells #[.slice A2 n2 c2, .slice AT 0 ccT] 25)) := ((Ext.refl w).alloc _).alloc _
  have kf : Bk ((w.alloc (.cells #[.slice A1 n1 c1, .slice AF 0 ccF] 25)).alloc (.cells #[.slice A2 n2 c2, .slice AT 0 ccT] 25)) w.heap.size 25 [.slice A1 n1 c1, .slice AF 0 ccF] := (Bk.new w _ [.slice A1 n1 c1, .slice AF 0 ccF]).alloc _
  have kt : Bk ((w.alloc (.cells #[.slice A1 n1 c1, .slice AF 0 ccF] 25)).alloc (.cells #[.slice A2 n2 c2, .slice AT 0 ccT] 25)) (w.heap.size + 1) 25 [.slice A2 n2 c2, .slice AT 0 ccT] := by
    have h := Bk.new (w.alloc (.cells #[.slice A1 n1 c1, .slice AF 0 ccF] 25)) 25 [.slice A2 n2 c2, .slice AT 0 ccT]
    rw [show (w.alloc (.cells #[.slice A1 n1 c1, .slice AF 0 ccF] 25)).heap.size = w.heap.size + 1 by simp] at h
    exact h
  generalize ((w.alloc (.cells #[.slice A1 n1 c1, .slice AF 0 ccF] 25)).alloc (.cells #[.slice A2 n2 c2, .slice AT 0 ccT] 25)) = w1 at *
  refine (hpure_any (HF.out.ext hx) HBX.out.len HBX.out.all).mono ?_
  rintro e w2 ⟨y, rfl, he2, rfl⟩
  rw [hpx.out]
  replace hx := hx.trans he2
  replace kf := kf.ext he2
  replace kt := kt.ext he2
  have b0 := kt.cell (i := 0) (by simp)
  have b1 := kt.cell (i := 1) (by simp)
  simp only [List.getElem_cons_zero, List.getElem_cons_succ] at b0 b1
  clear he2
  go_wp2_with fail
  refine (hpure_any (HT.out.ext hx) HBY.out.len HBY.out.all).mono ?_
  rintro e w3 ⟨y, rfl, he3, rfl⟩
  rw [hpy.out]
  replace hx := hx.trans he3
  replace kf := kf.ext he3
  replace kt := kt.ext he3
  have a0 := kf.cell (i := 0) (by simp)
  have a1 := kf.cell (i := 1) (by simp)
  simp only [List.getElem_cons_zero, List.getElem_cons_succ] at a0 a1
  clear he3 b0 b1
  go_wp2_with fail
  refine (large_false (HF.out.ext hx) HLX.out.1 htx.out).mono ?_
  rintro e w4 ⟨y, rfl, he4, rfl⟩
  replace hx := hx.trans he4
  replace kf := kf.ext he4
  replace kt := kt.ext he4
  have b0 := kt.cell (i := 0) (by simp)
  have b1 := kt.cell (i := 1) (by simp)
  simp only [List.getElem_cons_zero, List.getElem_cons_succ] at b0 b1
  clear he4 a0 a1
  go_wp2_with fail
  refine (large_false (HT.out.ext hx) HLX.out.2 hty.out).mono ?_
  rintro e w5 ⟨y, rfl, he5, rfl⟩
  replace hx := hx.trans he5
  replace kf := kf.ext he5
  replace kt := kt.ext he5
  have a0 := kf.cell (i := 0) (by simp)
  have a1 := kf.cell (i := 1) (by simp)
  simp only [List.getElem_cons_zero, List.getElem_cons_succ] at a0 a1
  clear he5 b0 b1
  go_wp2_with fail
  have hw5 := hx.size
  refine (vars_any (HF.out.ext hx) HBX.out).mono ?_
  rintro e w6 ⟨v6, rfl, he6, hr6⟩
  obtain ⟨A6, c6, rfl⟩ := own_slice hr6
  replace hx := hx.trans he6
  replace kf := kf.ext he6
  replace kt := kt.ext he6
  obtain ⟨vs, hvs0⟩ : ∃ vs, vs = varsT (allT xs) := ⟨_, rfl⟩
  rw [← hvs0] at hr6 hvx hvs ⊢
  obtain ⟨nv, hnv⟩ : ∃ nv, nv = vs.length := ⟨_, rfl⟩
  rw [← hnv] at hr6 hvx ⊢
  have h8 : decide ((8 : Int) < (nv : Int)) = false := decide_eq_false (by omega)
  have HVS0 := Lib.hid hvs0; have HNV := Lib.hid hnv
  have HX := Lib.hid hx; have HKF := Lib.hid kf; have HKT := Lib.hid kt; have HR6 := Lib.hid hr6
  have hs6 : w.heap.size + 1 < w6.heap.size := kt.lt
  clear he6 a0 a1 hvs0 hnv hx kf kt hr6
  go_wp2_with fail
  have hx7 : Ext w6 (((w6.alloc (.cells #[.slice A6 nv c6] 26)).alloc (.map #[] 0)).alloc (.cells #[.map (some (w6.heap.size + 1))] 68)) := (((Ext.refl w6).alloc _).alloc _).alloc _
  have k7v : Bk (((w6.alloc (.cells #[.slice A6 nv c6] 26)).alloc (.map #[] 0)).alloc (.cells #[.map (some (w6.heap.size + 1))] 68)) w6.heap.size 26 [.slice A6 nv c6] := ((Bk.new w6 _ [.slice A6 nv c6]).alloc _).alloc _
  have hm7 : MapV (((w6.alloc (.cells #[.slice A6 nv c6] 26)).alloc (.map #[] 0)).alloc (.cells #[.map (some (w6.heap.size + 1))] 68)) (w6.heap.size + 1) 0 (fun _ => none) := by
    have h := MapV.made (w6.alloc (.cells #[.slice A6 nv c6] 26))
    rw [show (w6.alloc (.cells #[.slice A6 nv c6] 26)).heap.size = w6.heap.size + 1 by simp] at h
    exact h.ext ((Ext.refl _).alloc _)
  have k7p : Bk (((w6.alloc (.cells #[.slice A6 nv c6] 26)).alloc (.map #[] 0)).alloc (.cells #[.map (some (w6.heap.size + 1))] 68)) (w6.heap.size + 1 + 1) 68 [.map (some (w6.heap.size + 1))] := by
    have h := Bk.new ((w6.alloc (.cells #[.slice A6 nv c6] 26)).alloc (.map #[] 0)) 68 [.map (some (w6.heap.size + 1))]
    rw [show ((w6.alloc (.cells #[.slice A6 nv c6] 26)).alloc (.map #[] 0)).heap.size = w6.heap.size + 1 + 1 by simp] at h
    exact h
  generalize (((w6.alloc (.cells #[.slice A6 nv c6] 26)).alloc (.map #[] 0)).alloc (.cells #[.map (some (w6.heap.size + 1))] 68)) = w7 at *
  obtain ⟨h6, hh6⟩ : ∃ h6, h6 = w6.heap.size := ⟨_, rfl⟩
  rw [← hh6] at k7v hm7 k7p hs6 ⊢
  have HX7 := Lib.hid (HX.out.trans hx7)
  have HKF7 := Lib.hid (HKF.out.ext hx7); have HKT7 := Lib.hid (HKT.out.ext hx7); have HK7V := Lib.hid k7v; have HK7P := Lib.hid k7p; have HM7 := Lib.hid hm7
  have HR7 := Lib.hid (own_fr HR6.out (hx7.fr (fun _ => False)) (fun _ _ h => h))
  have HB6 : Hid (∀ kk, (Value.slice A6 nv c6).ownBlock = some kk → kk < h6 ∧ w.heap.size ≤ kk) := Lib.hid (fun kk hk => by have := HR6.out.lt kk hk; have := HX.out.size; rw [hh6]; omega)
  clear HX HKF HKT HR6 hx7 k7v k7p hm7 hh6
  have hpin0 : pinF (fun t => decide (t ∈ fx.take 0)) = fun _ => none := by funext t; simp [pinF]
  have HPIN0 := Lib.hid hpin0
  clear hpin0 hmk
  go_loopw [42] (fun q wr => ∃ i : Nat, i ≤ nf ∧ q = .int .i64 (i : Int) ∧ MapV wr (h6 + 1) i (pinF (fun t => decide (t ∈ fx.take i))) ∧ Fr (fun b => b = h6 + 1) w7 wr) (fun q _ => nf - (intOf q).toNat)
  case atStart => exact ⟨0, Nat.zero_le _, rfl, by rw [HPIN0.out]; exact HM7.out, Fr.refl _ _⟩
  case round =>
    obtain ⟨i, hi, rfl, hmi, hfi⟩ := hrel
    by_cases hlt : i < nf
    · have i1 : (0 : Int) ≤ (i : Int) := by omega
      have i2 : (i : Int) < (nf : Int) := by omega
      have hix : i < fx.length := by have := HNF.out; omega
      obtain ⟨ad, rfl, hHa, d0⟩ := HCLX.out.at' (j := i) (x := .string fx[i]) (by simp [hix])
      replace d0 := hfi.cell (HX7.out.cell d0) (by rw [block_add]; have := cell_lt d0; rw [block_add] at this; omega)
      have p0 := (HK7P.out.fr hfi (by omega)).cell (i := 0) (by simp)
      simp only [List.getElem_cons_zero] at p0
      have hsv := hfs.out _ (List.getElem_mem hix)
      have hpadd := pinF_snoc (fx.take i) fx[i]
      rw [← List.take_succ_eq_append_getElem hix] at hpadd
      obtain ⟨u, hu⟩ : ∃ u, u = fx[i] := ⟨_, rfl⟩
      rw [← hu] at d0 hsv hpadd
      have HPA := Lib.hid hpadd; have HMI := Lib.hid hmi; have HFI := Lib.hid hfi
      clear hpadd hmi hfi hu hHa
      go_wp2_with (first
        | (at_mapUpdate; refine wpList_update_V rfl _ _ _ 68 4 rfl Tryd.underlying68 (h6 + 1) i (pinF (fun t => decide (t ∈ fx.take i))) rfl HMI.out (by simp only [maxLen]; omega) u (.bool true) rfl hsv rfl ?_; intro wq hmq hgq; have HMQ := Lib.hid hmq; have HGQ := Lib.hid (HFI.out.grown hgq (fun b e => .inl (by injection e with e; exact e.symm))); clear hmq hgq))
      go_roundw
      case rel => exact ⟨i + 1, by omega, by go_num, by rw [← HPA.out]; exact HMQ.out, HGQ.out⟩
      case measure => simp [intOf]; omega
    · obtain rfl : i = nf := by omega
      have hdn : ¬ (i : Int) < (i : Int) := by omega
      have et : fx.take i = fx := by rw [HNF.out]; exact List.take_length
      rw [et] at hmi
      obtain ⟨w8, rfl⟩ : ∃ w8 : World, w8 = wr := ⟨_, rfl⟩
      have hx8 : Ext w w8 := hfi.new HX7.out (fun k hk => by omega)
      have kf8 := HKF7.out.fr hfi (by omega)
      have kt8 := HKT7.out.fr hfi (by omega)
      have kv8 := HK7V.out.fr hfi (by omega)
      have kp8 := HK7P.out.fr hfi (by omega)
      have r8 := own_fr HR7.out hfi (fun kk hk e => by have := (HB6.out kk hk).1; omega)
      have b0 := kt8.cell (i := 0) (by simp)
      have b1 := kt8.cell (i := 1) (by simp)
      simp only [List.getElem_cons_zero, List.getElem_cons_succ] at b0 b1
      have HX8 := Lib.hid hx8; have HKF8 := Lib.hid kf8; have HKT8 := Lib.hid kt8; have HKV8 := Lib.hid kv8; have HKP8 := Lib.hid kp8; have HR8 := Lib.hid r8; have HM8 := Lib.hid hmi
      have hmk := @run_makeMap Tryd.prog
      clear hfi hmi et hx8 kf8 kt8 kv8 kp8 r8 HX7 HKF7 HKT7 HK7V HK7P HM7 HR7 HPIN0
      go_wp2_with fail
      refine (terms_any (HT.out.ext HX8.out) HBY.out).mono ?_
      rintro e w9 ⟨v9, rfl, he9, hr9⟩
      obtain ⟨A9, c9, rfl⟩ := own_slice hr9
      obtain ⟨cs, hcs0⟩ : ∃ cs, cs = distT (allT ys) := ⟨_, rfl⟩
      rw [← hcs0] at hr9 hcy ⊢
      obtain ⟨ncs, hncs⟩ : ∃ ncs, ncs = cs.length := ⟨_, rfl⟩
      rw [← hncs] at hr9 hcy ⊢
      have HCS0 := Lib.hid hcs0; have HNCS := Lib.hid hncs
      have HX9 := Lib.hid (HX8.out.trans he9); have HKF9 := Lib.hid (HKF8.out.ext he9); have HKT9 := Lib.hid (HKT8.out.ext he9); have HKV9 := Lib.hid (HKV8.out.ext he9); have HKP9 := Lib.hid (HKP8.out.ext he9); have HM9 := Lib.hid (HM8.out.ext he9)
      have HR9v := Lib.hid (own_fr HR8.out (he9.fr (fun _ => False)) (fun _ _ h => h)); have HR9 := Lib.hid hr9
      clear hcs0 hncs he9 hr9 b0 b1 HX8 HKF8 HKT8 HKV8 HKP8 HM8 HR8
      go_wp2_with fail
      have h5 := five_new w9 [.slice A9 ncs c9] [.map (some (w9.heap.size + 1))] [.func (.func 64) #[] #[.pointer (some ⟨w.heap.size, 0, none⟩), .pointer (some ⟨w.heap.size + 1, 0, none⟩), .pointer (some ⟨w9.heap.size + 1 + 1, 0, none⟩)]] [.func (.func 69) #[] #[.pointer (some ⟨h6, 0, none⟩), .pointer (some ⟨w9.heap.size, 0, none⟩), .pointer (some ⟨h6 + 1 + 1, 0, none⟩), .pointer (some ⟨w9.heap.size + 1 + 1, 0, none⟩), .pointer (some ⟨w9.heap.size + 1 + 1 + 1, 0, none⟩), .pointer (some ⟨w9.heap.size + 1 + 1 + 1 + 1, 0, none⟩)]] 37 87 73 113 _ rfl
      change Bk (((((w9.alloc (.cells #[.slice A9 ncs c9] 37)).alloc (.map #[] 0)).alloc (.cells #[.map (some (w9.heap.size + 1))] 87)).alloc (.cells #[.func (.func 64) #[] #[.pointer (some ⟨w.heap.size, 0, none⟩), .pointer (some ⟨w.heap.size + 1, 0, none⟩), .pointer (some ⟨w9.heap.size + 1 + 1, 0, none⟩)]] 73)).alloc (.cells #[.func (.func 69) #[] #[.pointer (some ⟨h6, 0, none⟩), .pointer (some ⟨w9.heap.size, 0, none⟩), .pointer (some ⟨h6 + 1 + 1, 0, none⟩), .pointer (some ⟨w9.heap.size + 1 + 1, 0, none⟩), .pointer (some ⟨w9.heap.size + 1 + 1 + 1, 0, none⟩), .pointer (some ⟨w9.heap.size + 1 + 1 + 1 + 1, 0, none⟩)]] 113)) _ _ _ ∧ MapV (((((w9.alloc (.cells #[.slice A9 ncs c9] 37)).alloc (.map #[] 0)).alloc (.cells #[.map (some (w9.heap.size + 1))] 87)).alloc (.cells #[.func (.func 64) #[] #[.pointer (some ⟨w.heap.size, 0, none⟩), .pointer (some ⟨w.heap.size + 1, 0, none⟩), .pointer (some ⟨w9.heap.size + 1 + 1, 0, none⟩)]] 73)).alloc (.cells #[.func (.func 69) #[] #[.pointer (some ⟨h6, 0, none⟩), .pointer (some ⟨w9.heap.size, 0, none⟩), .pointer (some ⟨h6 + 1 + 1, 0, none⟩), .pointer (some ⟨w9.heap.size + 1 + 1, 0, none⟩), .pointer (some ⟨w9.heap.size + 1 + 1 + 1, 0, none⟩), .pointer (some ⟨w9.heap.size + 1 + 1 + 1 + 1, 0, none⟩)]] 113)) _ _ _ ∧ Bk (((((w9.alloc (.cells #[.slice A9 ncs c9] 37)).alloc (.map #[] 0)).alloc (.cells #[.map (some (w9.heap.size + 1))] 87)).alloc (.cells #[.func (.func 64) #[] #[.pointer (some ⟨w.heap.size, 0, none⟩), .pointer (some ⟨w.heap.size + 1, 0, none⟩), .pointer (some ⟨w9.heap.size + 1 + 1, 0, none⟩)]] 73)).alloc (.cells #[.func (.func 69) #[] #[.pointer (some ⟨h6, 0, none⟩), .pointer (some ⟨w9.heap.size, 0, none⟩), .pointer (some ⟨h6 + 1 + 1, 0, none⟩), .pointer (some ⟨w9.heap.size + 1 + 1, 0, none⟩), .pointer (some ⟨w9.heap.size + 1 + 1 + 1, 0, none⟩), .pointer (some ⟨w9.heap.size + 1 + 1 + 1 + 1, 0, none⟩)]] 113)) _ _ _ ∧ _ at h5
      generalize (((((w9.alloc (.cells #[.slice A9 ncs c9] 37)).alloc (.map #[] 0)).alloc (.cells #[.map (some (w9.heap.size + 1))] 87)).alloc (.cells #[.func (.func 64) #[] #[.pointer (some ⟨w.heap.size, 0, none⟩), .pointer (some ⟨w.heap.size + 1, 0, none⟩), .pointer (some ⟨w9.heap.size + 1 + 1, 0, none⟩)]] 73)).alloc (.cells #[.func (.func 69) #[] #[.pointer (some ⟨h6, 0, none⟩), .pointer (some ⟨w9.heap.size, 0, none⟩), .pointer (some ⟨h6 + 1 + 1, 0, none⟩), .pointer (some ⟨w9.heap.size + 1 + 1, 0, none⟩), .pointer (some ⟨w9.heap.size + 1 + 1 + 1, 0, none⟩), .pointer (some ⟨w9.heap.size + 1 + 1 + 1 + 1, 0, none⟩)]] 113)) = W at *
      obtain ⟨q0, qm, q2, q3, q4, qE⟩ := h5
      have hxW := HX9.out.trans qE
      have hw9 : w.heap.size + 1 < w9.heap.size := HKT9.out.lt
      have hh9 : h6 + 1 + 1 < w9.heap.size := HKP9.out.lt
      have hfe : FE W ⟨w.heap.size, w.heap.size + 1, w9.heap.size + 1 + 1, h6, w9.heap.size, h6 + 1 + 1, w9.heap.size + 1 + 1 + 1, w9.heap.size + 1 + 1 + 1 + 1, w9.heap.size + 1, h6 + 1⟩ xs ys vs cs (fun s => decide (s ∈ fx)) := by
        refine ⟨⟨_, _, HKF9.out.ext qE, ?_⟩, ⟨_, _, HKT9.out.ext qE, ?_⟩, q2, ?_, ?_, ⟨HKP9.out.ext qE, _, HM9.out.ext qE⟩, q3, q4, by simp; omega⟩
        · exact (HF.out.mono (fun k hk _ => by simp; omega)).ext hxW
        · exact (HT.out.mono (fun k hk _ => by simp; omega)).ext hxW
        · obtain ⟨g1, g2, g3⟩ := Cl.own HR9v.out (fun j => j ≠ w9.heap.size + 1) (fun k hk => by omega)
          exact ⟨A6, c6, by rw [← HNV.out]; exact HKV9.out.ext qE, by rw [← HNV.out]; exact g1, g3.ext qE⟩
        · obtain ⟨g1, g2, g3⟩ := Cl.own HR9.out (fun j => j ≠ w9.heap.size + 1) (fun k hk => by omega)
          exact ⟨A9, c9, by rw [← HNCS.out]; exact q0, by rw [← HNCS.out]; exact g1, g3.ext qE⟩
      have hmW : MapV W (w9.heap.size + 1) 0 (imF (fun _ => none)) := by
        have e : imF (fun _ => none) = fun _ => none := by funext t; rfl
        rw [e]; exact qm
      have HFE := Lib.hid hfe; have HMW := Lib.hid hmW; have HXW := Lib.hid hxW
      obtain ⟨svF, scF, kF, hFF⟩ := hfe.fr'
      obtain ⟨svT, scT, kT, hTT⟩ := hfe.to'
      have z4 := q4.cell (i := 0) (by simp)
      simp only [List.getElem_cons_zero] at z4
      refine (find1 (v := ⟨#[]⟩) hFF hTT HBX.out HBY.out kF kT hfe.img hmW).mono ?_
      rintro e W2 ⟨y, rfl, he2, rfl⟩
      have hmW2 := hmW.ext he2
      have hfe2 := hfe.fr hmW (he2.fr _)
      have hxW2 := hxW.trans he2
      replace z4 := he2.cell z4
      have HFE2 := Lib.hid hfe2; have HMW2 := Lib.hid hmW2; have HXW2 := Lib.hid hxW2
      clear q0 qm q2 q3 q4 qE hxW hfe hmW kF hFF kT hTT he2 hmW2 hfe2 hxW2 hmk HFE HMW HXW HX9 HKF9 HKT9 HKV9 HKP9 HM9
      rcases hpo : possB (fun _ => none) xs ys ⟨#[]⟩ with _ | _
      · have HFS : Hid (findS xs ys fx = none) := Lib.hid (by rw [findS, hpo]; simp)
        clear hpo
        go_wp2_with fail
        go_ret3
        refine ⟨HXW2.out, ?_⟩
        rw [HFS.out]
        rfl
      · have HFS : Hid (findS xs ys fx = asg (fun im v => possB im xs ys v) (fun s => decide (s ∈ fx)) cs vs (fun _ => none)) := Lib.hid (by rw [findS, hpo, HCS0.out, HVS0.out]; simp)
        clear hpo
        have HCALL := Lib.hid (assign_any (pin := fun s => decide (s ∈ fx)) HBX.out HBY.out (by rw [← HNCS.out]; omega) (by rw [← HNV.out]; omega) hvs.out vs 0 0 (fun _ => none) W2 rfl (Nat.zero_le _) HFE2.out HMW2.out (fun _ _ => rfl) (by rw [HVS0.out]; exact varsT_nodup _) (stores_ok (by rw [← HNCS.out]; exact hcy) (by rw [← HNV.out]; exact hvx)))
        go_wp2_with fail
        refine HCALL.out.mono ?_
        intro e W3 hpost
        obtain ⟨hf3, hpost⟩ := hpost
        have hxW3 : Ext w W3 := hf3.new HXW2.out (fun k hk => by simp at hk; omega)
        have HFE3 := Lib.hid (HFE2.out.fr HMW2.out hf3); have HXW3 := Lib.hid hxW3
        clear hf3 hxW3 z4
        rcases has : asg (fun im v => possB im xs ys v) (fun s => decide (s ∈ fx)) cs vs (fun _ => none) with _ | im'
        · rw [has] at hpost HFS
          obtain ⟨rfl, -⟩ := hpost
          clear has
          go_wp2_with fail
          go_ret3
          refine ⟨HXW3.out, ?_⟩
          rw [HFS.out]
          rfl
        · rw [has] at hpost HFS
          obtain ⟨rfl, n3, hm3⟩ := hpost
          have HM3 := Lib.hid hm3
          clear has hm3
          obtain ⟨A7, c7, kv3, hcv3, hclv3⟩ := HFE3.out.vars
          have y0 := kv3.cell (i := 0) (by simp)
          have y1 := HFE3.out.img.cell (i := 0) (by simp)
          simp only [List.getElem_cons_zero] at y0 y1
          rw [← HNV.out] at y0 hcv3
          have HCLV := Lib.hid hclv3; have HIMG := Lib.hid y1
          clear kv3 hclv3 y1
          go_wp2_with fail
          clear y0
          obtain ⟨i0, hi0, hz0, hz1, hz2⟩ := info_parts info_pair
          have HI0 := Lib.hid (And.intro hi0 (And.intro hz0 (And.intro hz1 hz2))); clear hi0 hz0 hz1 hz2
          go_loopw [17, 64] (fun t q wr => ∃ j : Nat, j ≤ nv ∧ q = .int .i64 (j : Int) ∧ wr.ownsRow W3.heap.size 102 5 t j (pcells (pairsOf (vs.take j) im')) ∧ Ext W3 wr) (fun _ q _ => nv - (intOf q).toNat)
          case atStart => exact ⟨0, Nat.zero_le _, rfl, World.ownsRow_nil _ _ _ _, Ext.refl _⟩
          case round =>
            obtain ⟨j, hj, rfl, hrow, hext⟩ := hrel
            obtain ⟨At, ct, rfl⟩ := own_slice hrow
            have HROW := Lib.hid hrow; have HEXT := Lib.hid hext
            by_cases hlt2 : j < nv
            · have j1 : (0 : Int) ≤ (j : Int) := by omega
              have j2 : (j : Int) < (nv : Int) := by omega
              have hjv : j < vs.length := by have := HNV.out; omega
              obtain ⟨ad7, rfl, -, d0⟩ := HCLV.out.at' (j := j) (x := .string vs[j]) (by simp [hjv])
              replace d0 := hext.cell d0
              have y1 := hext.cell HIMG.out
              have hsv := hvs.out _ (List.getElem_mem hjv)
              have epo : pairsOf (vs.take (j + 1)) im' = pairsOf (vs.take j) im' ++ [(vs[j], (im' vs[j]).getD zeroT)] := by
                unfold pairsOf; rw [List.take_succ_eq_append_getElem hjv, List.map_append]; rfl
              obtain ⟨u, hu⟩ : ∃ u, u = vs[j] := ⟨_, rfl⟩
              rw [← hu] at d0 hsv epo
              obtain ⟨t, ht⟩ : ∃ t, t = (im' u).getD zeroT := ⟨_, rfl⟩
              rw [← ht] at epo
              have hlook : (imF im' u).getD (.agg #[.string ⟨#[]⟩, .int .i64 0, .int .i64 0, .string ⟨#[]⟩]) = .agg #[.string t.var, .int .i64 t.kind, .int .i64 t.int, .string t.str] := by
                rw [ht, imF]
                rcases im' u with _ | z
                · rfl
                · rfl
              have HEPO := Lib.hid epo; have HLOOK := Lib.hid hlook
              have HMR := Lib.hid (HM3.out.ext hext)
              have hszr : W3.heap.size ≤ wr.heap.size := hext.size
              clear epo hlook hu ht hrow hext
              go_wp2_with (first
                | (at_lookup; refine wpList_lookup_V rfl _ _ 87 66 rfl Tryd.underlying87 (.agg #[.string ⟨#[]⟩, .int .i64 0, .int .i64 0, .string ⟨#[]⟩]) (zero_term _) (w9.heap.size + 1) n3 (imF im') rfl HMR.out u rfl hsv (.agg #[.string t.var, .int .i64 t.kind, .int .i64 t.int, .string t.str]) HLOOK.out ?_)
                | (at_builtin; refine wpList_append_at rfl _ _ 86 rfl W3.heap.size 102 i0 (.agg #[.string ⟨#[]⟩, .string ⟨#[]⟩, .int .i64 0, .int .i64 0, .string ⟨#[]⟩]) 5 64 Tryd.underlying86 HI0.out.1 HI0.out.2.1 HI0.out.2.2.1 HI0.out.2.2.2 rfl (by omega) _ j (pcells (pairsOf (vs.take j) im')) rfl (HROW.out.alloc _) ⟨wr.heap.size, 0, none⟩ 1 1 (pairC u t) rfl rfl (laid_news wr _ (pairC u t)) (by simp [pairC, Value.oneCell']) (by simp only [maxLen]; omega) (by omega) (by simp; omega) ?_; intro v' w' hr' hgr hland; have HN := Lib.hid (And.intro hr' (((HEXT.out.alloc _).grown hgr (fun kk hk => (HROW.out.lt kk hk).1)))); clear hr' hgr hland))
              go_roundw
              case rel => exact ⟨j + 1, by omega, by go_num, by rw [HEPO.out, pcells_snoc]; exact HN.out.1, HN.out.2⟩
              case measure => simp [intOf]; omega
            · obtain rfl : j = nv := by omega
              have hdn2 : ¬ (j : Int) < (j : Int) := by omega
              clear hrow hext
              go_wp2_with fail
              go_ret3
              refine ⟨HXW3.out.trans HEXT.out, ?_⟩
              rw [HFS.out]
              have et2 : vs.take j = vs := by rw [HNV.out]; exact List.take_length
              have h := HROW.out
              rw [et2] at h
              refine ⟨.slice At j ct, rfl, ?_⟩
              rw [← HVS0.out, ← HNV.out]
              exact own_base h HXW3.out.size
section
variable {T : List Tm} {xs ys : List At} {fx : List ByteArray}
end
end Go.Proofs.YtehklbdgkppmeaaDoor
