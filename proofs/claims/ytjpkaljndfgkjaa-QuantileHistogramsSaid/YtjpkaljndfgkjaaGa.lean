/- Rows of values. -/
import Derived.Test.YtjpkaljndfgkjaaZd
import Derived.Shelf.SlSortCmp.Kit1
import Derived.BigQuiet
import Derived.Deep.AppendLies
import Derived.Deep.CutBlock
import Derived.Deep.DeepCutAuto
import Derived.Deep.Draws
import Derived.Deep.QuietTactic
import Derived.Deep.RegionHeld3
import Derived.Deep.RegionLaw
import Derived.Deep.Upon
import Derived.KernelRfl
import Derived.Laws.BytesString
import Derived.Laws.EntriesVeiled
import Derived.Laws.StructEq
import Derived.Lib.AppendStr
import Derived.Lib.Bytealg
import Derived.Lib.Hide
import Derived.Lib.ItoaLen
import Derived.Lib.SliceRun
import Derived.Lib.Small
import Derived.Maps.OwnOps
import Derived.Maps.OwnSet
import Derived.Maps.Views
import Derived.OwnWalk
import Derived.Shelf.Slices.Clone
import Derived.Sort.Grow
import Derived.WalkKit
import Derived.WalkLawsBesides
import Derived.WalkSpells
namespace Go.Proofs.Ytjpkaljndfgkjaa.R
open Go.RowKit Go.Maps

/-- Only blocks of S, and what is new, may have turned. -/
structure Fr (S : Nat → Prop) (w w' : World) : Prop where
  os : w'.os = w.os
  tape : w'.tape = w.tape
  output : w'.output = w.output
  size : w.heap.size ≤ w'.heap.size
  block : ∀ k, k < w.heap.size → ¬ S k → w'.heap[k]? = w.heap[k]?
/-- All that was there is as it was; there may be more. -/
def Ext (w w' : World) : Prop := Below w.heap.size w w'
theorem Ext.refl (w : World) : Ext w w := Below.refl _ _
theorem Ext.size {w w' : World} (h : Ext w w') : w.heap.size ≤ w'.heap.size := Below.size h
theorem Ext.trans {a b c : World} (h : Ext a b) (k : Ext b c) : Ext a c := Below.trans h (Below.mono k h.size)
theorem Ext.drew {a w : World} (h : Ext a w) : Ext a w.drew := Below.drew h
theorem Ext.drewN {a w : World} (h : Ext a w) (n : Nat) : Ext a (w.drewN n) := ⟨h.os, h.tape, h.output, h.size, h.block⟩
theorem Ext.alloc {a w : World} (h : Ext a w) (o : Obj) : Ext a (w.alloc o) := Below.alloc h h.size o
theorem Ext.setCell {a w : World} (h : Ext a w) {p : Addr} (hp : a.heap.size ≤ p.block) (u : Value) : Ext a (w.setCell p u) := Below.setCell h hp u
theorem Ext.heap {w w' : World} (h : Ext w w') {k : Nat} (hk : k < w.heap.size) : w'.heap[k]? = w.heap[k]? := Below.block h k hk
theorem Ext.fr {w w' : World} (h : Ext w w') (S : Nat → Prop) : Fr S w w' := ⟨h.os, h.tape, h.output, h.size, fun _ hk _ => h.heap hk⟩
theorem Fr.refl (S : Nat → Prop) (w : World) : Fr S w w := (Ext.refl w).fr S
theorem Fr.mono {S T : Nat → Prop} {w w' : World} (h : Fr S w w') (hs : ∀ k, k < w.heap.size → S k → T k) : Fr T w w' := ⟨h.os, h.tape, h.output, h.size, fun k hk hn => h.block k hk (fun e => hn (hs k hk e))⟩
theorem Fr.trans {S : Nat → Prop} {a b c : World} (h : Fr S a b) (k : Fr S b c) : Fr S a c :=
  ⟨k.os.trans h.os, k.tape.trans h.tape, k.output.trans h.output, Nat.le_trans h.size k.size, fun i hi hn => (k.block i (Nat.lt_of_lt_of_le hi h.size) hn).trans (h.block i hi hn)⟩
theorem Fr.comp {S T : Nat → Prop} {a b c : World} (h : Fr S a b) (k : Fr T b c) (hs : ∀ k, T k → S k ∨ a.heap.size ≤ k) : Fr S a c :=
  ⟨k.os.trans h.os, k.tape.trans h.tape, k.output.trans h.output, Nat.le_trans h.size k.size, fun i hi hn => (k.block i (Nat.lt_of_lt_of_le hi h.size) (fun e => by rcases hs i e with h1 | h1; exact hn h1; omega)).trans (h.block i hi hn)⟩
theorem Fr.ext {S : Nat → Prop} {a b c : World} (h : Fr S a b) (k : Ext b c) : Fr S a c := h.trans (k.fr S)
/-- Where all that turned is new, seen from a. -/
theorem Fr.new {S : Nat → Prop} {a w w' : World} (ha : Ext a w) (h : Fr S w w') (hS : ∀ k, S k → a.heap.size ≤ k) : Ext a w' :=
  ⟨h.os.trans ha.os, h.tape.trans ha.tape, h.output.trans ha.output, Nat.le_trans ha.size h.size,
    fun k hk => (h.block k (Nat.lt_of_lt_of_le hk ha.size) (fun e => by have := hS k e; omega)).trans (ha.heap hk)⟩
theorem Fr.grown {S : Nat → Prop} {a w w' : World} {row : Option Nat} (h : Fr S a w) (hg : w.grownBy w' row) (hr : ∀ k, row = some k → S k ∨ a.heap.size ≤ k) : Fr S a w' :=
  ⟨hg.os.trans h.os, hg.tape.trans h.tape, hg.output.trans h.output, Nat.le_trans h.size hg.size, fun k hk hn =>
    (hg.block k (Nat.lt_of_lt_of_le hk h.size) (fun e => by rcases hr k e.symm with h1 | h1; exact hn h1; omega)).trans (h.block k hk hn)⟩
theorem Fr.setCell {S : Nat → Prop} {a w : World} (h : Fr S a w) {p : Addr} (hp : S p.block ∨ a.heap.size ≤ p.block) (u : Value) : Fr S a (w.setCell p u) :=
  ⟨h.os, h.tape, h.output, by simpa [World.setCell] using h.size, fun i hi hn => (Below.heap_setCell w p u i (by
    rintro rfl
    rcases hp with e | e
    · exact hn e
    · omega)).trans (h.block i hi hn)⟩
theorem Ext.grown {a w w' : World} {row : Option Nat} (h : Ext a w) (hg : w.grownBy w' row) (hr : ∀ k, row = some k → a.heap.size ≤ k) : Ext a w' := Below.grown h hg h.size hr
theorem grown_fr {w w' : World} {row : Option Nat} (hg : w.grownBy w' row) : Fr (fun k => row = some k) w w' := ⟨hg.os, hg.tape, hg.output, hg.size, fun k hk hn => hg.block k hk (fun e => hn e.symm)⟩
theorem cell_lt {w : World} {p : Addr} {v : Value} (h : w.cell? p = some v) : p.block < w.heap.size := by
  rcases Nat.lt_or_ge p.block w.heap.size with hlt | hge
  · exact hlt
  · simp [World.cell?, Array.getElem?_eq_none hge] at h
theorem Ext.cell {w w' : World} (h : Ext w w') {p : Addr} {v : Value} (hc : w.cell? p = some v) : w'.cell? p = some v := (Below.cell h (cell_lt hc)).trans hc
theorem Fr.cell {S : Nat → Prop} {w w' : World} (h : Fr S w w') {p : Addr} {v : Value} (hc : w.cell? p = some v) (hp : ¬ S p.block) : w'.cell? p = some v :=
  (World.cell?_of_block (h.block _ (cell_lt hc) hp)).trans hc
theorem block_add (a : Addr) (n : Nat) : (a.add n).block = a.block := by unfold Addr.add; split <;> rfl
theorem add_add (a : Addr) (i j : Nat) : (a.add i).add j = a.add (i + j) := by
  unfold Addr.add
  by_cases hi : i = 0 <;> by_cases hj : j = 0 <;> simp [hi, hj, Nat.add_assoc]
theorem add_own (g i : Nat) : (⟨g, 0, none⟩ : Addr).add i = ⟨g, i, none⟩ := by rcases i with _ | i <;> simp [Addr.add]
/-- Block g is just the cells xs, none frozen. -/
def Bk (w : World) (g : Nat) (t : TypeId) (xs : List Value) : Prop := w.heap[g]? = some (.cells xs.toArray t (0, 0))
theorem Bk.lt {w : World} {g : Nat} {t : TypeId} {xs : List Value} (h : Bk w g t xs) : g < w.heap.size := by
  rcases Nat.lt_or_ge g w.heap.size with h1 | h1
  · exact h1
  · unfold Bk at h; rw [Array.getElem?_eq_none h1] at h; cases h
theorem Bk.cell {w : World} {g : Nat} {t : TypeId} {xs : List Value} (h : Bk w g t xs) {i : Nat} (hi : i < xs.length) : w.cell? ⟨g, i, none⟩ = some xs[i] := by
  unfold Bk at h; simp [World.cell?, h, hi]
theorem Bk.free {w : World} {g : Nat} {t : TypeId} {xs : List Value} (h : Bk w g t xs) (i : Nat) : w.frozen? ⟨g, i, none⟩ = false := by
  unfold Bk at h; simp [World.frozen?, h]
theorem Bk.set {w : World} {g : Nat} {t : TypeId} {xs : List Value} (h : Bk w g t xs) (i : Nat) (u : Value) : Bk (w.setCell ⟨g, i, none⟩ u) g t (xs.set i u) := by
  unfold Bk at h ⊢; simp [World.setCell, Array.getElem?_modify, h]
theorem Bk.ext {w w' : World} {g : Nat} {t : TypeId} {xs : List Value} (h : Bk w g t xs) (he : Ext w w') : Bk w' g t xs := (he.heap h.lt).trans h
theorem Bk.fr {S : Nat → Prop} {w w' : World} {g : Nat} {t : TypeId} {xs : List Value} (h : Bk w g t xs) (hf : Fr S w w') (hg : ¬ S g) : Bk w' g t xs := (hf.block g h.lt hg).trans h
theorem Bk.alloc {w : World} {g : Nat} {t : TypeId} {xs : List Value} (h : Bk w g t xs) (o : Obj) : Bk (w.alloc o) g t xs := h.ext ((Ext.refl w).alloc o)
theorem Bk.new (w : World) (t : TypeId) (xs : List Value) : Bk (w.alloc (.cells xs.toArray t)) w.heap.size t xs := by
  show (w.heap.push _)[w.heap.size]? = _
  simp
theorem Bk.ne {w : World} {g h : Nat} {t u : TypeId} {xs : List Value} {o : Array Value} (hb : Bk w g t xs) (hc : w.heap[h]? = some (.cells o u (0, 0))) (htu : t ≠ u) : g ≠ h := fun e => by
  subst e
  have := hb.symm.trans hc
  injection this with this; injection this with _ this; exact htu this
/-- A returned value, and old memory as it was. -/
def Ret (S : Value → World → Prop) (w : World) (e : Ending) (w' : World) : Prop := ∃ v, e = .returned v ∧ Ext w w' ∧ S v w'
theorem Ret.mk {S : Value → World → Prop} {w w' : World} {v : Value} (he : Ext w w') (hs : S v w') : Ret S w (.returned v) w' := ⟨v, rfl, he, hs⟩
/-- Cells in a row, from an address that lies in F (if there are any). -/
def Cl (F : Nat → Prop) (w : World) (A : Option Addr) (xs : List Value) : Prop :=
  xs = [] ∨ ∃ ad, A = some ad ∧ F ad.block ∧ ∀ j (h : j < xs.length), w.cell? (ad.add j) = some xs[j]
theorem Cl.ext {F : Nat → Prop} {w w' : World} {A : Option Addr} {xs : List Value} (h : Cl F w A xs) (he : Ext w w') : Cl F w' A xs := by
  rcases h with h | ⟨ad, h1, h2, h3⟩
  · exact .inl h
  · exact .inr ⟨ad, h1, h2, fun j hj => he.cell (h3 j hj)⟩
theorem Cl.fr {S F : Nat → Prop} {w w' : World} {A : Option Addr} {xs : List Value} (h : Cl F w A xs) (hf : Fr S w w') (hs : ∀ k, F k → ¬ S k) : Cl F w' A xs := by
  rcases h with h | ⟨ad, h1, h2, h3⟩
  · exact .inl h
  · exact .inr ⟨ad, h1, h2, fun j hj => hf.cell (h3 j hj) (by rw [block_add]; exact hs _ h2)⟩
theorem Cl.mono {F G : Nat → Prop} {w : World} {A : Option Addr} {xs : List Value} (h : Cl F w A xs) (hs : ∀ k, k < w.heap.size → F k → G k) : Cl G w A xs := by
  rcases h with h | ⟨ad, h1, h2, h3⟩
  · exact .inl h
  · rcases xs with _ | ⟨x, xs⟩
    · exact .inl rfl
    · refine .inr ⟨ad, h1, hs _ ?_ h2, h3⟩
      have := cell_lt (h3 0 (by simp))
      rwa [block_add] at this
theorem Cl.at' {F : Nat → Prop} {w : World} {A : Option Addr} {xs : List Value} (h : Cl F w A xs) {j : Nat} {x : Value} (hj : xs[j]? = some x) : ∃ ad, A = some ad ∧ F ad.block ∧ w.cell? (ad.add j) = some x := by
  rcases h with rfl | ⟨ad, h1, h2, h3⟩
  · simp at hj
  · obtain ⟨hl, e⟩ := List.getElem?_eq_some_iff.1 hj
    exact ⟨ad, h1, h2, by rw [h3 j hl, e]⟩
theorem Cl.of_own {w : World} {base size n : Nat} {e : TypeId} {v : Value} {xs : List Value} (h : w.ownsRow base e size v n xs) : ∃ A c, v = .slice A n c ∧ n ≤ c ∧ Cl (fun k => v.ownBlock = some k ∧ base ≤ k) w A xs := by
  obtain ⟨hl, h⟩ := h
  rcases h with ⟨rfl, rfl⟩ | ⟨g, cap, cur, rfl, hb, hc, hn, hm, hs, hx⟩
  · exact ⟨none, 0, rfl, Nat.le_refl _, .inl (by simpa using hl)⟩
  · refine ⟨_, _, rfl, hn, .inr ⟨_, rfl, ⟨rfl, hb⟩, fun j hj => ?_⟩⟩
    subst hx
    rw [add_own]
    have hj2 : j < cur.size := by simp at hj; omega
    simp [World.cell?, hc, hj2]
theorem own_slice {w : World} {base size n : Nat} {e : TypeId} {v : Value} {xs : List Value} (h : w.ownsRow base e size v n xs) : ∃ A c, v = .slice A n c := by
  obtain ⟨A, c, h, _⟩ := Cl.of_own h; exact ⟨A, c, h⟩
/-- A term: a variable's name, or a constant. -/
structure Tm where
  var : ByteArray
  kind : Int
  int : Int
  str : ByteArray
deriving DecidableEq
def Tm.cells (t : Tm) : List Value := [.string t.var, .int .i64 t.kind, .int .i64 t.int, .string t.str]
abbrev Tm.val (t : Tm) : Value := .agg #[.string t.var, .int .i64 t.kind, .int .i64 t.int, .string t.str]
def tcells (ts : List Tm) : List Value := ts.flatMap Tm.cells
theorem tcells_length (ts : List Tm) : (tcells ts).length = ts.length * 4 := by
  induction ts with
  | nil => rfl
  | cons t ts ih => simp [tcells, Tm.cells] at ih ⊢; omega
/-- A slice of terms. -/
def Ts (F : Nat → Prop) (w : World) (v : Value) (ts : List Tm) : Prop := ∃ A c, v = .slice A ts.length c ∧ ts.length ≤ c ∧ Cl F w A (tcells ts)
theorem Ts.ext {F : Nat → Prop} {w w' : World} {v : Value} {ts : List Tm} (h : Ts F w v ts) (he : Ext w w') : Ts F w' v ts := let ⟨A, c, h1, h2, h3⟩ := h; ⟨A, c, h1, h2, h3.ext he⟩
theorem Ts.fr {S F : Nat → Prop} {w w' : World} {v : Value} {ts : List Tm} (h : Ts F w v ts) (hf : Fr S w w') (hs : ∀ k, F k → ¬ S k) : Ts F w' v ts := let ⟨A, c, h1, h2, h3⟩ := h; ⟨A, c, h1, h2, h3.fr hf hs⟩
theorem Ts.mono {F G : Nat → Prop} {w : World} {v : Value} {ts : List Tm} (h : Ts F w v ts) (hs : ∀ k, k < w.heap.size → F k → G k) : Ts G w v ts := let ⟨A, c, h1, h2, h3⟩ := h; ⟨A, c, h1, h2, h3.mono hs⟩
theorem add_succ' (a : Addr) (n j : Nat) : a.add (n + (j + 1)) = ⟨(a.add n).block, (a.add n).off + (j + 1), none⟩ := by
  rw [← add_add]
  generalize a.add n = p
  simp [Addr.add]
/-- The row lies where it lay, or in the block that is new. -/
def Lands (w : World) (v v' : Value) : Prop := v'.ownBlock = v.ownBlock ∨ v'.ownBlock = some w.heap.size
theorem run_append_at {P : Program} (w : World) (base : Nat) (t ty e : TypeId) (i : TypeInfo) (z : Value) (size bytes : Nat) (ht : P.underlying t = some (.slice e)) (hi : P.info? e = some i) (hz : i.zero = some z)
    (hsize : i.size = size) (hby : i.bytes = bytes) (hzs : z.cells.size = size) (hsz : 0 < size)
    (v : Value) (n : Nat) (xs : List Value) (hown : w.ownsRow base e size v n xs)
    (a : Addr) (m c : Nat) (news : List Value) (hl : news.length = m * size) (hnews : ∀ j u, news[j]? = some u → w.cell? (a.add j) = some u) (h1 : ∀ u ∈ news, u.oneCell' = true)
    (h63 : n + m ≤ maxLen) (hbytes : (n + m) * bytes ≤ 140737488355328) (hbase : base ≤ w.heap.size) :
    ∃ v' w', (Builtin.append_ #[t, t] ty #[v, .slice (some a) m c]).run P w = .ok v' w' ∧ w'.ownsRow base e size v' (n + m) (xs ++ news) ∧ w.grownBy w' v.ownBlock ∧ Lands w v v' := by
  obtain ⟨v', w', hr, h2, h3, h4⟩ := run_append_own (P := P) w base t ty e i z size bytes ht hi hz hsize hby hzs hsz v n xs hown a m c news hl hnews h1 h63 hbytes hbase
  refine ⟨v', w', hr, h2, h3, ?_⟩
  subst hsize
  subst hby
  have hsmall : n + m ≤ 9223372036854775807 := by simp only [maxLen] at h63; omega
  rcases hown.2 with ⟨rfl, rfl⟩ | ⟨g, cap, cur, rfl, hbg, hg, hnc, hcm, hcs, htake⟩
  · by_cases hm : m = 0
    · left; rw [h4.2 ⟨rfl, hm⟩]
    · have hr2 := run_append_nil (P := P) w t ty e i z ht hi hz a m c news hl hnews (by omega) (by omega) (by have hb := hbytes; simp only [Nat.zero_add] at hb; omega)
      rw [hr] at hr2
      injection hr2 with e1 _
      subst e1
      right; rfl
  · by_cases hroom : n + m ≤ cap
    · have hfit : n * i.size + news.length ≤ cur.size := by rw [hl, hcs, ← Nat.add_mul]; exact Nat.mul_le_mul_right _ hroom
      have hr2 := run_append_room (P := P) w t ty e i ht hi g n cap cur hg a m c news hl hnews h1 hroom hfit
      rw [hr] at hr2
      injection hr2 with e1 _
      subst e1
      left; rfl
    · have holds : ∀ j u, xs[j]? = some u → w.cell? ((⟨g, 0, none⟩ : Addr).add j) = some u := hown.cells (g := g) rfl
      have hr2 := run_append_grow (P := P) w t ty e i z ht hi hz ⟨g, 0, none⟩ n cap xs hown.1 holds a m c news hl hnews (by omega) (by omega) (growslice_fits (by omega) hbytes)
      rw [hr] at hr2
      injection hr2 with e1 _
      subst e1
      right; rfl
theorem wpList_append_at {P : Program} {w : World} {ops : Array Oper} {rest : List Oper} {o : Oper} {a : Act} {Q : Exit → Act → World → Prop} (hgd : o.guard = none) (s y : Operand) (t : TypeId)
    (ho : o.op = .call { callee := .builtin .append, args := #[s, y], argTypes := #[t, t] })
    (base : Nat) (e : TypeId) (i : TypeInfo) (z : Value) (size bytes : Nat) (ht : P.underlying t = some (.slice e)) (hi : P.info? e = some i) (hz : i.zero = some z) (hsize : i.size = size) (hby : i.bytes = bytes) (hzs : z.cells.size = size) (hsz : 0 < size)
    (v : Value) (n : Nat) (xs : List Value) (hs : a.eval s = v) (hown : w.ownsRow base e size v n xs) (ad : Addr) (m c : Nat) (news : List Value) (hx : a.eval y = .slice (some ad) m c) (hl : news.length = m * size) (hnews : ∀ j u, news[j]? = some u → w.cell? (ad.add j) = some u) (h1 : ∀ u ∈ news, u.oneCell' = true)
    (h63 : n + m ≤ maxLen) (hbytes : (n + m) * bytes ≤ 140737488355328) (hbase : base ≤ w.heap.size)
    (h : ∀ v' w', w'.ownsRow base e size v' (n + m) (xs ++ news) → w.grownBy w' v.ownBlock → Lands w v v' → wpList P ops Q rest (a.put o.dst v') w') : wpList P ops Q (o :: rest) a w :=
  wpList_plain hgd fun K hK => by
    obtain ⟨v', w', hr, h2, h3, h4⟩ := run_append_at (P := P) w base t o.type e i z size bytes ht hi hz hsize hby hzs hsz v n xs hown ad m c news hl hnews h1 h63 hbytes hbase
    unfold Oper.wp execOp
    simp only [ho, resolve, invoke, builtin, Sem.run_bind, Sem.run_pure, Result.andThen_ok, List.map_toArray, List.map_cons, List.map_nil, hs, hx, hr]
    exact hK _ _ (h v' w' h2 h3 h4)
/-- A block of cells just laid, as the news of an append. -/
theorem laid_news (w : World) (t : TypeId) (xs : List Value) : ∀ j u, xs[j]? = some u → (w.alloc (.cells xs.toArray t)).cell? ((⟨w.heap.size, 0, none⟩ : Addr).add j) = some u := by
  intro j u hu
  obtain ⟨hj, rfl⟩ := List.getElem?_eq_some_iff.1 hu
  rw [add_own]
  exact (Bk.new w t xs).cell hj
abbrev I64 (n : Int) : Value := .int .i64 n
/-- A slice of ints. -/
def Ins (F : Nat → Prop) (w : World) (v : Value) (zs : List Int) : Prop := ∃ A c, v = .slice A zs.length c ∧ zs.length ≤ c ∧ Cl F w A (zs.map I64)
theorem Ins.ext {F : Nat → Prop} {w w' : World} {v : Value} {zs : List Int} (h : Ins F w v zs) (he : Ext w w') : Ins F w' v zs := let ⟨A, c, h1, h2, h3⟩ := h; ⟨A, c, h1, h2, h3.ext he⟩
theorem Ins.fr {S F : Nat → Prop} {w w' : World} {v : Value} {zs : List Int} (h : Ins F w v zs) (hf : Fr S w w') (hs : ∀ k, F k → ¬ S k) : Ins F w' v zs := let ⟨A, c, h1, h2, h3⟩ := h; ⟨A, c, h1, h2, h3.fr hf hs⟩
theorem Ins.mono {F G : Nat → Prop} {w : World} {v : Value} {zs : List Int} (h : Ins F w v zs) (hs : ∀ k, k < w.heap.size → F k → G k) : Ins G w v zs := let ⟨A, c, h1, h2, h3⟩ := h; ⟨A, c, h1, h2, h3.mono hs⟩
theorem Ins.of_own {w : World} {base n : Nat} {e : TypeId} {v : Value} {zs : List Int} (h : w.ownsRow base e 1 v n (zs.map I64)) : Ins (fun k => v.ownBlock = some k ∧ base ≤ k) w v zs := by
  have hn : n = zs.length := by have := h.1; simp at this; omega
  subst hn
  obtain ⟨A, c, h1, h2, h3⟩ := Cl.of_own h
  exact ⟨A, c, h1, h2, h3⟩
theorem Cl.int {F : Nat → Prop} {w : World} {A : Option Addr} {zs : List Int} (h : Cl F w A (zs.map I64)) {i : Nat} (hi : i < zs.length) : ∃ ad, A = some ad ∧ F ad.block ∧ w.cell? (ad.add i) = some (.int .i64 zs[i]) :=
  h.at' (by simp [hi])
/-- An atom. -/
structure At where
  neg : Bool
  rel : ByteArray
  terms : List Tm
def acells : List At → List Value → List Value
  | a :: xs, v :: vs => .bool a.neg :: .string a.rel :: v :: acells xs vs
  | _, _ => []
theorem acells_get : ∀ {xs : List At} {vs : List Value} {i : Nat} (hi : i < xs.length) (hv : i < vs.length), (acells xs vs)[i * 3]? = some (.bool xs[i].neg) ∧ (acells xs vs)[i * 3 + 1]? = some (.string xs[i].rel) ∧ (acells xs vs)[i * 3 + 2]? = some vs[i]
  | a :: xs, v :: vs, 0, _, _ => ⟨rfl, rfl, rfl⟩
  | a :: xs, v :: vs, i + 1, hi, hv => by
    obtain ⟨h1, h2, h3⟩ := acells_get (xs := xs) (vs := vs) (i := i) (by simpa using hi) (by simpa using hv)
    rw [show (i + 1) * 3 = i * 3 + 1 + 1 + 1 by omega]
    exact ⟨h1, h2, h3⟩
/-- A slice of atoms. -/
def Ats (F : Nat → Prop) (w : World) (v : Value) (xs : List At) : Prop :=
  ∃ A c vs, v = .slice A xs.length c ∧ xs.length ≤ c ∧ vs.length = xs.length ∧ Cl F w A (acells xs vs) ∧ ∀ i (h : i < xs.length) (h' : i < vs.length), Ts F w vs[i] xs[i].terms
theorem Ats.ext {F : Nat → Prop} {w w' : World} {v : Value} {xs : List At} (h : Ats F w v xs) (he : Ext w w') : Ats F w' v xs := let ⟨A, c, vs, h1, h2, h3, h4, h5⟩ := h; ⟨A, c, vs, h1, h2, h3, h4.ext he, fun i h h' => (h5 i h h').ext he⟩
theorem Ats.fr {S F : Nat → Prop} {w w' : World} {v : Value} {xs : List At} (h : Ats F w v xs) (hf : Fr S w w') (hs : ∀ k, F k → ¬ S k) : Ats F w' v xs := let ⟨A, c, vs, h1, h2, h3, h4, h5⟩ := h; ⟨A, c, vs, h1, h2, h3, h4.fr hf hs, fun i h h' => (h5 i h h').fr hf hs⟩
/-- Atom i, as three cells, in the walk's spelling. -/
theorem Cl.atom {F : Nat → Prop} {w : World} {A : Option Addr} {xs : List At} {vs : List Value} (h : Cl F w A (acells xs vs)) {i : Nat} (hi : i < xs.length) (hv : i < vs.length) : ∃ ad, A = some ad ∧ F ad.block ∧ w.cell? (ad.add (i * 3)) = some (.bool xs[i].neg) ∧ w.cell? ⟨(ad.add (i * 3)).block, (ad.add (i * 3)).off + 1, none⟩ = some (.string xs[i].rel) ∧ w.cell? ⟨(ad.add (i * 3)).block, (ad.add (i * 3)).off + 2, none⟩ = some vs[i] := by
  obtain ⟨g0, g1, g2⟩ := acells_get hi hv
  obtain ⟨ad, h1, h2, c0⟩ := h.at' g0
  obtain ⟨ad1, e1, _, c1⟩ := h.at' g1
  obtain ⟨ad2, e2, _, c2⟩ := h.at' g2
  subst h1
  injection e1 with e1; injection e2 with e2
  subst e1 e2
  rw [show i * 3 + 1 = i * 3 + (0 + 1) by omega, add_succ'] at c1
  rw [show i * 3 + 2 = i * 3 + (1 + 1) by omega, add_succ'] at c2
  exact ⟨ad, rfl, h2, c0, c1, c2⟩
/-- An atom of the reference. -/
structure RAt where
  rel : ByteArray
  terms : List Int
deriving DecidableEq
def rcells : List RAt → List Value → List Value
  | a :: xs, v :: vs => .string a.rel :: v :: rcells xs vs
  | _, _ => []
/-- A slice of the reference's atoms. -/
def Ras (F : Nat → Prop) (w : World) (v : Value) (xs : List RAt) : Prop :=
  ∃ A c vs, v = .slice A xs.length c ∧ xs.length ≤ c ∧ vs.length = xs.length ∧ Cl F w A (rcells xs vs) ∧ ∀ i (h : i < xs.length) (h' : i < vs.length), Ins F w vs[i] xs[i].terms
theorem Ras.ext {F : Nat → Prop} {w w' : World} {v : Value} {xs : List RAt} (h : Ras F w v xs) (he : Ext w w') : Ras F w' v xs := let ⟨A, c, vs, h1, h2, h3, h4, h5⟩ := h; ⟨A, c, vs, h1, h2, h3, h4.ext he, fun i h h' => (h5 i h h').ext he⟩
theorem Ras.fr {S F : Nat → Prop} {w w' : World} {v : Value} {xs : List RAt} (h : Ras F w v xs) (hf : Fr S w w') (hs : ∀ k, F k → ¬ S k) : Ras F w' v xs := let ⟨A, c, vs, h1, h2, h3, h4, h5⟩ := h; ⟨A, c, vs, h1, h2, h3, h4.fr hf hs, fun i h h' => (h5 i h h').fr hf hs⟩
theorem own_bk {w : World} {b s n k g : Nat} {e t : TypeId} {v : Value} {xs ys : List Value} (h : w.ownsRow b e s v n xs) (hb : Bk w g t ys) (he : e ≠ t) (hk : v.ownBlock = some k) : k ≠ g := by
  rcases h.2 with ⟨rfl, _⟩ | ⟨g', cap, cur, rfl, _, hc, _⟩
  · simp [Value.ownBlock] at hk
  · simp [Value.ownBlock] at hk
    subst hk
    exact (hb.ne hc (fun e' => he e'.symm)).symm
theorem own_fr {S : Nat → Prop} {w w' : World} {b s n : Nat} {e : TypeId} {v : Value} {xs : List Value} (h : w.ownsRow b e s v n xs) (hf : Fr S w w') (hs : ∀ k, v.ownBlock = some k → ¬ S k) : w'.ownsRow b e s v n xs := by
  obtain ⟨h1, h2⟩ := h
  refine ⟨h1, ?_⟩
  rcases h2 with h2 | ⟨g, cap, cur, rfl, h3, h4, h5⟩
  · exact .inl h2
  · have hlt : g < w.heap.size := by
      rcases Nat.lt_or_ge g w.heap.size with h | h
      · exact h
      · rw [Array.getElem?_eq_none h] at h4; cases h4
    exact .inr ⟨g, cap, cur, rfl, h3, (hf.block g hlt (hs g rfl)).trans h4, h5⟩
/-- Atom i, with the slice of its terms. -/
theorem Ats.at' {F : Nat → Prop} {w : World} {v : Value} {xs : List At} (h : Ats F w v xs) : ∃ A c, v = .slice A xs.length c ∧ xs.length ≤ c ∧ ∀ i (hi : i < xs.length), ∃ ad B d, A = some ad ∧ F ad.block ∧
    w.cell? (ad.add (i * 3)) = some (.bool xs[i].neg) ∧ w.cell? ⟨(ad.add (i * 3)).block, (ad.add (i * 3)).off + 1, none⟩ = some (.string xs[i].rel) ∧ w.cell? ⟨(ad.add (i * 3)).block, (ad.add (i * 3)).off + 2, none⟩ = some (.slice B xs[i].terms.length d) ∧ xs[i].terms.length ≤ d ∧ Cl F w B (tcells xs[i].terms) := by
  obtain ⟨A, c, vs, rfl, hc, hvs, hcl, hts⟩ := h
  refine ⟨A, c, rfl, hc, fun i hi => ?_⟩
  obtain ⟨ad, h1, h2, c0, c1, c2⟩ := hcl.atom (i := i) hi (by omega)
  obtain ⟨B, d, e, hd, hc2⟩ := hts i hi (by omega)
  rw [e] at c2
  exact ⟨ad, B, d, h1, h2, c0, c1, c2, hd, hc2⟩
theorem Ats.mono {F G : Nat → Prop} {w : World} {v : Value} {xs : List At} (h : Ats F w v xs) (hs : ∀ k, k < w.heap.size → F k → G k) : Ats G w v xs :=
  let ⟨A, c, vs, h1, h2, h3, h4, h5⟩ := h; ⟨A, c, vs, h1, h2, h3, h4.mono hs, fun i h h' => (h5 i h h').mono hs⟩
/-- An element reads as itself. -/
abbrev Rv (v : Value) : Option (DataW Value × List MemPlace) := some (.held v, [])
/-- Block b is a map of at most n entries: f says what it holds. -/
def MapV (w : World) (b n : Nat) (f : ByteArray → Option Value) : Prop :=
  ∃ D : DataW Value, w.ownsMap Try.prog 9 Rv b n D ∧ Tidy D ∧ (∀ s : ByteArray, ∀ zd, D.atKey (.string s.data.toList) zd = match f s with | some v => .held v | none => zd) ∧ ∀ s : ByteArray, Maps.has D (.string s.data.toList) = (f s).isSome
theorem MapV.fr {S : Nat → Prop} {w w' : World} {b n : Nat} {f : ByteArray → Option Value} (h : MapV w b n f) (hf : Fr S w w') (hb : ¬ S b) : MapV w' b n f := by
  obtain ⟨D, ⟨es, clock, h1, h2⟩, h3⟩ := h
  have hlt : b < w.heap.size := by
    rcases Nat.lt_or_ge b w.heap.size with h | h
    · exact h
    · rw [Array.getElem?_eq_none h] at h1; cases h1
  exact ⟨D, ⟨es, clock, (hf.block b hlt hb).trans h1, h2⟩, h3⟩
theorem MapV.ext {w w' : World} {b n : Nat} {f : ByteArray → Option Value} (h : MapV w b n f) (he : Ext w w') : MapV w' b n f := h.fr (he.fr (fun _ => False)) (fun h => h)
theorem MapV.mono {w : World} {b n m : Nat} {f : ByteArray → Option Value} (h : MapV w b n f) (hm : n ≤ m) : MapV w b m f := let ⟨D, h1, h2⟩ := h; ⟨D, h1.mono hm, h2⟩
abbrev Sv (s : ByteArray) : Value := .string s
instance memBA (s : ByteArray) : (vs : List ByteArray) → Decidable (s ∈ vs)
  | [] => isFalse (by simp)
  | v :: vs => if h : s = v then isTrue (by simp [h]) else match memBA s vs with
    | isTrue h' => isTrue (List.mem_cons_of_mem _ h')
    | isFalse h' => isFalse (fun e => by rcases List.mem_cons.1 e with e | e; exact h e; exact h' e)
def pairC (v : ByteArray) (t : Tm) : List Value := [.string v, .string t.var, .int .i64 t.kind, .int .i64 t.int, .string t.str]
def pcells (l : List (ByteArray × Tm)) : List Value := l.flatMap (fun p => pairC p.1 p.2)
/-- A slice of names. -/
def Strs (F : Nat → Prop) (w : World) (v : Value) (l : List ByteArray) : Prop := ∃ A c, v = .slice A l.length c ∧ l.length ≤ c ∧ Cl F w A (l.map Sv)
theorem Cl.own {w : World} {base size n m : Nat} {e : TypeId} {A : Option Addr} {c : Nat} {xs : List Value} (h : w.ownsRow base e size (.slice A n c) m xs) (G : Nat → Prop) (hG : ∀ k, k < w.heap.size → G k) : n ≤ c ∧ n = m ∧ Cl G w A xs := by
  obtain ⟨A', c', h1, h2, h3⟩ := Cl.of_own h
  injection h1 with h4 h5 h6
  subst h4 h5 h6
  exact ⟨h2, rfl, h3.mono (fun k hk _ => hG k hk)⟩
section
variable {T : List Tm} {xs ys : List At} {fx : List ByteArray}
end
/-- A slice of pairs. -/
def Prs (F : Nat → Prop) (w : World) (v : Value) (ps : List (ByteArray × Tm)) : Prop := ∃ A c, v = .slice A ps.length c ∧ ps.length ≤ c ∧ Cl F w A (pcells ps)
theorem Prs.ext {F : Nat → Prop} {w w' : World} {v : Value} {ps : List (ByteArray × Tm)} (h : Prs F w v ps) (he : Ext w w') : Prs F w' v ps := let ⟨A, c, h1, h2, h3⟩ := h; ⟨A, c, h1, h2, h3.ext he⟩
theorem own_ge {w : World} {b s n k : Nat} {e : TypeId} {v : Value} {xs : List Value} (h : w.ownsRow b e s v n xs) (hk : v.ownBlock = some k) : b ≤ k := by
  rcases h.2 with ⟨rfl, rfl⟩ | ⟨g, cap, cur, rfl, hb, -⟩
  · simp [Value.ownBlock] at hk
  · simp [Value.ownBlock] at hk; omega
section
variable {T : List Tm} {xs ys : List At} {fx : List ByteArray}
end
theorem Ras.mono {F G : Nat → Prop} {w : World} {v : Value} {xs : List RAt} (h : Ras F w v xs) (hs : ∀ k, k < w.heap.size → F k → G k) : Ras G w v xs :=
  let ⟨A, c, vs, h1, h2, h3, h4, h5⟩ := h; ⟨A, c, vs, h1, h2, h3, h4.mono hs, fun i h h' => (h5 i h h').mono hs⟩
theorem Prs.fr {S F : Nat → Prop} {w w' : World} {v : Value} {ps : List (ByteArray × Tm)} (h : Prs F w v ps) (hf : Fr S w w') (hs : ∀ k, F k → ¬ S k) : Prs F w' v ps := let ⟨A, c, h1, h2, h3⟩ := h; ⟨A, c, h1, h2, h3.fr hf hs⟩
theorem Prs.mono {F G : Nat → Prop} {w : World} {v : Value} {ps : List (ByteArray × Tm)} (h : Prs F w v ps) (hs : ∀ k, k < w.heap.size → F k → G k) : Prs G w v ps := let ⟨A, c, h1, h2, h3⟩ := h; ⟨A, c, h1, h2, h3.mono hs⟩
theorem Strs.ext {F : Nat → Prop} {w w' : World} {v : Value} {l : List ByteArray} (h : Strs F w v l) (he : Ext w w') : Strs F w' v l := let ⟨A, c, h1, h2, h3⟩ := h; ⟨A, c, h1, h2, h3.ext he⟩
theorem Strs.fr {S F : Nat → Prop} {w w' : World} {v : Value} {l : List ByteArray} (h : Strs F w v l) (hf : Fr S w w') (hs : ∀ k, F k → ¬ S k) : Strs F w' v l := let ⟨A, c, h1, h2, h3⟩ := h; ⟨A, c, h1, h2, h3.fr hf hs⟩
theorem Strs.mono {F G : Nat → Prop} {w : World} {v : Value} {l : List ByteArray} (h : Strs F w v l) (hs : ∀ k, k < w.heap.size → F k → G k) : Strs G w v l := let ⟨A, c, h1, h2, h3⟩ := h; ⟨A, c, h1, h2, h3.mono hs⟩
/-- A slice of n conditions. -/
def Cns (F : Nat → Prop) (w : World) (v : Value) (n : Nat) : Prop := ∃ A c xs, v = .slice A n c ∧ n ≤ c ∧ xs.length = n * 5 ∧ Cl F w A xs ∧ (∀ u ∈ xs, u.oneCell' = true) ∧ (A = none → n = 0 ∧ c = 0)
theorem Cns.fr {S F : Nat → Prop} {w w' : World} {v : Value} {n : Nat} (h : Cns F w v n) (hf : Fr S w w') (hs : ∀ k, F k → ¬ S k) : Cns F w' v n := let ⟨A, c, xs, h1, h2, h3, h4, h5, h6⟩ := h; ⟨A, c, xs, h1, h2, h3, h4.fr hf hs, h5, h6⟩
theorem Cns.nil (F : Nat → Prop) (w : World) : Cns F w (.slice none 0 0) 0 := ⟨none, 0, [], rfl, Nat.le_refl _, rfl, .inl rfl, by simp, fun _ => ⟨rfl, rfl⟩⟩
theorem step_append_at {P : Program} {w : World} {ops : Array Oper} {o : Oper} {a : Act} {K : Act → World → Prop} {Q : Exit → Act → World → Prop} {E : Prop} (hgd : o.guard = none) (s y : Operand) (t : TypeId)
    (ho : o.op = .call { callee := .builtin .append, args := #[s, y], argTypes := #[t, t] })
    (base : Nat) (e : TypeId) (i : TypeInfo) (z : Value) (size bytes : Nat) (ht : P.underlying t = some (.slice e)) (hi : P.info? e = some i) (hz : i.zero = some z) (hsize : i.size = size) (hby : i.bytes = bytes) (hzs : z.cells.size = size) (hsz : 0 < size)
    (v : Value) (n : Nat) (xs : List Value) (hs : a.eval s = v) (hown : w.ownsRow base e size v n xs) (ad : Addr) (m c : Nat) (news : List Value) (hx : a.eval y = .slice (some ad) m c) (hl : news.length = m * size) (hnews : ∀ j u, news[j]? = some u → w.cell? (ad.add j) = some u) (h1 : ∀ u ∈ news, u.oneCell' = true)
    (h63 : n + m ≤ maxLen) (hbytes : (n + m) * bytes ≤ 140737488355328) (hbase : base ≤ w.heap.size)
    (h : ∀ v' w', w'.ownsRow base e size v' (n + m) (xs ++ news) → w.grownBy w' v.ownBlock → Lands w v v' → K (a.put o.dst v') w') :
    if Region.wanted o (yielded ops a.tmps) = true then Oper.wp P o a w K Q else E := by
  have hw : Region.wanted o (yielded ops a.tmps) = true := by simp [Region.wanted, hgd]
  rw [if_pos hw]
  obtain ⟨v', w', hr, h2, h3, h4⟩ := run_append_at (P := P) w base t o.type e i z size bytes ht hi hz hsize hby hzs hsz v n xs hown ad m c news hl hnews h1 h63 hbytes hbase
  unfold Oper.wp execOp
  simp only [ho, resolve, invoke, builtin, Sem.run_bind, Sem.run_pure, Result.andThen_ok, List.map_toArray, List.map_cons, List.map_nil, hs, hx, hr]
  exact h v' w' h2 h3 h4
section
variable {T : List Tm} {xs ys : List At} {fx : List ByteArray}
end
theorem grown_refl (w : World) (row : Option Nat) : w.grownBy w row := ⟨rfl, rfl, rfl, Nat.le_refl _, fun _ _ _ => rfl⟩
theorem run_append_opt {P : Program} (w : World) (base : Nat) (t ty e : TypeId) (i : TypeInfo) (z : Value) (size bytes : Nat) (ht : P.underlying t = some (.slice e)) (hi : P.info? e = some i) (hz : i.zero = some z)
    (hsize : i.size = size) (hby : i.bytes = bytes) (hzs : z.cells.size = size) (hsz : 0 < size)
    (v : Value) (n : Nat) (xs : List Value) (hown : w.ownsRow base e size v n xs)
    (A : Option Addr) (m c : Nat) (news : List Value) (hl : news.length = m * size) (hnews : ∀ j u, news[j]? = some u → ∃ ad, A = some ad ∧ w.cell? (ad.add j) = some u) (h1 : ∀ u ∈ news, u.oneCell' = true)
    (h63 : n + m ≤ maxLen) (hbytes : (n + m) * bytes ≤ 140737488355328) (hbase : base ≤ w.heap.size) :
    ∃ v' w', (Builtin.append_ #[t, t] ty #[v, .slice A m c]).run P w = .ok v' w' ∧ w'.ownsRow base e size v' (n + m) (xs ++ news) ∧ w.grownBy w' v.ownBlock ∧ Lands w v v' := by
  rcases A with _ | a
  · have hnil : news = [] := by
      cases news with
      | nil => rfl
      | cons u l => obtain ⟨ad, e, _⟩ := hnews 0 u rfl; cases e
    subst hnil
    obtain rfl : m = 0 := by
      rcases Nat.eq_zero_or_pos m with h | h
      · exact h
      · have := Nat.mul_pos h hsz; simp at hl; omega
    refine ⟨v, w, ?_, by simpa using hown, grown_refl _ _, .inl rfl⟩
    subst hsize
    rcases hown.2 with ⟨rfl, rfl⟩ | ⟨g, cap, cur, rfl, hbg, hg, hnc, hcm, hcs, htake⟩
    · exact run_append_nothing w t t ty e i ht hi none 0 0 (Nat.le_refl _) _ (Src.ofNil (w := w) ht c)
    · exact run_append_nothing w t t ty e i ht hi _ n cap hnc _ (Src.ofNil (w := w) ht c)
  · exact run_append_at w base t ty e i z size bytes ht hi hz hsize hby hzs hsz v n xs hown a m c news hl (fun j u hu => by obtain ⟨ad, e, h⟩ := hnews j u hu; injection e with e; rw [e]; exact h) h1 h63 hbytes hbase
theorem wpList_append_opt {P : Program} {w : World} {ops : Array Oper} {rest : List Oper} {o : Oper} {a : Act} {Q : Exit → Act → World → Prop} (hgd : o.guard = none) (s y : Operand) (t : TypeId)
    (ho : o.op = .call { callee := .builtin .append, args := #[s, y], argTypes := #[t, t] })
    (base : Nat) (e : TypeId) (i : TypeInfo) (z : Value) (size bytes : Nat) (ht : P.underlying t = some (.slice e)) (hi : P.info? e = some i) (hz : i.zero = some z) (hsize : i.size = size) (hby : i.bytes = bytes) (hzs : z.cells.size = size) (hsz : 0 < size)
    (v : Value) (n : Nat) (xs : List Value) (hs : a.eval s = v) (hown : w.ownsRow base e size v n xs) (A : Option Addr) (m c : Nat) (news : List Value) (hx : a.eval y = .slice A m c) (hl : news.length = m * size) (hnews : ∀ j u, news[j]? = some u → ∃ ad, A = some ad ∧ w.cell? (ad.add j) = some u) (h1 : ∀ u ∈ news, u.oneCell' = true)
    (h63 : n + m ≤ maxLen) (hbytes : (n + m) * bytes ≤ 140737488355328) (hbase : base ≤ w.heap.size)
    (h : ∀ v' w', w'.ownsRow base e size v' (n + m) (xs ++ news) → w.grownBy w' v.ownBlock → Lands w v v' → wpList P ops Q rest (a.put o.dst v') w') : wpList P ops Q (o :: rest) a w :=
  wpList_plain hgd fun K hK => by
    obtain ⟨v', w', hr, h2, h3, h4⟩ := run_append_opt (P := P) w base t o.type e i z size bytes ht hi hz hsize hby hzs hsz v n xs hown A m c news hl hnews h1 h63 hbytes hbase
    unfold Oper.wp execOp
    simp only [ho, resolve, invoke, builtin, Sem.run_bind, Sem.run_pure, Result.andThen_ok, List.map_toArray, List.map_cons, List.map_nil, hs, hx, hr]
    exact hK _ _ (h v' w' h2 h3 h4)
/-- Cells in a row, as the news of an append. -/
theorem Cl.news {F : Nat → Prop} {w : World} {A : Option Addr} {xs : List Value} (h : Cl F w A xs) : ∀ j u, xs[j]? = some u → ∃ ad, A = some ad ∧ w.cell? (ad.add j) = some u := fun j u hu => by
  obtain ⟨ad, h1, _, h3⟩ := h.at' hu
  exact ⟨ad, h1, h3⟩
theorem Ts.of_own {w : World} {base n : Nat} {e : TypeId} {v : Value} {ts : List Tm} (h : w.ownsRow base e 4 v n (tcells ts)) : Ts (fun k => v.ownBlock = some k ∧ base ≤ k) w v ts := by
  have hn : n = ts.length := by have := h.1; rw [tcells_length] at this; omega
  subst hn
  obtain ⟨A, c, rfl, hc, hcl⟩ := Cl.of_own h
  exact ⟨A, c, rfl, hc, hcl⟩
theorem Strs.of_own {w : World} {base n : Nat} {e : TypeId} {v : Value} {l : List ByteArray} (h : w.ownsRow base e 1 v n (l.map Sv)) : Strs (fun k => v.ownBlock = some k ∧ base ≤ k) w v l := by
  have hn : n = l.length := by have := h.1; simp at this; omega
  subst hn
  obtain ⟨A, c, rfl, hc, hcl⟩ := Cl.of_own h
  exact ⟨A, c, rfl, by simpa using hc, hcl⟩
theorem own_ext' {w w' : World} {base size n : Nat} {e : TypeId} {v : Value} {xs : List Value} (h : w.ownsRow base e size v n xs) (he : Ext w w') : w'.ownsRow base e size v n xs := own_fr h (he.fr (fun _ => False)) (fun _ _ h => h)
theorem Cl.str {F : Nat → Prop} {w : World} {A : Option Addr} {l : List ByteArray} (h : Cl F w A (l.map Sv)) {i : Nat} (hi : i < l.length) : ∃ ad, A = some ad ∧ F ad.block ∧ w.cell? (ad.add i) = some (.string l[i]) := h.at' (by simp [hi])
theorem Ats.sl {F : Nat → Prop} {w : World} {v : Value} {xs : List At} (h : Ats F w v xs) : ∃ A c, v = .slice A xs.length c := let ⟨A, c, _, e, _⟩ := h; ⟨A, c, e⟩
theorem setMid {xs r : List Value} {v : Value} {o : Nat} (h : o + (r.length + 1) ≤ xs.length) : (xs.set o v).take (o + 1) ++ r ++ (xs.set o v).drop (o + 1 + r.length) = xs.take o ++ (v :: r) ++ xs.drop (o + (r.length + 1)) := by
  have e1 : (xs.set o v).take (o + 1) = xs.take o ++ [v] := by
    rw [List.take_succ_eq_append_getElem (by simp; omega), List.getElem_set_self, List.take_set_of_le (Nat.le_refl _)]
  have e2 : (xs.set o v).drop (o + 1 + r.length) = xs.drop (o + (r.length + 1)) := by
    rw [List.drop_set_of_lt (by omega)]
    congr 1
    omega
  rw [e1, e2]
  simp
theorem Bk.sets {g : Nat} {t : TypeId} : ∀ (vs : List Value) (o : Nat) {w : World} {xs : List Value}, Bk w g t xs → o + vs.length ≤ xs.length → Bk (w.setCells g o vs) g t (xs.take o ++ vs ++ xs.drop (o + vs.length))
  | [], o, w, xs, h, _ => by simpa [World.setCells] using h
  | v :: r, o, w, xs, h, hl => by
    rw [List.length_cons] at hl
    have h1 := Bk.sets r (o + 1) (h.set o v) (by simp; omega)
    rw [setMid (by omega)] at h1
    exact h1
theorem Fr.drew {S : Nat → Prop} {a w : World} (h : Fr S a w) : Fr S a w.drew := ⟨h.os, h.tape, h.output, h.size, h.block⟩
theorem Fr.alloc {S : Nat → Prop} {a w : World} (h : Fr S a w) (o : Obj) : Fr S a (w.alloc o) := h.ext ((Ext.refl w).alloc o)
/-- How the cells of a struct read. -/
structure Rdg (α : Type) where
  sz : Nat
  R : (Nat → Prop) → World → List Value → α → Prop
  len : ∀ {F : Nat → Prop} {w : World} {cs : List Value} {x : α}, R F w cs x → cs.length = sz
  fr : ∀ {F S : Nat → Prop} {w w' : World} {cs : List Value} {x : α}, R F w cs x → Fr S w w' → (∀ k, F k → ¬ S k) → R F w' cs x
  mono : ∀ {F G : Nat → Prop} {w : World} {cs : List Value} {x : α}, R F w cs x → (∀ k, k < w.heap.size → F k → G k) → R G w cs x
theorem Rdg.ext {α : Type} (r : Rdg α) {F : Nat → Prop} {w w' : World} {cs : List Value} {x : α} (h : r.R F w cs x) (he : Ext w w') : r.R F w' cs x := r.fr h (he.fr (fun _ => False)) (fun _ _ h => h)
/-- Structs whose cells hold their fields, nothing behind them. -/
def flatR {α : Type} (cells : α → List Value) (sz : Nat) (h : ∀ x, (cells x).length = sz) : Rdg α where
  sz := sz
  R := fun _ _ cs x => cs = cells x
  len := fun {_ _ _ x} e => e ▸ h x
  fr := fun e _ _ => e
  mono := fun e _ => e
/-- A slice of structs. -/
def Sl {α : Type} (r : Rdg α) (F : Nat → Prop) (w : World) (v : Value) (xs : List α) : Prop :=
  ∃ A c, v = .slice A xs.length c ∧ xs.length ≤ c ∧ ∀ i (hi : i < xs.length), ∃ ad cs, A = some ad ∧ F ad.block ∧ r.R F w cs xs[i] ∧ ∀ j (h : j < cs.length), w.cell? (ad.add (i * r.sz + j)) = some cs[j]
section
variable {α : Type} {r : Rdg α} {F G S : Nat → Prop} {w w' : World} {v : Value} {xs : List α}
theorem Sl.fr (h : Sl r F w v xs) (hf : Fr S w w') (hs : ∀ k, F k → ¬ S k) : Sl r F w' v xs := by
  obtain ⟨A, c, e, hc, h⟩ := h
  refine ⟨A, c, e, hc, fun i hi => ?_⟩
  obtain ⟨ad, cs, h1, h2, h3, h4⟩ := h i hi
  exact ⟨ad, cs, h1, h2, r.fr h3 hf hs, fun j hj => hf.cell (h4 j hj) (by rw [block_add]; exact hs _ h2)⟩
theorem Sl.ext (h : Sl r F w v xs) (he : Ext w w') : Sl r F w' v xs := h.fr (he.fr (fun _ => False)) (fun _ _ h => h)
theorem Sl.mono (h : Sl r F w v xs) (hp : 0 < r.sz) (hs : ∀ k, k < w.heap.size → F k → G k) : Sl r G w v xs := by
  obtain ⟨A, c, e, hc, h⟩ := h
  refine ⟨A, c, e, hc, fun i hi => ?_⟩
  obtain ⟨ad, cs, h1, h2, h3, h4⟩ := h i hi
  have h5 := cell_lt (h4 0 (by rw [r.len h3]; exact hp))
  rw [block_add] at h5
  exact ⟨ad, cs, h1, hs _ h5 h2, r.mono h3 hs, h4⟩
theorem Sl.sl (h : Sl r F w v xs) : ∃ A c, v = .slice A xs.length c := let ⟨A, c, e, _⟩ := h; ⟨A, c, e⟩
theorem Sl.cap {A : Option Addr} {n c : Nat} (h : Sl r F w (.slice A n c) xs) : n = xs.length ∧ n ≤ c := by
  obtain ⟨A', c', e, hc, -⟩ := h
  injection e with e1 e2 e3
  omega
theorem Sl.nil (r : Rdg α) (F : Nat → Prop) (w : World) : Sl r F w (.slice none 0 0) [] := ⟨none, 0, rfl, Nat.le_refl _, fun i hi => by simp at hi⟩
theorem Sl.at {A : Option Addr} {n c : Nat} (h : Sl r F w (.slice A n c) xs) {i : Nat} (hi : i < xs.length) : ∃ ad cs, A = some ad ∧ F ad.block ∧ r.R F w cs xs[i] ∧ (∀ h : 0 < cs.length, w.cell? (ad.add (i * r.sz)) = some cs[0]) ∧ ∀ j (h : j + 1 < cs.length), w.cell? ⟨(ad.add (i * r.sz)).block, (ad.add (i * r.sz)).off + (j + 1), none⟩ = some cs[j + 1] := by
  obtain ⟨A', c', e, hc, h⟩ := h
  injection e with e1 e2 e3
  subst e1
  obtain ⟨ad, cs, h1, h2, h3, h4⟩ := h i hi
  refine ⟨ad, cs, h1, h2, h3, fun h0 => by simpa using h4 0 h0, fun j hj => ?_⟩
  rw [← add_succ']
  exact h4 (j + 1) hj
end
/-- A row of structs that is being built: its cells in one block, what they point to elsewhere. -/
structure Rw {α : Type} (r : Rdg α) (w : World) (base : Nat) (E : TypeId) (v : Value) (n : Nat) (xs : List α) (css : List (List Value)) : Prop where
  len : css.length = xs.length
  own : w.ownsRow base E r.sz v n css.flatten
  rd : ∀ i (h : i < xs.length) (h' : i < css.length), r.R (fun k => base ≤ k ∧ v.ownBlock ≠ some k) w css[i] xs[i]
section
variable {α : Type} {r : Rdg α} {S : Nat → Prop} {w w' wb w9 : World} {base n : Nat} {E : TypeId} {v v9 : Value} {xs : List α} {css : List (List Value)} {cs : List Value} {x : α}
theorem flat_len {sz : Nat} : ∀ {css : List (List Value)}, (∀ cs ∈ css, cs.length = sz) → css.flatten.length = css.length * sz
  | [], _ => by simp
  | c :: css, h => by
    rw [List.flatten_cons, List.length_append, flat_len (fun d hd => h d (List.mem_cons_of_mem _ hd)), h c List.mem_cons_self, List.length_cons, Nat.add_mul]
    omega
theorem flat_get {sz : Nat} : ∀ {css : List (List Value)} {i j : Nat} (_ : ∀ cs ∈ css, cs.length = sz) (hi : i < css.length), j < sz → css.flatten[i * sz + j]? = css[i][j]?
  | c :: css, 0, j, h, _, hj => by
    rw [List.flatten_cons, List.getElem?_append_left (by rw [h c List.mem_cons_self]; omega)]
    simp
  | c :: css, i + 1, j, h, hi, hj => by
    have hc := h c List.mem_cons_self
    rw [List.flatten_cons, List.getElem?_append_right (by rw [hc, Nat.add_mul]; omega)]
    have e : (i + 1) * sz + j - c.length = i * sz + j := by rw [hc, Nat.add_mul]; omega
    rw [e]
    exact flat_get (fun d hd => h d (List.mem_cons_of_mem _ hd)) (by simpa using hi) hj
theorem Rw.all (h : Rw r w base E v n xs css) : ∀ cs ∈ css, cs.length = r.sz := fun cs hcs => by
  obtain ⟨i, hi, rfl⟩ := List.getElem_of_mem hcs
  exact r.len (h.rd i (by rw [← h.len]; exact hi) hi)
theorem Rw.num (h : Rw r w base E v n xs css) (hp : 0 < r.sz) : n = xs.length := by
  have h1 := h.own.1
  rw [flat_len h.all, h.len] at h1
  exact (Nat.mul_right_cancel hp h1).symm
theorem Rw.ext (h : Rw r w base E v n xs css) (he : Ext w w') : Rw r w' base E v n xs css := ⟨h.len, own_ext' h.own he, fun i hi h' => r.ext (h.rd i hi h') he⟩
theorem Rw.fr (h : Rw r w base E v n xs css) (hf : Fr S w w') (hs : ∀ k, base ≤ k → ¬ S k) : Rw r w' base E v n xs css := ⟨h.len, own_fr h.own hf (fun k hk => hs k (own_ge h.own hk)), fun i hi h' => r.fr (h.rd i hi h') hf (fun k hk => hs k hk.1)⟩
theorem Rw.sl (h : Rw r w base E v n xs css) (hp : 0 < r.sz) : Sl r (fun k => base ≤ k) w v xs := by
  have hn := h.num hp
  have hall := h.all
  obtain ⟨hl, ho, hr⟩ := h
  subst hn
  obtain ⟨A, c, rfl, hc, hcl⟩ := Cl.of_own ho
  refine ⟨A, c, rfl, hc, fun i hi => ?_⟩
  have hi' : i < css.length := by omega
  have hlen : css[i].length = r.sz := hall _ (List.getElem_mem hi')
  have hg : ∀ j, j < css[i].length → ∃ ad, A = some ad ∧ base ≤ ad.block ∧ w.cell? (ad.add (i * r.sz + j)) = css[i][j]? := fun j hj => by
    have h1 := flat_get hall hi' (j := j) (by omega)
    rw [List.getElem?_eq_getElem hj] at h1 ⊢
    obtain ⟨ad, e, h2, h3⟩ := hcl.at' h1
    exact ⟨ad, e, h2.2, h3⟩
  obtain ⟨ad, rfl, hb, -⟩ := hg 0 (by omega)
  refine ⟨ad, css[i], rfl, hb, r.mono (hr i hi hi') (fun k _ hk => hk.1), fun j hj => ?_⟩
  obtain ⟨ad', e, -, h2⟩ := hg j hj
  injection e with e
  subst e
  rw [h2, List.getElem?_eq_getElem hj]
theorem Rw.more (h : Rw r w base E v n xs css) (he : Ext w wb) (ht : r.R (fun k => base ≤ k ∧ v.ownBlock ≠ some k) wb cs x) (hr : w9.ownsRow base E r.sz v9 (n + 1) (css.flatten ++ cs)) (hg : wb.grownBy w9 v.ownBlock) (hl : Lands wb v v9) : Rw r w9 base E v9 (n + 1) (xs ++ [x]) (css ++ [cs]) := by
  have hne : ∀ k, k < wb.heap.size → v.ownBlock ≠ some k → v9.ownBlock ≠ some k := fun k hk h1 h2 => by
    rcases hl with hl | hl
    · exact h1 (hl ▸ h2)
    · rw [hl] at h2
      injection h2 with h2
      omega
  have hup : ∀ {ds : List Value} {y : α}, r.R (fun k => base ≤ k ∧ v.ownBlock ≠ some k) wb ds y → r.R (fun k => base ≤ k ∧ v9.ownBlock ≠ some k) w9 ds y := fun {ds y} hh => by
    have h1 : r.R (fun k => (base ≤ k ∧ v.ownBlock ≠ some k) ∧ k < wb.heap.size) wb ds y := r.mono hh (fun k hk h1 => And.intro h1 hk)
    have h2 := r.fr h1 (grown_fr hg) (fun k hk e => hk.1.2 e)
    exact r.mono h2 (fun k _ hk => ⟨hk.1.1, hne k hk.2 hk.1.2⟩)
  refine ⟨by simp [h.len], by rw [List.flatten_append]; simpa using hr, fun i hi h' => ?_⟩
  rcases Nat.lt_or_ge i xs.length with hx | hx
  · rw [List.getElem_append_left hx, List.getElem_append_left (by rw [h.len]; exact hx)]
    exact hup (r.ext (h.rd i hx (by rw [h.len]; exact hx)) he)
  · have e : i = xs.length := by simp at hi; omega
    subst e
    rw [List.getElem_append_right (Nat.le_refl _), List.getElem_append_right (by rw [h.len]; exact Nat.le_refl _)]
    simp only [h.len, Nat.sub_self, List.getElem_cons_zero]
    exact hup ht
end
/-- A condition. -/
structure Cd where
  var : ByteArray
  op : Int
  kind : Int
  int : Int
  str : ByteArray
/-- A sort key. -/
structure Ky where
  var : ByteArray
  desc : Bool
def Cd.cells (c : Cd) : List Value := [.string c.var, .int .i64 c.op, .int .i64 c.kind, .int .i64 c.int, .string c.str]
def Ky.cells (k : Ky) : List Value := [.string k.var, .bool k.desc]
section
variable {F : Nat → Prop} {w : World} {A : Option Addr} {n c : Nat}
end
/-- A value. -/
structure Vl where
  kind : Int
  int : Int
  str : ByteArray
def Vl.cells (v : Vl) : List Value := [.int .i64 v.kind, .int .i64 v.int, .string v.str]
def rdVl : Rdg Vl := flatR Vl.cells 3 (fun _ => rfl)
def vcells (l : List Vl) : List Value := l.flatMap Vl.cells
def Tm.vl (t : Tm) : Vl := ⟨t.kind, t.int, t.str⟩
/-- A built row of flat structs. -/
theorem Rw.of_flat {α : Type} {cells : α → List Value} {sz : Nat} {hl : ∀ x, (cells x).length = sz} {w : World} {base n : Nat} {E : TypeId} {v : Value} {l : List α} (h : w.ownsRow base E sz v n (l.flatMap cells)) : Rw (flatR cells sz hl) w base E v n l (l.map cells) :=
  ⟨by simp, by rw [← List.flatMap_def]; exact h, fun i hi h' => by simp [flatR]⟩
theorem info_val : (Try.prog.info? 81).map (fun i => (i.zero, i.size, i.bytes)) = some (some (.agg #[.int .i64 0, .int .i64 0, .string ⟨#[]⟩]), 3, 32) := by kernel_rfl
theorem Sl.vl {F : Nat → Prop} {w : World} {A : Option Addr} {n c : Nat} {xs : List Vl} (h : Sl rdVl F w (.slice A n c) xs) {i : Nat} (hi : i < xs.length) : ∃ ad, A = some ad ∧ F ad.block ∧ w.cell? (ad.add (i * 3)) = some (.int .i64 xs[i].kind) ∧ w.cell? ⟨(ad.add (i * 3)).block, (ad.add (i * 3)).off + 1, none⟩ = some (.int .i64 xs[i].int) ∧ w.cell? ⟨(ad.add (i * 3)).block, (ad.add (i * 3)).off + 2, none⟩ = some (.string xs[i].str) := by
  obtain ⟨ad, cs, h1, h2, h3, h4, h5⟩ := h.at hi
  have e : cs = Vl.cells xs[i] := h3
  subst e
  exact ⟨ad, h1, h2, h4 (by simp [Vl.cells]), h5 0 (by simp [Vl.cells]), h5 1 (by simp [Vl.cells])⟩
theorem Ins.nil (F : Nat → Prop) (w : World) : Ins F w (.slice none 0 0) [] := ⟨none, 0, rfl, Nat.le_refl _, .inl rfl⟩
/-- A row in a slice of rows. -/
def rdRow : Rdg (List Vl) where
  sz := 1
  R := fun F w cs x => ∃ u, cs = [u] ∧ Sl rdVl F w u x
  len := fun ⟨_, e, _⟩ => by rw [e]; rfl
  fr := fun ⟨u, e, h⟩ hf hs => ⟨u, e, h.fr hf hs⟩
  mono := fun ⟨u, e, h⟩ hs => ⟨u, e, h.mono (by decide) hs⟩
/-- A relation: its arity and its rows. -/
structure Re where
  ar : Int
  rows : List (List Vl)
/-- An entry of a database. -/
structure En where
  kinds : List Int
  rel : Re
def ReV (F : Nat → Prop) (w : World) (v : Value) (r : Re) : Prop := ∃ u, v = .agg #[.int .i64 r.ar, u] ∧ Sl rdRow F w u r.rows
def EnV (F : Nat → Prop) (w : World) (v : Value) (e : En) : Prop := ∃ u y, v = .agg #[u, .int .i64 e.rel.ar, y] ∧ Ins F w u e.kinds ∧ (∀ n c, y = .slice none n c → c = 0) ∧ Sl rdRow F w y e.rel.rows
section
variable {F G S : Nat → Prop} {w w' : World} {v : Value}
theorem ReV.fr {r : Re} (h : ReV F w v r) (hf : Fr S w w') (hs : ∀ k, F k → ¬ S k) : ReV F w' v r := let ⟨u, e, h1⟩ := h; ⟨u, e, h1.fr hf hs⟩
theorem ReV.ext {r : Re} (h : ReV F w v r) (he : Ext w w') : ReV F w' v r := let ⟨u, e, h1⟩ := h; ⟨u, e, h1.ext he⟩
theorem ReV.mono {r : Re} (h : ReV F w v r) (hs : ∀ k, k < w.heap.size → F k → G k) : ReV G w v r := let ⟨u, e, h1⟩ := h; ⟨u, e, h1.mono (by decide) hs⟩
theorem EnV.fr {r : En} (h : EnV F w v r) (hf : Fr S w w') (hs : ∀ k, F k → ¬ S k) : EnV F w' v r := let ⟨u, y, e, h1, hn, h2⟩ := h; ⟨u, y, e, h1.fr hf hs, hn, h2.fr hf hs⟩
theorem EnV.ext {r : En} (h : EnV F w v r) (he : Ext w w') : EnV F w' v r := let ⟨u, y, e, h1, hn, h2⟩ := h; ⟨u, y, e, h1.ext he, hn, h2.ext he⟩
theorem EnV.mono {r : En} (h : EnV F w v r) (hs : ∀ k, k < w.heap.size → F k → G k) : EnV G w v r := let ⟨u, y, e, h1, hn, h2⟩ := h; ⟨u, y, e, h1.mono hs, hn, h2.mono (by decide) hs⟩
end
/-- What a database holds. -/
abbrev Dm := ByteArray → Option En
/-- Block b is the map of a database of at most n entries. -/
def DbB (F : Nat → Prop) (w : World) (b n : Nat) (m : Dm) : Prop :=
  ∃ f : ByteArray → Option Value, MapV w b n f ∧ ∀ s, (m s = none ∧ f s = none) ∨ ∃ e u, m s = some e ∧ f s = some u ∧ EnV F w u e
section
variable {F G S : Nat → Prop} {w w' : World} {b n : Nat} {m : Dm}
theorem DbB.fr (h : DbB F w b n m) (hf : Fr S w w') (hb : ¬ S b) (hs : ∀ k, F k → ¬ S k) : DbB F w' b n m := by
  obtain ⟨f, h1, h2⟩ := h
  refine ⟨f, h1.fr hf hb, fun s => ?_⟩
  rcases h2 s with h | ⟨e, u, h3, h4, h5⟩
  · exact .inl h
  · exact .inr ⟨e, u, h3, h4, h5.fr hf hs⟩
theorem DbB.ext (h : DbB F w b n m) (he : Ext w w') : DbB F w' b n m := h.fr (he.fr (fun _ => False)) (fun h => h) (fun _ _ h => h)
theorem DbB.mono (h : DbB F w b n m) (hs : ∀ k, k < w.heap.size → F k → G k) : DbB G w b n m := by
  obtain ⟨f, h1, h2⟩ := h
  refine ⟨f, h1, fun s => ?_⟩
  rcases h2 s with h | ⟨e, u, h3, h4, h5⟩
  · exact .inl h
  · exact .inr ⟨e, u, h3, h4, h5.mono hs⟩
end
theorem two_blk (w : World) (t u : TypeId) (cs ds : List Value) : Bk ((w.alloc (.cells cs.toArray t)).alloc (.cells ds.toArray u)) w.heap.size t cs ∧ Bk ((w.alloc (.cells cs.toArray t)).alloc (.cells ds.toArray u)) (w.heap.size + 1) u ds := by
  refine ⟨(Bk.new w t cs).alloc _, ?_⟩
  have h := Bk.new (w.alloc (.cells cs.toArray t)) u ds
  have e : (w.alloc (.cells cs.toArray t)).heap.size = w.heap.size + 1 := by simp
  rw [e] at h
  exact h
/-- A comparison that orders its elements totally. -/
structure Cmp {α : Type} (c : α → α → Int) : Prop where
  val : ∀ a b, c a b = -1 ∨ c a b = 0 ∨ c a b = 1
  eq : ∀ a b, c a b = 0 ↔ a = b
  anti : ∀ a b, c b a = - c a b
  trans : ∀ a b d, c a b < 0 → c b d < 0 → c a d < 0
section
variable {α β : Type} {c : α → α → Int} {d : β → β → Int}
/-- One behind the other. -/
def seqC (c : α → α → Int) (d : β → β → Int) (x y : α × β) : Int := if c x.1 y.1 = 0 then d x.2 y.2 else c x.1 y.1
theorem Cmp.seq (h : Cmp c) (k : Cmp d) : Cmp (seqC c d) where
  val := fun x y => by
    unfold seqC
    split
    · exact k.val _ _
    · exact h.val _ _
  eq := fun x y => by
    unfold seqC
    by_cases h0 : c x.1 y.1 = 0
    · rw [if_pos h0, k.eq]
      have h1 := (h.eq _ _).1 h0
      constructor
      · exact fun h2 => Prod.ext h1 h2
      · exact fun h2 => h2 ▸ rfl
    · rw [if_neg h0]
      constructor
      · exact fun h1 => absurd h1 h0
      · exact fun h1 => absurd ((h.eq _ _).2 (h1 ▸ rfl)) h0
  anti := fun x y => by
    unfold seqC
    have h1 := h.anti x.1 y.1
    by_cases h0 : c x.1 y.1 = 0
    · rw [if_pos h0, if_pos (by omega), k.anti]
    · rw [if_neg h0, if_neg (by omega), h1]
  trans := fun x y z => by
    unfold seqC
    by_cases h0 : c x.1 y.1 = 0
    · rw [if_pos h0, (h.eq _ _).1 h0]
      intro h1
      by_cases h2 : c y.1 z.1 = 0
      · rw [if_pos h2, if_pos h2]; exact fun h3 => k.trans _ _ _ h1 h3
      · rw [if_neg h2, if_neg h2]; exact fun h3 => h3
    · rw [if_neg h0]
      intro h1
      by_cases h2 : c y.1 z.1 = 0
      · rw [if_pos h2, ← (h.eq _ _).1 h2, if_neg h0]; exact fun _ => h1
      · rw [if_neg h2]
        intro h3
        have h4 := h.trans _ _ _ h1 h3
        rw [if_neg (by omega)]
        exact h4
theorem Cmp.map (h : Cmp d) (f : α → β) (hf : ∀ a b, f a = f b → a = b) : Cmp (fun a b => d (f a) (f b)) where
  val := fun _ _ => h.val _ _
  eq := fun a b => by
    rw [h.eq]
    exact ⟨hf a b, fun e => e ▸ rfl⟩
  anti := fun _ _ => h.anti _ _
  trans := fun _ _ _ => h.trans _ _ _
/-- Lists by their first difference. -/
def lexC (c : α → α → Int) : List α → List α → Int
  | [], [] => 0
  | [], _ :: _ => -1
  | _ :: _, [] => 1
  | a :: l, b :: m => if c a b = 0 then lexC c l m else c a b
theorem Cmp.lex (h : Cmp c) : Cmp (lexC c) where
  val := fun x => by
    induction x with
    | nil => intro y; cases y <;> simp [lexC]
    | cons a x ih =>
      intro y
      cases y with
      | nil => simp [lexC]
      | cons b y =>
        unfold lexC
        split
        · exact ih y
        · exact h.val _ _
  eq := fun x => by
    induction x with
    | nil => intro y; cases y <;> simp [lexC]
    | cons a x ih =>
      intro y
      cases y with
      | nil => simp [lexC]
      | cons b y =>
        unfold lexC
        by_cases h0 : c a b = 0
        · rw [if_pos h0, ih, (h.eq _ _).1 h0]
          simp
        · rw [if_neg h0]
          constructor
          · exact fun h1 => absurd h1 h0
          · intro h1
            injection h1 with h1 h2
            exact absurd ((h.eq _ _).2 h1) h0
  anti := fun x => by
    induction x with
    | nil => intro y; cases y <;> simp [lexC]
    | cons a x ih =>
      intro y
      cases y with
      | nil => simp [lexC]
      | cons b y =>
        unfold lexC
        have h1 := h.anti a b
        by_cases h0 : c a b = 0
        · rw [if_pos h0, if_pos (by omega), ih]
        · rw [if_neg h0, if_neg (by omega), h1]
  trans := fun x => by
    induction x with
    | nil =>
      intro y z
      cases y with
      | nil => exact fun h => absurd h (by simp [lexC])
      | cons b y => cases z <;> simp [lexC]
    | cons a x ih =>
      intro y z
      cases y with
      | nil => exact fun h => absurd h (by simp [lexC])
      | cons b y =>
        cases z with
        | nil => exact fun _ h => absurd h (by simp [lexC])
        | cons d z =>
          unfold lexC
          by_cases h0 : c a b = 0
          · rw [if_pos h0, (h.eq _ _).1 h0]
            intro h1
            by_cases h2 : c b d = 0
            · rw [if_pos h2, if_pos h2]; exact fun h3 => ih _ _ h1 h3
            · rw [if_neg h2, if_neg h2]; exact fun h3 => h3
          · rw [if_neg h0]
            intro h1
            by_cases h2 : c b d = 0
            · rw [if_pos h2, ← (h.eq _ _).1 h2, if_neg h0]; exact fun _ => h1
            · rw [if_neg h2]
              intro h3
              have h4 := h.trans _ _ _ h1 h3
              rw [if_neg (by omega)]
              exact h4
theorem Cmp.le_trans (h : Cmp c) {a b d : α} (h1 : c a b ≤ 0) (h2 : c b d ≤ 0) : c a d ≤ 0 := by
  by_cases e1 : c a b = 0
  · rw [(h.eq _ _).1 e1]; exact h2
  · by_cases e2 : c b d = 0
    · rw [← (h.eq _ _).1 e2]; exact h1
    · have := h.trans a b d (by omega) (by omega)
      omega
end
theorem cmp_int : Cmp Lib.compareInt where
  val := fun a b => by unfold Lib.compareInt; split <;> (try split) <;> simp
  eq := fun a b => by unfold Lib.compareInt; split <;> (try split) <;> (constructor <;> intro h <;> omega)
  anti := fun a b => by unfold Lib.compareInt; split <;> split <;> (try split) <;> (try split) <;> omega
  trans := fun a b d => by unfold Lib.compareInt; intro h1 h2; split at h1 <;> (try split at h1) <;> split at h2 <;> (try split at h2) <;> first | omega | (rw [if_pos (by omega)]; omega)
def byteC (a b : UInt8) : Int := Lib.compareInt (a.toNat : Int) (b.toNat : Int)
theorem cmp_byte : Cmp byteC := cmp_int.map (fun a : UInt8 => (a.toNat : Int)) (fun a b h => UInt8.toNat_inj.1 (by omega))
theorem bytes_lex : ∀ a b : List UInt8, Lib.compareBytes a b = lexC byteC a b
  | [], [] => rfl
  | [], _ :: _ => rfl
  | _ :: _, [] => rfl
  | a :: l, b :: m => by
    unfold Lib.compareBytes lexC
    rw [bytes_lex l m]
    unfold byteC Lib.compareInt
    by_cases h1 : a < b
    · have h2 : (a.toNat : Int) < b.toNat := by have := UInt8.lt_iff_toNat_lt.1 h1; omega
      rw [if_pos h1, if_pos h2]
      rfl
    · have h2 : ¬ (a.toNat : Int) < b.toNat := fun h => h1 (UInt8.lt_iff_toNat_lt.2 (by omega))
      rw [if_neg h1, if_neg h2]
      by_cases h3 : b < a
      · have h4 : (a.toNat : Int) > b.toNat := by have := UInt8.lt_iff_toNat_lt.1 h3; omega
        rw [if_pos h3, if_pos h4]
        rfl
      · have h4 : ¬ (a.toNat : Int) > b.toNat := fun h => h3 (UInt8.lt_iff_toNat_lt.2 (by omega))
        rw [if_neg h3, if_neg h4]
        rfl
def strC (a b : ByteArray) : Int := Lib.compareBytes a.data.toList b.data.toList
theorem cmp_str : Cmp strC := by
  have h := (cmp_byte.lex).map (fun s : ByteArray => s.data.toList) (fun a b h => by
    cases a; cases b; simp at h; rw [h])
  have e : strC = fun a b => lexC byteC a.data.toList b.data.toList := by
    funext a b
    exact bytes_lex _ _
  rw [e]
  exact h
/-- Values by kind, number, string. -/
def cmpV (a b : Vl) : Int := if a.kind ≠ b.kind then Lib.compareInt a.kind b.kind else if a.int ≠ b.int then Lib.compareInt a.int b.int else strC a.str b.str
theorem cmp_vl : Cmp cmpV := by
  have h := (cmp_int.seq (cmp_int.seq cmp_str)).map (fun v : Vl => (v.kind, v.int, v.str)) (fun a b h => by
    cases a; cases b; simp at h; simp [h])
  have e : cmpV = fun a b => seqC Lib.compareInt (seqC Lib.compareInt strC) (a.kind, a.int, a.str) (b.kind, b.int, b.str) := by
    funext a b
    unfold cmpV seqC
    by_cases h1 : a.kind = b.kind
    · rw [if_neg (by simpa using h1), if_pos ((cmp_int.eq _ _).2 h1)]
      by_cases h2 : a.int = b.int
      · rw [if_neg (by simpa using h2)]
        show _ = if Lib.compareInt a.int b.int = 0 then _ else _
        rw [if_pos ((cmp_int.eq _ _).2 h2)]
      · rw [if_pos h2]
        show _ = if Lib.compareInt a.int b.int = 0 then _ else _
        rw [if_neg (fun h => h2 ((cmp_int.eq _ _).1 h))]
    · rw [if_pos h1, if_neg (fun h => h1 ((cmp_int.eq _ _).1 h))]
  rw [e]
  exact h
/-- Rows. -/
def cmpR : List Vl → List Vl → Int := lexC cmpV
theorem cmp_row : Cmp cmpR := cmp_vl.lex
/-- The world has only grown. -/
def Gr (w w' : World) : Prop := ∃ q os, w' = Go.Sort.grow (w.drewN q) os
theorem Gr.refl (w : World) : Gr w w := ⟨0, #[], by simp [World.drewN]⟩
theorem Gr.drewN {a w : World} (h : Gr a w) (n : Nat) : Gr a (w.drewN n) := by
  obtain ⟨q, os, rfl⟩ := h
  exact ⟨q + n, os, by simp [Go.Sort.grow, World.drewN, Nat.add_assoc]⟩
theorem Gr.drew {a w : World} (h : Gr a w) : Gr a w.drew := h.drewN 1
theorem Gr.alloc {a w : World} (h : Gr a w) (o : Obj) : Gr a (w.alloc o) := by
  obtain ⟨q, os, rfl⟩ := h
  exact ⟨q, os.push o, by simp [Go.Sort.grow, World.alloc]⟩
theorem Gr.trans {a b d : World} (h : Gr a b) (k : Gr b d) : Gr a d := by
  obtain ⟨q, os, rfl⟩ := h
  obtain ⟨q2, os2, rfl⟩ := k
  exact ⟨q + q2, os ++ os2, by simp [Go.Sort.grow, World.drewN, Nat.add_assoc, Array.append_assoc]⟩
theorem Gr.ext {a b : World} (h : Gr a b) : Ext a b := by
  obtain ⟨q, os, rfl⟩ := h
  refine ⟨rfl, rfl, rfl, by simp [Go.Sort.grow, World.drewN], fun k hk => ?_⟩
  show (a.heap ++ os)[k]? = _
  rw [Array.getElem?_append_left hk]
theorem Gr.cell {a b : World} (h : Gr a b) {p : Addr} {v : Value} (hc : a.cell? p = some v) : b.cell? p = some v := h.ext.cell hc
theorem nan64 (x : Int) (w : World) : Calls Try.prog 88 #[.int .i64 x] w (fun e w' => e = .returned (.bool false) ∧ w = w') := by
  have hb : (x != x) = false := by simp
  go_enter Try.func88, Try.ntmps88
  go_wp2_with fail
  go_ret
  exact ⟨rfl, rfl⟩
theorem cmp64 (x y : Int) (w : World) : Calls Try.prog 78 #[.int .i64 x, .int .i64 y] w (fun e w' => e = .returned (.int .i64 (Lib.compareInt x y)) ∧ w = w') := by
  by_cases h1 : x < y
  · rw [show Lib.compareInt x y = -1 by unfold Lib.compareInt; rw [if_pos h1]]
    go_enter Try.func78, Try.ntmps78
    go_wp2_with fail
    refine (nan64 x _).mono ?_
    rintro e w2 ⟨rfl, rfl⟩
    go_wp2_with fail
    refine (nan64 y _).mono ?_
    rintro e w2 ⟨rfl, rfl⟩
    go_wp2_with fail
    go_ret
    exact ⟨rfl, rfl⟩
  · by_cases h2 : y < x
    · rw [show Lib.compareInt x y = 1 by unfold Lib.compareInt; rw [if_neg h1, if_pos h2]]
      go_enter Try.func78, Try.ntmps78
      go_wp2_with fail
      refine (nan64 x _).mono ?_
      rintro e w2 ⟨rfl, rfl⟩
      go_wp2_with fail
      refine (nan64 y _).mono ?_
      rintro e w2 ⟨rfl, rfl⟩
      go_wp2_with fail
      go_ret
      exact ⟨rfl, rfl⟩
    · rw [show Lib.compareInt x y = 0 by unfold Lib.compareInt; rw [if_neg h1, if_neg (show ¬ x > y from h2)]]
      go_enter Try.func78, Try.ntmps78
      go_wp2_with fail
      refine (nan64 x _).mono ?_
      rintro e w2 ⟨rfl, rfl⟩
      go_wp2_with fail
      refine (nan64 y _).mono ?_
      rintro e w2 ⟨rfl, rfl⟩
      go_wp2_with fail
      go_ret
      exact ⟨rfl, rfl⟩
set_option maxRecDepth 20000 in
set_option maxHeartbeats 1600000 in
theorem vcomp_any (a b : Vl) (w : World) :
    Calls Try.prog 71 #[.agg #[.int .i64 a.kind, .int .i64 a.int, .string a.str], .agg #[.int .i64 b.kind, .int .i64 b.int, .string b.str]] w (fun e w' => e = .returned (.int .i64 (cmpV a b)) ∧ Gr w w') := by
  obtain ⟨ak, an, as'⟩ := a
  obtain ⟨bk, bn, bs⟩ := b
  obtain ⟨z, hz⟩ : ∃ z, z = cmpV ⟨ak, an, as'⟩ ⟨bk, bn, bs⟩ := ⟨_, rfl⟩
  rw [← hz]
  simp only
  have HZ := Lib.hid hz
  clear hz
  have k2 := two_blk w 81 81 [.int .i64 ak, .int .i64 an, .string as'] [.int .i64 bk, .int .i64 bn, .string bs]
  change Bk ((w.alloc (.cells #[.int .i64 ak, .int .i64 an, .string as'] 81)).alloc (.cells #[.int .i64 bk, .int .i64 bn, .string bs] 81)) _ _ _ ∧ Bk ((w.alloc (.cells #[.int .i64 ak, .int .i64 an, .string as'] 81)).alloc (.cells #[.int .i64 bk, .int .i64 bn, .string bs] 81)) _ _ _ at k2
  have hx1 : Gr w ((w.alloc (.cells #[.int .i64 ak, .int .i64 an, .string as'] 81)).alloc (.cells #[.int .i64 bk, .int .i64 bn, .string bs] 81)) := ((Gr.refl w).alloc _).alloc _
  go_enter Try.func71, Try.ntmps71
  go_upto_region 1 with fail
  generalize ((w.alloc (.cells #[.int .i64 ak, .int .i64 an, .string as'] 81)).alloc (.cells #[.int .i64 bk, .int .i64 bn, .string bs] 81)) = w1 at *
  obtain ⟨ka, kb⟩ := k2
  have a0 := ka.cell (i := 0) (by simp); have a1 := ka.cell (i := 1) (by simp); have a2 := ka.cell (i := 2) (by simp)
  have b0 := kb.cell (i := 0) (by simp); have b1 := kb.cell (i := 1) (by simp); have b2 := kb.cell (i := 2) (by simp)
  simp only [List.getElem_cons_zero, List.getElem_cons_succ] at a0 a1 a2 b0 b1 b2
  have HX := Lib.hid hx1
  clear ka kb hx1
  by_cases hk : ak = bk
  · have g1 : (ak != bk) = false := by simpa using hk
    by_cases hn : an = bn
    · have g2 : (an != bn) = false := by simpa using hn
      have HQ : Hid (z = strC as' bs) := Lib.hid (by rw [HZ.out]; unfold cmpV; rw [if_neg (by simpa using hk), if_neg (by simpa using hn)])
      clear hk hn
      go_wp2_with fail
      refine (Try.strings_Compare as' bs _).mono ?_
      rintro e w2 ⟨rfl, rfl⟩
      go_wp2_with fail
      go_ret
      exact ⟨by rw [HQ.out]; rfl, HX.out⟩
    · have g2 : (an != bn) = true := by simpa using hn
      have HQ : Hid (z = Lib.compareInt an bn) := Lib.hid (by rw [HZ.out]; unfold cmpV; rw [if_neg (by simpa using hk), if_pos hn])
      clear hk hn
      go_wp2_with fail
      refine (cmp64 an bn _).mono ?_
      rintro e w2 ⟨rfl, rfl⟩
      go_wp2_with fail
      go_ret
      exact ⟨by rw [HQ.out]; rfl, HX.out⟩
  · have g1 : (ak != bk) = true := by simpa using hk
    have HQ : Hid (z = Lib.compareInt ak bk) := Lib.hid (by rw [HZ.out]; unfold cmpV; rw [if_pos hk])
    clear hk
    go_wp2_with fail
    refine (Try.cmp_Compare_int ak bk _).mono ?_
    rintro e w2 ⟨rfl, rfl⟩
    go_wp2_with fail
    go_ret
    exact ⟨by rw [HQ.out]; rfl, HX.out⟩
theorem lexC_at {α : Type} {c : α → α → Int} : ∀ {xs ys : List α} {i : Nat}, i ≤ xs.length → i ≤ ys.length → lexC c (xs.take i) (ys.take i) = 0 → lexC c xs ys = lexC c (xs.drop i) (ys.drop i)
  | _, _, 0, _, _, _ => by simp
  | a :: xs, b :: ys, i + 1, h1, h2, h => by
    simp only [List.take_succ_cons, lexC] at h
    simp only [List.drop_succ_cons]
    by_cases h0 : c a b = 0
    · rw [if_pos h0] at h
      rw [← lexC_at (by simpa using h1) (by simpa using h2) h]
      simp only [lexC]
      rw [if_pos h0]
    · rw [if_neg h0] at h
      exact absurd h h0
theorem lexC_take {α : Type} {c : α → α → Int} : ∀ {xs ys : List α} {i : Nat} (h1 : i < xs.length) (h2 : i < ys.length), lexC c (xs.take i) (ys.take i) = 0 → c xs[i] ys[i] = 0 → lexC c (xs.take (i + 1)) (ys.take (i + 1)) = 0
  | a :: xs, b :: ys, 0, _, _, _, h => by
    simp only [List.getElem_cons_zero] at h
    simp [lexC, h]
  | a :: xs, b :: ys, i + 1, h1, h2, h, k => by
    simp only [List.take_succ_cons, lexC] at h ⊢
    simp only [List.getElem_cons_succ] at k
    by_cases h0 : c a b = 0
    · rw [if_pos h0] at h ⊢
      exact lexC_take (by simpa using h1) (by simpa using h2) h k
    · rw [if_neg h0] at h
      exact absurd h h0
set_option maxRecDepth 20000 in
set_option maxHeartbeats 1600000 in
theorem rcompby_any {F G : Nat → Prop} {w : World} {A B : Option Addr} {n c m d : Nat} {xs ys : List Vl} (hA : Sl rdVl F w (.slice A n c) xs) (hB : Sl rdVl G w (.slice B m d) ys) (hn : n ≤ 1048576) (hm : m ≤ 1048576) :
    Calls Try.prog 55 #[.slice A n c, .slice B m d, .slice none 0 0] w (fun e w' => e = .returned (.int .i64 (cmpR xs ys)) ∧ Gr w w') := by
  have hxn := hA.cap.1; have hyn := hB.cap.1
  have HA := Lib.hid hA; have HB := Lib.hid hB; have HXN := Lib.hid hxn; have HYN := Lib.hid hyn
  obtain ⟨z, hz⟩ : ∃ z, z = cmpR xs ys := ⟨_, rfl⟩
  rw [← hz]
  have HZ := Lib.hid hz
  obtain ⟨p, hp⟩ : ∃ p, p = min n m := ⟨_, rfl⟩
  have hpn : p ≤ n := by omega
  have hpm : p ≤ m := by omega
  have HP := Lib.hid hp
  have hmin : min (n : Int) (m : Int) = (p : Int) := by omega
  clear hA hB hxn hyn hz hp
  go_enter Try.func55, Try.ntmps55
  go_wp2_with fail
  go_loopw [14] (fun t wr => ∃ i : Nat, i ≤ p ∧ t = .int .i64 (i : Int) ∧ Hid (lexC cmpV (xs.take i) (ys.take i) = 0) ∧ Gr w wr) (fun t _ => p - (intOf t).toNat)
  case atStart => exact ⟨0, Nat.zero_le _, rfl, Lib.hid (by simp [lexC]), Gr.refl _⟩
  case round =>
    obtain ⟨i, hi, rfl, HE, hgr⟩ := hrel
    obtain ⟨W, rfl⟩ : ∃ W : World, W = wr := ⟨_, rfl⟩
    have HG := Lib.hid hgr
    by_cases hlt : i < p
    · have i1 : (0 : Int) ≤ (i : Int) := by omega
      have i2 : (i : Int) < (p : Int) := by omega
      have i3 : (i : Int) < (n : Int) := by omega
      have i4 : (i : Int) < (m : Int) := by omega
      have hix : i < xs.length := by have := HXN.out; omega
      have hiy : i < ys.length := by have := HYN.out; omega
      obtain ⟨ad, rfl, -, a0, a1, a2⟩ := HA.out.vl hix
      obtain ⟨bd, rfl, -, b0, b1, b2⟩ := HB.out.vl hiy
      replace a0 := hgr.cell a0; replace a1 := hgr.cell a1; replace a2 := hgr.cell a2; replace b0 := hgr.cell b0; replace b1 := hgr.cell b1; replace b2 := hgr.cell b2
      have hcut : lexC cmpV xs ys = lexC cmpV (xs.drop i) (ys.drop i) := lexC_at (by omega) (by omega) HE.out
      have hstep : cmpV xs[i] ys[i] = 0 → lexC cmpV (xs.take (i + 1)) (ys.take (i + 1)) = 0 := lexC_take hix hiy HE.out
      have hstop : cmpV xs[i] ys[i] ≠ 0 → z = cmpV xs[i] ys[i] := fun h => by
        rw [HZ.out]
        unfold cmpR
        rw [hcut, List.drop_eq_getElem_cons hix, List.drop_eq_getElem_cons hiy]
        show (if cmpV xs[i] ys[i] = 0 then _ else _) = _
        rw [if_neg h]
      have HV := Lib.hid (fun (V : World) => vcomp_any xs[i] ys[i] V)
      obtain ⟨x, hx⟩ : ∃ x, x = xs[i] := ⟨_, rfl⟩
      obtain ⟨y, hy⟩ : ∃ y, y = ys[i] := ⟨_, rfl⟩
      rw [← hx] at a0 a1 a2 hstep hstop HV
      rw [← hy] at b0 b1 b2 hstep hstop HV
      obtain ⟨xk, xn, xs'⟩ := x
      obtain ⟨yk, yn, ys'⟩ := y
      simp only at a0 a1 a2 b0 b1 b2 HV
      have HST := Lib.hid hstep; have HSP := Lib.hid hstop
      clear hx hy hcut hstep hstop hgr
      go_upto_region 4 with fail
      go_region_held3 (fun V => Gr W V ∧ V.cell? (ad.add (i * 3)) = some (.int .i64 xk) ∧ V.cell? ⟨(ad.add (i * 3)).block, (ad.add (i * 3)).off + 1, none⟩ = some (.int .i64 xn) ∧ V.cell? ⟨(ad.add (i * 3)).block, (ad.add (i * 3)).off + 2, none⟩ = some (.string xs') ∧ V.cell? (bd.add (i * 3)) = some (.int .i64 yk) ∧ V.cell? ⟨(bd.add (i * 3)).block, (bd.add (i * 3)).off + 1, none⟩ = some (.int .i64 yn) ∧ V.cell? ⟨(bd.add (i * 3)).block, (bd.add (i * 3)).off + 2, none⟩ = some (.string ys'))
        ((refine (fun he => ⟨he, Gr.cell he a0, Gr.cell he a1, Gr.cell he a2, Gr.cell he b0, Gr.cell he b1, Gr.cell he b2⟩) ?_; repeat (first | exact Gr.refl _ | exact (Gr.refl _).drew | refine Gr.drew ?_ | refine Gr.trans ?_ (by assumption))))
        (first
          | (go_at_call 71; (with_reducible refine (HV.out _).mono ?_); rintro e wi ⟨rfl, hei⟩))
      have hfin := And.left (b := _ ∧ _) (by assumption)
      obtain ⟨X, rfl⟩ : ∃ X : World, X = wi := ⟨_, rfl⟩
      have HX := Lib.hid (HG.out.trans hfin)
      obtain ⟨q, hq⟩ : ∃ q, q = cmpV ⟨xk, xn, xs'⟩ ⟨yk, yn, ys'⟩ := ⟨_, rfl⟩
      rw [← hq] at HST HSP ⊢
      clear hfin hei a0 a1 a2 b0 b1 b2 hq
      by_cases hq0 : q = 0
      · subst hq0
        have HS := Lib.hid (HST.out rfl)
        go_wp2_with fail
        go_roundw
        case rel => exact ⟨i + 1, by omega, by go_num, HS, HX.out⟩
        case measure => simp [intOf]; omega
      · have HS := Lib.hid (HSP.out hq0)
        have hqb : (q == 0) = false := by simpa using hq0
        clear hq0
        go_wp2_with fail
        go_ret
        exact ⟨by rw [HS.out]; rfl, HX.out⟩
    · obtain rfl : i = p := by omega
      have hdi : ¬ (i : Int) < (i : Int) := by omega
      have hcut : lexC cmpV xs ys = lexC cmpV (xs.drop i) (ys.drop i) := lexC_at (by have := HXN.out; omega) (by have := HYN.out; omega) HE.out
      have hz2 : z = lexC cmpV (xs.drop i) (ys.drop i) := by rw [HZ.out]; exact hcut
      have hl1 : (xs.drop i).length = n - i := by rw [List.length_drop, ← HXN.out]
      have hl2 : (ys.drop i).length = m - i := by rw [List.length_drop, ← HYN.out]
      have HP2 := HP.out
      obtain ⟨l1, h1⟩ : ∃ l, l = xs.drop i := ⟨_, rfl⟩
      obtain ⟨l2, h2⟩ : ∃ l, l = ys.drop i := ⟨_, rfl⟩
      rw [← h1] at hl1 hz2
      rw [← h2] at hl2 hz2
      clear h1 h2 hcut hgr
      by_cases hnm : n < m
      · have HQ : Hid (z = -1) := Lib.hid (by
          rw [hz2]
          cases l1 with
          | nil => cases l2 with
            | nil => simp at hl2; omega
            | cons _ _ => rfl
          | cons _ _ => simp at hl1; omega)
        have g1 : (n : Int) < (m : Int) := by omega
        clear hz2 hl1 hl2 HP2
        go_wp2_with fail
        go_ret
        exact ⟨by rw [HQ.out]; rfl, HG.out⟩
      · have g1 : ¬ (n : Int) < (m : Int) := by omega
        by_cases hmn : m < n
        · have HQ : Hid (z = 1) := Lib.hid (by
            rw [hz2]
            cases l2 with
            | nil => cases l1 with
              | nil => simp at hl1; omega
              | cons _ _ => rfl
            | cons _ _ => simp at hl2; omega)
          have g2 : (m : Int) < (n : Int) := by omega
          clear hz2 hl1 hl2 HP2
          go_wp2_with fail
          go_ret
          exact ⟨by rw [HQ.out]; rfl, HG.out⟩
        · have HQ : Hid (z = 0) := Lib.hid (by
            rw [hz2]
            cases l2 with
            | nil => cases l1 with
              | nil => rfl
              | cons _ _ => simp at hl1; omega
            | cons _ _ => simp at hl2; omega)
          have g2 : ¬ (m : Int) < (n : Int) := by omega
          clear hz2 hl1 hl2 HP2
          go_wp2_with fail
          go_ret
          exact ⟨by rw [HQ.out]; rfl, HG.out⟩
theorem rcomp_any {F G : Nat → Prop} {w : World} {A B : Option Addr} {n c m d : Nat} {xs ys : List Vl} (hA : Sl rdVl F w (.slice A n c) xs) (hB : Sl rdVl G w (.slice B m d) ys) (hn : n ≤ 1048576) (hm : m ≤ 1048576) :
    Calls Try.prog 35 #[.slice A n c, .slice B m d] w (fun e w' => e = .returned (.int .i64 (cmpR xs ys)) ∧ Gr w w') := by
  have H := Lib.hid (rcompby_any hA hB hn hm)
  clear hA hB
  go_enter Try.func35, Try.ntmps35
  go_wp2_with fail
  refine H.out.mono ?_
  rintro e w2 ⟨rfl, hg⟩
  have HG := Lib.hid hg
  clear hg
  go_wp2_with fail
  go_ret
  exact ⟨rfl, HG.out⟩
theorem requal_any {F G : Nat → Prop} {w : World} {A B : Option Addr} {n c m d : Nat} {xs ys : List Vl} (hA : Sl rdVl F w (.slice A n c) xs) (hB : Sl rdVl G w (.slice B m d) ys) (hn : n ≤ 1048576) (hm : m ≤ 1048576) :
    Calls Try.prog 13 #[.slice A n c, .slice B m d] w (fun e w' => e = .returned (.bool (cmpR xs ys == 0)) ∧ Gr w w') := by
  have H := Lib.hid (rcomp_any hA hB hn hm)
  obtain ⟨z, hz⟩ : ∃ z, z = cmpR xs ys := ⟨_, rfl⟩
  rw [← hz] at H ⊢
  clear hA hB hz
  go_enter Try.func13, Try.ntmps13
  go_wp2_with fail
  refine H.out.mono ?_
  rintro e w2 ⟨rfl, hg⟩
  have HG := Lib.hid hg
  clear hg
  go_wp2_with fail
  go_ret
  exact ⟨rfl, HG.out⟩
set_option maxRecDepth 20000 in
set_option maxHeartbeats 1600000 in
theorem clone_vls {F : Nat → Prop} {w : World} {A : Option Addr} {n c : Nat} {xs : List Value} (hcl : Cl F w A xs) (hl : xs.length = n * 3) (h1 : ∀ u ∈ xs, u.oneCell' = true) (hn : n ≤ 1048576) :
    Calls Try.prog 32 #[.slice A n c] w (Ret (fun x w' => w'.ownsRow w.heap.size 81 3 x n xs) w) := by
  obtain ⟨i0, hi0, hz0, hz1, hz2⟩ := info_parts info_val
  have HI0 := Lib.hid (And.intro hi0 (And.intro hz0 (And.intro hz1 hz2))); clear hi0 hz0 hz1 hz2
  have HCL := Lib.hid hcl; have HL := Lib.hid hl; have HO := Lib.hid h1
  clear hl h1
  rcases A with _ | ad
  · have HX : Hid (n = 0 ∧ xs = []) := Lib.hid (by
      rcases hcl with rfl | ⟨ad, e, -⟩
      · have := HL.out; simp at this; exact ⟨by omega, rfl⟩
      · cases e)
    clear hcl
    have q22 : ∀ (w : World) (n c n' c' : Nat), (binOp .eql 29 (.slice none n c) (.slice none n' c')).run Try.prog w = .ok (.bool true) w := fun w n c n' c' => Lib.run_eql_slice_nil w _ _ none n c n' c' Try.underlying29
    go_enter Try.func32, Try.ntmps32
    go_wp2_with fail
    go_ret
    exact Ret.mk (Ext.refl _) (by rw [HX.out.1, HX.out.2]; exact World.ownsRow_nil _ _ _ _)
  · have q22 : ∀ (w : World) (a : Addr) (n c n' c' : Nat), (binOp .eql 29 (.slice (some a) n c) (.slice none n' c')).run Try.prog w = .ok (.bool false) w := fun w a n c n' c' => Lib.run_eql_slice_nil w _ _ (some a) n c n' c' Try.underlying29
    clear hcl
    go_enter Try.func32, Try.ntmps32
    go_wp2_with (first | (at_builtin; refine wpList_append_opt rfl _ _ 29 rfl w.heap.size 81 i0 (.agg #[.int .i64 0, .int .i64 0, .string ⟨#[]⟩]) 3 32 Try.underlying29 HI0.out.1 HI0.out.2.1 HI0.out.2.2.1 HI0.out.2.2.2 rfl (by omega) (.slice (some ⟨w.heap.size, 0, none⟩) 0 0) 0 [] rfl (World.ownsRow_made w #[] 0 (Nat.le_refl _) (Nat.zero_le _) rfl) (some ad) n c xs rfl HL.out ((HCL.out.ext ((Ext.refl w).alloc _)).news) HO.out (by simp only [maxLen]; omega) (by omega) (by simp) ?_; intro v9 w9 hr9 hg9 hl9; rw [Nat.zero_add, List.nil_append] at hr9; obtain ⟨A9, c9, rfl⟩ := own_slice hr9; have HR9 := Lib.hid hr9; have HE9 : Hid (Ext w w9) := Lib.hid (((Ext.refl w).alloc _).grown hg9 (fun q hq => by simp [Value.ownBlock] at hq; omega)); clear hr9 hg9 hl9))
    go_ret
    exact Ret.mk HE9.out HR9.out
theorem vls_one (xs : List Vl) : ∀ u ∈ vcells xs, u.oneCell' = true := by
  intro u hu
  unfold vcells at hu
  rw [List.mem_flatMap] at hu
  obtain ⟨x, -, hx⟩ := hu
  simp only [Vl.cells, List.mem_cons, List.not_mem_nil, or_false] at hx
  rcases hx with rfl | rfl | rfl <;> rfl
theorem vls_len (xs : List Vl) : (vcells xs).length = xs.length * 3 := by
  unfold vcells
  induction xs with
  | nil => rfl
  | cons a l ih => rw [List.flatMap_cons, List.length_append, ih]; simp [Vl.cells]; omega
theorem Sl.cls {F : Nat → Prop} {w : World} {A : Option Addr} {n c : Nat} {xs : List Vl} (h : Sl rdVl F w (.slice A n c) xs) : Cl F w A (vcells xs) := by
  rcases xs with _ | ⟨x, l⟩
  · exact .inl rfl
  · have h0 := h
    obtain ⟨A', c', e, -, hh⟩ := h
    injection e with e1
    subst e1
    obtain ⟨ad, cs, rfl, hF, -⟩ := hh 0 (by simp)
    refine .inr ⟨ad, rfl, hF, fun j hj => ?_⟩
    rw [vls_len] at hj
    have hall : ∀ cs ∈ (x :: l).map Vl.cells, cs.length = 3 := fun cs hcs => by obtain ⟨y, _, rfl⟩ := List.mem_map.1 hcs; rfl
    have hq : j / 3 < (x :: l).length := by omega
    obtain ⟨ad', cs', e, -, hr, hc⟩ := hh (j / 3) hq
    injection e with e
    subst e
    have e2 : cs' = Vl.cells ((x :: l)[j / 3]) := hr
    subst e2
    have hm : j % 3 < 3 := Nat.mod_lt _ (by decide)
    have h1 := hc (j % 3) hm
    have h2 := flat_get (css := (x :: l).map Vl.cells) (i := j / 3) hall (by simpa using hq) hm
    have ej : j / 3 * 3 + j % 3 = j := Nat.div_add_mod' j 3
    rw [← List.flatMap_def, List.getElem_map, ej] at h2
    have hjf : j < (vcells (x :: l)).length := by rw [vls_len]; exact hj
    have hlc : j % 3 < (Vl.cells ((x :: l)[j / 3])).length := hm
    have h1' : w.cell? (ad.add (j / 3 * 3 + j % 3)) = some ((Vl.cells ((x :: l)[j / 3]))[j % 3]'hlc) := h1
    rw [ej] at h1'
    rw [h1', ← List.getElem?_eq_getElem hlc, ← h2]
    exact List.getElem?_eq_getElem hjf
theorem own_vls {w : World} {base n : Nat} {v : Value} {xs : List Vl} (h : w.ownsRow base 81 3 v n (vcells xs)) : Sl rdVl (fun k => base ≤ k) w v xs := (Rw.of_flat (cells := Vl.cells) (sz := 3) (hl := fun _ => rfl) h).sl (by decide)
/-- A copy of a row, in memory of its own. -/
theorem clone_row {F : Nat → Prop} {w : World} {A : Option Addr} {n c : Nat} {xs : List Vl} (h : Sl rdVl F w (.slice A n c) xs) (hn : n ≤ 1048576) :
    Calls Try.prog 32 #[.slice A n c] w (Ret (fun x w' => ∃ A' c', x = .slice A' n c' ∧ Sl rdVl (fun k => w.heap.size ≤ k) w' x xs) w) := by
  refine (clone_vls h.cls (by rw [vls_len, ← h.cap.1]) (vls_one _) hn).mono ?_
  rintro e w' ⟨x, rfl, he, ho⟩
  obtain ⟨A', c', rfl⟩ := own_slice ho
  exact ⟨_, rfl, he, _, _, rfl, own_vls ho⟩
theorem Sl.row {F : Nat → Prop} {w : World} {A : Option Addr} {n c : Nat} {xs : List (List Vl)} (h : Sl rdRow F w (.slice A n c) xs) {i : Nat} (hi : i < xs.length) : ∃ ad B d, A = some ad ∧ F ad.block ∧ w.cell? (ad.add i) = some (.slice B xs[i].length d) ∧ Sl rdVl F w (.slice B xs[i].length d) xs[i] := by
  obtain ⟨A', c', e, hc, hh⟩ := h
  injection e with e1 e2 e3
  subst e1
  obtain ⟨ad, cs, rfl, hF, ⟨u, rfl, hu⟩, h4⟩ := hh i hi
  obtain ⟨B, d, rfl⟩ := hu.sl
  have h5 := h4 0 (by simp)
  have e : i * rdRow.sz + 0 = i := by show i * 1 + 0 = i; omega
  rw [e] at h5
  exact ⟨ad, B, d, rfl, hF, h5, hu⟩
/-- Whether a row is among rows. -/
def hasR (l : List (List Vl)) (r : List Vl) : Bool := l.any (fun x => cmpR x r == 0)
theorem hasR_iff {l : List (List Vl)} {r : List Vl} : hasR l r = true ↔ r ∈ l := by
  unfold hasR
  rw [List.any_eq_true]
  constructor
  · rintro ⟨x, hx, h⟩
    rw [beq_iff_eq, cmp_row.eq] at h
    exact h ▸ hx
  · exact fun h => ⟨r, h, by rw [beq_iff_eq, cmp_row.eq]⟩
/-- Rows in a slice of one's own: the slices in its block, what they hold elsewhere. -/
structure OwR (F : Nat → Prop) (w : World) (base : Nat) (v : Value) (n : Nat) (us : List Value) (rows : List (List Vl)) : Prop where
  own : w.ownsRow base 29 1 v n us
  len : us.length = rows.length
  rd : ∀ i (h : i < rows.length) (h' : i < us.length), Sl rdVl (fun k => F k ∧ v.ownBlock ≠ some k) w us[i] rows[i]
theorem OwR.num {F : Nat → Prop} {w : World} {base n : Nat} {v : Value} {us : List Value} {rows : List (List Vl)} (h : OwR F w base v n us rows) : n = us.length := by
  have := h.own.1
  omega
theorem OwR.ext {F : Nat → Prop} {w w' : World} {base n : Nat} {v : Value} {us : List Value} {rows : List (List Vl)} (h : OwR F w base v n us rows) (he : Ext w w') : OwR F w' base v n us rows := ⟨own_ext' h.own he, h.len, fun i hi h' => (h.rd i hi h').ext he⟩
theorem OwR.fr {F S : Nat → Prop} {w w' : World} {base n : Nat} {v : Value} {us : List Value} {rows : List (List Vl)} (h : OwR F w base v n us rows) (hf : Fr S w w') (h1 : ∀ k, v.ownBlock = some k → ¬ S k) (h2 : ∀ k, F k → ¬ S k) : OwR F w' base v n us rows := ⟨own_fr h.own hf h1, h.len, fun i hi h' => (h.rd i hi h').fr hf (fun k hk => h2 k hk.1)⟩
theorem OwR.sl {F G : Nat → Prop} {w : World} {base n : Nat} {v : Value} {us : List Value} {rows : List (List Vl)} (h : OwR F w base v n us rows) (hg : ∀ k, v.ownBlock = some k → G k) (hF : ∀ k, F k → G k) : Sl rdRow G w v rows := by
  have hn := h.num
  have hl := h.len
  obtain ⟨A, c, rfl, hc, hcl⟩ := Cl.of_own h.own
  refine ⟨A, c, by rw [hn, hl], by omega, fun i hi => ?_⟩
  have hi' : i < us.length := by omega
  obtain ⟨ad, rfl, hk, hcell⟩ := hcl.at' (j := i) (List.getElem?_eq_getElem hi')
  refine ⟨ad, [us[i]], rfl, hg _ hk.1, ⟨us[i], rfl, (h.rd i hi hi').mono (by decide) (fun k _ hk => hF k hk.1)⟩, fun j hj => ?_⟩
  obtain rfl : j = 0 := by simp at hj; omega
  have e : i * rdRow.sz + 0 = i := by show i * 1 + 0 = i; omega
  rw [e]
  exact hcell
section
variable {F : Nat → Prop} {w : World} {g : Nat}
/-- A slice and the row that it reads as, outside of block g. -/
def PrV (F : Nat → Prop) (w : World) (g : Nat) : Type := { p : Value × List Vl // Sl rdVl (fun k => F k ∧ some g ≠ some k) w p.1 p.2 ∧ p.2.length ≤ 1048576 }
instance : Inhabited (PrV F w g) := ⟨⟨(.slice none 0 0, []), Sl.nil _ _ _, by simp⟩⟩
def PrV.enc (p : PrV F w g) : Value := p.1.1
def PrV.row (p : PrV F w g) : List Vl := p.1.2
def PrV.cf (p q : PrV F w g) : Int := cmpR p.row q.row
theorem PrV.one : Go.Proofs.OneCell (PrV.enc (F := F) (w := w) (g := g)) := fun p => by
  obtain ⟨A, c, e⟩ := p.2.1.sl
  unfold PrV.enc
  rw [e]
  rfl
theorem fr_sorted {α : Type} [Inhabited α] (enc : α → Value) (n : Nat) (d : Array α) (os : Array Obj) : w.grownBy (Go.Sort.grow (Go.Sort.putRow enc (Go.Sort.ahead w n) g 0 d) os) (some g) := by
  refine ⟨rfl, rfl, rfl, by simp, fun k hk hne => ?_⟩
  rw [Go.Sort.heap_grow_old _ _ (by simpa using hk)]
  have : g ≠ k := fun e => hne (by rw [e])
  simp [Go.Sort.putRow, Go.Sort.mapBlock, Go.Sort.ahead, Array.getElem?_modify, this]
end
theorem own_sorted {α : Type} [Inhabited α] (enc : α → Value) {w : World} {base g cap n m : Nat} {e : TypeId} {os : Array Obj} {cur : Array Value} {d : Array α} (hm : d.size = m) (hbase : base ≤ g) (hb : w.heap[g]? = some (.cells cur e (0, 0))) (h1 : m ≤ cap) (h2 : cap ≤ maxLen) (h3 : cur.size = cap * 1) :
    (Go.Sort.grow (Go.Sort.putRow enc (Go.Sort.ahead w n) g 0 d) os).ownsRow base e 1 (.slice (some ⟨g, 0, none⟩) m cap) m (d.toList.map enc) := by
  have hg : g < w.heap.size := (Array.getElem?_eq_some_iff.1 hb).1
  have hh : (Go.Sort.grow (Go.Sort.putRow enc (Go.Sort.ahead w n) g 0 d) os).heap[g]? = some (.cells (Go.Sort.putCells enc 0 d cur) e (0, 0)) := by
    rw [Go.Sort.heap_grow_old _ _ (by simpa using hg)]
    simp [Go.Sort.putRow, Go.Sort.mapBlock, Go.Sort.ahead, Array.getElem?_modify, hb, Go.Sort.onCells]
  refine ⟨by simp [hm], .inr ⟨g, cap, _, rfl, hbase, hh, h1, h2, by simp [Go.Sort.putCells, h3], ?_⟩⟩
  apply List.ext_getElem?
  intro j
  by_cases hj : j < d.size
  · rw [List.getElem?_take_of_lt (by omega), Array.getElem?_toList]
    simp [Go.Sort.putCells, hj, show j < cur.size by omega]
  · rw [List.getElem?_take_eq_none (by omega), List.getElem?_eq_none (by simp; omega)]
theorem holds_own {α : Type} [Inhabited α] (enc : α → Value) {w : World} {g : Nat} {cur : Array Value} {e : TypeId} {l : List α} (hb : w.heap[g]? = some (.cells cur e (0, 0))) (ht : cur.toList.take l.length = l.map enc) : Go.Sort.Holds enc w g 0 l.toArray := by
  intro j hj
  have hj' : j < l.length := by simpa using hj
  refine ⟨?_, by simp [World.frozen?, hb]⟩
  have h1 : (cur.toList.take l.length)[j]? = (l.map enc)[j]? := by rw [ht]
  rw [List.getElem?_take_of_lt hj'] at h1
  simp only [World.cell?, hb, Nat.zero_add]
  simp only [Option.isSome_none, Bool.false_eq_true, if_false]
  rw [← Array.getElem?_toList, h1]
  simp [hj']
/-- The pairs of slices and rows. -/
theorem OwR.prs {F : Nat → Prop} {w : World} {base n g cap : Nat} {us : List Value} {rows : List (List Vl)} (h : OwR F w base (.slice (some ⟨g, 0, none⟩) n cap) n us rows) (hr : ∀ x ∈ rows, x.length ≤ 1048576) : ∃ l : List (PrV F w g), l.map PrV.enc = us ∧ l.map PrV.row = rows := by
  obtain ⟨f, hf⟩ : ∃ f : Fin rows.length → PrV F w g, ∀ i, PrV.enc (f i) = us[i.1]'(by have := h.len; omega) ∧ PrV.row (f i) = rows[i.1] := ⟨fun i => ⟨(us[i.1]'(by have := h.len; omega), rows[i.1]), h.rd i.1 i.2 (by have := h.len; omega), hr _ (List.getElem_mem i.2)⟩, fun i => ⟨rfl, rfl⟩⟩
  refine ⟨List.ofFn f, ?_, ?_⟩
  · apply List.ext_getElem
    · rw [List.length_map, List.length_ofFn, h.len]
    · intro i h1 h2
      rw [List.getElem_map, List.getElem_ofFn, (hf _).1]
  · apply List.ext_getElem
    · rw [List.length_map, List.length_ofFn]
    · intro i h1 h2
      rw [List.getElem_map, List.getElem_ofFn, (hf _).2]
/-- Rows in ascending order. -/
def AscR (l : List (List Vl)) : Prop := l.Pairwise (fun a b => cmpR a b ≤ 0)
theorem asc_adj {l : List (List Vl)} (h : ∀ i, i + 1 < l.length → cmpR (l.getD i []) (l.getD (i + 1) []) ≤ 0) : AscR l := by
  unfold AscR
  rw [List.pairwise_iff_getElem]
  intro i j hi hj hij
  have key : ∀ k, i + (k + 1) < l.length → cmpR (l.getD i []) (l.getD (i + (k + 1)) []) ≤ 0 := by
    intro k
    induction k with
    | zero => exact fun hk => h i hk
    | succ k ih => exact fun hk => cmp_row.le_trans (ih (by omega)) (h (i + (k + 1)) (by omega))
  have h1 := key (j - i - 1) (by omega)
  rw [show i + (j - i - 1 + 1) = j by omega] at h1
  simpa [List.getElem?_eq_getElem hi, List.getElem?_eq_getElem hj] using h1
end Go.Proofs.Ytjpkaljndfgkjaa.R
