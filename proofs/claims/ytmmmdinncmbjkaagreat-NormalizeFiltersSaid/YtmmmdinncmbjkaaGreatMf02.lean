/- Words: slices of structs by a reading of their cells, rows of structs that are built. -/
import Derived.Test.YtmmmdinncmbjkaaGreatMf01
namespace Go.Proofs.YtmmmdinncmbjkaaGreat
open Go.RowKit Go.Maps
theorem bool_iff {a b : Bool} (h : a = true ↔ b = true) : a = b := by
  cases a <;> cases b <;> simp_all
theorem Fr.drew {S : Nat → Prop} {a w : World} (h : Fr S a w) : Fr S a w.drew := ⟨h.os, h.tape, h.output, h.size, h.block⟩
theorem Fr.alloc {S : Nat → Prop} {a w : World} (h : Fr S a w) (o : Obj) : Fr S a (w.alloc o) := h.ext ((Ext.refl w).alloc o)
/-- How the cells of a struct read. -/
structure Rdg (α : Type) where
  sz : Nat
  R : (Nat → Prop) → World → List Value → α → Prop
  len : ∀ {F : Nat → Prop} {w : World} {cs : List Value} {x : α}, R F w cs x → cs.length = sz
  fr : ∀ {F S : Nat → Prop} {w w' : World} {cs : List Value} {x : α}, R F w cs x → Fr S w w' → (∀ k, F k → ¬ S k) → R F w' cs x
  mono : ∀ {F G : Nat → Prop} {w : World} {cs : List Value} {x : α}, R F w cs x → (∀ k, k < w.heap.size → F k → G k) → R G w cs x
theorem Rdg.ext {α : Type} (r : Rdg α) {F : Nat → Prop} {w w' : World} {cs : List Value} {x : α} (h : r.R F w cs x) (he : Ext w w') : r.R F w' cs x := r.fr h (he.fr (fun _ => False)) (fun _ _ h => h)
/-- Structs whose cells hold their fields, nothing behind them. -/
def flatR {α : Type} (cells : α → List Value) (sz : Nat) (h : ∀ x, (cells x).length = sz) : Rdg α where
  sz := sz
  R := fun _ _ cs x => cs = cells x
  len := fun {_ _ _ x} e => e ▸ h x
  fr := fun e _ _ => e
  mono := fun e _ => e
/-- A slice of structs. -/
def Sl {α : Type} (r : Rdg α) (F : Nat → Prop) (w : World) (v : Value) (xs : List α) : Prop :=
  ∃ A c, v = .slice A xs.length c ∧ xs.length ≤ c ∧ ∀ i (hi : i < xs.length), ∃ ad cs, A = some ad ∧ F ad.block ∧ r.R F w cs xs[i] ∧ ∀ j (h : j < cs.length), w.cell? (ad.add (i * r.sz + j)) = some cs[j]
section
variable {α : Type} {r : Rdg α} {F G S : Nat → Prop} {w w' : World} {v : Value} {xs : List α}
theorem Sl.fr (h : Sl r F w v xs) (hf : Fr S w w') (hs : ∀ k, F k → ¬ S k) : Sl r F w' v xs := by
  obtain ⟨A, c, e, hc, h⟩ := h
  refine ⟨A, c, e, hc, fun i hi => ?_⟩
  obtain ⟨ad, cs, h1, h2, h3, h4⟩ := h i hi
  exact ⟨ad, cs, h1, h2, r.fr h3 hf hs, fun j hj => hf.cell (h4 j hj) (by rw [block_add]; exact hs _ h2)⟩
theorem Sl.ext (h : Sl r F w v xs) (he : Ext w w') : Sl r F w' v xs := h.fr (he.fr (fun _ => False)) (fun _ _ h => h)
theorem Sl.mono (h : Sl r F w v xs) (hp : 0 < r.sz) (hs : ∀ k, k < w.heap.size → F k → G k) : Sl r G w v xs := by
  obtain ⟨A, c, e, hc, h⟩ := h
  refine ⟨A, c, e, hc, fun i hi => ?_⟩
  obtain ⟨ad, cs, h1, h2, h3, h4⟩ := h i hi
  have h5 := cell_lt (h4 0 (by rw [r.len h3]; exact hp))
  rw [block_add] at h5
  exact ⟨ad, cs, h1, hs _ h5 h2, r.mono h3 hs, h4⟩
theorem Sl.sl (h : Sl r F w v xs) : ∃ A c, v = .slice A xs.length c := let ⟨A, c, e, _⟩ := h; ⟨A, c, e⟩
theorem Sl.cap {A : Option Addr} {n c : Nat} (h : Sl r F w (.slice A n c) xs) : n = xs.length ∧ n ≤ c := by
  obtain ⟨A', c', e, hc, -⟩ := h
  injection e with e1 e2 e3
  omega
theorem Sl.nil (r : Rdg α) (F : Nat → Prop) (w : World) : Sl r F w (.slice none 0 0) [] := ⟨none, 0, rfl, Nat.le_refl _, fun i hi => by simp at hi⟩
theorem Sl.at {A : Option Addr} {n c : Nat} (h : Sl r F w (.slice A n c) xs) {i : Nat} (hi : i < xs.length) : ∃ ad cs, A = some ad ∧ F ad.block ∧ r.R F w cs xs[i] ∧ (∀ h : 0 < cs.length, w.cell? (ad.add (i * r.sz)) = some cs[0]) ∧ ∀ j (h : j + 1 < cs.length), w.cell? ⟨(ad.add (i * r.sz)).block, (ad.add (i * r.sz)).off + (j + 1), none⟩ = some cs[j + 1] := by
  obtain ⟨A', c', e, hc, h⟩ := h
  injection e with e1 e2 e3
  subst e1
  obtain ⟨ad, cs, h1, h2, h3, h4⟩ := h i hi
  refine ⟨ad, cs, h1, h2, h3, fun h0 => by simpa using h4 0 h0, fun j hj => ?_⟩
  rw [← add_succ']
  exact h4 (j + 1) hj
end
/-- A row of structs that is being built: its cells in one block, what they point to elsewhere. -/
structure Rw {α : Type} (r : Rdg α) (w : World) (base : Nat) (E : TypeId) (v : Value) (n : Nat) (xs : List α) (css : List (List Value)) : Prop where
  len : css.length = xs.length
  own : w.ownsRow base E r.sz v n css.flatten
  rd : ∀ i (h : i < xs.length) (h' : i < css.length), r.R (fun k => base ≤ k ∧ v.ownBlock ≠ some k) w css[i] xs[i]
section
variable {α : Type} {r : Rdg α} {S : Nat → Prop} {w w' wb w9 : World} {base n : Nat} {E : TypeId} {v v9 : Value} {xs : List α} {css : List (List Value)} {cs : List Value} {x : α}
theorem flat_len {sz : Nat} : ∀ {css : List (List Value)}, (∀ cs ∈ css, cs.length = sz) → css.flatten.length = css.length * sz
  | [], _ => by simp
  | c :: css, h => by
    rw [List.flatten_cons, List.length_append, flat_len (fun d hd => h d (List.mem_cons_of_mem _ hd)), h c List.mem_cons_self, List.length_cons, Nat.add_mul]
    omega
theorem flat_get {sz : Nat} : ∀ {css : List (List Value)} {i j : Nat} (_ : ∀ cs ∈ css, cs.length = sz) (hi : i < css.length), j < sz → css.flatten[i * sz + j]? = css[i][j]?
  | c :: css, 0, j, h, _, hj => by
    rw [List.flatten_cons, List.getElem?_append_left (by rw [h c List.mem_cons_self]; omega)]
    simp
  | c :: css, i + 1, j, h, hi, hj => by
    have hc := h c List.mem_cons_self
    rw [List.flatten_cons, List.getElem?_append_right (by rw [hc, Nat.add_mul]; omega)]
    have e : (i + 1) * sz + j - c.length = i * sz + j := by rw [hc, Nat.add_mul]; omega
    rw [e]
    exact flat_get (fun d hd => h d (List.mem_cons_of_mem _ hd)) (by simpa using hi) hj
theorem Rw.all (h : Rw r w base E v n xs css) : ∀ cs ∈ css, cs.length = r.sz := fun cs hcs => by
  obtain ⟨i, hi, rfl⟩ := List.getElem_of_mem hcs
  exact r.len (h.rd i (by rw [← h.len]; exact hi) hi)
theorem Rw.num (h : Rw r w base E v n xs css) (hp : 0 < r.sz) : n = xs.length := by
  have h1 := h.own.1
  rw [flat_len h.all, h.len] at h1
  exact (Nat.mul_right_cancel hp h1).symm
theorem Rw.empty (r : Rdg α) (w : World) (base : Nat) (E : TypeId) : Rw r w base E (.slice none 0 0) 0 [] [] := ⟨rfl, World.ownsRow_nil _ _ _ _, fun i h => by simp at h⟩
theorem Rw.ext (h : Rw r w base E v n xs css) (he : Ext w w') : Rw r w' base E v n xs css := ⟨h.len, own_ext' h.own he, fun i hi h' => r.ext (h.rd i hi h') he⟩
theorem Rw.fr (h : Rw r w base E v n xs css) (hf : Fr S w w') (hs : ∀ k, base ≤ k → ¬ S k) : Rw r w' base E v n xs css := ⟨h.len, own_fr h.own hf (fun k hk => hs k (own_ge h.own hk)), fun i hi h' => r.fr (h.rd i hi h') hf (fun k hk => hs k hk.1)⟩
theorem Rw.sl (h : Rw r w base E v n xs css) (hp : 0 < r.sz) : Sl r (fun k => base ≤ k) w v xs := by
  have hn := h.num hp
  have hall := h.all
  obtain ⟨hl, ho, hr⟩ := h
  subst hn
  obtain ⟨A, c, rfl, hc, hcl⟩ := Cl.of_own ho
  refine ⟨A, c, rfl, hc, fun i hi => ?_⟩
  have hi' : i < css.length := by omega
  have hlen : css[i].length = r.sz := hall _ (List.getElem_mem hi')
  have hg : ∀ j, j < css[i].length → ∃ ad, A = some ad ∧ base ≤ ad.block ∧ w.cell? (ad.add (i * r.sz + j)) = css[i][j]? := fun j hj => by
    have h1 := flat_get hall hi' (j := j) (by omega)
    rw [List.getElem?_eq_getElem hj] at h1 ⊢
    obtain ⟨ad, e, h2, h3⟩ := hcl.at' h1
    exact ⟨ad, e, h2.2, h3⟩
  obtain ⟨ad, rfl, hb, -⟩ := hg 0 (by omega)
  refine ⟨ad, css[i], rfl, hb, r.mono (hr i hi hi') (fun k _ hk => hk.1), fun j hj => ?_⟩
  obtain ⟨ad', e, -, h2⟩ := hg j hj
  injection e with e
  subst e
  rw [h2, List.getElem?_eq_getElem hj]
theorem Rw.more (h : Rw r w base E v n xs css) (he : Ext w wb) (ht : r.R (fun k => base ≤ k ∧ v.ownBlock ≠ some k) wb cs x) (hr : w9.ownsRow base E r.sz v9 (n + 1) (css.flatten ++ cs)) (hg : wb.grownBy w9 v.ownBlock) (hl : Lands wb v v9) : Rw r w9 base E v9 (n + 1) (xs ++ [x]) (css ++ [cs]) := by
  have hne : ∀ k, k < wb.heap.size → v.ownBlock ≠ some k → v9.ownBlock ≠ some k := fun k hk h1 h2 => by
    rcases hl with hl | hl
    · exact h1 (hl ▸ h2)
    · rw [hl] at h2
      injection h2 with h2
      omega
  have hup : ∀ {ds : List Value} {y : α}, r.R (fun k => base ≤ k ∧ v.ownBlock ≠ some k) wb ds y → r.R (fun k => base ≤ k ∧ v9.ownBlock ≠ some k) w9 ds y := fun {ds y} hh => by
    have h1 : r.R (fun k => (base ≤ k ∧ v.ownBlock ≠ some k) ∧ k < wb.heap.size) wb ds y := r.mono hh (fun k hk h1 => And.intro h1 hk)
    have h2 := r.fr h1 (grown_fr hg) (fun k hk e => hk.1.2 e)
    exact r.mono h2 (fun k _ hk => ⟨hk.1.1, hne k hk.2 hk.1.2⟩)
  refine ⟨by simp [h.len], by rw [List.flatten_append]; simpa using hr, fun i hi h' => ?_⟩
  rcases Nat.lt_or_ge i xs.length with hx | hx
  · rw [List.getElem_append_left hx, List.getElem_append_left (by rw [h.len]; exact hx)]
    exact hup (r.ext (h.rd i hx (by rw [h.len]; exact hx)) he)
  · have e : i = xs.length := by simp at hi; omega
    subst e
    rw [List.getElem_append_right (Nat.le_refl _), List.getElem_append_right (by rw [h.len]; exact Nat.le_refl _)]
    simp only [h.len, Nat.sub_self, List.getElem_cons_zero]
    exact hup ht
end
/-- A condition. -/
structure Cd where
  var : ByteArray
  op : Int
  kind : Int
  int : Int
  str : ByteArray
/-- A sort key. -/
structure Ky where
  var : ByteArray
  desc : Bool
/-- A rule. -/
structure Rl where
  ats : List At
  cds : List Cd
/-- A query. -/
structure Qy where
  hd : List ByteArray
  ag : Int
  av : ByteArray
  rs : List Rl
  od : List Ky
/-- A schema. -/
structure Sc where
  name : ByteArray
  kinds : List Int
def Cd.cells (c : Cd) : List Value := [.string c.var, .int .i64 c.op, .int .i64 c.kind, .int .i64 c.int, .string c.str]
def Ky.cells (k : Ky) : List Value := [.string k.var, .bool k.desc]
def rdCd : Rdg Cd := flatR Cd.cells 5 (fun _ => rfl)
def rdKy : Rdg Ky := flatR Ky.cells 2 (fun _ => rfl)
def rdSc : Rdg Sc where
  sz := 2
  R := fun F w cs s => ∃ u, cs = [.string s.name, u] ∧ Ins F w u s.kinds
  len := fun ⟨_, e, _⟩ => by rw [e]; rfl
  fr := fun ⟨u, e, h⟩ hf hs => ⟨u, e, h.fr hf hs⟩
  mono := fun ⟨u, e, h⟩ hs => ⟨u, e, h.mono hs⟩
def rdRl : Rdg Rl where
  sz := 2
  R := fun F w cs r => ∃ u v, cs = [u, v] ∧ Ats F w u r.ats ∧ Sl rdCd F w v r.cds
  len := fun ⟨_, _, e, _⟩ => by rw [e]; rfl
  fr := fun ⟨u, v, e, h, k⟩ hf hs => ⟨u, v, e, h.fr hf hs, k.fr hf hs⟩
  mono := fun {F G w cs x} ⟨u, v, e, h, k⟩ hs => ⟨u, v, e, by
    obtain ⟨A, c, vs, h1, h2, h3, h4, h5⟩ := h
    exact ⟨A, c, vs, h1, h2, h3, h4.mono hs, fun i hi h' => (h5 i hi h').mono hs⟩, k.mono (by decide) hs⟩
section
variable {F : Nat → Prop} {w : World} {A : Option Addr} {n c : Nat}
theorem Sl.cd {xs : List Cd} (h : Sl rdCd F w (.slice A n c) xs) {i : Nat} (hi : i < xs.length) : ∃ ad, A = some ad ∧ F ad.block ∧ w.cell? (ad.add (i * 5)) = some (.string xs[i].var) ∧ w.cell? ⟨(ad.add (i * 5)).block, (ad.add (i * 5)).off + 1, none⟩ = some (.int .i64 xs[i].op) ∧ w.cell? ⟨(ad.add (i * 5)).block, (ad.add (i * 5)).off + 2, none⟩ = some (.int .i64 xs[i].kind) ∧ w.cell? ⟨(ad.add (i * 5)).block, (ad.add (i * 5)).off + 3, none⟩ = some (.int .i64 xs[i].int) ∧ w.cell? ⟨(ad.add (i * 5)).block, (ad.add (i * 5)).off + 4, none⟩ = some (.string xs[i].str) := by
  obtain ⟨ad, cs, h1, h2, h3, h4, h5⟩ := h.at hi
  have e : cs = Cd.cells xs[i] := h3
  subst e
  exact ⟨ad, h1, h2, h4 (by simp [Cd.cells]), h5 0 (by simp [Cd.cells]), h5 1 (by simp [Cd.cells]), h5 2 (by simp [Cd.cells]), h5 3 (by simp [Cd.cells])⟩
theorem Sl.ky {xs : List Ky} (h : Sl rdKy F w (.slice A n c) xs) {i : Nat} (hi : i < xs.length) : ∃ ad, A = some ad ∧ F ad.block ∧ w.cell? (ad.add (i * 2)) = some (.string xs[i].var) ∧ w.cell? ⟨(ad.add (i * 2)).block, (ad.add (i * 2)).off + 1, none⟩ = some (.bool xs[i].desc) := by
  obtain ⟨ad, cs, h1, h2, h3, h4, h5⟩ := h.at hi
  have e : cs = Ky.cells xs[i] := h3
  subst e
  exact ⟨ad, h1, h2, h4 (by simp [Ky.cells]), h5 0 (by simp [Ky.cells])⟩
theorem Sl.sc {xs : List Sc} (h : Sl rdSc F w (.slice A n c) xs) {i : Nat} (hi : i < xs.length) : ∃ ad B d, A = some ad ∧ F ad.block ∧ w.cell? (ad.add (i * 2)) = some (.string xs[i].name) ∧ w.cell? ⟨(ad.add (i * 2)).block, (ad.add (i * 2)).off + 1, none⟩ = some (.slice B xs[i].kinds.length d) ∧ Ins F w (.slice B xs[i].kinds.length d) xs[i].kinds := by
  obtain ⟨ad, cs, h1, h2, ⟨u, rfl, hu⟩, h4, h5⟩ := h.at hi
  obtain ⟨B, d, e, hd, hcl⟩ := hu
  subst e
  exact ⟨ad, B, d, h1, h2, h4 (by simp), h5 0 (by simp), B, d, rfl, hd, hcl⟩
theorem Sl.rl {xs : List Rl} (h : Sl rdRl F w (.slice A n c) xs) {i : Nat} (hi : i < xs.length) : ∃ ad B d C e, A = some ad ∧ F ad.block ∧ w.cell? (ad.add (i * 2)) = some (.slice B xs[i].ats.length d) ∧ w.cell? ⟨(ad.add (i * 2)).block, (ad.add (i * 2)).off + 1, none⟩ = some (.slice C xs[i].cds.length e) ∧ Ats F w (.slice B xs[i].ats.length d) xs[i].ats ∧ Sl rdCd F w (.slice C xs[i].cds.length e) xs[i].cds := by
  obtain ⟨ad, cs, h1, h2, ⟨u, v, rfl, hu, hv⟩, h4, h5⟩ := h.at hi
  obtain ⟨B, d, e1⟩ := hu.sl
  obtain ⟨C, e, e2⟩ := hv.sl
  subst e1 e2
  exact ⟨ad, B, d, C, e, h1, h2, h4 (by simp), h5 0 (by simp), hu, hv⟩
end
end Go.Proofs.YtmmmdinncmbjkaaGreat
