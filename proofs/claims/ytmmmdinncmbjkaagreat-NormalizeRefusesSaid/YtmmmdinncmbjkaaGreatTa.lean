/- Words: rows, relations, databases. -/
import Derived.Test.YtmmmdinncmbjkaaGreatOi
namespace Go.Proofs.YtmmmdinncmbjkaaGreat
open Go.RowKit Go.Maps

theorem Ins.nil (F : Nat → Prop) (w : World) : Ins F w (.slice none 0 0) [] := ⟨none, 0, rfl, Nat.le_refl _, .inl rfl⟩
/-- A row in a slice of rows. -/
def rdRow : Rdg (List Vl) where
  sz := 1
  R := fun F w cs x => ∃ u, cs = [u] ∧ Sl rdVl F w u x
  len := fun ⟨_, e, _⟩ => by rw [e]; rfl
  fr := fun ⟨u, e, h⟩ hf hs => ⟨u, e, h.fr hf hs⟩
  mono := fun ⟨u, e, h⟩ hs => ⟨u, e, h.mono (by decide) hs⟩
/-- A relation: its arity and its rows. -/
structure Re where
  ar : Int
  rows : List (List Vl)
/-- An entry of a database. -/
structure En where
  kinds : List Int
  rel : Re
def ReV (F : Nat → Prop) (w : World) (v : Value) (r : Re) : Prop := ∃ u, v = .agg #[.int .i64 r.ar, u] ∧ Sl rdRow F w u r.rows
def EnV (F : Nat → Prop) (w : World) (v : Value) (e : En) : Prop := ∃ u y, v = .agg #[u, .int .i64 e.rel.ar, y] ∧ Ins F w u e.kinds ∧ Sl rdRow F w y e.rel.rows
section
variable {F G S : Nat → Prop} {w w' : World} {v : Value}
theorem ReV.fr {r : Re} (h : ReV F w v r) (hf : Fr S w w') (hs : ∀ k, F k → ¬ S k) : ReV F w' v r := let ⟨u, e, h1⟩ := h; ⟨u, e, h1.fr hf hs⟩
theorem ReV.ext {r : Re} (h : ReV F w v r) (he : Ext w w') : ReV F w' v r := let ⟨u, e, h1⟩ := h; ⟨u, e, h1.ext he⟩
theorem ReV.mono {r : Re} (h : ReV F w v r) (hs : ∀ k, k < w.heap.size → F k → G k) : ReV G w v r := let ⟨u, e, h1⟩ := h; ⟨u, e, h1.mono (by decide) hs⟩
theorem EnV.fr {r : En} (h : EnV F w v r) (hf : Fr S w w') (hs : ∀ k, F k → ¬ S k) : EnV F w' v r := let ⟨u, y, e, h1, h2⟩ := h; ⟨u, y, e, h1.fr hf hs, h2.fr hf hs⟩
theorem EnV.ext {r : En} (h : EnV F w v r) (he : Ext w w') : EnV F w' v r := let ⟨u, y, e, h1, h2⟩ := h; ⟨u, y, e, h1.ext he, h2.ext he⟩
theorem EnV.mono {r : En} (h : EnV F w v r) (hs : ∀ k, k < w.heap.size → F k → G k) : EnV G w v r := let ⟨u, y, e, h1, h2⟩ := h; ⟨u, y, e, h1.mono hs, h2.mono (by decide) hs⟩
end
/-- What a database holds. -/
abbrev Dm := ByteArray → Option En
/-- Block b is the map of a database of at most n entries. -/
def DbB (F : Nat → Prop) (w : World) (b n : Nat) (m : Dm) : Prop :=
  ∃ f : ByteArray → Option Value, MapV w b n f ∧ ∀ s, (m s = none ∧ f s = none) ∨ ∃ e u, m s = some e ∧ f s = some u ∧ EnV F w u e
section
variable {F G S : Nat → Prop} {w w' : World} {b n : Nat} {m : Dm}
theorem DbB.fr (h : DbB F w b n m) (hf : Fr S w w') (hb : ¬ S b) (hs : ∀ k, F k → ¬ S k) : DbB F w' b n m := by
  obtain ⟨f, h1, h2⟩ := h
  refine ⟨f, h1.fr hf hb, fun s => ?_⟩
  rcases h2 s with h | ⟨e, u, h3, h4, h5⟩
  · exact .inl h
  · exact .inr ⟨e, u, h3, h4, h5.fr hf hs⟩
theorem DbB.ext (h : DbB F w b n m) (he : Ext w w') : DbB F w' b n m := h.fr (he.fr (fun _ => False)) (fun h => h) (fun _ _ h => h)
theorem DbB.mono (h : DbB F w b n m) (hs : ∀ k, k < w.heap.size → F k → G k) : DbB G w b n m := by
  obtain ⟨f, h1, h2⟩ := h
  refine ⟨f, h1, fun s => ?_⟩
  rcases h2 s with h | ⟨e, u, h3, h4, h5⟩
  · exact .inl h
  · exact .inr ⟨e, u, h3, h4, h5.mono hs⟩
theorem DbB.made (F : Nat → Prop) (w : World) : DbB F (w.alloc (.map #[] 0)) w.heap.size 0 (fun _ => none) := ⟨_, MapV.made w, fun _ => .inl ⟨rfl, rfl⟩⟩
theorem DbB.lt (h : DbB F w b n m) : b < w.heap.size := let ⟨_, h, _⟩ := h; h.lt
end
def updD (m : Dm) (s : ByteArray) (e : En) : Dm := fun t => if t = s then some e else m t
theorem DbB.put {F : Nat → Prop} {w w' : World} {b n : Nat} {m : Dm} {f : ByteArray → Option Value} {s : ByteArray} {e : En} {u : Value} (h2 : ∀ s, (m s = none ∧ f s = none) ∨ ∃ e u, m s = some e ∧ f s = some u ∧ EnV F w u e) (hM : MapV w' b (n + 1) (updV f s (some u))) (hg : w.grownBy w' (some b)) (hF : ∀ k, F k → k ≠ b) (he : EnV F w u e) : DbB F w' b (n + 1) (updD m s e) := by
  have hf := grown_fr hg
  have hs : ∀ k, F k → ¬ some b = some k := fun k hk h => hF k hk (by injection h with h; exact h.symm)
  refine ⟨_, hM, fun t => ?_⟩
  unfold updD updV
  by_cases ht : t = s
  · exact .inr ⟨e, u, by rw [if_pos ht], by rw [if_pos ht], he.fr hf hs⟩
  · rw [if_neg ht, if_neg ht]
    rcases h2 t with h | ⟨e', u', h3, h4, h5⟩
    · exact .inl h
    · exact .inr ⟨e', u', h3, h4, h5.fr hf hs⟩
/-- The empty relations of schemas. -/
def dmL (ss : List Sc) : Dm := fun s => (findS ss s).map (fun x => ⟨x.kinds, ⟨(x.kinds.length : Int), []⟩⟩)
theorem dmL_nil : dmL [] = fun _ => none := rfl
theorem dmL_app {ss : List Sc} {x : Sc} (h : findS ss x.name = none) : dmL (ss ++ [x]) = updD (dmL ss) x.name ⟨x.kinds, ⟨(x.kinds.length : Int), []⟩⟩ := by
  funext t
  unfold dmL updD findS at *
  rw [List.find?_append]
  by_cases ht : t = x.name
  · subst ht
    rw [h, if_pos rfl]
    simp
  · rw [if_neg ht]
    cases hf : ss.find? (fun y => decide (y.name = t)) with
    | some y => simp [hf]
    | none =>
      have : ¬ x.name = t := fun e => ht e.symm
      simp [this, hf]
end Go.Proofs.YtmmmdinncmbjkaaGreat
