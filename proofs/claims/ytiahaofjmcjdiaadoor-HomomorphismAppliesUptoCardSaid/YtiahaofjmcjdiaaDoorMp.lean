/- Maps from strings that the call makes, elements of any type. -/
import Derived.Test.YtiahaofjmcjdiaaDoorHg
import Derived.Maps.OwnSet
import Derived.Maps.OwnOps
import Derived.Maps.Views
namespace Go.Proofs.YtiahaofjmcjdiaaDoor
open Go.RowKit Go.Maps

theorem law_str : Keyed Tryd.prog 9 := string_keyed Tryd.underlying9
/-- An element reads as itself. -/
abbrev Rv (v : Value) : Option (DataW Value × List MemPlace) := some (.held v, [])
/-- Block b is a map of at most n entries: f says what it holds. -/
def MapV (w : World) (b n : Nat) (f : ByteArray → Option Value) : Prop :=
  ∃ D : DataW Value, w.ownsMap Tryd.prog 9 Rv b n D ∧ Tidy D ∧ (∀ s : ByteArray, ∀ zd, D.atKey (.string s.data.toList) zd = match f s with | some v => .held v | none => zd) ∧ ∀ s : ByteArray, Maps.has D (.string s.data.toList) = (f s).isSome
theorem MapV.made (w : World) : MapV (w.alloc (.map #[] 0)) w.heap.size 0 (fun _ => none) := ⟨.map [], World.ownsMap_made w _ _ _, tidy_empty, fun _ _ => rfl, fun _ => rfl⟩
theorem MapV.lt {w : World} {b n : Nat} {f : ByteArray → Option Value} (h : MapV w b n f) : b < w.heap.size := let ⟨_, h, _⟩ := h; h.lt
theorem MapV.fr {S : Nat → Prop} {w w' : World} {b n : Nat} {f : ByteArray → Option Value} (h : MapV w b n f) (hf : Fr S w w') (hb : ¬ S b) : MapV w' b n f := by
  obtain ⟨D, ⟨es, clock, h1, h2⟩, h3⟩ := h
  have hlt : b < w.heap.size := by
    rcases Nat.lt_or_ge b w.heap.size with h | h
    · exact h
    · rw [Array.getElem?_eq_none h] at h1; cases h1
  exact ⟨D, ⟨es, clock, (hf.block b hlt hb).trans h1, h2⟩, h3⟩
theorem MapV.ext {w w' : World} {b n : Nat} {f : ByteArray → Option Value} (h : MapV w b n f) (he : Ext w w') : MapV w' b n f := h.fr (he.fr (fun _ => False)) (fun h => h)
theorem MapV.mono {w : World} {b n m : Nat} {f : ByteArray → Option Value} (h : MapV w b n f) (hm : n ≤ m) : MapV w b m f := let ⟨D, h1, h2⟩ := h; ⟨D, h1.mono hm, h2⟩
def updV (f : ByteArray → Option Value) (s : ByteArray) (v : Option Value) : ByteArray → Option Value := fun t => if t = s then v else f t
theorem key_ne {s t : ByteArray} (h : t ≠ s) : (Lit.string t.data.toList) ≠ .string s.data.toList := fun e => by injection e with e; exact h (Go.WideShapes.bytes_inj e)
theorem keyOf_str (s : ByteArray) (hs : s.size ≤ maxLen) : keyOf Tryd.prog 9 (.string s) = some (.string s.data.toList) := Go.WideMaps.keyOf_string_mk Tryd.underlying9 hs
theorem put_view {D : DataW Value} {f : ByteArray → Option Value} (ht : Tidy D) (h1 : ∀ s : ByteArray, ∀ zd, D.atKey (.string s.data.toList) zd = match f s with | some v => .held v | none => zd) (h2 : ∀ s : ByteArray, Maps.has D (.string s.data.toList) = (f s).isSome) (s : ByteArray) (v : Value) :
    Tidy (D.put (.string s.data.toList) (.held v)) ∧ (∀ t : ByteArray, ∀ zd, (D.put (.string s.data.toList) (.held v)).atKey (.string t.data.toList) zd = match updV f s (some v) t with | some v => .held v | none => zd) ∧ ∀ t : ByteArray, Maps.has (D.put (.string s.data.toList) (.held v)) (.string t.data.toList) = (updV f s (some v) t).isSome := by
  have hk : WideAt.IsKeyLit (Lit.string s.data.toList) := trivial
  refine ⟨ht.put hk _, fun t zd => ?_, fun t => ?_⟩
  · by_cases e : t = s
    · subst e; rw [atKey_put_same ht.isMap hk]; simp [updV]
    · rw [atKey_put_other (key_ne e), h1 t zd]; simp [updV, e]
  · by_cases e : t = s
    · subst e; rw [has_put_same ht.isMap hk]; simp [updV]
    · rw [has_put_other (key_ne e), h2 t]; simp [updV, e]

/-- m[k]. -/
theorem wpList_lookup_V {w : World} {ops : Array Oper} {rest : List Oper} {o : Oper} {a : Act} {Q : Exit → Act → World → Prop} (hg : o.guard = none) (m x : Operand) (t e : TypeId) (hop : o.op = Op.lookup t m x false)
    (ht : Tryd.prog.underlying t = some (.map 9 e)) (z : Value) (hz : (zeroValue e).run Tryd.prog w = .ok z w) (b n : Nat) (f : ByteArray → Option Value)
    (hm : a.eval m = .map (some b)) (hown : MapV w b n f) (s : ByteArray) (hx : a.eval x = .string s) (hs : s.size ≤ maxLen) (u : Value) (hu : (f s).getD z = u)
    (hK : wpList Tryd.prog ops Q rest (a.put o.dst u) w) : wpList Tryd.prog ops Q (o :: rest) a w := by
  refine wpList_plain hg fun K' hK' => ?_
  obtain ⟨D, hD, -, hat, -⟩ := hown
  obtain ⟨v, ps, hrun, hv⟩ := hD.lookup law_str ht hz (zd := .held z) (zp := []) rfl (keyOf_str s hs)
  have hvu : v = u := by
    have h1 := hat s (.held z)
    rw [h1] at hv
    rcases hf : f s with _ | y
    · rw [hf] at hv hu; simp at hv hu; rw [hv.1, hu]
    · rw [hf] at hv hu; simp at hv hu; rw [hv.1, hu]
  subst hvu
  unfold Oper.wp
  simp [execOp, hop, hm, hx, hrun, Result.andThen]
  exact hK' _ _ hK
/-- v, ok := m[k]. -/
theorem wpList_lookup_okV {w : World} {ops : Array Oper} {rest : List Oper} {o : Oper} {a : Act} {Q : Exit → Act → World → Prop} (hg : o.guard = none) (m x : Operand) (t e : TypeId) (hop : o.op = Op.lookup t m x true)
    (ht : Tryd.prog.underlying t = some (.map 9 e)) (z : Value) (hz : (zeroValue e).run Tryd.prog w = .ok z w) (b n : Nat) (f : ByteArray → Option Value)
    (hm : a.eval m = .map (some b)) (hown : MapV w b n f) (s : ByteArray) (hx : a.eval x = .string s) (hs : s.size ≤ maxLen) (u : Value) (hu : (f s).getD z = u) (ok : Bool) (hok : (f s).isSome = ok)
    (hK : wpList Tryd.prog ops Q rest (a.put o.dst (.tuple #[u, .bool ok])) w) : wpList Tryd.prog ops Q (o :: rest) a w := by
  refine wpList_plain hg fun K' hK' => ?_
  obtain ⟨D, hD, -, hat, hhas⟩ := hown
  obtain ⟨v, ps, hrun, hv⟩ := hD.look_ok law_str ht hz (zd := .held z) (zp := []) rfl (keyOf_str s hs)
  have hvu : v = u := by
    have h1 := hat s (.held z)
    rw [h1] at hv
    rcases hf : f s with _ | y
    · rw [hf] at hv hu; simp at hv hu; rw [hv.1, hu]
    · rw [hf] at hv hu; simp at hv hu; rw [hv.1, hu]
  subst hvu
  rw [hhas s, hok] at hrun
  unfold Oper.wp
  simp [execOp, hop, hm, hx, hrun, Result.andThen]
  exact hK' _ _ hK
/-- m[k] = v. -/
theorem wpList_update_V {w : World} {ops : Array Oper} {rest : List Oper} {o : Oper} {a : Act} {Q : Exit → Act → World → Prop} (hg : o.guard = none) (m x v : Operand) (t e : TypeId) (hop : o.op = Op.mapUpdate t m x v)
    (ht : Tryd.prog.underlying t = some (.map 9 e)) (b n : Nat) (f : ByteArray → Option Value)
    (hm : a.eval m = .map (some b)) (hown : MapV w b n f) (hn : n < maxLen) (s : ByteArray) (u : Value) (hx : a.eval x = .string s) (hs : s.size ≤ maxLen) (hv : a.eval v = u)
    (hK : ∀ w', MapV w' b (n + 1) (updV f s (some u)) → w.grownBy w' (some b) → wpList Tryd.prog ops Q rest (a.put o.dst undef) w') : wpList Tryd.prog ops Q (o :: rest) a w := by
  obtain ⟨D, hD, hti, hat, hhas⟩ := hown
  obtain ⟨p1, p2, p3⟩ := put_view hti hat hhas s u
  exact wpList_mapUpdate_own w hg m x v t hop 9 e law_str ht Rv b n D hm hD hn (.string s) u (.string s.data.toList) hx hv (keyOf_str s hs) (.held u) [] rfl (fun w' h1 h2 => hK w' ⟨_, h1, p1, p2, p3⟩ h2)
/-- An entry of a map literal. -/
theorem wpList_insert_V {w : World} {ops : Array Oper} {rest : List Oper} {o : Oper} {a : Act} {Q : Exit → Act → World → Prop} (hg : o.guard = none) (m x v : Operand) (t e : TypeId) (hop : o.op = Op.insert t m x v)
    (ht : Tryd.prog.underlying t = some (.map 9 e)) (b n : Nat) (f : ByteArray → Option Value)
    (hm : a.eval m = .map (some b)) (hown : MapV w b n f) (hn : n < maxLen) (s : ByteArray) (u : Value) (hx : a.eval x = .string s) (hs : s.size ≤ maxLen) (hv : a.eval v = u)
    (hK : ∀ w', MapV w' b (n + 1) (updV f s (some u)) → w.grownBy w' (some b) → wpList Tryd.prog ops Q rest (a.put o.dst undef) w') : wpList Tryd.prog ops Q (o :: rest) a w := by
  obtain ⟨D, hD, hti, hat, hhas⟩ := hown
  obtain ⟨p1, p2, p3⟩ := put_view hti hat hhas s u
  refine wpList_plain hg fun K' hK' => ?_
  obtain ⟨w', hrun, r1, r2⟩ := hD.update law_str ht hn (keyOf_str s hs) (val := u) (d := .held u) (ps := []) rfl
  unfold Oper.wp
  simp [execOp, hop, hm, hx, hv, hrun, Result.andThen]
  exact hK' _ _ (hK w' ⟨_, r1, p1, p2, p3⟩ r2)
theorem zero_bool (w : World) : (zeroValue 4).run Tryd.prog w = .ok (.bool false) w := by kernel_rfl
theorem zero_term (w : World) : (zeroValue 47).run Tryd.prog w = .ok (.agg #[.string ⟨#[]⟩, .int .i64 0, .int .i64 0, .string ⟨#[]⟩]) w := by kernel_rfl
theorem info_str : (Tryd.prog.info? 9).map (fun i => (i.zero, i.size, i.bytes)) = some (some (.string ⟨#[]⟩), 1, 16) := by kernel_rfl
end Go.Proofs.YtiahaofjmcjdiaaDoor
