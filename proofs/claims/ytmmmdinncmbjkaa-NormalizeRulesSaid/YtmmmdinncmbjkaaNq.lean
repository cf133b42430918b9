/- Ranging over a map from strings. -/
import Derived.Test.YtmmmdinncmbjkaaNp
import Derived.Maps.RangeWalk
namespace Go.Proofs.Ytmmmdinncmbjkaa
open Go.RowKit Go.Maps

theorem key_str2 {key : Value} {kl : Lit} (h : keyOf Try.prog 9 key = some kl) : ∃ s : ByteArray, key = .string s ∧ kl = .string s.data.toList := by
  rw [keyOf_string Try.underlying9] at h
  cases key <;> simp [mapKey, Try.underlying9] at h
  obtain ⟨-, rfl⟩ := h
  exact ⟨_, rfl, rfl⟩
/-- A range over a map that reads as f is under way; the keys sn have come. -/
def RngV (w : World) (b r n : Nat) (f : ByteArray → Option Value) (sn : List ByteArray) (cnt : Nat) : Prop :=
  ∃ (D : DataW Value) (left : Lit → Bool), w.ranges Try.prog 9 Rv b r n D left cnt ∧ (∀ s : ByteArray, ∀ zd, D.atKey (.string s.data.toList) zd = match f s with | some v => .held v | none => zd) ∧
    ∀ s : ByteArray, left (.string s.data.toList) = ((f s).isSome && !decide (s ∈ sn))
theorem RngV.kept {w w' : World} {b r n : Nat} {f : ByteArray → Option Value} {sn : List ByteArray} {cnt : Nat} {row : Option Nat} (h : RngV w b r n f sn cnt) (hg : w.grownBy w' row) (hb : some b ≠ row) (hr : some r ≠ row) : RngV w' b r n f sn cnt :=
  let ⟨D, left, h1, h2⟩ := h; ⟨D, left, h1.kept hg hb hr, h2⟩
theorem wpList_range_V {w : World} {ops : Array Oper} {rest : List Oper} {o : Oper} {a : Act} {Q : Exit → Act → World → Prop} (hg : o.guard = none) (m : Operand) (t e : TypeId) (hop : o.op = Op.range t m)
    (ht : Try.prog.underlying t = some (.map 9 e)) (b n : Nat) (f : ByteArray → Option Value) (hm : a.eval m = .map (some b)) (hown : MapV w b n f)
    (hK : ∀ w' cnt, RngV w' b w.heap.size n f [] cnt → w.grownBy w' none → w'.heap.size = w.heap.size + 1 → wpList Try.prog ops Q rest (a.put o.dst (.pointer (some ⟨w.heap.size, 0, none⟩))) w') : wpList Try.prog ops Q (o :: rest) a w := by
  obtain ⟨D, hD, -, hat, hhas⟩ := hown
  refine wpList_range_own w hg m t hop 9 e law_str ht Rv b n D hm hD (fun w' h1 h2 h3 => hK w' _ ⟨D, _, h1, hat, fun s => ?_⟩ h2 h3)
  rw [hhas s]
  simp
theorem same_str (s x : ByteArray) : (Lit.string s.data.toList).sameKey (.string x.data.toList) = decide (s = x) := by
  show (s.data.toList == x.data.toList) = _
  by_cases h : s = x
  · subst h; simp
  · rw [decide_eq_false h]
    have : s.data.toList ≠ x.data.toList := fun e => h (Go.WideShapes.bytes_inj e)
    simpa using this
theorem wpList_next_V {w : World} {ops : Array Oper} {rest : List Oper} {o : Oper} {a : Act} {Q : Exit → Act → World → Prop} (hg : o.guard = none) (it : Operand) (hop : o.op = Op.next it false) (b r n : Nat) (f : ByteArray → Option Value) (sn : List ByteArray) (cnt : Nat)
    (hit : a.eval it = .pointer (some ⟨r, 0, none⟩)) (h : RngV w b r n f sn cnt)
    (hDone : (∀ s, (f s).isSome = true → s ∈ sn) → wpList Try.prog ops Q rest (a.put o.dst (.tuple #[.bool false])) w)
    (hMore : ∀ (s : ByteArray) (v : Value) (w' : World) (cnt' : Nat), f s = some v → s ∉ sn → RngV w' b r n f (sn ++ [s]) cnt' → cnt' < cnt → w.grownBy w' (some r) → w'.heap.size = w.heap.size →
      (Instr.entry (.pointer (some ⟨r, 0, none⟩))).run Try.prog w' = .ok (.tuple #[.string s, v]) w' → wpList Try.prog ops Q rest (a.put o.dst (.tuple #[.bool true, .string s, v])) w') : wpList Try.prog ops Q (o :: rest) a w := by
  obtain ⟨D, left, hrg, hat, hleft⟩ := h
  refine wpList_next_ranges w hg it hop 9 law_str Rv Value.string (fun v : Value => v) (fun key kl hk => let ⟨s, h1, _⟩ := key_str2 hk; ⟨s, h1⟩) (fun v y _ => ⟨v, rfl⟩) b r n D left cnt hit hrg ?_ ?_
  · intro _ hl
    refine hDone (fun s hs => ?_)
    have h1 := hleft s
    rw [hl, hs] at h1
    simpa using h1
  · intro x c kl y w' cnt' hkey hlk hv hyat hrg' hlt hgr hsz hen
    obtain ⟨s, e1, rfl⟩ := key_str2 hkey
    injection e1 with e1
    subst e1
    rw [hleft x] at hlk
    simp only [Bool.and_eq_true, Bool.not_eq_true', decide_eq_false_iff_not] at hlk
    have hfx : f x = some c := by
      have h1 := hyat (.held (.bool false))
      rw [hat x] at h1
      simp only [Rv, Option.some.injEq] at hv
      rw [← hv] at h1
      rcases hf : f x with _ | u
      · rw [hf] at hlk; simp at hlk
      · rw [hf] at h1
        simp only [DataW.held.injEq] at h1
        rw [h1]
    refine hMore x c w' cnt' hfx hlk.2 ⟨D, _, hrg', hat, fun s => ?_⟩ hlt hgr hsz hen
    rw [hleft s, same_str]
    by_cases h1 : s = x
    · subst h1; simp
    · simp [h1]
end Go.Proofs.Ytmmmdinncmbjkaa
