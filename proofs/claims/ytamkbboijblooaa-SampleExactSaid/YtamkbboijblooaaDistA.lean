/- Words for sample.Distinct: a row of numbers; what stands beside it. -/
import Derived.Test.YtamkbboijblooaaSrch
import Derived.Test.YtamkbboijblooaaUsedA
namespace Go.Proofs.Ytamkbboijblooaa
open Go.RowKit

/-- Values that are the numbers of a list. -/
def NumsL (w : World) : List Value → List Nat → Prop
  | [], [] => True
  | x :: xs, n :: ns => ((∃ B a d, x = .slice B a d) ∧ Nz w x n) ∧ NumsL w xs ns
  | _, _ => False
theorem NumsL.len {w : World} : ∀ {xs : List Value} {ns : List Nat}, NumsL w xs ns → xs.length = ns.length
  | [], [], _ => rfl
  | _ :: _, _ :: _, h => by simp [NumsL.len h.2]
  | [], _ :: _, h => h.elim
  | _ :: _, [], h => h.elim
theorem NumsL.append {w : World} : ∀ {xs ys : List Value} {ns ms : List Nat}, NumsL w xs ns → NumsL w ys ms → NumsL w (xs ++ ys) (ns ++ ms)
  | [], _, [], _, _, h => h
  | _ :: _, _, _ :: _, _, h, k => ⟨h.1, NumsL.append h.2 k⟩
  | [], _, _ :: _, _, h, _ => h.elim
  | _ :: _, _, [], _, h, _ => h.elim
theorem NumsL.split {w : World} : ∀ {xs : List Value} {ns : List Nat} (k : Nat), NumsL w xs ns → NumsL w (xs.take k) (ns.take k) ∧ NumsL w (xs.drop k) (ns.drop k)
  | [], [], k, _ => by simp [NumsL]
  | x :: xs, n :: ns, 0, h => ⟨trivial, h⟩
  | x :: xs, n :: ns, k + 1, h => ⟨⟨h.1, (NumsL.split k h.2).1⟩, (NumsL.split k h.2).2⟩
  | [], _ :: _, _, h => h.elim
  | _ :: _, [], _, h => h.elim
theorem NumsL.map {w w' : World} (hk : ∀ {x : Value} {ds : List Nat}, Dg w x ds → Dg w' x ds) : ∀ {xs : List Value} {ns : List Nat}, NumsL w xs ns → NumsL w' xs ns
  | [], [], _ => trivial
  | _ :: _, _ :: _, h => ⟨⟨h.1.1, hk h.1.2⟩, NumsL.map hk h.2⟩
  | [], _ :: _, h => h.elim
  | _ :: _, [], h => h.elim
theorem NumsL.get {w : World} : ∀ {xs : List Value} {ns : List Nat}, NumsL w xs ns → ∀ i (hi : i < xs.length), (∃ B a d, xs[i] = .slice B a d) ∧ Nz w xs[i] (ns.getD i 0)
  | _ :: _, _ :: _, h, 0, _ => h.1
  | _ :: _, _ :: _, h, i + 1, hi => by simpa using NumsL.get h.2 i (by simpa using hi)
  | [], [], _, i, hi => by simp at hi
  | [], _ :: _, h, _, _ => h.elim
  | _ :: _, [], h, _, _ => h.elim
theorem NumsL.no32 {w : World} {xs : List Value} {ns : List Nat} (h : NumsL w xs ns) : ∀ d : Nat, U32 d ∉ xs := not_u32 (fun i hi => (h.get i hi).1)
theorem NumsL.no8 {w : World} {xs : List Value} {ns : List Nat} (h : NumsL w xs ns) : ∀ d : Nat, U8 d ∉ xs := by
  intro d hm
  obtain ⟨i, hi, e⟩ := List.getElem_of_mem hm
  obtain ⟨B, a, c, e2⟩ := (h.get i hi).1
  rw [e2] at e; cases e
theorem NumsL.one {w : World} {xs : List Value} {ns : List Nat} (h : NumsL w xs ns) : ∀ v ∈ xs, v.oneCell' = true := by
  intro v hm
  obtain ⟨i, hi, e⟩ := List.getElem_of_mem hm
  obtain ⟨B, a, c, e2⟩ := (h.get i hi).1
  rw [e2] at e; subst e; rfl

/-- A row of the numbers l. -/
def NsL (w : World) (base : Nat) (v : Value) (l : List Nat) : Prop := ∃ vs, Row w base 29 (.slice none 0 0) v vs ∧ NumsL w vs l
theorem NsL.nil (w : World) (base : Nat) : NsL w base (.slice none 0 0) [] := ⟨[], Row.nil _ _ _ _, trivial⟩
theorem NsL.ext {w w' : World} {base : Nat} {v : Value} {l : List Nat} (h : NsL w base v l) (he : Ext w w') : NsL w' base v l :=
  let ⟨vs, h1, h2⟩ := h; ⟨vs, h1.ext he, h2.map (fun k => k.ext he)⟩
theorem NsL.mod {w w' : World} {base g : Nat} {v : Value} {l : List Nat} {t : TypeId} {ys : List Value} (h : NsL w base v l) (hm : Mod g w w') (hb : Bk w g t ys) (hd : ∀ d : Nat, U32 d ∉ ys) (hg : g < base) : NsL w' base v l := by
  obtain ⟨vs, h1, h2⟩ := h
  refine ⟨vs, ?_, h2.map (fun k => k.mod hb hd hm)⟩
  rcases h1 with h | ⟨k, r, e, hk, hbk, hl⟩
  · exact .inl h
  · exact .inr ⟨k, r, e, hk, hm.bk hbk (by omega), hl⟩
theorem NsL.out {w : World} {base : Nat} {v : Value} {l : List Nat} (h : NsL w base v l) : ∃ A c, v = .slice A l.length c ∧ Ns w A l.length (fun i => l.getD i 0) := by
  obtain ⟨vs, h1, h2⟩ := h
  have hl := h2.len
  obtain ⟨A, c, rfl, hc, hx⟩ := h1.sl
  refine ⟨A, c, by rw [hl], fun i hi => ?_⟩
  obtain ⟨ad, rfl, hy⟩ := hx (by omega)
  obtain ⟨⟨B, a, d, e⟩, hz⟩ := h2.get i (by omega)
  exact ⟨ad, B, a, d, rfl, by rw [hy i (by omega), e], by rw [← e]; exact hz⟩

/-- What a change of the row does to what is beside it: nothing. -/
theorem row_far {w w' : World} {base : Nat} {v : Value} {vs : List Value} {l : List Nat} (h1 : Row w base 29 (.slice none 0 0) v vs) (h2 : NumsL w vs l) (hg : w.grownBy w' v.ownBlock) :
    (∀ {x : Value} {ds : List Nat}, Dg w x ds → Dg w' x ds) ∧ (∀ {x : Value} {bs : List Nat}, By w x bs → By w' x bs) ∧ (∀ {k : Nat} {t : TypeId} {ys : List Value}, k < base → Bk w k t ys → Bk w' k t ys) ∧ (∀ {a : World}, a.heap.size ≤ base → Ext a w → Ext a w') := by
  refine ⟨fun h => h1.dg (by simp [U32]) h2.no32 hg h, fun {x bs} h => ?_, fun hk hb => grown_bk hg hb (fun g e => by have := h1.block g e; omega), fun ha he => he.grown hg (fun g e => by have := h1.block g e; omega)⟩
  rcases h1 with ⟨rfl, rfl⟩ | ⟨g, r, rfl, _, h3, _⟩
  · exact h.ext ⟨hg.os, hg.tape, hg.output, hg.size, fun k hk => hg.block k hk (by simp [Value.ownBlock])⟩
  · refine h.mod h3 (fun d hd => ?_) hg
    rcases List.mem_append.1 hd with h | h
    · exact h2.no8 d h
    · have := List.eq_of_mem_replicate h; cases this

/-- What stands beside the row: the tape, the result's tape, the reader. -/
def DEnv (w wr : World) (gR : Nat) (S : Value) (bs : List Nat) (pos q : Int) : Prop :=
  Bk wr w.heap.size 25 [S, .int .i64 pos] ∧ Bk wr (w.heap.size + 1) 25 [.slice none 0 0, .int .i64 0] ∧ Rd wr gR S q ∧ By wr S bs ∧ Ext w wr ∧ w.heap.size + 1 < gR
theorem DEnv.ext {w wr w' : World} {gR : Nat} {S : Value} {bs : List Nat} {pos q : Int} (h : DEnv w wr gR S bs pos q) (he : Ext wr w') : DEnv w w' gR S bs pos q :=
  ⟨h.1.ext he, h.2.1.ext he, Bk.ext h.2.2.1 he, h.2.2.2.1.ext he, h.2.2.2.2.1.trans he, h.2.2.2.2.2⟩
theorem DEnv.mod {w wr w' : World} {gR : Nat} {A : Option Addr} {n c : Nat} {bs : List Nat} {pos q r : Int} (h : DEnv w wr gR (.slice A n c) bs pos q) (hm : Mod gR wr w') (hr : Rd w' gR (.slice A n c) r) : DEnv w w' gR (.slice A n c) bs pos r :=
  ⟨hm.bk h.1 (by have := h.2.2.2.2.2; omega), hm.bk h.2.1 (by have := h.2.2.2.2.2; omega), hr, h.2.2.2.1.mod h.2.2.1 (rd_u8 _ _ ⟨_, _, _, rfl⟩) hm, h.2.2.2.2.1.mod hm (by have := h.2.2.2.2.2; omega), h.2.2.2.2.2⟩
theorem DEnv.row {w wr w' : World} {gR base : Nat} {S v : Value} {bs : List Nat} {pos q : Int} {vs : List Value} {l : List Nat} (h : DEnv w wr gR S bs pos q) (h1 : Row wr base 29 (.slice none 0 0) v vs) (h2 : NumsL wr vs l) (hg : wr.grownBy w' v.ownBlock) (hb : gR < base) : DEnv w w' gR S bs pos q := by
  obtain ⟨_, f2, f3, f4⟩ := row_far h1 h2 hg
  obtain ⟨e1, e2, e3, e4, e5, e6⟩ := h
  exact ⟨f3 (by omega) e1, f3 (by omega) e2, f3 hb e3, f2 e4, f4 (by omega) e5, e6⟩

/-- The search's answer, in words of the list. -/
theorem found_mem {l : List Nat} {y k : Nat} (ha : Asc l) (hf : Found l.length y (fun i => l.getD i 0) k) : (k < l.length ∧ l.getD k 0 = y) ↔ y ∈ l := by
  obtain ⟨h1, h2, h3⟩ := hf
  constructor
  · rintro ⟨hk, e⟩
    rw [← e]
    simp only [List.getD, List.getElem?_eq_getElem hk, Option.getD_some]
    exact List.getElem_mem hk
  · intro hm
    obtain ⟨i, hi, e⟩ := List.getElem_of_mem hm
    have hg : l.getD i 0 = y := by simp [List.getD, hi, e]
    rcases Nat.lt_or_ge i k with hl | hl
    · have := h2 i hl; simp only at this; omega
    · have hkl : k < l.length := by omega
      have h5 := h3 k (Nat.le_refl _) hkl
      simp only at h5
      rcases Nat.lt_or_ge k i with hlt | hge
      · have := asc_get ha hlt hi; omega
      · obtain rfl : i = k := by omega
        exact ⟨hkl, hg⟩
theorem found_put {l : List Nat} {y k : Nat} (hf : Found l.length y (fun i => l.getD i 0) k) : putL l y = l.take k ++ [y] ++ l.drop k := by
  obtain ⟨h1, h2, h3⟩ := hf
  obtain ⟨e1, e2⟩ := split_at h1 h2 h3
  rw [putL, e1, e2]; simp
end Go.Proofs.Ytamkbboijblooaa
