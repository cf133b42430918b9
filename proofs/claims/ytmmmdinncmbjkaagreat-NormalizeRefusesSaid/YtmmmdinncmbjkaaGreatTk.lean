/- One source: its reading, one Load of it. -/
import Derived.Test.YtmmmdinncmbjkaaGreatTj
namespace Go.Proofs.YtmmmdinncmbjkaaGreat
open Go.RowKit Go.Maps

theorem bk_int {w : World} {g : Nat} {z : Int} (h : Bk w g 3 [.int .i64 z]) : Ins (fun _ => True) w (.slice (some ⟨g, 0, none⟩) 1 1) [z] := by
  refine ⟨some ⟨g, 0, none⟩, 1, rfl, Nat.le_refl _, .inr ⟨⟨g, 0, none⟩, rfl, trivial, ?_⟩⟩
  intro j hj
  obtain rfl : j = 0 := by simp at hj; omega
  exact h.cell (i := 0) (by simp)
theorem src_one {w : World} {gS gv gc : Nat} {rl : ByteArray} {col : Int} {u3 u5 : Value} {sm : List Pi} {nts : List Nt} (hb : Bk w gS 36 [.string rl, .slice (some ⟨gv, 0, none⟩) 1 1, .slice (some ⟨gc, 0, none⟩) 1 1, u3, .slice none 0 0, u5]) (hv : Bk w gv 3 [.int .i64 0]) (hc : Bk w gc 3 [.int .i64 col]) (h3 : Sl rdPi (fun _ => True) w u3 sm) (h5 : Sl rdNt (fun _ => True) w u5 nts) :
    Sl rdSrc (fun _ => True) w (.slice (some ⟨gS, 0, none⟩) 1 1) [⟨rl, [0], [col], sm, [], nts⟩] := by
  refine ⟨some ⟨gS, 0, none⟩, 1, rfl, Nat.le_refl _, fun i hi => ?_⟩
  obtain rfl : i = 0 := by simp at hi; omega
  refine ⟨⟨gS, 0, none⟩, _, rfl, trivial, ⟨_, _, _, _, _, rfl, bk_int hv, bk_int hc, h3, Sl.nil _ _ _, h5⟩, fun j hj => ?_⟩
  have h := hb.cell (i := j) hj
  rw [Nat.zero_mul, Nat.zero_add, add_own]
  exact h
theorem nt_one {w : World} {gN : Nat} {rl : ByteArray} (hb : Bk w gN 50 [.string rl, .slice none 0 0, .slice none 0 0]) : Sl rdNt (fun _ => True) w (.slice (some ⟨gN, 0, none⟩) 1 1) [⟨rl, [], []⟩] := by
  refine ⟨some ⟨gN, 0, none⟩, 1, rfl, Nat.le_refl _, fun i hi => ?_⟩
  obtain rfl : i = 0 := by simp at hi; omega
  refine ⟨⟨gN, 0, none⟩, _, rfl, trivial, ⟨_, _, rfl, Ins.nil _ _, Sl.nil _ _ _⟩, fun j hj => ?_⟩
  have h := hb.cell (i := j) hj
  rw [Nat.zero_mul, Nat.zero_add, add_own]
  exact h
theorem pi_one {w : World} {g : Nat} {a b : Int} (hb : Bk w g 51 [.int .i64 a, .int .i64 b]) : Sl rdPi (fun _ => True) w (.slice (some ⟨g, 0, none⟩) 1 1) [⟨a, b⟩] := by
  refine ⟨some ⟨g, 0, none⟩, 1, rfl, Nat.le_refl _, fun i hi => ?_⟩
  obtain rfl : i = 0 := by simp at hi; omega
  refine ⟨⟨g, 0, none⟩, _, rfl, trivial, rfl, fun j hj => ?_⟩
  have h := hb.cell (i := j) hj
  rw [Nat.zero_mul, Nat.zero_add, add_own]
  exact h
/-- What Load of one source answers. -/
def Load1 (r : Except Int Re) (w : World) (e : Ending) (w' : World) : Prop :=
  Ext w w' ∧ ((∃ c, r = .error c ∧ e = .returned (.tuple #[.slice none 0 0, .int .i64 c])) ∨ ∃ x A c, r = .ok x ∧ e = .returned (.tuple #[.slice A 1 c, .int .i64 0]) ∧ Sl rdRe (fun k => w.heap.size ≤ k) w' (.slice A 1 c) [x])
theorem load_one {G : Nat → Prop} {w : World} {b n : Nat} {m : Dm} {s : Src} {f : Int} {A1 A2 B : Option Addr} {n1 c1 n2 c2 d : Nat} (hD : DbB G w b n m) (hV : Sl rdSrc (fun _ => True) w (.slice B 1 d) [s]) (hs : s.rel.size ≤ maxLen) (b1 : s.vars.length ≤ 32) (b2 : s.cols.length ≤ 32) (b3 : s.same.length ≤ 32) (hfs : s.fs = []) (hsm : ∀ x, m s.rel = some x → fitsB s x.rel.ar = true → s.same = []) (hrw : ∀ x, m s.rel = some x → x.rel.rows = [])
    (hn : s.nots = [] ∨ ∃ y, s.nots = [y] ∧ y.rel.size ≤ maxLen ∧ ∀ x, m y.rel = some x → (y.vars.length : Int) ≠ x.rel.ar) :
    Calls Tryz.prog 9 #[.agg #[.slice A1 n1 c1, .int .i64 f, .slice A2 n2 c2, .slice B 1 d], .agg #[.map (some b)]] w (Load1 (resR m s) w) := by
  refine (loads_any (res := resR m) ⟨_, _, _, rfl⟩ ⟨_, _, _, rfl⟩ hV (by omega) (fun W hW s' hs' v hv => ?_)).mono ?_
  · rw [List.mem_singleton] at hs'
    subst hs'
    exact load_small (hD.ext hW) hv hs b1 b2 b3 hfs hsm hrw hn
  · rintro e w' ⟨he, ⟨c, i, hi, hc, h0, -, rfl⟩ | ⟨l, A, k, c, hl, rfl, hsl⟩⟩
    · obtain rfl : i = 0 := by simp at hi; omega
      exact ⟨he, .inl ⟨c, hc, rfl⟩⟩
    · rcases l with _ | ⟨x, _ | ⟨y, l⟩⟩
      · simp at hl
      · simp only [List.map_cons, List.map_nil, List.cons.injEq, and_true] at hl
        have hk : k = 1 := hsl.cap.1
        subst hk
        exact ⟨he, .inr ⟨x, A, c, hl, rfl, hsl⟩⟩
      · simp at hl
theorem dmL_rows {ss : List Sc} {s : ByteArray} {x : En} (h : dmL ss s = some x) : x.rel.rows = [] ∧ x.rel.ar = (x.kinds.length : Int) ∧ ∃ y ∈ ss, y.name = s ∧ y.kinds = x.kinds := by
  unfold dmL findS at h
  rw [Option.map_eq_some_iff] at h
  obtain ⟨y, hy, rfl⟩ := h
  exact ⟨rfl, rfl, y, List.mem_of_find?_eq_some hy, by simpa using List.find?_some hy, rfl⟩
theorem cat_1x : catB ⟨#[49, 120]⟩ = false := by decide
theorem dmL_1x {ss : List Sc} (h : ∀ x ∈ ss, ScOk x) : dmL ss ⟨#[49, 120]⟩ = none := by
  rcases hd : dmL ss ⟨#[49, 120]⟩ with _ | x
  · rfl
  · obtain ⟨-, -, y, hy, hn, -⟩ := dmL_rows hd
    have h1 := (h y hy).1
    rw [hn, cat_1x] at h1
    cases h1
end Go.Proofs.YtmmmdinncmbjkaaGreat
