/- The walk of NormalizeLoads. -/
import Derived.Test.YtmmmdinncmbjkaaGreatMf35
import Derived.Test.YtmmmdinncmbjkaaGreatMf45
import Derived.Test.YtmmmdinncmbjkaaGreatMf42
import Derived.Test.YtmmmdinncmbjkaaGreatMf43
import Derived.Test.YtmmmdinncmbjkaaGreatMf16
import Derived.Test.YtmmmdinncmbjkaaGreatMf17
import Derived.Deep.RegionHeld3
namespace Go.Proofs.YtmmmdinncmbjkaaGreat
open Go.RowKit Go.Maps
theorem ok_map {α β : Type} {f : α → β} : ∀ {l : List α} {m : List β}, l.map (fun s => (Except.ok (f s) : Except Int β)) = m.map Except.ok → m = l.map f
  | [], [], _ => rfl
  | [], b :: m, h => by simp at h
  | a :: l, [], h => by simp at h
  | a :: l, b :: m, h => by
    simp only [List.map_cons, List.cons.injEq, Except.ok.injEq] at h
    rw [List.map_cons, h.1, ok_map h.2]
theorem derive_len {f : List Fc} {s : Src} {l : List Fc} : (deriveL f s l).length ≤ l.length := by
  have h : ∀ (l : List Fc) (out : List (List Vl)), (l.foldl (derOne f s) out).length ≤ out.length + l.length := by
    intro l
    induction l with
    | nil => exact fun out => by simp
    | cons a l ih =>
      intro out
      rw [List.foldl_cons]
      have h1 := ih (derOne f s out a)
      have h2 : (derOne f s out a).length ≤ out.length + 1 := by
        unfold derOne addR
        split
        · split
          · omega
          · simp
        · omega
      rw [List.length_cons]
      omega
  have := h l []
  simpa [deriveL] using this
/-- What the law wants of a source. -/
structure LwOk (M : Dm) (f : List Fc) (s : Src) : Prop where
  ld : LdOk M s
  der : DerOk s f
  len : (deriveL f s f).length = (loadL M s).length
  mem : ∀ x ∈ deriveL f s f, x ∈ loadL M s
  bd : (loadL M s).length ≤ 1048576
  row : ∀ x ∈ loadL M s, x.length ≤ 1048576
  vc : s.cols.length = s.vars.length
theorem lw_ok {ss : List Sc} {us : List Up} {q : Qy} {r : Rl} {s : Src} (hl : ss.length ≤ 6) (hO : DmOk (madeD ss us)) (hc : checkE ss q = 0) (hr : r ∈ q.rs) (hs : s ∈ srcsL q r) : LwOk (madeD ss us) (factsL (madeD ss us) ss) s := by
  obtain ⟨hk, hok⟩ := src_fits hO hc hr hs
  have hkey : ∀ s e, madeD ss us s = some e → ∃ x ∈ ss, x.name = s := fun s e h => madeD_key h
  have h1 := load_len hkey hok
  refine ⟨hk, src_der hl hO hc hr hs, h1, fun x hx => (load_mem hkey hok).2 hx, ?_, fun x hx => ?_, hok.len.symm⟩
  · have h2 := derive_len (f := factsL (madeD ss us) ss) (s := s) (l := factsL (madeD ss us) ss)
    have h3 := facts_len hO ss
    omega
  · obtain ⟨y, -, -, rfl⟩ := derive_mem.1 ((load_mem hkey hok).1 hx)
    have := hk.b1; have := hok.len
    show (s.cols.map _).length ≤ 1048576
    rw [List.length_map]
    omega
end Go.Proofs.YtmmmdinncmbjkaaGreat
