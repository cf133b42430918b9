/- Contracts: exclude, where it refuses; selected, where it keeps all. -/
import Derived.Test.YtmmmdinncmbjkaaGreatMf23
namespace Go.Proofs.YtmmmdinncmbjkaaGreat
open Go.RowKit Go.Maps
theorem four_blk (w : World) (t u v x : TypeId) (cs ds es fs : List Value) : Bk ((((w.alloc (.cells cs.toArray t)).alloc (.cells ds.toArray u)).alloc (.cells es.toArray v)).alloc (.cells fs.toArray x)) w.heap.size t cs ∧ Bk ((((w.alloc (.cells cs.toArray t)).alloc (.cells ds.toArray u)).alloc (.cells es.toArray v)).alloc (.cells fs.toArray x)) (w.heap.size + 1) u ds ∧ Bk ((((w.alloc (.cells cs.toArray t)).alloc (.cells ds.toArray u)).alloc (.cells es.toArray v)).alloc (.cells fs.toArray x)) (w.heap.size + 1 + 1) v es ∧ Bk ((((w.alloc (.cells cs.toArray t)).alloc (.cells ds.toArray u)).alloc (.cells es.toArray v)).alloc (.cells fs.toArray x)) (w.heap.size + 1 + 1 + 1) x fs := by
  obtain ⟨h1, h2, h3⟩ := three_blk w t u v cs ds es
  refine ⟨h1.alloc _, h2.alloc _, h3.alloc _, ?_⟩
  have h := Bk.new (((w.alloc (.cells cs.toArray t)).alloc (.cells ds.toArray u)).alloc (.cells es.toArray v)) x fs
  have e : (((w.alloc (.cells cs.toArray t)).alloc (.cells ds.toArray u)).alloc (.cells es.toArray v)).heap.size = w.heap.size + 1 + 1 + 1 := by simp
  rw [e] at h
  exact h
end Go.Proofs.YtmmmdinncmbjkaaGreat
