/- From readings of arguments to the words of the walks (tapes). -/
import Derived.Test.YtjpkaljndfgkjaaGo
import Derived.Test.YtjpkaljndfgkjaaRows
import Derived.Lib.SmallJoins
import Derived.OpenShut
import Derived.ProofKit
import Derived.SizedLaws
namespace Go.Proofs.Ytjpkaljndfgkjaa
open Go.ChangeShapes Go.WideShapes Go.ChangeAt Go.RowKit Go.Joins

theorem own : ownKnob Try.prog.godebug = none := by kernel_rfl
theorem laidOut : laidOutB Try.prog = true := by kernel_rfl
section
variable {H : Type} {enc : TypeId × Value → H} {W : World} {base : Nat}
theorem wf_u8 {n : Int} (h : (Lit.int .u8 n).wf = true) : 0 ≤ n ∧ n < 256 := by have := bounds_u8 h; omega
theorem wf_u16 {n : Int} (h : (Lit.int .u16 n).wf = true) : 0 ≤ n ∧ n < 65536 := by have := bounds_u16 h; omega
theorem wf_u32 {n : Int} (h : (Lit.int .u32 n).wf = true) : 0 ≤ n ∧ n < 4294967296 := by have := bounds_u32 h; omega
theorem wf_u64 {n : Int} (h : (Lit.int .u64 n).wf = true) : 0 ≤ n ∧ n < 18446744073709551616 := by have := bounds_u64 h; omega
theorem wf_i64 {n : Int} (h : (Lit.int .i64 n).wf = true) : -9223372036854775808 ≤ n ∧ n < 9223372036854775808 := by have := bounds_i64 h; omega
theorem sl_of_cells {k : IntKind} {a : Addr} {len cap : Nat} {zs : List Int} (hl : len ≤ cap) (hz : zs.length = cap) (hc : ∀ i, i < zs.length → W.cell? (a.add i) = some (.int k (zs.getD i 0))) :
    Sl W (.slice (some a) len cap) ((zs.take len).map (Value.int k)) := by
  have hlen : ((zs.take len).map (Value.int k)).length = len := by simp; omega
  refine ⟨some a, cap, by rw [hlen], by omega, fun h0 => ⟨a, rfl, fun i hi => ?_⟩⟩
  rw [hlen] at hi
  rw [hc i (by omega)]
  simp [List.getD, show i < zs.length by omega]
/-- Numbers not below 0, as naturals. -/
theorem nats_of {zs : List Int} (h : ∀ z ∈ zs, 0 ≤ z) : ∃ ns : List Nat, zs = ns.map (fun n : Nat => (n : Int)) :=
  ⟨zs.map Int.toNat, by
    rw [List.map_map]
    conv => lhs; rw [← List.map_id zs]
    exact List.map_congr_left (fun z hz => by have := h z hz; simp; omega)⟩
theorem open_bytes {fuel : Nat} {v : Value} {x : DataW H × List MemPlace} (h : DataW.trod enc Try.prog W 0 (fun _ => true) true fuel 23 [v] = some x) (hs : (x.1.weights Try.prog 23).all (· ≤ reachBytes) = true) : ∃ bs, By W v bs := by
  rcases open_ints Try.underlying23 Try.underlying5 (by kernel_rfl) h with ⟨hcs, _⟩ | ⟨a, len, cap, zs, hcs, _, hl, hm, hz, hx, hc, hw⟩
  · injection hcs with hcs; subst hcs
    exact ⟨[], By.nil W⟩
  · injection hcs with hcs; subst hcs
    simp only [if_true] at hz
    rw [hx] at hs
    simp only [DataW.weights, Try.underlying23, List.all_cons, Bool.and_eq_true, decide_eq_true_eq, show Try.prog.bytesOf 5 = 1 from by kernel_rfl] at hs
    have hb := hs.1
    simp only [lits, List.length_map, List.length_take, List.length_drop, reachBytes] at hb
    have hsl := sl_of_cells (W := W) hl hz hc
    obtain ⟨ns, hns⟩ := nats_of (zs := zs.take len) (fun z hz' => (wf_u8 (hw z (List.mem_of_mem_take hz'))).1)
    rw [hns] at hsl
    refine ⟨ns, fun b hb' => ?_, ?_, by rw [List.map_map] at hsl; exact hsl⟩
    · have : ((b : Nat) : Int) ∈ zs.take len := by rw [hns]; exact List.mem_map.2 ⟨b, hb', rfl⟩
      have := (wf_u8 (hw _ (List.mem_of_mem_take this))).2
      omega
    · have : ns.length = (zs.take len).length := by rw [hns]; simp
      rw [this]; simp; omega
set_option maxRecDepth 100000 in
theorem open_tape {v : Value} {d : DataW H} {p : List MemPlace} (hv : Value.okWide Try.prog W .any base 25 v) (h : DataW.Trod enc Try.prog W 0 (fun _ => true) true 25 v d p)
    (hs : (d.weights Try.prog 25).all (· ≤ reachBytes) = true) : ∃ bs pos, Tp W v bs pos ∧ -9223372036854775808 ≤ pos ∧ pos < 9223372036854775808 := by
  obtain ⟨v0, v1, y0, y1, n, rfl, rfl, _, h0, h1⟩ := open_agg2 Try.underlying25 (by kernel_rfl) (by kernel_rfl) hv h
  simp only [DataW.weights, Try.underlying25, List.map_cons, List.map_nil, DataW.weightsEach, List.append_nil, List.all_append, Bool.and_eq_true] at hs
  obtain ⟨bs, hb⟩ := open_bytes h0 hs.1
  obtain ⟨q, e1, _, wq⟩ := DataW.trod_int Try.underlying3 h1
  injection e1 with e1; subst e1
  exact ⟨bs, q, ⟨v0, rfl, hb⟩, wf_i64 wq⟩
set_option maxRecDepth 100000 in
theorem open_nat {v : Value} {d : DataW H} {p : List MemPlace} (hv : Value.okWide Try.prog W .any base 38 v) (h : DataW.Trod enc Try.prog W 0 (fun _ => true) true 38 v d p)
    (hs : (d.weights Try.prog 38).all (· ≤ reachBytes) = true) : ∃ ds, Dg W v ds := by
  obtain ⟨a0, len0, cap0, rfl⟩ := okWide_slice Try.underlying38 hv
  obtain ⟨fuel, hf⟩ := h
  rcases open_ints Try.underlying38 Try.underlying105 (by kernel_rfl) hf with ⟨hcs, _⟩ | ⟨a, len, cap, zs, hcs, _, hl, hm, hz, hx, hc, hw⟩
  · simp only [Value.cells] at hcs
    injection hcs with hcs
    rw [hcs]
    exact ⟨[], Nz.nil W⟩
  · simp only [Value.cells] at hcs
    injection hcs with hcs
    rw [hcs]
    simp only [if_true] at hz
    injection hx with hx _
    rw [hx] at hs
    simp only [DataW.weights, Try.underlying38, List.all_cons, Bool.and_eq_true, decide_eq_true_eq, show Try.prog.bytesOf 105 = 4 from by kernel_rfl] at hs
    have hb := hs.1
    simp only [lits, List.length_map, List.length_take, List.length_drop, reachBytes] at hb
    have hsl := sl_of_cells (W := W) hl hz hc
    obtain ⟨ns, hns⟩ := nats_of (zs := zs.take len) (fun z hz' => (wf_u32 (hw z (List.mem_of_mem_take hz'))).1)
    rw [hns] at hsl
    refine ⟨ns, fun b hb' => ?_, ?_, by rw [List.map_map] at hsl; exact hsl⟩
    · have : ((b : Nat) : Int) ∈ zs.take len := by rw [hns]; exact List.mem_map.2 ⟨b, hb', rfl⟩
      have := (wf_u32 (hw _ (List.mem_of_mem_take this))).2
      omega
    · have : ns.length = (zs.take len).length := by rw [hns]; simp
      rw [this]; simp; omega
end
end Go.Proofs.Ytjpkaljndfgkjaa
