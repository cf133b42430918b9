/- From readings of arguments to the words of the walks: queries, with the lengths of the conditions. -/
import Derived.Test.YtmmmdinncmbjkaaGreatMf47
namespace Go.Proofs.YtmmmdinncmbjkaaGreat
open Go.ChangeShapes Go.WideShapes Go.ChangeAt Go.RowKit Go.Joins Go.Deep
section
variable {H : Type} {enc : TypeId × Value → H} {W : World} {base : Nat} {fuel : Nat} {cs : List Value} {v : Value} {x : DataW H × List MemPlace}
set_option maxRecDepth 20000
theorem open_rlE2 (h : DataW.trod enc Tryz.prog W 0 (fun _ => true) true fuel 73 cs = some x) : ∃ r : Rl, rdRl.R U1 W cs r ∧ RlZ r ∧ r.ats.length ≤ maxLen ∧ r.cds.length ≤ maxLen := by
  obtain ⟨xs, n, -, -, hl, hxl, hf⟩ := DataW.trod_struct Tryz.underlying73 h
  have hc2 : cs.length = 2 := hl.trans (by kernel_rfl)
  match cs, hc2 with
  | [c0, c1], _ =>
    match xs, hxl with
    | [y0, y1], _ =>
      have h0 : DataW.trod enc Tryz.prog W 0 (fun _ => true) true n 70 [c0] = some y0 := hf 0 _ rfl
      have h1 : DataW.trod enc Tryz.prog W 0 (fun _ => true) true n 71 [c1] = some y1 := hf 1 _ rfl
      obtain ⟨axs, k1, k2, k3⟩ := open_sl rdAt Tryz.underlying70 (by kernel_rfl) (fun a => a.rel.size ≤ maxLen ∧ TmZ a.terms) open_atE h0
      obtain ⟨cds, m1, m2, m3⟩ := open_sl rdCd Tryz.underlying71 (by kernel_rfl) (fun c => c.var.size ≤ maxLen ∧ c.str.size ≤ maxLen) open_cdE h1
      exact ⟨⟨axs, cds⟩, ⟨_, _, rfl, k1.ats, m1⟩, ⟨fun a ha => (k3 a ha).1, fun a ha => (k3 a ha).2, fun c hc => (m3 c hc).1, fun c hc => (m3 c hc).2⟩, k2, m2⟩
theorem open_qy2 {d : DataW H} {p : List MemPlace} (hv : ∃ cs : Array Value, v = .agg cs) (h : DataW.Trod enc Tryz.prog W 0 (fun _ => true) true 61 v d p) : ∃ (A : Option Addr) (ca : Nat) (B : Option Addr) (cb : Nat) (O : Option Addr) (co : Nat) (q : Qy), v = .agg #[.slice A q.hd.length ca, .int .i64 q.ag, .string q.av, .slice B q.rs.length cb, .slice O q.od.length co] ∧ QyR U1 W A ca B cb O co q ∧ QyZ q ∧ (∀ r ∈ q.rs, r.ats.length ≤ maxLen) ∧ ∀ r ∈ q.rs, r.cds.length ≤ maxLen := by
  obtain ⟨ca, rfl⟩ := hv
  obtain ⟨fuel, hf⟩ := h
  obtain ⟨xs, n, -, hx, hl, hxl, hg⟩ := DataW.trod_struct Tryz.underlying61 hf
  have hc5 : ca.toList.length = 5 := hl.trans (by kernel_rfl)
  obtain ⟨cs, hcs⟩ : ∃ cs, cs = ca.toList := ⟨_, rfl⟩
  have hca : ca = cs.toArray := by rw [hcs]
  subst hca
  change (∀ (i : Nat) (f : Field), _ → DataW.trod enc Tryz.prog W 0 (fun _ => true) true n f.type ((cs.drop f.offset).take (Tryz.prog.cellsOf f.type)) = xs[i]?) at hg
  have hc5' : cs.length = 5 := by rw [← hc5]
  clear hf hl hc5 hcs
  match cs, hc5' with
  | [c0, c1, c2, c3, c4], _ =>
    match xs, hxl with
    | [y0, y1, y2, y3, y4], _ =>
      have g0 : DataW.trod enc Tryz.prog W 0 (fun _ => true) true n 30 [c0] = some y0 := hg 0 _ rfl
      have g1 : DataW.trod enc Tryz.prog W 0 (fun _ => true) true n 3 [c1] = some y1 := hg 1 _ rfl
      have g2 : DataW.trod enc Tryz.prog W 0 (fun _ => true) true n 9 [c2] = some y2 := hg 2 _ rfl
      have g3 : DataW.trod enc Tryz.prog W 0 (fun _ => true) true n 58 [c3] = some y3 := hg 3 _ rfl
      have g4 : DataW.trod enc Tryz.prog W 0 (fun _ => true) true n 59 [c4] = some y4 := hg 4 _ rfl
      obtain ⟨hd, h1, -, h3⟩ := open_sl (flatR (fun s : ByteArray => [Value.string s]) 1 (fun _ => rfl)) Tryz.underlying30 (by kernel_rfl) (fun s => s.size ≤ maxLen) open_strE g0
      obtain ⟨ag, e1, -, -⟩ := DataW.trod_int Tryz.underlying3 g1
      obtain ⟨av, e2, -, hav⟩ := DataW.trod_string Tryz.underlying9 g2
      obtain ⟨rs, k1, -, k3⟩ := open_sl rdRl Tryz.underlying58 (by kernel_rfl) (fun r => RlZ r ∧ r.ats.length ≤ maxLen ∧ r.cds.length ≤ maxLen) open_rlE2 g3
      obtain ⟨od, m1, -, m3⟩ := open_sl rdKy Tryz.underlying59 (by kernel_rfl) (fun k => k.var.size ≤ maxLen) open_kyE g4
      injection e1 with e1; injection e2 with e2
      subst e1 e2
      obtain ⟨A, ca', f1⟩ := h1.sl
      obtain ⟨B, cb, f2⟩ := k1.sl
      obtain ⟨O, co, f3⟩ := m1.sl
      subst f1 f2 f3
      exact ⟨A, ca', B, cb, O, co, ⟨hd, ag, av, rs, od⟩, rfl, ⟨h1.strs, k1, m1⟩, ⟨h3, hav, fun r hr => (k3 r hr).1, m3⟩, fun r hr => (k3 r hr).2.1, fun r hr => (k3 r hr).2.2⟩
end
end Go.Proofs.YtmmmdinncmbjkaaGreat
