/- The append law of a row once more: what was in the row stays where it was; the law at a step of a region that draws its order. -/
import Derived.Test.YtjpkaljndfgkjaaRow
import Derived.Deep.AppendLies
namespace Go.Proofs.Ytjpkaljndfgkjaa
open Go.RowKit

theorem add0 (g k : Nat) : (⟨g, 0, none⟩ : Addr).add k = ⟨g, k, none⟩ := by simp only [Addr.add, Nat.zero_add]; split <;> simp_all

/-- Old cells of the row stay. -/
def Stay (w w' : World) (v : Value) (n : Nat) : Prop := ∀ g k, v.ownBlock = some g → k < n → w'.cell? ⟨g, k, none⟩ = w.cell? ⟨g, k, none⟩

theorem run_append_stay {P : Program} (w : World) (base : Nat) (t ty e : TypeId) (i : TypeInfo) (z : Value) (bytes : Nat) (ht : P.underlying t = some (.slice e)) (hi : P.info? e = some i) (hz : i.zero = some z)
    (hsize : i.size = 1) (hby : i.bytes = bytes) (hzs : z.cells = #[z]) (v : Value) (xs : List Value) (hrow : Row w base e z v xs)
    (a : Addr) (c : Nat) (x : Value) (hx : w.cell? (a.add 0) = some x) (h1 : x.oneCell' = true) (h63 : xs.length + 1 ≤ maxLen) (hbytes : (xs.length + 1) * bytes ≤ 140737488355328) (hbase : base ≤ w.heap.size) :
    ∃ v' w', (Builtin.append_ #[t, t] ty #[v, .slice (some a) 1 c]).run P w = .ok v' w' ∧ Row w' base e z v' (xs ++ [x]) ∧ w.grownBy w' v.ownBlock ∧ Stay w w' v xs.length := by
  obtain ⟨v', w', hr, h2, h3⟩ := run_append_row (P := P) w base t ty e i z bytes ht hi hz hsize hby hzs v xs hrow a c x hx h1 h63 hbytes hbase
  refine ⟨v', w', hr, h2, h3, ?_⟩
  have hnews : ∀ j u, [x][j]? = some u → w.cell? (a.add j) = some u := by
    intro j u hu
    cases j with
    | zero => simp at hu; subst hu; exact hx
    | succ j => simp at hu
  have hsmall : xs.length + 1 ≤ 9223372036854775807 := by simp only [maxLen] at h63; omega
  rcases hrow with ⟨rfl, rfl⟩ | ⟨g, r, rfl, hbg, hbk, hcm⟩
  · intro g k hg; simp [Value.ownBlock] at hg
  · intro g' k hg hk
    obtain rfl : g = g' := by simpa [Value.ownBlock] using hg
    by_cases hroom : xs.length + 1 ≤ xs.length + r
    · obtain ⟨r', rfl⟩ : ∃ r', r = r' + 1 := ⟨r - 1, by omega⟩
      have hr2 := run_append_room (P := P) w t ty e i ht hi g xs.length (xs.length + (r' + 1)) (xs ++ List.replicate (r' + 1) z).toArray hbk a 1 c [x] (by simp [hsize]) hnews (by simpa using h1) hroom (by simp [hsize])
      rw [hr] at hr2
      injection hr2 with e1 e2
      subst e1 e2
      rcases h2 with ⟨h, _⟩ | ⟨g2, r2, h, _, hb2, _⟩
      · cases h
      · injection h with h _ _
        injection h with h
        injection h with h _ _
        subst h
        rw [hb2.cell (i := k) (by simp; omega), hbk.cell (i := k) (by simp; omega)]
        simp [hk]
    · have hr0 : r = 0 := by omega
      subst hr0
      have hcells : ∀ j u, xs[j]? = some u → w.cell? ((⟨g, 0, none⟩ : Addr).add j) = some u := by
        intro j u hu
        have hj : j < xs.length := (List.getElem?_eq_some_iff.1 hu).1
        rw [add0, hbk.cell (i := j) (by simp; omega)]
        simp [List.getElem?_eq_getElem hj] at hu ⊢; exact hu
      have hr2 := run_append_grow (P := P) w t ty e i z ht hi hz ⟨g, 0, none⟩ xs.length (xs.length + 0) xs (by simp [hsize]) hcells a 1 c [x] (by simp [hsize]) hnews (by omega) (by omega) (growslice_fits (by omega) (by rw [hby]; exact hbytes))
      rw [hr] at hr2
      injection hr2 with e1 e2
      subst e1 e2
      have hc := hbk.cell (i := k) (by simp; omega)
      rw [hc]
      exact ((Ext.refl w).drew.alloc _).cell hc

theorem step_append_row {P : Program} {w : World} {ops : Array Oper} {o : Oper} {a : Act} {K : Act → World → Prop} {Q : Exit → Act → World → Prop} {E : Prop} (hgd : o.guard = none) (s y : Operand) (t : TypeId)
    (ho : o.op = .call { callee := .builtin .append, args := #[s, y], argTypes := #[t, t] })
    (base : Nat) (e : TypeId) (i : TypeInfo) (z : Value) (bytes : Nat) (ht : P.underlying t = some (.slice e)) (hi : P.info? e = some i) (hz : i.zero = some z) (hsize : i.size = 1) (hby : i.bytes = bytes) (hzs : z.cells = #[z])
    (v : Value) (xs : List Value) (hs : a.eval s = v) (hrow : Row w base e z v xs) (ad : Addr) (c : Nat) (x : Value) (hx : a.eval y = .slice (some ad) 1 c) (hc : w.cell? (ad.add 0) = some x) (h1 : x.oneCell' = true)
    (h63 : xs.length + 1 ≤ maxLen) (hbytes : (xs.length + 1) * bytes ≤ 140737488355328) (hbase : base ≤ w.heap.size)
    (h : ∀ v' w', Row w' base e z v' (xs ++ [x]) → w.grownBy w' v.ownBlock → Stay w w' v xs.length → K (a.put o.dst v') w') :
    if Region.wanted o (yielded ops a.tmps) = true then Oper.wp P o a w K Q else E := by
  have hw : Region.wanted o (yielded ops a.tmps) = true := by simp [Region.wanted, hgd]
  rw [if_pos hw]
  obtain ⟨v', w', hr, h2, h3, h4⟩ := run_append_stay (P := P) w base t o.type e i z bytes ht hi hz hsize hby hzs v xs hrow ad c x hc h1 h63 hbytes hbase
  unfold Oper.wp execOp
  simp only [ho, resolve, invoke, builtin, Sem.run_bind, Sem.run_pure, Result.andThen_ok, List.map_toArray, List.map_cons, List.map_nil, hs, hx, hr]
  exact h v' w' h2 h3 h4
end Go.Proofs.Ytjpkaljndfgkjaa
