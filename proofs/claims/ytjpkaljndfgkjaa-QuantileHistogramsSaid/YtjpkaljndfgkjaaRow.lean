/- An append law that keeps the whole block. -/
import Derived.Test.YtjpkaljndfgkjaaQuaB
namespace Go.Proofs.Ytjpkaljndfgkjaa
open Go.RowKit

/-- A slice that the walk has built by appends: its block holds its elements and then zeros. -/
def Row (w : World) (base : Nat) (t : TypeId) (z v : Value) (xs : List Value) : Prop :=
  (v = .slice none 0 0 ∧ xs = []) ∨ ∃ g r, v = .slice (some ⟨g, 0, none⟩) xs.length (xs.length + r) ∧ base ≤ g ∧ Bk w g t (xs ++ List.replicate r z) ∧ xs.length + r ≤ maxLen

theorem Row.nil (w : World) (base : Nat) (t : TypeId) (z : Value) : Row w base t z (.slice none 0 0) [] := .inl ⟨rfl, rfl⟩
theorem Row.ext {w w' : World} {base : Nat} {t : TypeId} {z v : Value} {xs : List Value} (h : Row w base t z v xs) (he : Ext w w') : Row w' base t z v xs := by
  rcases h with h | ⟨g, r, h1, h2, h3, h4⟩
  · exact .inl h
  · exact .inr ⟨g, r, h1, h2, h3.ext he, h4⟩
theorem Row.own {w : World} {base : Nat} {t : TypeId} {z v : Value} {xs : List Value} (h : Row w base t z v xs) : w.ownsRow base t 1 v xs.length xs := by
  rcases h with ⟨rfl, rfl⟩ | ⟨g, r, rfl, h2, h3, h4⟩
  · exact World.ownsRow_nil _ _ _ _
  · exact ⟨by simp, .inr ⟨g, _, _, rfl, h2, h3, by omega, h4, by simp, by simp⟩⟩
theorem Row.sl {w : World} {base : Nat} {t : TypeId} {z v : Value} {xs : List Value} (h : Row w base t z v xs) : Sl w v xs := Sl.of_own h.own
theorem Row.block {w : World} {base : Nat} {t : TypeId} {z v : Value} {xs : List Value} (h : Row w base t z v xs) : ∀ g, v.ownBlock = some g → base ≤ g := fun g hg => (h.own.lt g hg).1

theorem zeroCells_one (z : Value) (hz : z.cells = #[z]) (n : Nat) : Builtin.zeroCells z.cells n = (List.replicate n z).toArray := by
  rw [hz]
  apply Array.toList_inj.1
  refine List.ext_getElem (by simp [Builtin.zeroCells]) (fun i h1 h2 => ?_)
  simp [Builtin.zeroCells, Nat.mod_one]

theorem run_append_row {P : Program} (w : World) (base : Nat) (t ty e : TypeId) (i : TypeInfo) (z : Value) (bytes : Nat) (ht : P.underlying t = some (.slice e)) (hi : P.info? e = some i) (hz : i.zero = some z)
    (hsize : i.size = 1) (hby : i.bytes = bytes) (hzs : z.cells = #[z]) (v : Value) (xs : List Value) (hrow : Row w base e z v xs)
    (a : Addr) (c : Nat) (x : Value) (hx : w.cell? (a.add 0) = some x) (h1 : x.oneCell' = true) (h63 : xs.length + 1 ≤ maxLen) (hbytes : (xs.length + 1) * bytes ≤ 140737488355328) (hbase : base ≤ w.heap.size) :
    ∃ v' w', (Builtin.append_ #[t, t] ty #[v, .slice (some a) 1 c]).run P w = .ok v' w' ∧ Row w' base e z v' (xs ++ [x]) ∧ w.grownBy w' v.ownBlock := by
  have hnews : ∀ j u, [x][j]? = some u → w.cell? (a.add j) = some u := by
    intro j u hu
    cases j with
    | zero => simp at hu; subst hu; exact hx
    | succ j => simp at hu
  have hsmall : xs.length + 1 ≤ 9223372036854775807 := by simp only [maxLen] at h63; omega
  rcases hrow with ⟨rfl, rfl⟩ | ⟨g, r, rfl, hbg, hbk, hcm⟩
  · have hr := run_append_nil (P := P) w t ty e i z ht hi hz a 1 c [x] (by simp [hsize]) hnews (by omega) (by omega) (by rw [hby]; simp at hbytes; omega)
    have hge := grownCap_ge w 1 0 e
    have hle := grownCap_le_maxLen w 1 0 e (by simpa using h63)
    refine ⟨_, _, hr, .inr ⟨w.heap.size, grownCap w 1 0 e - 1, ?_, hbase, ?_, ?_⟩, ⟨rfl, rfl, rfl, by simp, fun k hk _ => ((Ext.refl w).drew.alloc _).heap hk⟩⟩
    · simp; omega
    · rw [zeroCells_one z hzs]
      have h := Bk.new w.drew e ([x] ++ List.replicate (grownCap w 1 0 e - 1) z)
      rw [← List.append_toArray] at h; exact h
    · simp; omega
  · by_cases hroom : xs.length + 1 ≤ xs.length + r
    · obtain ⟨r', rfl⟩ : ∃ r', r = r' + 1 := ⟨r - 1, by omega⟩
      have hr := run_append_room (P := P) w t ty e i ht hi g xs.length (xs.length + (r' + 1)) (xs ++ List.replicate (r' + 1) z).toArray hbk a 1 c [x] (by simp [hsize]) hnews (by simpa using h1) hroom (by simp [hsize])
      refine ⟨_, _, hr, .inr ⟨g, r', ?_, hbg, ?_, ?_⟩, ⟨rfl, rfl, rfl, by simp [World.setRow], fun k _ hk => setRow_other w g k _ (fun e => hk (by simp [Value.ownBlock, e]))⟩⟩
      · simp; omega
      · have h := setRow_heap w g _ ((xs ++ List.replicate (r' + 1) z).toArray.toList.take (xs.length * i.size) ++ [x] ++ (xs ++ List.replicate (r' + 1) z).toArray.toList.drop (xs.length * i.size + [x].length)).toArray e _ hbk
        unfold Bk
        refine h.trans ?_
        congr 3
        rw [hsize]
        simp [List.drop_append, List.replicate_succ]
      · simp; omega
    · have hr0 : r = 0 := by omega
      subst hr0
      have hcells : ∀ j u, xs[j]? = some u → w.cell? ((⟨g, 0, none⟩ : Addr).add j) = some u := by
        intro j u hu
        have hj : j < xs.length := (List.getElem?_eq_some_iff.1 hu).1
        rw [show (⟨g, 0, none⟩ : Addr).add j = ⟨g, j, none⟩ by simp only [Addr.add, Nat.zero_add]; split <;> simp_all]
        rw [hbk.cell (i := j) (by simp; omega)]
        simp [List.getElem?_eq_getElem hj] at hu ⊢; exact hu
      have hr := run_append_grow (P := P) w t ty e i z ht hi hz ⟨g, 0, none⟩ xs.length (xs.length + 0) xs (by simp [hsize]) hcells a 1 c [x] (by simp [hsize]) hnews (by omega) (by omega) (growslice_fits (by omega) (by rw [hby]; exact hbytes))
      have hge := grownCap_ge w (xs.length + 1) (xs.length + 0) e
      have hle := grownCap_le_maxLen w (xs.length + 1) (xs.length + 0) e h63
      refine ⟨_, _, hr, .inr ⟨w.heap.size, grownCap w (xs.length + 1) (xs.length + 0) e - (xs.length + 1), ?_, hbase, ?_, ?_⟩, ⟨rfl, rfl, rfl, by simp, fun k hk _ => ((Ext.refl w).drew.alloc _).heap hk⟩⟩
      · simp only [Nat.add_zero] at hge hle ⊢; simp; omega
      · rw [zeroCells_one z hzs]
        have h := Bk.new w.drew e (xs ++ [x] ++ List.replicate (grownCap w (xs.length + 1) (xs.length + 0) e - (xs.length + 1)) z)
        rw [← List.append_toArray, ← List.append_toArray] at h; exact h
      · simp only [Nat.add_zero] at hge hle ⊢; simp; omega

theorem wpList_append_row {P : Program} {w : World} {ops : Array Oper} {rest : List Oper} {o : Oper} {a : Act} {Q : Exit → Act → World → Prop} (hgd : o.guard = none) (s y : Operand) (t : TypeId)
    (ho : o.op = .call { callee := .builtin .append, args := #[s, y], argTypes := #[t, t] })
    (base : Nat) (e : TypeId) (i : TypeInfo) (z : Value) (bytes : Nat) (ht : P.underlying t = some (.slice e)) (hi : P.info? e = some i) (hz : i.zero = some z) (hsize : i.size = 1) (hby : i.bytes = bytes) (hzs : z.cells = #[z])
    (v : Value) (xs : List Value) (hs : a.eval s = v) (hrow : Row w base e z v xs) (ad : Addr) (c : Nat) (x : Value) (hx : a.eval y = .slice (some ad) 1 c) (hc : w.cell? (ad.add 0) = some x) (h1 : x.oneCell' = true)
    (h63 : xs.length + 1 ≤ maxLen) (hbytes : (xs.length + 1) * bytes ≤ 140737488355328) (hbase : base ≤ w.heap.size)
    (h : ∀ v' w', Row w' base e z v' (xs ++ [x]) → w.grownBy w' v.ownBlock → wpList P ops Q rest (a.put o.dst v') w') : wpList P ops Q (o :: rest) a w :=
  wpList_plain hgd fun K hK => by
    obtain ⟨v', w', hr, h2, h3⟩ := run_append_row (P := P) w base t o.type e i z bytes ht hi hz hsize hby hzs v xs hrow ad c x hc h1 h63 hbytes hbase
    unfold Oper.wp execOp
    simp only [ho, resolve, invoke, builtin, Sem.run_bind, Sem.run_pure, Result.andThen_ok, List.map_toArray, List.map_cons, List.map_nil, hs, hx, hr]
    exact hK _ _ (h v' w' h2 h3)
end Go.Proofs.Ytjpkaljndfgkjaa
