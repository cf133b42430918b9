/- Contracts: the reference's has, put and Distinct; ordinallaw46.ints. -/
import Derived.Test.YtamkbboijblooaaDistB
namespace Go.Proofs.Ytamkbboijblooaa
open Go.RowKit

/-- Ints in a slice that is nil or begins its block. -/
def In0 (w : World) (v : Value) (l : List Nat) : Prop := (v = .slice none 0 0 ∧ l = []) ∨ ∃ g c, v = .slice (some ⟨g, 0, none⟩) l.length c ∧ (l.length ≤ c ∧ c ≤ maxLen) ∧ ∀ i, i < l.length → w.cell? ⟨g, i, none⟩ = some (.int .i64 ((l.getD i 0 : Nat) : Int))
theorem In0.ext {w w' : World} {v : Value} {l : List Nat} (h : In0 w v l) (he : Ext w w') : In0 w' v l := by
  rcases h with h | ⟨g, c, h1, h2, h3⟩
  · exact .inl h
  · exact .inr ⟨g, c, h1, h2, fun i hi => he.cell (h3 i hi)⟩
theorem In0.of_own {w : World} {base n : Nat} {v : Value} {l : List Nat} (h : w.ownsRow base 3 1 v n (l.map I64)) : In0 w v l := by
  have hs := Sl.of_own h
  obtain ⟨h1, h2⟩ := h
  rw [List.length_map, Nat.mul_one] at h1
  subst h1
  rcases h2 with ⟨rfl, h0⟩ | ⟨g, cap, cur, rfl, h4, h5, h6, h7, h8, h9⟩
  · exact .inl ⟨rfl, List.eq_nil_of_length_eq_zero h0⟩
  · refine .inr ⟨g, cap, rfl, ⟨h6, h7⟩, fun i hi => ?_⟩
    have := Sl.cells hs i (I64 l[i]) (by simp [hi])
    rw [add0] at this
    rw [this]; simp [List.getD, hi]
theorem In0.sl {w : World} {v : Value} {l : List Nat} (h : In0 w v l) : Sl w v (l.map I64) := by
  rcases h with ⟨rfl, rfl⟩ | ⟨g, c, rfl, h2, h3⟩
  · exact ⟨none, 0, rfl, Nat.le_refl _, fun h => by simp at h⟩
  · refine ⟨some ⟨g, 0, none⟩, c, by simp, by simpa using h2.1, fun _ => ⟨_, rfl, fun i hi => ?_⟩⟩
    have hi' : i < l.length := by simpa using hi
    rw [add0, h3 i hi']; simp [List.getD, hi']
theorem In0.form {w : World} {v : Value} {l : List Nat} (h : In0 w v l) : ∃ A c, v = .slice A l.length c ∧ (l.length = 0 ∨ ∃ g, A = some ⟨g, 0, none⟩) := by
  rcases h with ⟨rfl, rfl⟩ | ⟨g, c, rfl, _, _⟩
  · exact ⟨_, _, rfl, .inl rfl⟩
  · exact ⟨_, _, rfl, .inr ⟨g, rfl⟩⟩

set_option maxHeartbeats 400000 in
theorem refHas {w : World} {v : Value} {l : List Nat} {x : Nat} (h : In0 w v l) (hl : l.length ≤ 1000) :
    Calls Try.prog 67 #[v, .int .i64 (x : Int)] w fun e w' => e = .returned (.bool (decide (x ∈ l))) ∧ w = w' := by
  obtain ⟨A, c, rfl, _⟩ := h.form
  have HC : Hid (∀ i, i < l.length → ∃ ad, A = some ad ∧ w.cell? (ad.add i) = some (.int .i64 ((l.getD i 0 : Nat) : Int))) := Lib.hid (fun i hi => by
    rcases h with ⟨_, e⟩ | ⟨g, c', e, h2, h3⟩
    · subst e; simp at hi
    · injection e with e1 e2 e3
      exact ⟨_, e1, by rw [add0]; exact h3 i hi⟩)
  obtain ⟨n, hn⟩ : ∃ n, n = l.length := ⟨_, rfl⟩
  rw [← hn] at HC hl ⊢
  have HN := Lib.hid hn
  clear h hn
  go_enter Try.func67, Try.ntmps67
  go_wp2_with fail
  go_loop [5] (fun t => ∃ i : Nat, i ≤ n ∧ t = .int .i64 i ∧ Hid (∀ j, j < i → l.getD j 0 ≠ x)) (fun t => n - (intOf t).toNat)
  case atStart => exact ⟨0, Nat.zero_le _, rfl, Lib.hid (fun j hj => by omega)⟩
  case round =>
    obtain ⟨i, hi, rfl, HJ⟩ := hrel
    by_cases hlt : i < n
    · obtain ⟨ad, rfl, hc⟩ := HC.out i hlt
      obtain ⟨y, hy⟩ : ∃ y, y = l.getD i 0 := ⟨_, rfl⟩
      rw [← hy] at hc
      have HY := Lib.hid hy
      clear hy
      have i1 : (0 : Int) ≤ (i : Int) := by omega
      have i2 : (i : Int) < (n : Int) := by omega
      by_cases he : y = x
      · have hb : ((y : Int) == (x : Int)) = true := by simp; omega
        have hb2 : (y == x) = true := by simpa using he
        have HE := Lib.hid he
        clear he
        go_wp2_with fail
        go_ret
        have hmem : x ∈ l := by
          rw [← HE.out, HY.out]
          have : i < l.length := by have := HN.out; omega
          simp only [List.getD, List.getElem?_eq_getElem this, Option.getD_some]
          exact List.getElem_mem this
        rw [decide_eq_true hmem]
        exact ⟨rfl, rfl⟩
      · have hb : ((y : Int) == (x : Int)) = false := by simp; omega
        have hb2 : (y == x) = false := by simpa using he
        have HE := Lib.hid he
        clear he
        go_wp2_with fail
        go_round
        case rel =>
          refine ⟨i + 1, by omega, by go_num, Lib.hid (fun j hj => ?_)⟩
          rcases Nat.lt_or_ge j i with h | h
          · exact HJ.out j h
          · obtain rfl : j = i := by omega
            rw [← HY.out]; exact HE.out
        case measure => simp [intOf]; omega
    · obtain rfl : i = n := by omega
      go_wp2_with fail
      go_ret
      have hmem : x ∉ l := by
        intro hm
        obtain ⟨j, hj, e⟩ := List.getElem_of_mem hm
        exact HJ.out j (by have := HN.out; omega) (by simp [List.getD, hj, e])
      rw [decide_eq_false hmem]
      exact ⟨rfl, rfl⟩

theorem wpList_append_sl {P : Program} {w : World} {ops : Array Oper} {rest : List Oper} {o : Oper} {a : Act} {Q : Exit → Act → World → Prop} (hgd : o.guard = none) (s y : Operand) (t : TypeId)
    (ho : o.op = .call { callee := .builtin .append, args := #[s, y], argTypes := #[t, t] })
    (base : Nat) (e : TypeId) (i : TypeInfo) (z : Value) (bytes : Nat) (ht : P.underlying t = some (.slice e)) (hi : P.info? e = some i) (hz : i.zero = some z) (hsize : i.size = 1) (hby : i.bytes = bytes) (hzs : z.cells.size = 1)
    (v : Value) (n : Nat) (xs : List Value) (hs : a.eval s = v) (hown : w.ownsRow base e 1 v n xs) (x : Value) (news : List Value) (hx : a.eval y = x) (hsl : Sl w x news) (h1 : ∀ u ∈ news, u.oneCell' = true)
    (h63 : n + news.length ≤ maxLen) (hbytes : (n + news.length) * bytes ≤ 140737488355328) (hbase : base ≤ w.heap.size)
    (h : ∀ v' w', w'.ownsRow base e 1 v' (n + news.length) (xs ++ news) → w.grownBy w' v.ownBlock → wpList P ops Q rest (a.put o.dst v') w') : wpList P ops Q (o :: rest) a w :=
  wpList_plain hgd fun K hK => by
    obtain ⟨v', w', hr, h2, h3⟩ := run_append_sl (P := P) w base t o.type e i z bytes ht hi hz hsize hby hzs v n xs hown x news hsl h1 h63 hbytes hbase
    unfold Oper.wp execOp
    simp only [ho, resolve, invoke, builtin, Sem.run_bind, Sem.run_pure, Result.andThen_ok, List.map_toArray, List.map_cons, List.map_nil, hs, hx, hr]
    exact hK _ _ (h v' w' h2 h3)

/-- ints, of numbers that are small. -/
theorem ints_any {w : World} {A : Option Addr} {c : Nat} {l : List Nat} (h : Ns w A l.length (fun i => l.getD i 0)) (hl : l.length ≤ 1000) (hb : ∀ y ∈ l, y < 1000) :
    Calls Try.prog 47 #[.slice A l.length c] w (Ret (fun x w' => In0 w' x l) w) := by
  obtain ⟨n, hn⟩ : ∃ n, n = l.length := ⟨_, rfl⟩
  rw [← hn] at h hl ⊢
  have HN := Lib.hid hn; have HNS := Lib.hid h; have HB := Lib.hid hb
  clear hn h hb
  obtain ⟨i0, hi0, hz0, hz1, hz2⟩ := info_parts info_int
  have HI := Lib.hid (And.intro hi0 (And.intro hz0 (And.intro hz1 hz2))); clear hi0 hz0 hz1 hz2
  go_enter Try.func47, Try.ntmps47
  go_wp2_with fail
  go_loopw [3, 10] (fun t q wr => ∃ k : Nat, k ≤ n ∧ q = .int .i64 k ∧ wr.ownsRow w.heap.size 3 1 t k ((l.take k).map I64) ∧ Ext w wr) (fun _ q _ => n - (intOf q).toNat)
  case atStart => exact ⟨0, Nat.zero_le _, rfl, World.ownsRow_nil _ _ _ _, Ext.refl _⟩
  case round =>
    obtain ⟨k, hk, rfl, hown, hext⟩ := hrel
    by_cases hlt : k < n
    · obtain ⟨ad, B, a, d, rfl, hc, hz⟩ := HNS.out k hlt
      replace hc := hext.cell hc
      replace hz : Nz wr _ (l.getD k 0) := hz.ext hext
      have hkl : k < l.length := by have := HN.out; omega
      have hy : l.getD k 0 < 1000 := by simp only [List.getD, List.getElem?_eq_getElem hkl, Option.getD_some]; exact HB.out _ (List.getElem_mem hkl)
      have htk : (l.take (k + 1)).map I64 = (l.take k).map I64 ++ [I64 (l.getD k 0)] := by
        have e : l.getD k 0 = l[k] := by simp [List.getD, hkl]
        rw [e, List.take_succ_eq_append_getElem hkl, List.map_append]; rfl
      have HTK := Lib.hid htk
      generalize l.getD k 0 = y at *
      clear htk
      have i1 : (0 : Int) ≤ (k : Int) := by omega
      have i2 : (k : Int) < (n : Int) := by omega
      go_wp2_with fail
      refine (uint64_nv hz.nv (by omega)).mono ?_
      rintro e w1 ⟨rfl, rfl⟩
      clear hc hz
      have hy2 : (y : Int) ≤ 1000 := by omega
      have hcv : IntKind.i64.wrap (y : Int) = (y : Int) := IntWalk.i64_in _ (by omega)
      go_wp2_with (first | (at_builtin; refine wpList_append_own _ rfl _ _ 38 rfl w.heap.size 3 i0 (.int .i64 0) 1 8 Try.underlying38 HI.out.1 HI.out.2.1 HI.out.2.2.1 HI.out.2.2.2 rfl (by decide) _ _ _ rfl (hown.alloc _) ⟨wr.heap.size, 0, none⟩ 1 1 [.int .i64 (y : Int)] rfl rfl ?c1 ?c2 ?c3 ?c4 ?c5 ?_))
      case c1 => exact one_new wr _ _
      case c2 => simp [Value.oneCell']
      case c3 => simp only [maxLen]; omega
      case c4 => omega
      case c5 => exact Nat.le_trans hext.size (by simp)
      intro v' w' hown' hgr _
      have he' : Ext w w' := (hext.alloc _).grown hgr (fun g hg => (hown.lt g hg).1)
      have hown2 : w'.ownsRow w.heap.size 3 1 v' (k + 1) ((l.take (k + 1)).map I64) := by rw [HTK.out, List.map_take]; exact hown'
      clear hown hown' hgr hext
      go_wp2_with fail
      go_roundw
      case rel => exact ⟨k + 1, by omega, by go_num, hown2, he'⟩
      case measure => simp [intOf]; omega
    · obtain rfl : k = n := by omega
      rw [List.take_of_length_le (by have := HN.out; omega)] at hown
      have HO := Lib.hid hown
      clear hown
      go_wp2_with fail
      go_ret
      exact Ret.mk hext (In0.of_own HO.out)

theorem sl_take {w : World} {g c i : Nat} {l : List Nat} (hc : l.length ≤ c) (h : ∀ i, i < l.length → w.cell? ⟨g, i, none⟩ = some (.int .i64 ((l.getD i 0 : Nat) : Int))) (hi : i ≤ l.length) : Sl w (.slice (some ⟨g, 0, none⟩) i c) ((l.take i).map I64) := by
  have hl : ((l.take i).map I64).length = i := by simp; omega
  refine ⟨some ⟨g, 0, none⟩, c, by rw [hl], by omega, fun _ => ⟨_, rfl, fun j hj => ?_⟩⟩
  rw [hl] at hj
  rw [add0, h j (by omega)]; simp [List.getD, show j < l.length by omega]
theorem sl_drop {w : World} {g c i : Nat} {l : List Nat} (_hc : l.length ≤ c) (h : ∀ i, i < l.length → w.cell? ⟨g, i, none⟩ = some (.int .i64 ((l.getD i 0 : Nat) : Int))) (hi : i ≤ l.length) (d : Nat) (hd : l.length - i ≤ d) : Sl w (.slice (some ⟨g, i, none⟩) (l.length - i) d) ((l.drop i).map I64) := by
  have hl : ((l.drop i).map I64).length = l.length - i := by simp
  refine ⟨some ⟨g, i, none⟩, d, by rw [hl], by omega, fun _ => ⟨_, rfl, fun j hj => ?_⟩⟩
  rw [hl] at hj
  rw [show (⟨g, i, none⟩ : Addr).add j = ⟨g, i + j, none⟩ by simp only [Addr.add]; split <;> simp_all, h (i + j) (by omega)]
  simp [List.getD, show i + j < l.length by omega]

theorem sl_nil0 (w : World) : Sl w (.slice none 0 0) (([] : List Nat).map I64) := ⟨none, 0, rfl, Nat.le_refl _, fun h => by simp at h⟩
theorem own_cast {w : World} {base n n' : Nat} {e : TypeId} {v : Value} {xs xs' : List Value} (h : w.ownsRow base e 1 v n xs) (hn : n = n') (hx : xs = xs') : w.ownsRow base e 1 v n' xs' := by subst hn; subst hx; exact h

set_option maxRecDepth 20000 in
set_option maxHeartbeats 3200000 in
theorem refPut {w : World} {v : Value} {l : List Nat} {x : Nat} (h : In0 w v l) (hl : l.length ≤ 1000) (HASC : Hid (∀ j k, j < k → k < l.length → l.getD j 0 < l.getD k 0)) :
    Calls Try.prog 68 #[v, .int .i64 (x : Int)] w (Ret (fun r w' => In0 w' r (putL l x)) w) := by
  obtain ⟨i0, hi0, hz0, hz1, hz2⟩ := info_parts info_int
  have HI := Lib.hid (And.intro hi0 (And.intro hz0 (And.intro hz1 hz2))); clear hi0 hz0 hz1 hz2
  rcases h with ⟨rfl, rfl⟩ | ⟨g, c, rfl, ⟨hc, hcm⟩, hcells⟩
  · go_enter Try.func68, Try.ntmps68
    go_wp2_with fail
    go_loopw [5] (fun t wr => t = .int .i64 0 ∧ w = wr) (fun _ _ => 0)
    case atStart => exact ⟨rfl, rfl⟩
    case round =>
      obtain ⟨rfl, rfl⟩ := hrel
      have HSL1 := Lib.hid (sl_nil0 w); have HSL2 := Lib.hid (sl_nil0 w)
      have HLEN : Hid ((([] : List Nat)).length ≤ 1000 ∧ (([] : List Nat)).length ≤ 1000) := Lib.hid (by constructor <;> (simp at hl ⊢; try omega))
      go_wp2_with (first | (at_builtin; refine wpList_append_sl rfl _ _ 38 rfl w.heap.size 3 i0 (.int .i64 0) 8 Try.underlying38 HI.out.1 HI.out.2.1 HI.out.2.2.1 HI.out.2.2.2 rfl _ 0 [] rfl (World.ownsRow_nil _ _ _ _) _ ((([] : List Nat)).map I64) rfl HSL1.out (oneCell_i64 _) ?c3 ?c4 ?c5 ?_))
      case c3 => have := HLEN.out; simp only [maxLen, List.length_map]; omega
      case c4 => have := HLEN.out; simp only [List.length_map]; omega
      case c5 => exact Nat.le_refl _
      intro v1 w1 hown1 hgr1
      have he1 : Ext w w1 := (Ext.refl w).grown hgr1 (by intro k hk; simp [Value.ownBlock] at hk)
      replace hown1 := own_cast (n' := (([] : List Nat)).length) (xs' := (([] : List Nat)).map I64) hown1 (by simp) (by simp)
      have hal : Ext w1 (w1.alloc (.cells #[.int .i64 (x : Int)] 3)) := (Ext.refl w1).alloc _
      have hown1' := hown1.alloc (.cells #[.int .i64 (x : Int)] 3)
      have HO1 := Lib.hid hown1'; have HE1 := Lib.hid (he1.trans hal)
      clear hown1 hgr1 he1 hal hown1'
      go_wp2_with (first | (at_builtin; refine wpList_append_sl rfl _ _ 38 rfl w.heap.size 3 i0 (.int .i64 0) 8 Try.underlying38 HI.out.1 HI.out.2.1 HI.out.2.2.1 HI.out.2.2.2 rfl _ _ _ rfl HO1.out _ ([x].map I64) rfl ?c2 (oneCell_i64 _) ?c3 ?c4 ?c5 ?_))
      case c2 => exact ⟨some ⟨w1.heap.size, 0, none⟩, 1, rfl, Nat.le_refl _, fun _ => ⟨_, rfl, fun j hj => by
        obtain rfl : j = 0 := by simpa using hj
        exact one_new w1 _ _ 0 _ rfl⟩⟩
      case c3 => have := HLEN.out; simp only [maxLen, List.length_map, List.length_singleton]; omega
      case c4 => have := HLEN.out; simp only [List.length_map, List.length_singleton]; omega
      case c5 => exact HE1.out.size
      intro v2 w2 hown2 hgr2
      have he2 : Ext w w2 := HE1.out.grown hgr2 (fun k hk => (HO1.out.lt k hk).1)
      replace hown2 := own_cast (n' := (([] : List Nat)).length + 1) (xs' := (([] : List Nat) ++ [x]).map I64) hown2 (by simp) (by simp)
      have HO2 := Lib.hid hown2; have HE2 := Lib.hid he2
      clear hown2 hgr2 he2
      go_wp2_with (first | (at_builtin; refine wpList_append_sl rfl _ _ 38 rfl w.heap.size 3 i0 (.int .i64 0) 8 Try.underlying38 HI.out.1 HI.out.2.1 HI.out.2.2.1 HI.out.2.2.2 rfl _ _ _ rfl HO2.out _ ((([] : List Nat)).map I64) rfl (HSL2.out.ext HE2.out) (oneCell_i64 _) ?c3 ?c4 ?c5 ?_))
      case c3 => have := HLEN.out; simp only [maxLen, List.length_map]; omega
      case c4 => have := HLEN.out; simp only [List.length_map]; omega
      case c5 => exact HE2.out.size
      intro v3 w3 hown3 hgr3
      have he3 : Ext w w3 := HE2.out.grown hgr3 (fun k hk => (HO2.out.lt k hk).1)
      replace hown3 := own_cast (n' := (([] : List Nat)).length + 1 + (([] : List Nat)).length) (xs' := (([] : List Nat) ++ [x] ++ ([] : List Nat)).map I64) hown3 (by simp) (by simp)
      have HO3 := Lib.hid hown3; have HE3 := Lib.hid he3
      clear hown3 hgr3 he3
      go_wp2_with fail
      go_ret
      refine Ret.mk HE3.out ?_
      have hin := In0.of_own HO3.out
      exact hin
  · obtain ⟨n, hn⟩ : ∃ n, n = l.length := ⟨_, rfl⟩
    have HN := Lib.hid hn; have HC := Lib.hid hcells
    rw [← hn] at hc HASC ⊢
    have hn1000 : n ≤ 1000 := by omega
    clear hn hcells
    go_enter Try.func68, Try.ntmps68
    go_wp2_with fail
    go_loopw [5] (fun t wr => ∃ i : Nat, i ≤ n ∧ t = .int .i64 i ∧ Hid (∀ j, j < i → l.getD j 0 < x) ∧ w = wr) (fun t _ => n - (intOf t).toNat)
    case atStart => exact ⟨0, Nat.zero_le _, rfl, Lib.hid (fun j hj => by omega), rfl⟩
    case round =>
      obtain ⟨i, hi, rfl, HJ, rfl⟩ := hrel
      have hfin : (i < n → ¬ l.getD i 0 < x) → (∀ j k, j < k → k < n → l.getD j 0 < l.getD k 0) → l.take i ++ [x] ++ l.drop i = putL l x := by
        intro hge hasc
        have hf : Found l.length x (fun i => l.getD i 0) i := ⟨by have := HN.out; omega, HJ.out, fun k hk hkl => by
          have hn := HN.out
          rcases Nat.lt_or_ge i k with h | h
          · have h1 := hasc i k h (by omega); have h2 := hge (by omega); simp only; omega
          · obtain rfl : i = k := by omega
            have h2 := hge (by omega); simp only; omega⟩
        exact (found_put hf).symm
      have HFIN := Lib.hid hfin
      clear hfin
      by_cases hlt : i < n
      · have hcell := HC.out i (by have := HN.out; omega)
        obtain ⟨y, hy⟩ : ∃ y, y = l.getD i 0 := ⟨_, rfl⟩
        rw [← hy] at hcell
        have HY := Lib.hid hy
        clear hy
        have i1 : (0 : Int) ≤ (i : Int) := by omega
        have i2 : (i : Int) < (n : Int) := by omega
        have hd1 : decide (i < n) = true := by simpa using hlt
        by_cases hyx : y < x
        · have hd2 : decide (y < x) = true := by simpa using hyx
          go_wp2_with fail
          go_roundw
          case rel =>
            refine ⟨i + 1, by omega, by go_num, Lib.hid (fun j hj => ?_), trivial⟩
            rcases Nat.lt_or_ge j i with h | h
            · exact HJ.out j h
            · obtain rfl : j = i := by omega
              rw [← HY.out]; exact hyx
          case measure => simp [intOf]; omega
        · have hd2 : decide (y < x) = false := by simpa using hyx
          have hci : ¬ (c = i) := by omega
          have hic : (i : Int) ≤ (c : Int) := by omega
          have hin' : (i : Int) ≤ (n : Int) := by omega
          have hc63 : c ≤ 9223372036854775807 := by simp only [maxLen] at hcm; omega
          have HSL1 := Lib.hid (sl_take (w := w) (g := g) (c := c) (i := i) (by have := HN.out; omega) HC.out (by have := HN.out; omega)); have HSL2 := Lib.hid ((by have h := sl_drop (w := w) (g := g) (c := c) (i := i) (by have := HN.out; omega) HC.out (by have := HN.out; omega) (c - i) (by have := HN.out; omega); rw [← HN.out] at h; exact h : Sl w (.slice (some ⟨g, i, none⟩) (n - i) (c - i)) ((l.drop i).map I64)))
          have HLEN : Hid ((l.take i).length ≤ 1000 ∧ (l.drop i).length ≤ 1000) := Lib.hid (by constructor <;> (simp at hl ⊢; try omega))
          go_wp2_with (first | (at_builtin; refine wpList_append_sl rfl _ _ 38 rfl w.heap.size 3 i0 (.int .i64 0) 8 Try.underlying38 HI.out.1 HI.out.2.1 HI.out.2.2.1 HI.out.2.2.2 rfl _ 0 [] rfl (World.ownsRow_nil _ _ _ _) _ ((l.take i).map I64) rfl HSL1.out (oneCell_i64 _) ?c3 ?c4 ?c5 ?_))
          case c3 => have := HLEN.out; simp only [maxLen, List.length_map]; omega
          case c4 => have := HLEN.out; simp only [List.length_map]; omega
          case c5 => exact Nat.le_refl _
          intro v1 w1 hown1 hgr1
          have he1 : Ext w w1 := (Ext.refl w).grown hgr1 (by intro k hk; simp [Value.ownBlock] at hk)
          replace hown1 := own_cast (n' := (l.take i).length) (xs' := (l.take i).map I64) hown1 (by simp) (by simp)
          have hal : Ext w1 (w1.alloc (.cells #[.int .i64 (x : Int)] 3)) := (Ext.refl w1).alloc _
          have hown1' := hown1.alloc (.cells #[.int .i64 (x : Int)] 3)
          have HO1 := Lib.hid hown1'; have HE1 := Lib.hid (he1.trans hal)
          clear hown1 hgr1 he1 hal hown1'
          go_wp2_with (first | (at_builtin; refine wpList_append_sl rfl _ _ 38 rfl w.heap.size 3 i0 (.int .i64 0) 8 Try.underlying38 HI.out.1 HI.out.2.1 HI.out.2.2.1 HI.out.2.2.2 rfl _ _ _ rfl HO1.out _ ([x].map I64) rfl ?c2 (oneCell_i64 _) ?c3 ?c4 ?c5 ?_))
          case c2 => exact ⟨some ⟨w1.heap.size, 0, none⟩, 1, rfl, Nat.le_refl _, fun _ => ⟨_, rfl, fun j hj => by
            obtain rfl : j = 0 := by simpa using hj
            exact one_new w1 _ _ 0 _ rfl⟩⟩
          case c3 => have := HLEN.out; simp only [maxLen, List.length_map, List.length_singleton]; omega
          case c4 => have := HLEN.out; simp only [List.length_map, List.length_singleton]; omega
          case c5 => exact HE1.out.size
          intro v2 w2 hown2 hgr2
          have he2 : Ext w w2 := HE1.out.grown hgr2 (fun k hk => (HO1.out.lt k hk).1)
          replace hown2 := own_cast (n' := (l.take i).length + 1) (xs' := (l.take i ++ [x]).map I64) hown2 (by simp) (by simp)
          have HO2 := Lib.hid hown2; have HE2 := Lib.hid he2
          clear hown2 hgr2 he2
          go_wp2_with (first | (at_builtin; refine wpList_append_sl rfl _ _ 38 rfl w.heap.size 3 i0 (.int .i64 0) 8 Try.underlying38 HI.out.1 HI.out.2.1 HI.out.2.2.1 HI.out.2.2.2 rfl _ _ _ rfl HO2.out _ ((l.drop i).map I64) rfl (HSL2.out.ext HE2.out) (oneCell_i64 _) ?c3 ?c4 ?c5 ?_))
          case c3 => have := HLEN.out; simp only [maxLen, List.length_map]; omega
          case c4 => have := HLEN.out; simp only [List.length_map]; omega
          case c5 => exact HE2.out.size
          intro v3 w3 hown3 hgr3
          have he3 : Ext w w3 := HE2.out.grown hgr3 (fun k hk => (HO2.out.lt k hk).1)
          replace hown3 := own_cast (n' := (l.take i).length + 1 + (l.drop i).length) (xs' := (l.take i ++ [x] ++ l.drop i).map I64) hown3 (by simp) (by simp)
          have HO3 := Lib.hid hown3; have HE3 := Lib.hid he3
          clear hown3 hgr3 he3
          go_wp2_with fail
          go_ret
          refine Ret.mk HE3.out ?_
          have hin := In0.of_own HO3.out
          rw [HFIN.out (fun _ => by rw [← HY.out]; exact hyx) HASC.out] at hin
          exact hin
      · obtain rfl : i = n := by omega
        have hd1 : decide (i < i) = false := by simp
        have hic : (i : Int) ≤ (c : Int) := by omega
        by_cases hci : c = i
        · subst hci
          have HSL1 := Lib.hid (sl_take (w := w) (g := g) (c := c) (i := c) (by have := HN.out; omega) HC.out (by have := HN.out; omega)); have HSL2 := Lib.hid ((by rw [List.drop_eq_nil_of_le (by have := HN.out; omega)]; exact ⟨some ⟨g, 0, none⟩, 0, rfl, Nat.le_refl _, fun h => by simp at h⟩ : Sl w (.slice (some ⟨g, 0, none⟩) 0 0) ((l.drop c).map I64)))
          have HLEN : Hid ((l.take c).length ≤ 1000 ∧ (l.drop c).length ≤ 1000) := Lib.hid (by constructor <;> (simp at hl ⊢; try omega))
          go_wp2_with (first | (at_builtin; refine wpList_append_sl rfl _ _ 38 rfl w.heap.size 3 i0 (.int .i64 0) 8 Try.underlying38 HI.out.1 HI.out.2.1 HI.out.2.2.1 HI.out.2.2.2 rfl _ 0 [] rfl (World.ownsRow_nil _ _ _ _) _ ((l.take c).map I64) rfl HSL1.out (oneCell_i64 _) ?c3 ?c4 ?c5 ?_))
          case c3 => have := HLEN.out; simp only [maxLen, List.length_map]; omega
          case c4 => have := HLEN.out; simp only [List.length_map]; omega
          case c5 => exact Nat.le_refl _
          intro v1 w1 hown1 hgr1
          have he1 : Ext w w1 := (Ext.refl w).grown hgr1 (by intro k hk; simp [Value.ownBlock] at hk)
          replace hown1 := own_cast (n' := (l.take c).length) (xs' := (l.take c).map I64) hown1 (by simp) (by simp)
          have hal : Ext w1 (w1.alloc (.cells #[.int .i64 (x : Int)] 3)) := (Ext.refl w1).alloc _
          have hown1' := hown1.alloc (.cells #[.int .i64 (x : Int)] 3)
          have HO1 := Lib.hid hown1'; have HE1 := Lib.hid (he1.trans hal)
          clear hown1 hgr1 he1 hal hown1'
          go_wp2_with (first | (at_builtin; refine wpList_append_sl rfl _ _ 38 rfl w.heap.size 3 i0 (.int .i64 0) 8 Try.underlying38 HI.out.1 HI.out.2.1 HI.out.2.2.1 HI.out.2.2.2 rfl _ _ _ rfl HO1.out _ ([x].map I64) rfl ?c2 (oneCell_i64 _) ?c3 ?c4 ?c5 ?_))
          case c2 => exact ⟨some ⟨w1.heap.size, 0, none⟩, 1, rfl, Nat.le_refl _, fun _ => ⟨_, rfl, fun j hj => by
            obtain rfl : j = 0 := by simpa using hj
            exact one_new w1 _ _ 0 _ rfl⟩⟩
          case c3 => have := HLEN.out; simp only [maxLen, List.length_map, List.length_singleton]; omega
          case c4 => have := HLEN.out; simp only [List.length_map, List.length_singleton]; omega
          case c5 => exact HE1.out.size
          intro v2 w2 hown2 hgr2
          have he2 : Ext w w2 := HE1.out.grown hgr2 (fun k hk => (HO1.out.lt k hk).1)
          replace hown2 := own_cast (n' := (l.take c).length + 1) (xs' := (l.take c ++ [x]).map I64) hown2 (by simp) (by simp)
          have HO2 := Lib.hid hown2; have HE2 := Lib.hid he2
          clear hown2 hgr2 he2
          go_wp2_with (first | (at_builtin; refine wpList_append_sl rfl _ _ 38 rfl w.heap.size 3 i0 (.int .i64 0) 8 Try.underlying38 HI.out.1 HI.out.2.1 HI.out.2.2.1 HI.out.2.2.2 rfl _ _ _ rfl HO2.out _ ((l.drop c).map I64) rfl (HSL2.out.ext HE2.out) (oneCell_i64 _) ?c3 ?c4 ?c5 ?_))
          case c3 => have := HLEN.out; simp only [maxLen, List.length_map]; omega
          case c4 => have := HLEN.out; simp only [List.length_map]; omega
          case c5 => exact HE2.out.size
          intro v3 w3 hown3 hgr3
          have he3 : Ext w w3 := HE2.out.grown hgr3 (fun k hk => (HO2.out.lt k hk).1)
          replace hown3 := own_cast (n' := (l.take c).length + 1 + (l.drop c).length) (xs' := (l.take c ++ [x] ++ l.drop c).map I64) hown3 (by simp) (by simp)
          have HO3 := Lib.hid hown3; have HE3 := Lib.hid he3
          clear hown3 hgr3 he3
          go_wp2_with fail
          go_ret
          refine Ret.mk HE3.out ?_
          have hin := In0.of_own HO3.out
          rw [HFIN.out (fun h => absurd h (by omega)) HASC.out] at hin
          exact hin
        · have hc63 : c ≤ 9223372036854775807 := by simp only [maxLen] at hcm; omega
          have HSL1 := Lib.hid (sl_take (w := w) (g := g) (c := c) (i := i) (by have := HN.out; omega) HC.out (by have := HN.out; omega)); have HSL2 := Lib.hid ((by rw [List.drop_eq_nil_of_le (by have := HN.out; omega)]; exact ⟨some ⟨g, i, none⟩, c - i, rfl, Nat.zero_le _, fun h => by simp at h⟩ : Sl w (.slice (some ⟨g, i, none⟩) 0 (c - i)) ((l.drop i).map I64)))
          have HLEN : Hid ((l.take i).length ≤ 1000 ∧ (l.drop i).length ≤ 1000) := Lib.hid (by constructor <;> (simp at hl ⊢; try omega))
          go_wp2_with (first | (at_builtin; refine wpList_append_sl rfl _ _ 38 rfl w.heap.size 3 i0 (.int .i64 0) 8 Try.underlying38 HI.out.1 HI.out.2.1 HI.out.2.2.1 HI.out.2.2.2 rfl _ 0 [] rfl (World.ownsRow_nil _ _ _ _) _ ((l.take i).map I64) rfl HSL1.out (oneCell_i64 _) ?c3 ?c4 ?c5 ?_))
          case c3 => have := HLEN.out; simp only [maxLen, List.length_map]; omega
          case c4 => have := HLEN.out; simp only [List.length_map]; omega
          case c5 => exact Nat.le_refl _
          intro v1 w1 hown1 hgr1
          have he1 : Ext w w1 := (Ext.refl w).grown hgr1 (by intro k hk; simp [Value.ownBlock] at hk)
          replace hown1 := own_cast (n' := (l.take i).length) (xs' := (l.take i).map I64) hown1 (by simp) (by simp)
          have hal : Ext w1 (w1.alloc (.cells #[.int .i64 (x : Int)] 3)) := (Ext.refl w1).alloc _
          have hown1' := hown1.alloc (.cells #[.int .i64 (x : Int)] 3)
          have HO1 := Lib.hid hown1'; have HE1 := Lib.hid (he1.trans hal)
          clear hown1 hgr1 he1 hal hown1'
          go_wp2_with (first | (at_builtin; refine wpList_append_sl rfl _ _ 38 rfl w.heap.size 3 i0 (.int .i64 0) 8 Try.underlying38 HI.out.1 HI.out.2.1 HI.out.2.2.1 HI.out.2.2.2 rfl _ _ _ rfl HO1.out _ ([x].map I64) rfl ?c2 (oneCell_i64 _) ?c3 ?c4 ?c5 ?_))
          case c2 => exact ⟨some ⟨w1.heap.size, 0, none⟩, 1, rfl, Nat.le_refl _, fun _ => ⟨_, rfl, fun j hj => by
            obtain rfl : j = 0 := by simpa using hj
            exact one_new w1 _ _ 0 _ rfl⟩⟩
          case c3 => have := HLEN.out; simp only [maxLen, List.length_map, List.length_singleton]; omega
          case c4 => have := HLEN.out; simp only [List.length_map, List.length_singleton]; omega
          case c5 => exact HE1.out.size
          intro v2 w2 hown2 hgr2
          have he2 : Ext w w2 := HE1.out.grown hgr2 (fun k hk => (HO1.out.lt k hk).1)
          replace hown2 := own_cast (n' := (l.take i).length + 1) (xs' := (l.take i ++ [x]).map I64) hown2 (by simp) (by simp)
          have HO2 := Lib.hid hown2; have HE2 := Lib.hid he2
          clear hown2 hgr2 he2
          go_wp2_with (first | (at_builtin; refine wpList_append_sl rfl _ _ 38 rfl w.heap.size 3 i0 (.int .i64 0) 8 Try.underlying38 HI.out.1 HI.out.2.1 HI.out.2.2.1 HI.out.2.2.2 rfl _ _ _ rfl HO2.out _ ((l.drop i).map I64) rfl (HSL2.out.ext HE2.out) (oneCell_i64 _) ?c3 ?c4 ?c5 ?_))
          case c3 => have := HLEN.out; simp only [maxLen, List.length_map]; omega
          case c4 => have := HLEN.out; simp only [List.length_map]; omega
          case c5 => exact HE2.out.size
          intro v3 w3 hown3 hgr3
          have he3 : Ext w w3 := HE2.out.grown hgr3 (fun k hk => (HO2.out.lt k hk).1)
          replace hown3 := own_cast (n' := (l.take i).length + 1 + (l.drop i).length) (xs' := (l.take i ++ [x] ++ l.drop i).map I64) hown3 (by simp) (by simp)
          have HO3 := Lib.hid hown3; have HE3 := Lib.hid he3
          clear hown3 hgr3 he3
          go_wp2_with fail
          go_ret
          refine Ret.mk HE3.out ?_
          have hin := In0.of_own HO3.out
          rw [HFIN.out (fun h => absurd h (by omega)) HASC.out] at hin
          exact hin
end Go.Proofs.Ytamkbboijblooaa
