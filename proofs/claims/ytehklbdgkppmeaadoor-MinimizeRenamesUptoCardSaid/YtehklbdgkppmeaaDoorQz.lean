/- Contracts: slices.Clone, slices.Delete at atoms. -/
import Derived.Test.YtehklbdgkppmeaaDoorQy
import Derived.Lib.SliceRun
namespace Go.Proofs.YtehklbdgkppmeaaDoor
open Go.RowKit Go.Maps

theorem setMid {xs r : List Value} {v : Value} {o : Nat} (h : o + (r.length + 1) ≤ xs.length) : (xs.set o v).take (o + 1) ++ r ++ (xs.set o v).drop (o + 1 + r.length) = xs.take o ++ (v :: r) ++ xs.drop (o + (r.length + 1)) := by
  have e1 : (xs.set o v).take (o + 1) = xs.take o ++ [v] := by
    rw [List.take_succ_eq_append_getElem (by simp; omega), List.getElem_set_self, List.take_set_of_le (Nat.le_refl _)]
  have e2 : (xs.set o v).drop (o + 1 + r.length) = xs.drop (o + (r.length + 1)) := by
    rw [List.drop_set_of_lt (by omega)]
    congr 1
    omega
  rw [e1, e2]
  simp
theorem Bk.sets {g : Nat} {t : TypeId} : ∀ (vs : List Value) (o : Nat) {w : World} {xs : List Value}, Bk w g t xs → o + vs.length ≤ xs.length → Bk (w.setCells g o vs) g t (xs.take o ++ vs ++ xs.drop (o + vs.length))
  | [], o, w, xs, h, _ => by simpa [World.setCells] using h
  | v :: r, o, w, xs, h, hl => by
    rw [List.length_cons] at hl
    have h1 := Bk.sets r (o + 1) (h.set o v) (by simp; omega)
    rw [setMid (by omega)] at h1
    exact h1
theorem Fr.sets {g : Nat} : ∀ (vs : List Value) (o : Nat) {a w : World}, Fr (fun k => k = g) a w → Fr (fun k => k = g) a (w.setCells g o vs)
  | [], _, _, _, h => h
  | v :: r, o, _, _, h => Fr.sets r (o + 1) (h.setCell (p := ⟨g, o, none⟩) (.inl rfl) v)
theorem run_clear_one {P : Program} (w : World) (t e ty : TypeId) (z : Value) (zs : List Value) (ht : P.underlying t = some (.slice e)) (hv : ∀ w, (zeroValue e).run P w = .ok z w) (hz : z.cells = zs.toArray) (h1 : ∀ u ∈ zs, u.oneCell' = true) (b o c : Nat)
    (hc : ∀ j, j < zs.length → (w.cell? ⟨b, o + j, none⟩).isSome = true) (hf : ∀ j, j < zs.length → w.frozen? ⟨b, o + j, none⟩ = false) :
    (Builtin.clear_ #[t] ty #[.slice (some ⟨b, o, none⟩) 1 c]).run P w = .ok (.tuple #[]) (w.setCells b o zs) := by
  have hzc : (Builtin.zeroCells z.cells 1).toList = zs := by
    rw [hz]
    simp only [Builtin.zeroCells]
    apply List.ext_getElem
    · simp
    · intro i h1 h2
      simp [Nat.mod_eq_of_lt h2, List.getElem?_eq_getElem h2]
  have hst := run_storeCells_cells (P := P) b o zs 0 w (by simpa using hc) (by simpa using hf) h1
  simp only [Nat.add_zero] at hst
  simp [Builtin.clear_, run_underlying ht, hv, hzc, hst]

/-- A row of atoms of its own (above base), its terms within F. -/
def AtG (F : Nat → Prop) (w : World) (base : Nat) (v : Value) (n : Nat) (xs : List At) : Prop := ∃ vs : List Value, vs.length = xs.length ∧ w.ownsRow base 39 3 v n (acells xs vs) ∧ ∀ i (_ : i < xs.length) (h' : i < vs.length), Ts F w vs[i] xs[i].terms
theorem AtG.num {F : Nat → Prop} {w : World} {base n : Nat} {v : Value} {xs : List At} (h : AtG F w base v n xs) : n = xs.length := by
  obtain ⟨vs, h1, h2, -⟩ := h
  have := h2.1
  rw [acells_length h1] at this
  omega
theorem AtG.sl {F : Nat → Prop} {w : World} {base n : Nat} {v : Value} {xs : List At} (h : AtG F w base v n xs) : ∃ A c, v = .slice A n c := let ⟨_, _, h, _⟩ := h; own_slice h
theorem AtG.ats {F : Nat → Prop} {w : World} {base n : Nat} {v : Value} {xs : List At} (h : AtG F w base v n xs) : Ats (fun k => F k ∨ base ≤ k) w v xs := by
  have hn := h.num
  obtain ⟨vs, hl, hr, ht⟩ := h
  subst hn
  obtain ⟨A, c, rfl, hc, hcl⟩ := Cl.of_own hr
  exact ⟨A, c, vs, rfl, hc, hl, hcl.mono (fun _ _ h => .inr h.2), fun i h h' => (ht i h h').mono (fun _ _ h => .inl h)⟩
theorem AtG.own {F : Nat → Prop} {w : World} {base n k : Nat} {v : Value} {xs : List At} (h : AtG F w base v n xs) (hk : v.ownBlock = some k) : base ≤ k := let ⟨_, _, h, _⟩ := h; own_ge h hk

set_option maxRecDepth 20000 in
set_option maxHeartbeats 1600000 in
theorem clone_atoms {F : Nat → Prop} {w : World} {v : Value} {xs : List At} (hX : Ats F w v xs) (hl : xs.length ≤ 1048576) (h0 : 0 < xs.length) :
    Calls Tryd.prog 32 #[v] w (Ret (fun x w' => AtG F w' w.heap.size x xs.length xs) w) := by
  obtain ⟨A, c, vs, rfl, hc, hvs, hcl, hts⟩ := hX
  obtain ⟨n, hn⟩ : ∃ n, n = xs.length := ⟨_, rfl⟩
  rw [← hn] at hc hl h0 ⊢
  obtain ⟨ad, rfl⟩ : ∃ ad, A = some ad := by
    obtain ⟨ad, h, -⟩ := hcl.atom (i := 0) (by omega) (by omega)
    exact ⟨ad, h⟩
  obtain ⟨i0, hi0, hz0, hz1, hz2⟩ := info_parts info_atom
  have HI0 := Lib.hid (And.intro hi0 (And.intro hz0 (And.intro hz1 hz2))); clear hi0 hz0 hz1 hz2
  have HN := Lib.hid hn; have HVS := Lib.hid hvs; have HCL := Lib.hid hcl; have HTS := Lib.hid hts
  have HO : Hid (∀ u ∈ acells xs vs, u.oneCell' = true) := Lib.hid (acells_one (fun u hu => by
    obtain ⟨k, hk, rfl⟩ := List.getElem_of_mem hu
    exact (hts k (by omega) hk).one))
  have HL1 : Hid ((acells xs vs).length = n * 3) := Lib.hid (by rw [acells_length hvs, hn])
  clear hn hvs hcl hts
  have q22 : ∀ (w : World) (a : Option Addr) (n c n' c' : Nat), (binOp .eql 22 (.slice a n c) (.slice none n' c')).run Tryd.prog w = .ok (.bool a.isNone) w := fun w a n c n' c' => Lib.run_eql_slice_nil w _ _ a n c n' c' Tryd.underlying22
  go_enter Tryd.func32, Tryd.ntmps32
  go_wp2_with (first | (at_builtin; refine wpList_append_opt rfl _ _ 22 rfl w.heap.size 39 i0 (.agg #[.bool false, .string ⟨#[]⟩, .slice none 0 0]) 3 48 Tryd.underlying22 HI0.out.1 HI0.out.2.1 HI0.out.2.2.1 HI0.out.2.2.2 rfl (by omega) (.slice (some ⟨w.heap.size, 0, none⟩) 0 0) 0 [] rfl (World.ownsRow_made w #[] 0 (Nat.le_refl _) (Nat.zero_le _) rfl) (some ad) n c (acells xs vs) rfl HL1.out ((HCL.out.ext ((Ext.refl w).alloc _)).news) HO.out (by simp only [maxLen]; omega) (by omega) (by simp) ?_; intro v9 w9 hr9 hg9 hl9; rw [Nat.zero_add, List.nil_append] at hr9; obtain ⟨A9, c9, rfl⟩ := own_slice hr9; have HR9 := Lib.hid hr9; have HE9 : Hid (Ext w w9) := Lib.hid (((Ext.refl w).alloc _).grown hg9 (fun q hq => by simp [Value.ownBlock] at hq; omega)); clear hr9 hg9 hl9))
  go_ret
  exact Ret.mk HE9.out ⟨vs, HVS.out, HR9.out, fun i hi hi' => (HTS.out i hi hi').ext HE9.out⟩

set_option maxRecDepth 20000 in
set_option maxHeartbeats 1600000 in
theorem delete_atom {F : Nat → Prop} {w : World} {base n i : Nat} {v : Value} {xs : List At} (h : AtG F w base v n xs) (hF : ∀ k, F k → k < base) (hl : n ≤ 1048576) (hi : i < n) :
    Calls Tryd.prog 31 #[v, .int .i64 (i : Int), .int .i64 ((i : Int) + 1)] w (fun e w' => ∃ v', e = .returned v' ∧ AtG F w' base v' (n - 1) (xs.eraseIdx i) ∧ Fr (fun k => v.ownBlock = some k) w w') := by
  obtain ⟨vs, hvs, hrow, hts⟩ := h
  rcases hrow.2 with ⟨rfl, h0⟩ | ⟨g, cap, cur, rfl, hbg, hg, hnc, hcm, hcs, htake⟩
  · omega
  have i1 : (0 : Int) ≤ (i : Int) := by omega
  have i2 : (i : Int) ≤ (i : Int) + 1 := by omega
  have i3 : (i : Int) + 1 ≤ (n : Int) := by omega
  have i4 : (n : Int) ≤ (cap : Int) := by omega
  have i5 : (0 : Int) ≤ (i : Int) + 1 := by omega
  have i6 : (i : Int) ≤ (cap : Int) := by omega
  have i7 : ((i : Int) + 1).toNat = i + 1 := by omega
  have hni : ¬ n = i := by omega
  have hne : ((i : Int) == (i : Int) + 1) = false := by have : ¬ (i : Int) = (i : Int) + 1 := by omega
                                                        exact beq_false_of_ne this
  obtain ⟨i0, hi0, hz0, hz1, hz2⟩ := info_parts info_atom
  have hzv : ∀ w, (zeroValue 39).run Tryd.prog w = .ok (.agg #[.bool false, .string ⟨#[]⟩, .slice none 0 0]) w := fun w => by simp [zeroValue, typeInfo, hi0, hz0]
  have hnl : xs.length = n := by have h := hrow.1; rw [acells_length hvs] at h; omega
  obtain ⟨p, hp⟩ : ∃ p, p = i + (n - (i + 1)) := ⟨_, rfl⟩
  have hpn : p + 1 = n := by omega
  have hB : Bk w g 39 cur.toList := by unfold Bk; rw [Array.toArray_toList]; exact hg
  have hcl : cur.toList.length = cap * 3 := by rw [Array.length_toList]; exact hcs
  obtain ⟨news, hnews⟩ : ∃ l, l = acells (xs.drop (i + 1)) (vs.drop (i + 1)) := ⟨_, rfl⟩
  have hnd : news = (cur.toList.take (n * 3)).drop ((i + 1) * 3) := by rw [hnews, ← acells_drop (i + 1) hvs (by omega), htake]
  have hnlen : news.length = (n - (i + 1)) * 3 := by rw [hnd, List.length_drop, List.length_take, hcl]; omega
  have hcell : ∀ j, j < cap * 3 → (w.drew.cell? ⟨g, j, none⟩).isSome = true ∧ w.drew.frozen? ⟨g, j, none⟩ = false := fun j hj => by
    have hb := hB.ext (Ext.refl w).drew
    refine ⟨?_, hb.free j⟩
    rw [hb.cell (i := j) (by omega)]; rfl
  have hsrc : ∀ j u, news[j]? = some u → w.drew.cell? ((⟨g, (i + 1) * 3, none⟩ : Addr).add j) = some u := fun j u hu => by
    rw [Addr.add_lit]
    have hb := hB.ext (Ext.refl w).drew
    rw [hnd, List.getElem?_drop, List.getElem?_take] at hu
    split at hu
    · have hlt : (i + 1) * 3 + j < cur.toList.length := by omega
      rw [List.getElem?_eq_getElem hlt] at hu
      injection hu with hu
      rw [← hu]
      exact hb.cell hlt
    · cases hu
  have hone : ∀ u ∈ news, u.oneCell' = true := by
    rw [hnews]
    exact acells_one (fun u hu => by
      obtain ⟨k, hk, rfl⟩ := List.getElem_of_mem (List.mem_of_mem_drop hu)
      exact (hts k (by omega) hk).one)
  have hspare : ∀ j, j < news.length → (w.drew.cell? ⟨g, 0 + i * 3 + j, none⟩).isSome = true ∧ w.drew.frozen? ⟨g, 0 + i * 3 + j, none⟩ = false := fun j hj => by
    rw [Nat.zero_add]
    exact hcell _ (by omega)
  obtain ⟨W1, hW1⟩ : ∃ W1, W1 = w.drew.setCells g (0 + i * 3) news := ⟨_, rfl⟩
  have hB1 : Bk W1 g 39 (cur.toList.take (i * 3) ++ news ++ cur.toList.drop (i * 3 + news.length)) := by
    rw [hW1, Nat.zero_add]
    exact (hB.ext (Ext.refl w).drew).sets _ _ (by omega)
  have hF1 : Fr (fun k => k = g) w W1 := by rw [hW1]; exact Fr.sets _ _ ((Ext.refl w).drew.fr _)
  obtain ⟨L1, hL1⟩ : ∃ L, L = cur.toList.take (i * 3) ++ news ++ cur.toList.drop (i * 3 + news.length) := ⟨_, rfl⟩
  rw [← hL1] at hB1
  have hL1l : L1.length = cap * 3 := by rw [hL1, List.length_append, List.length_append, List.length_take, List.length_drop, hcl]; omega
  obtain ⟨zs, hzs⟩ : ∃ zs : List Value, zs = [.bool false, .string ⟨#[]⟩, .slice none 0 0] := ⟨_, rfl⟩
  have hzl : zs.length = 3 := by rw [hzs]; rfl
  obtain ⟨W2, hW2⟩ : ∃ W2, W2 = W1.setCells g (p * 3) zs := ⟨_, rfl⟩
  have hcl2 : ∀ ty, (Builtin.clear_ #[22] ty #[.slice (some ⟨g, p * 3, none⟩) (n - p) (cap - p)]).run Tryd.prog W1 = .ok (.tuple #[]) W2 := fun ty => by
    rw [show n - p = 1 by omega, hW2]
    refine run_clear_one W1 _ _ ty _ zs Tryd.underlying22 hzv (by rw [hzs]; rfl) (by rw [hzs]; intro u hu; simp at hu; rcases hu with rfl | rfl | rfl <;> rfl) g (p * 3) _ (fun j hj => ?_) (fun j _ => hB1.free _)
    rw [hB1.cell (i := p * 3 + j) (by omega)]; rfl
  have hB2 : Bk W2 g 39 (L1.take (p * 3) ++ zs ++ L1.drop (p * 3 + zs.length)) := by
    rw [hW2]
    exact hB1.sets _ _ (by omega)
  have hF2 : Fr (fun k => k = g) w W2 := by rw [hW2]; exact Fr.sets _ _ hF1
  have hres : AtG F W2 base (.slice (some ⟨g, 0, none⟩) p cap) (n - 1) (xs.eraseIdx i) := by
    have hel : (xs.eraseIdx i).length = n - 1 := by rw [List.length_eraseIdx, if_pos (by omega), hnl]
    have hvl : (vs.eraseIdx i).length = n - 1 := by rw [List.length_eraseIdx, if_pos (by omega), hvs, hnl]
    refine ⟨vs.eraseIdx i, by rw [hel, hvl], ?_, fun k hk hk' => ?_⟩
    · refine ⟨by rw [acells_length (by rw [hel, hvl]), hel], .inr ⟨g, cap, (L1.take (p * 3) ++ zs ++ L1.drop (p * 3 + zs.length)).toArray, by rw [show n - 1 = p by omega], hbg, hB2, by omega, hcm, ?_, ?_⟩⟩
      · simp only [List.size_toArray, List.length_append, List.length_take, List.length_drop]
        omega
      · rw [List.toList_toArray, show n - 1 = p by omega, List.append_assoc, List.take_append_of_le_length (by rw [List.length_take]; omega), List.take_take, Nat.min_self]
        rw [List.eraseIdx_eq_take_drop_succ, List.eraseIdx_eq_take_drop_succ, acells_append _ _ (by simp [hvs]), ← hnews, ← acells_take i hvs (by omega), ← htake, List.take_take, Nat.min_eq_left (by omega), hL1]
        rw [List.take_append_of_le_length (by rw [List.length_append, List.length_take]; omega), List.take_of_length_le (by rw [List.length_append, List.length_take]; omega)]
    · rw [List.getElem_eraseIdx, List.getElem_eraseIdx]
      have hup : ∀ {u : Value} {ts : List Tm}, Ts F w u ts → Ts F W2 u ts := fun hu => hu.fr hF2 (fun k hk e => by have := hF k hk; omega)
      split
      · exact hup (hts k (by omega) (by omega))
      · exact hup (hts (k + 1) (by omega) (by omega))
  have hcapp : ¬ cap = p := by omega
  have p1 : (0 : Int) ≤ (p : Int) := by omega
  have p2 : (p : Int) ≤ (n : Int) := by omega
  have hroom : i + (n - (i + 1)) ≤ cap := by omega
  have HP := Lib.hid hp.symm; have HW1 := Lib.hid hW1; have HNL := Lib.hid hnlen; have HSRC := Lib.hid hsrc; have HONE := Lib.hid hone; have HSP := Lib.hid hspare; have HRES := Lib.hid hres; have HF2 := Lib.hid hF2
  have HI := Lib.hid (And.intro hi0 hz1)
  clear hi0 hz0 hz1 hz2 hzv hnl hp hB hcl hnews hnd hnlen hcell hsrc hone hspare hW1 hB1 hF1 hL1 hL1l hzs hzl hW2 hB2 hF2 hres hg hcs htake hts hrow hvs hcm
  by_cases hcap : cap = i + 1
  · have hnil : news = [] := List.length_eq_zero_iff.1 (by rw [HNL.out]; omega)
    have HP0 : Hid (i + 0 = p) := Lib.hid (by omega)
    have HW0 : Hid (W1 = w.drew.setCells g (0 + i * 3) []) := Lib.hid (by rw [← hnil]; exact HW1.out)
    have HZ0 : Hid (∀ j u, ([] : List Value)[j]? = some u → w.drew.cell? ((⟨g, 0, none⟩ : Addr).add j) = some u) := Lib.hid (fun j u hu => by simp at hu)
    have HZ1 : Hid (∀ u ∈ ([] : List Value), u.oneCell' = true) := Lib.hid (by simp)
    have HZ2 : Hid (∀ j, j < ([] : List Value).length → (w.drew.cell? ⟨g, 0 + i * 3 + j, none⟩).isSome = true ∧ w.drew.frozen? ⟨g, 0 + i * 3 + j, none⟩ = false) := Lib.hid (fun j hj => by simp at hj)
    clear hnil
    subst hcap
    go_enter Tryd.func31, Tryd.ntmps31
    go_wp2_with fail
    go_region_law (refine step_append_room (by rfl) (.tmp 22) (.tmp 25) 22 (by rfl) 39 i0 3 Tryd.underlying22 HI.out.1 HI.out.2 g 0 i (i + 1) (by rfl) ⟨g, 0, none⟩ 0 0 [] (by rfl) rfl HZ0.out HZ1.out (by omega) HZ2.out ?_; rw [← HW0.out, HP0.out])
    go_wp2_with fail
    go_ret
    exact ⟨_, rfl, HRES.out, HF2.out.mono (fun k _ hk => by rw [hk]; rfl)⟩
  · have hroom : i + (n - (i + 1)) ≤ cap := by omega
    go_enter Tryd.func31, Tryd.ntmps31
    go_wp2_with fail
    go_region_law (refine step_append_room (by rfl) (.tmp 22) (.tmp 25) 22 (by rfl) 39 i0 3 Tryd.underlying22 HI.out.1 HI.out.2 g 0 i cap (by rfl) ⟨g, (i + 1) * 3, none⟩ (n - (i + 1)) (cap - (i + 1)) news (by rfl) HNL.out HSRC.out HONE.out (by omega) HSP.out ?_; rw [← HW1.out, HP.out])
    go_wp2_with fail
    go_ret
    exact ⟨_, rfl, HRES.out, HF2.out.mono (fun k _ hk => by rw [hk]; rfl)⟩
end Go.Proofs.YtehklbdgkppmeaaDoor
