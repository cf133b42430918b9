/- MinimizeLeast: plain laws, walk. -/
import Derived.Test.YtehklbdgkppmeaaDoorJi
namespace Go.Proofs.YtehklbdgkppmeaaDoor
open Go.RowKit Go.Maps

theorem dedR_vars {xs : List At} {v : ByteArray} : v ∈ varsT (allT (dedR xs)) ↔ v ∈ varsT (allT xs) := by
  constructor
  · exact fun h => vars_mono (fun a ha => dedR_mem ha) h
  · intro h
    obtain ⟨t, ht, hs⟩ := varsT_iff.1 h
    obtain ⟨a, ha, hta⟩ := allT_iff.1 ht
    obtain ⟨b, hb, e⟩ := dedR_has ha
    exact varsT_iff.2 ⟨t, allT_iff.2 ⟨b, hb, by rw [(of_decide_eq_true e).2]; exact hta⟩, hs⟩
theorem dedR_ne {xs : List At} (h : xs ≠ []) : dedR xs ≠ [] := fun e => by
  cases xs with
  | nil => exact h rfl
  | cons a xs =>
    obtain ⟨b, hb, -⟩ := dedR_has (xs := a :: xs) (a := a) (by simp)
    rw [e] at hb
    simp at hb
/-- What is known of a core. -/
structure CoreF (xs : List At) (fx : List ByteArray) (c : List At) : Prop where
  sub : c.Sublist (dedR xs)
  ne : c ≠ []
  keep : ∀ v ∈ fx, v ∈ varsT (allT xs) → v ∈ varsT (allT c)
  hom : HomF (idPin fx) (dedR xs) c
  least : ∀ j, j < c.length → ¬ ((∀ v ∈ fx, v ∈ varsT (allT xs) → v ∈ varsT (allT (c.eraseIdx j))) ∧ HomF (idPin fx) c (c.eraseIdx j))
theorem coreF {xs : List At} {fx : List ByteArray} (hp : ∀ a ∈ xs, a.Pu) (hne : xs ≠ []) : CoreF xs fx (coreP xs fx) := by
  have hD := dedR_ne hne
  have h0 : OkH fx (varsT (allT (dedR xs))) (dedR xs) (dedR xs) := ⟨fun v _ h => h, homF_incl (fun a ha => (hp a (dedR_mem ha)).1.2) (fun a h => h) (fun s u h => h.2.symm)⟩
  have h1 := core_ok (dedR xs).length (dedR xs) h0
  have h2 := core_least (fx := fx) (V := varsT (allT (dedR xs))) (dedR xs).length (dedR xs) (fun j h h' => by omega)
  refine ⟨core_sub _ _, fun e => ?_, fun v hv hV => h1.1 v hv (dedR_vars.2 hV), h1.2, fun j hj hh => h2 j hj ⟨fun v hv hV => hh.1 v hv (dedR_vars.1 hV), hh.2⟩⟩
  have := homF_ne h1.2 hD
  rw [show coreL (okP fx (varsT (allT (dedR xs)))) (dedR xs).length (dedR xs) = coreP xs fx from rfl, e] at this
  simp at this
theorem core_again {xs : List At} {fx : List ByteArray} {c : List At} (h : CoreF xs fx c) : coreP c fx = c := by
  have hd : dedR c = c := dedR_id (List.Pairwise.sublist h.sub (dedR_nodup xs))
  unfold coreP
  rw [hd]
  refine core_stay _ _ (fun j hj => ?_)
  cases e : okP fx (varsT (allT c)) c (c.eraseIdx j) with
  | false => rfl
  | true =>
    have h1 := okP_iff.1 e
    exact absurd ⟨fun v hv hV => h1.1 v hv (h.keep v hv hV), h1.2⟩ (h.least j hj)
theorem CoreF.subx {xs : List At} {fx : List ByteArray} {c : List At} (h : CoreF xs fx c) : c.Sublist xs := h.sub.trans (dedR_sub xs)
theorem CoreF.pure {xs : List At} {fx : List ByteArray} {c : List At} (h : CoreF xs fx c) (hb : Bd xs) (hp : pureL xs 0 = true) : pureL c 0 = true := by
  have h1 := (Pq.of hp hb).sub h.subx
  exact pureL_iff.2 ⟨h1.pu, rfl, List.length_pos_iff.2 h.ne, h1.len, h1.vars⟩
theorem AOk.sub {l m : List At} (h : AOk m) (hs : l.Sublist m) : AOk l := ⟨h.bd.sub hs, fun a ha => h.small a (hs.subset ha), fun a ha => h.terms a (hs.subset ha)⟩
def keepW (V fx : List ByteArray) : List ByteArray := fx.filter (fun v => decide (v ∈ V))
theorem keepW_mem {V fx : List ByteArray} {v : ByteArray} : v ∈ keepW V fx ↔ v ∈ fx ∧ v ∈ V := by simp [keepW]
theorem keepW_snoc (V fx : List ByteArray) (v : ByteArray) : keepW V (fx ++ [v]) = if v ∈ V then keepW V fx ++ [v] else keepW V fx := by
  unfold keepW; rw [List.filter_append]
  by_cases h : v ∈ V <;> simp [h]
/-- The atoms whose bit is set. -/
def bitB (s i : Nat) : Bool := decide (s / 2 ^ i % 2 = 1)
def selL (c : List At) (s : Nat) : Nat → List At
  | 0 => []
  | i + 1 => if bitB s i = true then selL c s i ++ (c[i]?).toList else selL c s i
theorem selL_mem {c : List At} {s : Nat} : ∀ {i : Nat} {a : At}, a ∈ selL c s i → ∃ j, j < i ∧ bitB s j = true ∧ c[j]? = some a
  | 0, a, h => by simp [selL] at h
  | i + 1, a, h => by
    unfold selL at h
    split at h
    · rename_i hb
      rcases List.mem_append.1 h with h | h
      · obtain ⟨j, h1, h2, h3⟩ := selL_mem h
        exact ⟨j, by omega, h2, h3⟩
      · exact ⟨i, by omega, hb, by simpa using h⟩
    · obtain ⟨j, h1, h2, h3⟩ := selL_mem h
      exact ⟨j, by omega, h2, h3⟩
theorem bits_full : ∀ (n s : Nat), s < 2 ^ n → (∀ i, i < n → bitB s i = true) → s = 2 ^ n - 1
  | 0, s, h, _ => by simp at h; omega
  | n + 1, s, h, hb => by
    have h1 := bits_full n (s / 2) (by rw [Nat.pow_succ] at h; omega) (fun i hi => by
      have h2 := hb (i + 1) (by omega)
      unfold bitB at h2 ⊢
      rw [Nat.pow_succ, Nat.mul_comm, ← Nat.div_div_eq_div_mul] at h2
      exact h2)
    have h3 := of_decide_eq_true (hb 0 (by omega))
    rw [Nat.pow_zero, Nat.div_one] at h3
    have h4 := Nat.one_le_two_pow (n := n)
    rw [Nat.pow_succ]
    omega
theorem sel_no {xs : List At} {fx : List ByteArray} {c : List At} (h : CoreF xs fx c) {s : Nat} (hs : s < 2 ^ c.length - 1) (h1 : hasAll (varsT (allT (selL c s c.length))) (keepW (varsT (allT xs)) fx) = true) : homR c (keepW (varsT (allT xs)) fx) (selL c s c.length) (keepW (varsT (allT xs)) fx) = false := by
  cases e : homR c (keepW (varsT (allT xs)) fx) (selL c s c.length) (keepW (varsT (allT xs)) fx) with
  | false => rfl
  | true =>
    exfalso
    have h2 := homR_self.1 e
    have h3 : ∃ j, j < c.length ∧ bitB s j = false := Classical.byContradiction (fun hn => by
      have h4 := bits_full c.length s (by omega) (fun i hi => by
        cases hb : bitB s i with
        | true => rfl
        | false => exact absurd ⟨i, hi, hb⟩ hn)
      omega)
    obtain ⟨j, hj, hb⟩ := h3
    have hsub : ∀ a ∈ selL c s c.length, a ∈ c.eraseIdx j := fun a ha => by
      obtain ⟨k, hk, hkb, hka⟩ := selL_mem ha
      rw [List.mem_eraseIdx_iff_getElem?]
      exact ⟨k, (fun e => by subst e; rw [hb] at hkb; cases hkb), hka⟩
    refine h.least j hj ⟨fun v hv hV => ?_, ?_⟩
    · have h5 := List.all_eq_true.1 h1 v (keepW_mem.2 ⟨hv, hV⟩)
      exact vars_mono hsub (of_decide_eq_true h5)
    · have h6 : HomF (idPin (keepW (varsT (allT xs)) fx)) c (c.eraseIdx j) := homF_sub h2 (fun _ h => h) hsub
      refine homF_pins h6 (fun s u hp hv => ⟨keepW_mem.2 ⟨hp.1, ?_⟩, hp.2⟩) (fun s u u' a b => a.2.trans b.2.symm)
      exact vars_mono (fun a ha => h.subx.subset ha) hv
theorem pow_wrap (n : Nat) (h : n ≤ 6) : wrap64 (wrap64 (2 ^ n) - 1) = ((2 ^ n - 1 : Nat) : Int) := by
  have h0 : ∀ n, n ≤ 6 → wrap64 (wrap64 (2 ^ n) - 1) = ((2 ^ n - 1 : Nat) : Int) := by decide +kernel
  exact h0 n h
theorem bit_and (s i : Nat) (hs : s ≤ 63) (hi : i ≤ 5) : (bits BinOp.and IntKind.i64 ((s : Int) / 2 ^ i) 1 == 1) = bitB s i := by
  have h0 : ∀ s : Nat, s ≤ 63 → ∀ i : Nat, i ≤ 5 → (bits BinOp.and IntKind.i64 ((s : Int) / 2 ^ i) 1 == 1) = bitB s i := by decide +kernel
  exact h0 s hs i hi

section
variable {F G H : Nat → Prop} {w : World} {svA vc vf : Value} {nc : Nat} {xs : List At} {fx : List ByteArray}

set_option maxRecDepth 100000 in
set_option maxHeartbeats 6400000 in
theorem least_any (hX : Ats F w svA xs) (hC : Cns G w vc nc) (hF : Strs H w vf fx) (rg : Rg xs) (hfl : fx.length ≤ 1048576) (hfs : ∀ v ∈ fx, v.size ≤ 1048576) (htab : TabE w) :
    Calls Tryd.prog 4 #[.agg #[svA, vc], vf] w (Ret (fun x _ => x = .bool true) w) := by
  obtain ⟨A, c, rfl⟩ := hX.sl
  obtain ⟨Ac, cc, hvc⟩ : ∃ A c, vc = .slice A nc c := by obtain ⟨A, c, _, e, _⟩ := hC; exact ⟨A, c, e⟩
  subst hvc
  obtain ⟨C, cC, hvf⟩ : ∃ A c, vf = .slice A fx.length c := by obtain ⟨A, c, e, _⟩ := hF; exact ⟨A, c, e⟩
  subst hvf
  have HX := Lib.hid hX; have HC := Lib.hid hC; have HF := Lib.hid hF; have RG := Lib.hid rg; have HFS := Lib.hid hfs; have HTAB := Lib.hid htab
  obtain ⟨n, hn⟩ : ∃ k, k = xs.length := ⟨_, rfl⟩
  obtain ⟨nf, hnf⟩ : ∃ k, k = fx.length := ⟨_, rfl⟩
  rw [← hn] at HX ⊢
  rw [← hnf] at HF hfl ⊢
  have HN := Lib.hid hn; have HNF := Lib.hid hnf
  clear hX hC hF rg hfs htab hn hnf
  go_enter Tryd.func4, Tryd.ntmps4
  go_wp2_with fail
  have kr := Bk.new w 25 [.slice A n c, .slice Ac nc cc]
  change Bk (w.alloc (.cells #[.slice A n c, .slice Ac nc cc] 25)) _ _ _ at kr
  have hx : Ext w (w.alloc (.cells #[.slice A n c, .slice Ac nc cc] 25)) := (Ext.refl w).alloc _
  generalize (w.alloc (.cells #[.slice A n c, .slice Ac nc cc] 25)) = w1 at *
  refine (awake_any (HTAB.out.fore hx)).mono ?_
  rintro e w2 ⟨y, rfl, he2, rfl⟩
  replace hx := hx.trans he2
  replace kr := kr.ext he2
  clear he2
  have r0 := kr.cell (i := 0) (by simp); have r1 := kr.cell (i := 1) (by simp)
  simp only [List.getElem_cons_zero, List.getElem_cons_succ] at r0 r1
  go_wp2_with fail
  refine (few_any (HX.out.ext hx) RG.out.bd.len RG.out.bd.all).mono ?_
  rintro e w3 ⟨y, rfl, he3, rfl⟩
  replace hx := hx.trans he3
  replace kr := kr.ext he3
  clear he3 r0 r1
  obtain ⟨b, hb⟩ : ∃ b, b = fewL xs nc := ⟨_, rfl⟩
  rw [← hb]
  rcases b with _ | _
  · have HXX := Lib.hid hx
    clear hx kr hb
    go_wp2_with fail
    go_ret
    exact Ret.mk HXX.out rfl
  have r0 := kr.cell (i := 0) (by simp); have r1 := kr.cell (i := 1) (by simp)
  simp only [List.getElem_cons_zero, List.getElem_cons_succ] at r0 r1
  have hterms := fewL.terms hb.symm
  have hax := RG.out.aok (fun a ha => by have := hterms a ha; omega)
  have hl10 := (fewL_iff.1 hb.symm).1
  have HAX := Lib.hid hax; have HTR := Lib.hid hterms; have HL := Lib.hid hl10
  clear hb hterms hax hl10
  go_wp2_with fail
  refine (pure25 (HX.out.ext hx) HAX.out.bd).mono ?_
  rintro e w4 ⟨y, rfl, he4, rfl⟩
  replace hx := hx.trans he4
  replace kr := kr.ext he4
  clear he4 r0 r1
  rcases hp : pureL xs nc with _ | _
  · have HXX := Lib.hid hx
    clear hx kr hp
    go_wp2_with fail
    go_ret
    exact Ret.mk HXX.out rfl
  by_cases hf5 : (5 : Int) < (nf : Int)
  · have HXX := Lib.hid hx
    clear hx kr hp
    go_wp2_with fail
    go_ret
    exact Ret.mk HXX.out rfl
  have hpl := pureL_iff.1 hp
  obtain rfl : nc = 0 := hpl.2.1
  have hne : xs ≠ [] := fun e => by rw [e] at hpl; simp at hpl
  have hcf := coreF (fx := fx) hpl.1 hne
  have r0 := kr.cell (i := 0) (by simp); have r1 := kr.cell (i := 1) (by simp)
  simp only [List.getElem_cons_zero, List.getElem_cons_succ] at r0 r1
  have HXX := Lib.hid hx; have HKR := Lib.hid kr
  have hcall := mcore_yes (HX.out.ext hx) (HC.out.ext hx) (HF.out.ext hx) HAX.out hp (HTAB.out.fore hx) (by have := HNF.out; omega) HFS.out
  unfold CoreYes at hcall
  have hagain := core_again hcf
  have hpc := hcf.pure HAX.out.bd hp
  obtain ⟨K, hK⟩ : ∃ K, K = coreP xs fx := ⟨_, rfl⟩
  rw [← hK] at hcall hcf hagain hpc
  have HCALL := Lib.hid hcall; have HCF := Lib.hid hcf; have HAG := Lib.hid hagain; have HPC := Lib.hid hpc
  have HAXK := Lib.hid (HAX.out.sub hcf.subx)
  clear hp hpl hne hcall hcf hagain hpc hK hx kr
  go_wp2_with fail
  refine HCALL.out.mono ?_
  rintro e w5 ⟨A4, n4, c4, B4, d4, rfl, he5, hA5, hC5⟩
  have hn4 : n4 = K.length := by obtain ⟨_, _, e⟩ := hA5.sl; injection e
  have HX5 := Lib.hid (HXX.out.trans he5); have HKR5 := Lib.hid (HKR.out.ext he5); have HA5 := Lib.hid hA5; have HC5 := Lib.hid hC5; have HN4 := Lib.hid hn4
  clear he5 r0 r1 hA5 hC5 hn4
  go_upto_region 6 with fail
  have kc := Bk.new w5 25 [.slice A4 n4 c4, .slice B4 0 d4]
  change Bk (w5.alloc (.cells #[.slice A4 n4 c4, .slice B4 0 d4] 25)) _ _ _ at kc
  have hx6 : Ext w5 (w5.alloc (.cells #[.slice A4 n4 c4, .slice B4 0 d4] 25)) := (Ext.refl w5).alloc _
  obtain ⟨gc, hgc⟩ : ∃ g, g = w5.heap.size := ⟨_, rfl⟩
  rw [← hgc] at kc ⊢
  generalize (w5.alloc (.cells #[.slice A4 n4 c4, .slice B4 0 d4] 25)) = w6 at *
  have HX6 := Lib.hid (HX5.out.trans hx6); have HA6 := Lib.hid (HA5.out.ext hx6); have HC6 := Lib.hid (HC5.out.ext hx6); have HKR6 := Lib.hid (HKR5.out.ext hx6); have HKC6 := Lib.hid kc
  have c0 := kc.cell (i := 0) (by simp); have c1 := kc.cell (i := 1) (by simp)
  simp only [List.getElem_cons_zero, List.getElem_cons_succ] at c0 c1
  clear hgc kc hx6 HA5 HC5 HKR5
  go_wp2_with fail
  have hcall := mcore_yes HA6.out HC6.out (HF.out.ext HX6.out) HAXK.out HPC.out (HTAB.out.fore HX6.out) (by have := HNF.out; omega) HFS.out
  unfold CoreYes at hcall
  rw [HAG.out] at hcall
  refine hcall.mono ?_
  rintro e w7 ⟨A7, n7, c7, B7, d7, rfl, he7, hA7, -⟩
  have HX7 := Lib.hid (HX6.out.trans he7); have HA7 := Lib.hid hA7; have HAc := Lib.hid (HA6.out.ext he7); have HKR7 := Lib.hid (HKR6.out.ext he7); have HKC7 := Lib.hid (HKC6.out.ext he7)
  clear hcall he7 hA7 c0 c1 HKR6 HKC6 HC6 HA6
  go_upto_region 7 with fail
  have kd := Bk.new w7 25 [.slice A7 n7 c7, .slice B7 0 d7]
  change Bk (w7.alloc (.cells #[.slice A7 n7 c7, .slice B7 0 d7] 25)) _ _ _ at kd
  have hx8 : Ext w7 (w7.alloc (.cells #[.slice A7 n7 c7, .slice B7 0 d7] 25)) := (Ext.refl w7).alloc _
  generalize (w7.alloc (.cells #[.slice A7 n7 c7, .slice B7 0 d7] 25)) = w8 at *
  have HX8 := Lib.hid (HX7.out.trans hx8); have HAc8 := Lib.hid (HAc.out.ext hx8); have HA8 := Lib.hid (HA7.out.ext hx8); have HKR8 := Lib.hid (HKR7.out.ext hx8); have HKC8 := Lib.hid (HKC7.out.ext hx8); have HKD8 := Lib.hid kd
  have HSAME : Hid (∀ V, Ext w8 V → Calls Tryd.prog 13 #[.slice A4 n4 c4, .slice A7 n7 c7] V (Ret (fun x _ => x = .bool true) V)) := Lib.hid (fun V hV => by
    have h1 := HCF.out.subx.length_le
    have h := sames25 (HAc8.out.ext hV) (HA8.out.ext hV) (by have := HL.out; omega) HAXK.out.bd.all
    rw [sameL_refl] at h
    exact h)
  have c0 := HKC8.out.cell (i := 0) (by simp); have d0 := kd.cell (i := 0) (by simp)
  simp only [List.getElem_cons_zero] at c0 d0
  clear kd hx8 HKR7 HKC7 HAc HA7
  go_wp2_with fail
  refine (HSAME.out _ (Ext.refl _)).mono ?_
  rintro e w9 ⟨y, rfl, he9, rfl⟩
  have HX9 := Lib.hid (HX8.out.trans he9); have HAc9 := Lib.hid (HAc8.out.ext he9); have HKR9 := Lib.hid (HKR8.out.ext he9); have HKC9 := Lib.hid (HKC8.out.ext he9); have HE9 := Lib.hid he9
  replace c0 := he9.cell c0
  replace d0 := he9.cell d0
  clear he9 HKR8 HKC8 HAc8
  by_cases h6 : (6 : Int) < (n4 : Int)
  · go_wp2_with fail
    refine (HSAME.out _ HE9.out).mono ?_
    rintro e w10 ⟨y, rfl, he10, rfl⟩
    have HX10 := Lib.hid (HX9.out.trans he10)
    clear he10
    go_wp2_with fail
    go_ret
    exact Ret.mk HX10.out rfl
  have h66 : n4 ≤ 6 := by omega
  clear d0
  have r0 := HKR9.out.cell (i := 0) (by simp)
  simp only [List.getElem_cons_zero] at r0
  have HCV := Lib.hid (vars25 (HX.out.ext HX9.out) RG.out.bd.len RG.out.bd.all)
  obtain ⟨V, hV⟩ : ∃ V, V = varsT (allT xs) := ⟨_, rfl⟩
  rw [← hV] at HCV
  have hvl : V.length ≤ 1048576 := by rw [hV]; have := varsT_length (allT xs); have := RG.out.bd.all; omega
  have HV := Lib.hid hV; have HVL := Lib.hid hvl
  clear hV hvl
  go_wp2_with fail
  refine HCV.out.mono ?_
  rintro e w11 ⟨vv, rfl, he11, hrv⟩
  have HVS := Lib.hid (Strs.of_own hrv)
  obtain ⟨Av, cv, rfl⟩ := own_slice hrv
  have HX11 := Lib.hid (HX9.out.trans he11); have HAc11 := Lib.hid (HAc9.out.ext he11); have HKC11 := Lib.hid (HKC9.out.ext he11)
  clear he11 hrv r0 c0 HAc9 HKC9 HKR9
  obtain ⟨j0, hj0, hy0, hy1, hy2⟩ := info_parts info_str
  have HJ0 := Lib.hid (And.intro hj0 (And.intro hy0 (And.intro hy1 hy2))); clear hj0 hy0 hy1 hy2
  obtain ⟨i0, hi0, hz0, hz1, hz2⟩ := info_parts info_atom
  have HI0 := Lib.hid (And.intro hi0 (And.intro hz0 (And.intro hz1 hz2))); clear hi0 hz0 hz1 hz2
  go_wp2_with fail
  go_loopw [10, 11] (fun t q wr => ∃ i p : Nat, i ≤ nf ∧ q = .int .i64 (i : Int) ∧ wr.ownsRow w11.heap.size 9 1 t p ((keepW V (fx.take i)).map Sv) ∧ Ext w11 wr) (fun _ q _ => nf - (intOf q).toNat)
  case atStart => exact ⟨0, 0, Nat.zero_le _, rfl, World.ownsRow_nil _ _ _ _, Ext.refl _⟩
  case round =>
    obtain ⟨k, p, hk, rfl, hrow, hext⟩ := hrel
    obtain ⟨Ak, ck, rfl⟩ := own_slice hrow
    have hpK : p = (keepW V (fx.take k)).length := by have h := hrow.1; rw [List.length_map] at h; omega
    have hKl : (keepW V (fx.take k)).length ≤ k := by
      have h := List.length_filter_le (fun v => decide (v ∈ V)) (fx.take k)
      rw [List.length_take] at h
      unfold keepW
      omega
    have hp5 : p ≤ 5 := by omega
    have hwr : w11.heap.size ≤ wr.heap.size := hext.size
    by_cases hkf : k < nf
    · have i1 : (0 : Int) ≤ (k : Int) := by omega
      have i2 : (k : Int) < (nf : Int) := by omega
      have hkl : k < fx.length := by have := HNF.out; omega
      obtain ⟨C', cC', eF, hcF, hclF⟩ := HF.out
      injection eF with eF1 eF2 eF3
      subst eF1
      obtain ⟨adf, rfl, -, c0⟩ := hclF.str hkl
      replace c0 := (HX11.out.trans hext).cell c0
      have htk : keepW V (fx.take (k + 1)) = if fx[k] ∈ V then keepW V (fx.take k) ++ [fx[k]] else keepW V (fx.take k) := by rw [List.take_succ_eq_append_getElem hkl, keepW_snoc]
      obtain ⟨s, hs⟩ : ∃ s, s = fx[k] := ⟨_, rfl⟩
      obtain ⟨L, hL⟩ : ∃ K, K = keepW V (fx.take k) := ⟨_, rfl⟩
      rw [← hs] at c0 htk
      rw [← hL] at htk hrow hpK
      have HTK := Lib.hid htk; have HROW := Lib.hid hrow; have HXT := Lib.hid hext; have HPK := Lib.hid hpK
      clear hs hL htk hrow hext hpK hKl hclF hcF eF2 eF3
      go_wp2_with fail
      refine (in25 (s := s) (HVS.out.ext HXT.out) (by have := HVL.out; omega)).mono ?_
      rintro e w12 ⟨rfl, rfl⟩
      by_cases hv : s ∈ V
      · rw [decide_eq_true hv]
        have HE : Hid (keepW V (fx.take (k + 1)) = L ++ [s]) := Lib.hid (by rw [HTK.out, if_pos hv])
        clear hv
        go_wp2_with (first | (at_builtin; refine wpList_append_at rfl _ _ 26 rfl w11.heap.size 9 j0 (.string ⟨#[]⟩) 1 16 Tryd.underlying26 HJ0.out.1 HJ0.out.2.1 HJ0.out.2.2.1 HJ0.out.2.2.2 rfl (by omega) (.slice Ak p ck) p (L.map Sv) rfl (HROW.out.alloc _) ⟨wr.heap.size, 0, none⟩ 1 1 [Sv s] rfl rfl (laid_news wr _ _) (by simp [Value.oneCell']) (by simp only [maxLen]; omega) (by omega) (by simp; omega) ?_; intro v8 w8' hr8 hg8 hl8; have HR8 := Lib.hid hr8; have HE8 : Hid (Ext w11 w8') := Lib.hid ((HXT.out.alloc _).grown hg8 (fun q hq => own_ge HROW.out hq)); clear hr8 hg8 hl8))
        go_roundw
        case rel => exact ⟨k + 1, p + 1, by omega, by go_num, by rw [HE.out, List.map_append]; exact HR8.out, HE8.out⟩
        case measure => simp [intOf]; omega
      · rw [decide_eq_false hv]
        have HE : Hid (keepW V (fx.take (k + 1)) = L) := Lib.hid (by rw [HTK.out, if_neg hv])
        clear hv
        go_wp2_with fail
        go_roundw
        case rel => exact ⟨k + 1, p, by omega, by go_num, by rw [HE.out]; exact HROW.out, HXT.out⟩
        case measure => simp [intOf]; omega
    · obtain rfl : k = nf := by omega
      have hdk : ¬ (k : Int) < (k : Int) := by omega
      have et : fx.take k = fx := by rw [HNF.out]; exact List.take_length
      obtain ⟨w12, rfl⟩ : ∃ W : World, W = wr := ⟨_, rfl⟩
      rw [et] at hrow hpK
      obtain ⟨L, hL⟩ : ∃ K, K = keepW V fx := ⟨_, rfl⟩
      rw [← hL] at hrow hpK
      have HKS := Lib.hid (Strs.of_own hrow)
      have HKCL : Hid (Cl (fun k => w11.heap.size ≤ k) w12 Ak (L.map Sv)) := Lib.hid (by
        obtain ⟨A', c', e, hc', hcl⟩ := Cl.of_own hrow
        injection e with e1 e2 e3
        subst e1
        exact hcl.mono (fun k _ h => h.2))
      have HLK := Lib.hid hL; have HPK := Lib.hid hpK
      have HX12 := Lib.hid (HX11.out.trans hext); have HAc12 := Lib.hid (HAc11.out.ext hext); have HKC12 := Lib.hid (HKC11.out.ext hext)
      clear et hrow hpK hL hext hKl HAc11 HKC11
      have hP := pow_wrap n4 h66
      have hPb : 2 ^ n4 - 1 ≤ 63 := by have h := Nat.pow_le_pow_right (n := 2) (by omega) h66; omega
      have hPe : 2 ^ n4 = 2 ^ n4 - 1 + 1 := by have := Nat.one_le_two_pow (n := n4); omega
      obtain ⟨P, hPP⟩ : ∃ P, P = 2 ^ n4 - 1 := ⟨_, rfl⟩
      rw [← hPP] at hP hPb hPe
      have HPE := Lib.hid hPe; have HPW := Lib.hid hP
      clear hPe hPP hP
      go_wp2_with fail
      go_loopw [12] (fun q wr => ∃ s : Nat, 1 ≤ s ∧ s ≤ P + 1 ∧ q = .int .i64 (s : Int) ∧ Ext w12 wr) (fun q _ => P + 1 - (intOf q).toNat)
      case atStart => exact ⟨1, Nat.le_refl _, by omega, rfl, Ext.refl _⟩
      case round =>
        obtain ⟨s, hs1, hs2, rfl, hext⟩ := hrel
        have HXS := Lib.hid hext
        have c0 := (HKC12.out.ext hext).cell (i := 0) (by simp)
        simp only [List.getElem_cons_zero] at c0
        clear hext
        have hP := HPW.out
        by_cases hsP : s < P
        · have s1 : (s : Int) < (P : Int) := by omega
          obtain ⟨W, rfl⟩ : ∃ W : World, W = wr := ⟨_, rfl⟩
          have HAW := Lib.hid (HAc12.out.ext HXS.out)
          have HAT := Lib.hid HAW.out.at2
          have HXW := Lib.hid (HX12.out.trans HXS.out)
          have HCW := Lib.hid (HKC12.out.ext HXS.out)
          go_wp2_with fail
          clear c0 hP
          go_loopw [13, 14] (fun t q wr => ∃ i m : Nat, i ≤ n4 ∧ q = .int .i64 (i : Int) ∧ AtR wr W.heap.size t m (selL K s i) ∧ m ≤ i ∧ Ext W wr) (fun _ q _ => n4 - (intOf q).toNat)
          case atStart => exact ⟨0, 0, Nat.zero_le _, rfl, AtR.nil _ _, Nat.le_refl _, Ext.refl _⟩
          case round =>
            obtain ⟨i, m, hi, rfl, hR, hmi, hext⟩ := hrel
            obtain ⟨Al, cl, rfl⟩ := hR.sl
            have HR := Lib.hid hR; have HXI := Lib.hid hext
            have c0 := (HCW.out.ext hext).cell (i := 0) (by simp)
            simp only [List.getElem_cons_zero] at c0
            have hwi : W.heap.size ≤ wr.heap.size := hext.size
            by_cases hin : i < n4
            · have i1 : (0 : Int) ≤ (i : Int) := by omega
              have i2 : (i : Int) < (n4 : Int) := by omega
              have hiK : i < K.length := by have := HN4.out; omega
              have hbit := bit_and s i (by omega) (by omega)
              have hsel : selL K s (i + 1) = if bitB s i = true then selL K s i ++ [K[i]] else selL K s i := by
                show (if bitB s i = true then selL K s i ++ (K[i]?).toList else selL K s i) = _
                rw [List.getElem?_eq_getElem hiK]; rfl
              have HSEL := Lib.hid hsel
              clear hsel
              rcases hbb : bitB s i with _ | _
              · rw [hbb] at hbit
                have HE : Hid (selL K s (i + 1) = selL K s i) := Lib.hid (by rw [HSEL.out, hbb]; rfl)
                clear hbb hR hext
                go_wp2_with fail
                go_roundw
                case rel => exact ⟨i + 1, m, by omega, by go_num, by rw [HE.out]; exact HR.out, by omega, HXI.out⟩
                case measure => simp [intOf]; omega
              · rw [hbb] at hbit
                have HE : Hid (selL K s (i + 1) = selL K s i ++ [K[i]]) := Lib.hid (by rw [HSEL.out, hbb]; rfl)
                obtain ⟨ad, Bt, dt, rfl, -, e0, e1, e2, hd, hcl⟩ := HAT.out i hiK
                have HTT : Hid (Ts (fun k => k < W.heap.size) wr (.slice Bt K[i].terms.length dt) K[i].terms) := Lib.hid ((Ts.old (F := fun k => w4.heap.size ≤ k) ⟨Bt, dt, rfl, hd, hcl⟩).ext hext)
                replace e0 := hext.cell e0; replace e1 := hext.cell e1; replace e2 := hext.cell e2
                obtain ⟨a, ha⟩ : ∃ a, a = K[i] := ⟨_, rfl⟩
                rw [← ha] at e0 e1 e2 HTT HE
                obtain ⟨nt, hnt⟩ : ∃ k, k = a.terms.length := ⟨_, rfl⟩
                obtain ⟨ng, hng⟩ : ∃ k, k = a.neg := ⟨_, rfl⟩
                obtain ⟨ra, hra⟩ : ∃ k, k = a.rel := ⟨_, rfl⟩
                rw [← hng] at e0
                rw [← hra] at e1
                rw [← hnt] at e2 HTT
                have HNG := Lib.hid hng; have HRA := Lib.hid hra
                obtain ⟨vs, hV⟩ := hR
                have HV2 := Lib.hid hV
                clear hbb hd hcl ha hnt hng hra hV hext
                go_wp2_with (first | (at_builtin; refine wpList_append_at rfl _ _ 22 rfl W.heap.size 39 i0 (.agg #[.bool false, .string ⟨#[]⟩, .slice none 0 0]) 3 48 Tryd.underlying22 HI0.out.1 HI0.out.2.1 HI0.out.2.2.1 HI0.out.2.2.2 rfl (by omega) (.slice Al m cl) m (acells (selL K s i) vs) rfl (HV2.out.row.alloc _) ⟨wr.heap.size, 0, none⟩ 1 1 [.bool ng, .string ra, .slice Bt nt dt] rfl rfl (laid_news wr _ _) (by simp [Value.oneCell']) (by simp only [maxLen]; omega) (by omega) (by simp; omega) ?_; intro v8 w8' hr8 hg8 hl8; have HR8 : Hid (AtR w8' W.heap.size v8 (m + 1) (selL K s i ++ [a])) := Lib.hid ⟨_, AtV.more HV2.out ((Ext.refl wr).alloc _) HTT.out (by rw [← HNG.out, ← HRA.out]; exact hr8) hg8⟩; have HE8 : Hid (Ext W w8') := Lib.hid ((HXI.out.alloc _).grown hg8 (fun q hq => own_ge HV2.out.row hq)); clear hr8 hg8 hl8))
                go_roundw
                case rel => exact ⟨i + 1, m + 1, by omega, by go_num, by rw [HE.out]; exact HR8.out, by omega, HE8.out⟩
                case measure => simp [intOf]; omega
            · obtain rfl : i = n4 := by omega
              have hdi : ¬ (i : Int) < (i : Int) := by omega
              obtain ⟨w14, rfl⟩ : ∃ W : World, W = wr := ⟨_, rfl⟩
              have hml := hR.num
              have HAL := Lib.hid hR.ats
              obtain ⟨M, hM⟩ : ∃ M, M = selL K s i := ⟨_, rfl⟩
              rw [← hM] at HAL hml
              have hm6 : m ≤ 6 := by omega
              have hmt : ∀ a ∈ M, a.terms.length ≤ 1000 := fun a ha => by
                rw [hM] at ha
                obtain ⟨j, -, -, hj⟩ := selL_mem ha
                exact HAXK.out.small a (List.mem_of_getElem? hj)
              have hbd := allT_bd hmt
              have hbd2 : (allT M).length ≤ 6000 := by omega
              have HBM := Lib.hid hbd2; have HMM := Lib.hid hM; have HML := Lib.hid hml
              have hcall := vars25 HAL.out (by omega) (by omega)
              obtain ⟨U, hU⟩ : ∃ U, U = varsT (allT M) := ⟨_, rfl⟩
              rw [← hU] at hcall
              have hul : U.length ≤ 6000 := by rw [hU]; have := varsT_length (allT M); omega
              have HCALL2 := Lib.hid hcall; have HU := Lib.hid hU; have HUL := Lib.hid hul
              have HXM := Lib.hid hext
              clear hR hM hmt hbd hbd2 hml hcall hU hul hext
              go_wp2_with fail
              refine HCALL2.out.mono ?_
              rintro e w15 ⟨vv, rfl, he15, hrv⟩
              have HUS := Lib.hid (Strs.of_own hrv)
              obtain ⟨Au, cu, rfl⟩ := own_slice hrv
              have HX15 := Lib.hid (HXM.out.trans he15); have HAL15 := Lib.hid (HAL.out.ext he15)
              clear he15 hrv c0
              go_wp2_with fail
              go_loopw [15, 17] (fun t q wx => ∃ j : Nat, j ≤ p ∧ q = .int .i64 (j : Int) ∧ t = .bool (hasAll U (L.take j)) ∧ Ext w15 wx) (fun _ q _ => p - (intOf q).toNat)
              case atStart => exact ⟨0, Nat.zero_le _, rfl, by simp [hasAll], Ext.refl _⟩
              case round =>
                obtain ⟨j, hj, rfl, rfl, hex⟩ := hrel
                have HEX := Lib.hid hex
                have hbig := ((HXS.out.trans HX15.out).trans hex)
                by_cases hjp : j < p
                · have k1 : (0 : Int) ≤ (j : Int) := by omega
                  have k2 : (j : Int) < (p : Int) := by omega
                  have hjk : j < L.length := by have := HPK.out; omega
                  obtain ⟨adk, rfl, -, e0⟩ := HKCL.out.str hjk
                  replace e0 := hbig.cell e0
                  have htj := hasAll_snoc (V := U) hjk
                  obtain ⟨b, hb⟩ : ∃ b, b = hasAll U (L.take j) := ⟨_, rfl⟩
                  rw [← hb] at htj ⊢
                  obtain ⟨x, hx⟩ : ∃ x, x = L[j] := ⟨_, rfl⟩
                  rw [← hx] at e0 htj
                  obtain ⟨d, hd⟩ : ∃ d, d = decide (x ∈ U) := ⟨_, rfl⟩
                  rw [← hd] at htj
                  have HTJ := Lib.hid htj
                  have hin := in25 (s := x) (HUS.out.ext hex) (by have := HUL.out; omega)
                  rw [← hd] at hin
                  have HIN := Lib.hid hin
                  clear htj hb hx hd hin hex hbig
                  rcases b with _ | _
                  · go_wp2_with fail
                    go_roundw
                    case rel => exact ⟨j + 1, by omega, by go_num, by rw [HTJ.out, Bool.false_and], HEX.out⟩
                    case measure => simp [intOf]; omega
                  · go_wp2_with fail
                    refine HIN.out.mono ?_
                    rintro e w16 ⟨rfl, rfl⟩
                    go_wp2_with fail
                    go_roundw
                    case rel => exact ⟨j + 1, by omega, by go_num, by rw [HTJ.out, Bool.true_and], HEX.out⟩
                    case measure => simp [intOf]; omega
                · obtain rfl : j = p := by omega
                  have hdj : ¬ (j : Int) < (j : Int) := by omega
                  have et : L.take j = L := by rw [HPK.out]; exact List.take_length
                  rw [et]
                  have HBIG := Lib.hid hbig
                  have c0 := (HKC12.out.ext hbig).cell (i := 0) (by simp)
                  simp only [List.getElem_cons_zero] at c0
                  obtain ⟨b, hb⟩ : ∃ b, b = hasAll U L := ⟨_, rfl⟩
                  rw [← hb]
                  rcases b with _ | _
                  · clear et hb hex hbig
                    go_wp2_with fail
                    go_roundw
                    case rel => exact ⟨s + 1, by omega, by omega, by go_num, HBIG.out⟩
                    case measure => simp [intOf]; omega
                  · have hno : homR K L M L = false := by
                      rw [HLK.out, HV.out, HMM.out, HN4.out]
                      refine sel_no HCF.out (by rw [← HN4.out]; have := HPE.out; omega) ?_
                      have h := hb.symm
                      rw [HU.out, HLK.out, HV.out, HMM.out, HN4.out] at h
                      exact h
                    have hcall := hom25 (HAW.out.ext (HX15.out.trans hex)) (HKS.out.ext hbig) (HAL15.out.ext hex) (HKS.out.ext hbig) (Nat.le_refl _) (by have := HN4.out; omega) (by have := HAXK.out.bd.all; have := allT_bd HAXK.out.small; have := HN4.out; omega) (by have := HML.out; omega) (by have := HBM.out; omega) (by have := HPK.out; omega)
                    rw [hno] at hcall
                    have HCALL3 := Lib.hid hcall
                    clear et hb hex hbig hno hcall
                    go_wp2_with fail
                    refine HCALL3.out.mono ?_
                    rintro e w16 ⟨y, rfl, he16, rfl⟩
                    have HE16 := Lib.hid (HBIG.out.trans he16)
                    clear he16 c0
                    go_wp2_with fail
                    go_roundw
                    case rel => exact ⟨s + 1, by omega, by omega, by go_num, HE16.out⟩
                    case measure => simp [intOf]; omega
        · have s1 : ¬ (s : Int) < (P : Int) := by omega
          go_wp2_with fail
          go_ret
          exact Ret.mk (HX12.out.trans HXS.out) rfl
end
end Go.Proofs.YtehklbdgkppmeaaDoor
