/- Contracts: minimize.variables, maps, the closure of Core, slices.ContainsFunc at names. -/
import Derived.Test.YtehklbdgkppmeaaDoorQz
namespace Go.Proofs.YtehklbdgkppmeaaDoor
open Go.RowKit Go.Maps

theorem nodup_len : ∀ {l m : List ByteArray}, l.Nodup → (∀ v ∈ l, v ∈ m) → l.length ≤ m.length
  | [], _, _, _ => Nat.zero_le _
  | v :: l, m, hn, hs => by
    obtain ⟨h1, h2⟩ := List.nodup_cons.1 hn
    obtain ⟨a, b, rfl⟩ := List.append_of_mem (hs v (by simp))
    have h3 := nodup_len (m := a ++ b) h2 (fun u hu => by
      have h4 := hs u (by simp [hu])
      have hne : u ≠ v := fun e => by subst e; exact h1 hu
      simp only [List.mem_append, List.mem_cons] at h4 ⊢
      rcases h4 with h4 | h4 | h4
      · exact .inl h4
      · exact absurd h4 hne
      · exact .inr h4)
    simp only [List.length_append, List.length_cons] at h3 ⊢
    omega
/-- A rule small enough for the search, pure but for its number of atoms. -/
structure Pq (xs : List At) : Prop where
  pu : ∀ a ∈ xs, a.Pu
  len : xs.length ≤ 8
  vars : (varsT (allT xs)).length ≤ 8
  bd : Bd xs
theorem allT_sub {l m : List At} (h : l.Sublist m) : (allT l).Sublist (allT m) := by
  induction h with
  | slnil => exact List.Sublist.refl _
  | cons a h ih => exact ih.trans (by simp [allT])
  | cons_cons a h ih => simp only [allT, List.flatMap_cons] at ih ⊢; exact List.Sublist.append (List.Sublist.refl _) ih
theorem Bd.sub {l m : List At} (h : Bd m) (hs : l.Sublist m) : Bd l :=
  ⟨Nat.le_trans hs.length_le h.len, Nat.le_trans (allT_sub hs).length_le h.all, fun a ha => h.rel a (hs.subset ha), fun a ha => h.str a (hs.subset ha)⟩
theorem Pq.sub {l m : List At} (h : Pq m) (hs : l.Sublist m) : Pq l :=
  ⟨fun a ha => h.pu a (hs.subset ha), Nat.le_trans hs.length_le h.len, Nat.le_trans (nodup_len (varsT_nodup _) (fun v hv => vars_mono (fun a ha => hs.subset ha) hv)) h.vars, h.bd.sub hs⟩
theorem pureL_iff {xs : List At} {nc : Nat} : pureL xs nc = true ↔ (∀ a ∈ xs, a.Pu) ∧ nc = 0 ∧ 1 ≤ xs.length ∧ xs.length ≤ 8 ∧ (varsT (allT xs)).length ≤ 8 := decide_eq_true_iff
theorem Pq.of {xs : List At} {nc : Nat} (h : pureL xs nc = true) (hb : Bd xs) : Pq xs := let ⟨h1, _, _, h2, h3⟩ := pureL_iff.1 h; ⟨h1, h2, h3, hb⟩
theorem Pq.hp {xs : List At} (h : Pq xs) : hpureB xs 0 = true := decide_eq_true ⟨fun a ha => (h.pu a ha).1, rfl⟩
theorem Pq.vsz {xs : List At} (h : Pq xs) : ∀ v ∈ varsT (allT xs), v.size ≤ 1048576 := fun v hv => by
  obtain ⟨t, ht, rfl, -⟩ := varsT_iff.1 hv
  obtain ⟨a, ha, hta⟩ := allT_iff.1 ht
  exact (h.bd.str a ha t hta).1

def VmPost (w : World) (V : List ByteArray) (e : Ending) (w' : World) : Prop := ∃ b n, e = .returned (.map (some b)) ∧ Ext w w' ∧ w.heap.size ≤ b ∧ MapV w' b n (pinF (fun t => decide (t ∈ V)))

set_option maxRecDepth 20000 in
set_option maxHeartbeats 1600000 in
theorem variables_any {F : Nat → Prop} {w : World} {sv : Value} {Ac : Option Addr} {cc : Nat} {xs : List At} (h : Ats F w sv xs) (hbd : Bd xs) :
    Calls Tryd.prog 30 #[.agg #[sv, .slice Ac 0 cc]] w (VmPost w (varsT (allT xs))) := by
  obtain ⟨A, c, rfl⟩ := h.sl
  obtain ⟨n, hn⟩ : ∃ n, n = xs.length := ⟨_, rfl⟩
  rw [← hn] at h ⊢
  have HA := Lib.hid h; have HBD := Lib.hid hbd
  have HSZ : Hid (∀ v ∈ varsT (allT xs), v.size ≤ maxLen) := Lib.hid (fun v hv => by
    obtain ⟨t, ht, rfl, -⟩ := varsT_iff.1 hv
    obtain ⟨a, ha, hta⟩ := allT_iff.1 ht
    have := (hbd.str a ha t hta).1
    simp only [maxLen]
    omega)
  have hvl : (varsT (allT xs)).length ≤ 1048576 := by have h1 := varsT_length (allT xs); have h2 := hbd.all; omega
  clear hn h hbd
  have hmk := @run_makeMap Tryd.prog
  go_enter Tryd.func30, Tryd.ntmps30
  go_wp2_with fail
  have hx1 : Ext w ((w.alloc (.cells #[.slice A n c, .slice Ac 0 cc] 25)).alloc (.map #[] 0)) := ((Ext.refl w).alloc _).alloc _
  have hm1 := MapV.made (w.alloc (.cells #[.slice A n c, .slice Ac 0 cc] 25))
  rw [show (w.alloc (.cells #[.slice A n c, .slice Ac 0 cc] 25)).heap.size = w.heap.size + 1 by simp] at hm1
  generalize ((w.alloc (.cells #[.slice A n c, .slice Ac 0 cc] 25)).alloc (.map #[] 0)) = w1 at *
  have HX1 := Lib.hid hx1; have HM1 := Lib.hid hm1
  have hcall := vars_any (Ac := Ac) (cc := cc) (HA.out.ext hx1) HBD.out
  obtain ⟨V, hV⟩ : ∃ V, V = varsT (allT xs) := ⟨_, rfl⟩
  rw [← hV] at hcall hvl HSZ ⊢
  obtain ⟨nv, hnv⟩ : ∃ k, k = V.length := ⟨_, rfl⟩
  rw [← hnv] at hcall hvl
  have HCALL := Lib.hid hcall; have HNV := Lib.hid hnv; have HV := Lib.hid hV
  clear hcall hV hnv hx1 hm1 hmk
  refine HCALL.out.mono ?_
  rintro e w2 ⟨vv, rfl, he2, hrv⟩
  obtain ⟨Av, cv, rfl⟩ := own_slice hrv
  have HM2 := Lib.hid (HM1.out.ext he2); have HX2 := Lib.hid (HX1.out.trans he2)
  have HRV := Lib.hid hrv
  have HCV : Hid (Cl (fun k => w1.heap.size ≤ k) w2 Av (V.map Sv)) := Lib.hid (by
    obtain ⟨A', c', e, hc', hcl⟩ := Cl.of_own hrv
    injection e with e1 e2 e3
    subst e1
    exact hcl.mono (fun k _ hk => hk.2))
  have hsz : w.heap.size + 1 < w1.heap.size := HM1.out.lt
  clear he2 hrv
  go_wp2_with fail
  have hpin0 : pinF (fun t => decide (t ∈ V.take 0)) = fun _ => none := by funext t; simp [pinF]
  have HPIN0 := Lib.hid hpin0
  clear hpin0
  go_loopw [10] (fun q wr => ∃ i : Nat, i ≤ nv ∧ q = .int .i64 (i : Int) ∧ MapV wr (w.heap.size + 1) i (pinF (fun t => decide (t ∈ V.take i))) ∧ Fr (fun b => b = w.heap.size + 1) w2 wr) (fun q _ => nv - (intOf q).toNat)
  case atStart => exact ⟨0, Nat.zero_le _, rfl, by rw [HPIN0.out]; exact HM2.out, Fr.refl _ _⟩
  case round =>
    obtain ⟨i, hi, rfl, hmi, hfi⟩ := hrel
    by_cases hlt : i < nv
    · have i1 : (0 : Int) ≤ (i : Int) := by omega
      have i2 : (i : Int) < (nv : Int) := by omega
      have hix : i < V.length := by have := HNV.out; omega
      obtain ⟨ad, rfl, hHa, d0⟩ := HCV.out.str hix
      replace d0 := hfi.cell d0 (by rw [block_add]; omega)
      have hsv := HSZ.out _ (List.getElem_mem hix)
      have hpadd := pinF_snoc (V.take i) V[i]
      rw [← List.take_succ_eq_append_getElem hix] at hpadd
      obtain ⟨u, hu⟩ : ∃ u, u = V[i] := ⟨_, rfl⟩
      rw [← hu] at d0 hsv hpadd
      have HPA := Lib.hid hpadd; have HMI := Lib.hid hmi; have HFI := Lib.hid hfi
      clear hpadd hmi hfi hu hHa
      go_wp2_with (first
        | (at_mapUpdate; refine wpList_update_V rfl _ _ _ 68 4 rfl Tryd.underlying68 (w.heap.size + 1) i (pinF (fun t => decide (t ∈ V.take i))) rfl HMI.out (by simp only [maxLen]; omega) u (.bool true) rfl hsv rfl ?_; intro wq hmq hgq; have HMQ := Lib.hid hmq; have HGQ := Lib.hid (HFI.out.grown hgq (fun b e => .inl (by injection e with e; exact e.symm))); clear hmq hgq))
      go_roundw
      case rel => exact ⟨i + 1, by omega, by go_num, by rw [← HPA.out]; exact HMQ.out, HGQ.out⟩
      case measure => simp [intOf]; omega
    · obtain rfl : i = nv := by omega
      have hdn : ¬ (i : Int) < (i : Int) := by omega
      have et : V.take i = V := by rw [HNV.out]; exact List.take_length
      rw [et] at hmi
      have HMI := Lib.hid hmi
      have HXX := Lib.hid (hfi.new HX2.out (fun k hk => by omega))
      clear et hmi hfi
      go_wp2_with fail
      go_ret
      exact ⟨_, i, rfl, HXX.out, by omega, by rw [← HV.out]; exact HMI.out⟩

set_option maxRecDepth 20000 in
set_option maxHeartbeats 1600000 in
theorem maps_any {F G H : Nat → Prop} {w : World} {svF svT vx : Value} {AF AT : Option Addr} {ccF ccT : Nat} {xs ys : List At} {fx : List ByteArray} (hF : Ats F w svF xs) (hT : Ats G w svT ys) (hX : Strs H w vx fx) (hx : Pq xs) (hy : Pq ys) (hfx : fx.length ≤ 1000) (hfs : ∀ v ∈ fx, v.size ≤ 1048576) :
    Calls Tryd.prog 35 #[.agg #[svF, .slice AF 0 ccF], .agg #[svT, .slice AT 0 ccT], vx] w (Ret (fun x _ => x = .bool (findS xs ys fx).isSome) w) := by
  obtain ⟨A, c, rfl⟩ := hF.sl
  obtain ⟨B, d, rfl⟩ := hT.sl
  obtain ⟨C, cC, rfl, hcC, hclC⟩ := hX
  have hcy : (distT (allT ys)).length ≤ 48 := by
    have h1 := distT_length (allT ys)
    have h2 := allT_bd (b := 6) (fun a ha => (hy.pu a ha).2)
    have h3 := hy.len
    omega
  have HCALL : Hid (∀ W, Ext w W → Calls Tryd.prog 52 #[.agg #[.slice A xs.length c, .slice AF 0 ccF], .agg #[.slice B ys.length d, .slice AT 0 ccT], .slice C fx.length cC] W (FindPost xs ys fx W)) := Lib.hid (fun W hW =>
    find_good (hF.ext hW) (hT.ext hW) (Strs.ext (F := H) ⟨C, cC, rfl, hcC, hclC⟩ hW) hx.bd hy.bd (Lib.hid hx.hp) (Lib.hid hy.hp) hx.len hy.len (Lib.hid (fun a ha => (hx.pu a ha).2)) (Lib.hid (fun a ha => (hy.pu a ha).2)) hx.vars hcy hfx (Lib.hid (fun v hv => by have := hfs v hv; simp only [maxLen]; omega)) (Lib.hid (fun v hv => by have := hx.vsz v hv; simp only [maxLen]; omega)))
  obtain ⟨n, hn⟩ : ∃ n, n = xs.length := ⟨_, rfl⟩
  obtain ⟨m, hm⟩ : ∃ n, n = ys.length := ⟨_, rfl⟩
  obtain ⟨nf, hnf⟩ : ∃ n, n = fx.length := ⟨_, rfl⟩
  rw [← hn, ← hm, ← hnf] at HCALL
  rw [← hn, ← hm, ← hnf]
  clear hF hT hclC hx hy hcy hcC hfs hfx hn hm hnf
  go_enter Tryd.func35, Tryd.ntmps35
  go_wp2_with fail
  refine (HCALL.out _ (((Ext.refl w).alloc _).alloc _)).mono ?_
  rintro e w1 ⟨he, hp⟩
  have HE : Hid (Ext w w1) := Lib.hid ((((Ext.refl w).alloc _).alloc _).trans he)
  clear he
  rcases hfs : findS xs ys fx with _ | im
  · rw [hfs] at hp
    have hp : e = .returned (.tuple #[.slice none 0 0, .bool false, .int .i64 0]) := hp
    subst hp
    have HFS := Lib.hid hfs
    clear hfs
    go_wp2_with fail
    go_ret
    exact Ret.mk HE.out (by rw [HFS.out]; rfl)
  · rw [hfs] at hp
    obtain ⟨v, rfl, -⟩ := hp
    have HFS := Lib.hid hfs
    clear hfs
    go_wp2_with fail
    go_ret
    exact Ret.mk HE.out (by rw [HFS.out]; rfl)

theorem MapV.look {w : World} {b n : Nat} {f : ByteArray → Option Value} (h : MapV w b n f) {t e : TypeId} (ht : Tryd.prog.underlying t = some (.map 9 e)) {z : Value} (hz : (zeroValue e).run Tryd.prog w = .ok z w) {s : ByteArray} (hs : s.size ≤ maxLen) {u : Value} (hu : (f s).getD z = u) : (Instr.lookup t (.map (some b)) (.string s) false).run Tryd.prog w = .ok u w := by
  obtain ⟨D, hD, -, hat, -⟩ := h
  obtain ⟨v, ps, hrun, hv⟩ := hD.lookup law_str ht hz (zd := .held z) (zp := []) rfl (keyOf_str s hs)
  have hvu : v = u := by
    have h1 := hat s (.held z)
    rw [h1] at hv
    rcases hf : f s with _ | y
    · rw [hf] at hv hu; simp at hv hu; rw [hv.1, hu]
    · rw [hf] at hv hu; simp at hv hu; rw [hv.1, hu]
  subst hvu
  exact hrun

set_option maxRecDepth 20000 in
set_option maxHeartbeats 800000 in
/-- The closure of Core. -/
theorem core1 {w : World} {s : ByteArray} {g1 g2 b1 b2 n1 n2 : Nat} {V1 V2 : List ByteArray} (h1 : Bk w g1 68 [.map (some b1)]) (h2 : Bk w g2 68 [.map (some b2)]) (m1 : MapV w b1 n1 (pinF (fun t => decide (t ∈ V1)))) (m2 : MapV w b2 n2 (pinF (fun t => decide (t ∈ V2)))) (hs : s.size ≤ maxLen) :
    Calls Tryd.prog 34 #[.string s, .pointer (some ⟨g1, 0, none⟩), .pointer (some ⟨g2, 0, none⟩)] w (Ret (fun x _ => x = .bool (decide (s ∈ V1) && !decide (s ∈ V2))) w) := by
  have c1 := h1.cell (i := 0) (by simp)
  have c2 := h2.cell (i := 0) (by simp)
  simp only [List.getElem_cons_zero] at c1 c2
  have HM1 := Lib.hid m1; have HM2 := Lib.hid m2
  have hp : ∀ V : List ByteArray, (pinF (fun t => decide (t ∈ V)) s).getD (.bool false) = .bool (decide (s ∈ V)) := fun V => by
    unfold pinF
    by_cases h : s ∈ V <;> simp [h]
  have HP1 := Lib.hid (hp V1); have HP2 := Lib.hid (hp V2)
  clear h1 h2 m1 m2 hp
  obtain ⟨x, hx⟩ : ∃ x, x = decide (s ∈ V1) := ⟨_, rfl⟩
  obtain ⟨y, hy⟩ : ∃ y, y = decide (s ∈ V2) := ⟨_, rfl⟩
  rw [← hx] at HP1 ⊢
  rw [← hy] at HP2 ⊢
  clear hx hy
  rcases x with _ | _
  · go_enter Tryd.func34, Tryd.ntmps34
    go_wp2_with (first
      | (at_lookup; refine wpList_lookup_V rfl _ _ 68 4 rfl Tryd.underlying68 (.bool false) (zero_bool _) b1 n1 (pinF (fun t => decide (t ∈ V1))) rfl HM1.out s rfl hs (.bool false) HP1.out ?_))
    go_ret
    exact Ret.mk (Ext.refl w) rfl
  · have l1 := HM1.out.look (e := 4) Tryd.underlying68 (zero_bool _) hs HP1.out
    have l2 := HM2.out.look (e := 4) Tryd.underlying68 (zero_bool _) hs HP2.out
    go_enter Tryd.func34, Tryd.ntmps34
    go_wp2_with fail
    go_ret
    exact Ret.mk (Ext.refl w) rfl

set_option maxRecDepth 20000 in
set_option maxHeartbeats 800000 in
theorem index_core1 {F : Nat → Prop} {w : World} {v : Value} {l : List ByteArray} {g1 g2 : Nat} {p : ByteArray → Bool} (h : Strs F w v l) (hl : l.length ≤ 1048577)
    (hp : ∀ s ∈ l, ∀ W, Ext w W → Calls Tryd.prog 34 #[.string s, .pointer (some ⟨g1, 0, none⟩), .pointer (some ⟨g2, 0, none⟩)] W (Ret (fun x _ => x = .bool (p s)) W)) :
    Calls Tryd.prog 51 #[v, .func (.func 34) #[] #[.pointer (some ⟨g1, 0, none⟩), .pointer (some ⟨g2, 0, none⟩)]] w (Ret (fun x _ => IdxOut l.length (fun i => (l[i]?.map p).getD false) x) w) := by
  obtain ⟨A, c, rfl, hc, hat⟩ := h
  have hq : ∀ i (hi : i < l.length), (fun i => (l[i]?.map p).getD false) i = p l[i] := fun i hi => by simp [List.getElem?_eq_getElem hi]
  obtain ⟨q, hqq⟩ : ∃ q : Nat → Bool, q = (fun i => (l[i]?.map p).getD false) := ⟨fun i => (l[i]?.map p).getD false, rfl⟩
  rw [← hqq] at hq ⊢
  obtain ⟨n, hn⟩ : ∃ n, n = l.length := ⟨_, rfl⟩
  rw [← hn] at hc hl ⊢
  have HN := Lib.hid hn; have HAT := Lib.hid hat; have HP := Lib.hid hp; have HQ := Lib.hid hq
  clear hn hat hp hq hqq
  go_enter Tryd.func51, Tryd.ntmps51
  go_wp2_with fail
  go_loopw [8] (fun q' wr => ∃ i : Nat, i ≤ n ∧ q' = .int .i64 (i : Int) ∧ (∀ j, j < i → q j = false) ∧ Ext w wr) (fun q' _ => n - (intOf q').toNat)
  case atStart => exact ⟨0, Nat.zero_le _, rfl, fun _ h => absurd h (by omega), Ext.refl _⟩
  case round =>
    obtain ⟨i, hi, rfl, hgo, hext⟩ := hrel
    have HGO := Lib.hid hgo; have HE := Lib.hid hext
    clear hgo
    by_cases hlt : i < n
    · have i1 : (0 : Int) ≤ (i : Int) := by omega
      have i2 : (i : Int) < (n : Int) := by omega
      have hix : i < l.length := by have := HN.out; omega
      obtain ⟨ad, rfl, -, c0⟩ := HAT.out.str hix
      replace c0 := hext.cell c0
      have hcall := HP.out _ (List.getElem_mem hix) wr hext
      rw [← HQ.out i hix] at hcall
      have HC := Lib.hid hcall
      clear hext hcall
      generalize l[i] = x0 at *
      go_wp2_with fail
      refine HC.out.mono ?_
      rintro e w2 ⟨x, rfl, he2, rfl⟩
      have HE2 := Lib.hid (HE.out.trans he2)
      clear he2
      rcases hpi : q i with _ | _
      · have HPI := Lib.hid hpi
        clear hpi
        go_wp2_with fail
        go_roundw
        case rel =>
          refine ⟨i + 1, by omega, by go_num, fun j hji => ?_, HE2.out⟩
          rcases Nat.lt_or_ge j i with h | h
          · exact HGO.out j h
          · obtain rfl : j = i := by omega
            exact HPI.out
        case measure => simp [intOf]; omega
      · have HPI := Lib.hid hpi
        clear hpi
        go_wp2_with fail
        go_ret
        exact Ret.mk HE2.out ⟨_, rfl, .inr ⟨i, rfl, hlt, HPI.out⟩⟩
    · obtain rfl : i = n := by omega
      have hdn : ¬ (i : Int) < (i : Int) := by omega
      go_wp2_with fail
      go_ret
      exact Ret.mk HE.out ⟨_, rfl, .inl ⟨rfl, HGO.out⟩⟩
set_option maxRecDepth 20000 in
set_option maxHeartbeats 800000 in
theorem contains_core1 {F : Nat → Prop} {w : World} {v : Value} {l : List ByteArray} {g1 g2 : Nat} {p : ByteArray → Bool} (h : Strs F w v l) (hl : l.length ≤ 1048577)
    (hp : ∀ s ∈ l, ∀ W, Ext w W → Calls Tryd.prog 34 #[.string s, .pointer (some ⟨g1, 0, none⟩), .pointer (some ⟨g2, 0, none⟩)] W (Ret (fun x _ => x = .bool (p s)) W)) :
    Calls Tryd.prog 33 #[v, .func (.func 34) #[] #[.pointer (some ⟨g1, 0, none⟩), .pointer (some ⟨g2, 0, none⟩)]] w (Ret (fun x _ => x = .bool (l.any p)) w) := by
  have HI := Lib.hid (index_core1 h hl hp)
  clear hp
  obtain ⟨A, c, rfl, -⟩ := h
  rw [← anyB_list]
  go_enter Tryd.func33, Tryd.ntmps33
  go_wp2_with fail
  refine HI.out.mono ?_
  rintro e w2 ⟨x, rfl, he2, r, rfl, hr⟩
  have HE2 := Lib.hid he2
  rcases hr with ⟨rfl, hr⟩ | ⟨i, rfl, hi, hr⟩
  · have HR := Lib.hid (anyB_false (p := fun i => (l[i]?.map p).getD false) hr)
    clear hr he2
    go_wp2_with fail
    go_ret
    exact Ret.mk HE2.out (by rw [HR.out]; rfl)
  · have HR := Lib.hid (anyB_true (p := fun i => (l[i]?.map p).getD false) hi hr)
    have hle : decide ((0 : Int) ≤ (i : Int)) = true := decide_eq_true (by omega)
    clear hr he2
    go_wp2_with fail
    go_ret
    exact Ret.mk HE2.out (by rw [HR.out]; rfl)
end Go.Proofs.YtehklbdgkppmeaaDoor
