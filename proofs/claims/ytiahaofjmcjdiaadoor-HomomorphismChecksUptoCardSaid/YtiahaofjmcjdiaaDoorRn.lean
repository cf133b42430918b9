/- The walk of HomomorphismChecks. -/
import Derived.Test.YtiahaofjmcjdiaaDoorRl
namespace Go.Proofs.YtiahaofjmcjdiaaDoor
open Go.RowKit

/-- Everything that the loops read, in the world W behind the making of the images. -/
structure Nc (w W : World) (g gI : Nat) (v0 : Value) (T0 : List Tm) (la lb : List Value) (x1 x2 vv vm : Value) (xa xb : List At) (ps : List (ByteArray × Tm)) : Prop where
  num : NumB W g g v0 T0
  ra : Ras (Away g gI v0) W x1 (xa.map (rat T0))
  rb : Ras (Away g gI v0) W x2 (xb.map (rat T0))
  rv : Ins (Away g gI v0) W vv ((varsT (allT xa)).map (fun v => numT T0 (varT v)))
  pr : Prs (Away g gI v0) W vm ps
  ba : Bk W w.heap.size 25 la
  bb : Bk W (w.heap.size + 1) 25 lb
  fa : Away g gI v0 w.heap.size
  fb : Away g gI v0 (w.heap.size + 1)
  wg : w.heap.size ≤ g
  wi : w.heap.size ≤ gI
  ext : Ext w W
  len : T0.length ≤ 100
theorem Nc.new {w W wr : World} {g gI : Nat} {v0 v : Value} {T0 T : List Tm} {img : List Int} {la lb : List Value} {x1 x2 vv vm : Value} {xa xb : List At} {ps : List (ByteArray × Tm)} (h : Nc w W g gI v0 T0 la lb x1 x2 vv vm xa xb ps) (hc : CkI W wr g gI v0 v T0 T img) : Ext w wr :=
  hc.fr.new h.ext (fun k hk => by
    rcases hk with rfl | hk | rfl
    · exact h.wg
    · exact Nat.le_trans h.wg (own_ge h.num.row hk)
    · exact h.wi)

theorem nc_mk {w wb wc W : World} {g gI nv : Nat} {v2 x1 x2 vv vm : Value} {la lb : List Value} {xa xb : List At} {ps : List (ByteArray × Tm)} (hwg : w.heap.size ≤ g) (hext : Ext w wb) (hn2 : NumB wb g g v2 (tabT (tabT [] (allT xa)) (allT xb))) (hra : Ras (Far g v2 wb) wb x1 (xa.map (rat (tabT [] (allT xa))))) (hrb : Ras (Far g v2 wb) wb x2 (xb.map (rat (tabT (tabT [] (allT xa)) (allT xb)))))
    (hpr : Prs (Far g v2 wb) wb vm ps) (ba : Bk wb w.heap.size 25 la) (bb : Bk wb (w.heap.size + 1) 25 lb) (fa : Far g v2 wb w.heap.size) (fb : Far g v2 wb (w.heap.size + 1)) (hec : Ext wb wc) (hrc : wc.ownsRow wb.heap.size 3 1 vv nv (((varsT (allT xa)).map (fun v => numT (tabT [] (allT xa)) (varT v))).map I64)) (hW : Ext wc W) (hgI : gI = wc.heap.size)
    (hka : ∀ t ∈ allT xa, Kn (tabT [] (allT xa)) t) (hal : (allT xa).length ≤ 30) (hbl : (allT xb).length ≤ 30) : Nc w W g gI v2 (tabT (tabT [] (allT xa)) (allT xb)) la lb x1 x2 vv vm xa xb ps := by
  have p1 := tabT_pre (tabT [] (allT xa)) (allT xb)
  have ka : ∀ t ∈ allT xa, t.key ∈ tabT [] (allT xa) := fun t ht => tabT_mem ht
  have hW2 := hec.trans hW
  have hsz := hec.size
  have hfa : ∀ k, Far g v2 wb k → Away g gI v2 k := fun k h => ⟨h.ne, h.row, by have := h.lt; omega⟩
  rw [rats_pre ka p1] at hra
  have hev : (varsT (allT xa)).map (fun v => numT (tabT [] (allT xa)) (varT v)) = (varsT (allT xa)).map (fun v => numT (tabT (tabT [] (allT xa)) (allT xb)) (varT v)) := List.map_congr_left (fun v hv => by
    obtain ⟨u, hu, rfl, hne⟩ := varsT_iff.1 hv
    exact (numT_pre (((ok_var (hka u hu).2 hne) ▸ hka u hu : Kn _ (varT u.var)).1) p1).symm)
  rw [hev] at hrc
  refine ⟨hn2.ext hW2, (hra.mono (fun k _ h => hfa k h)).ext hW2, (hrb.mono (fun k _ h => hfa k h)).ext hW2, ?_, (hpr.mono (fun k _ h => hfa k h)).ext hW2, ba.ext hW2, bb.ext hW2, hfa _ fa, hfa _ fb, hwg, by have := hext.size; omega, hext.trans hW2, ?_⟩
  · refine Ins.ext ((Ins.of_own hrc).mono (fun k hk h => ⟨own_bk hrc (hn2.ext hec).cell (by decide) h.1, own_ne hrc (hn2.ext hec).row (by decide) h.1, by omega⟩)) hW
  · have l1 := tabT_length [] (allT xa)
    have l2 := tabT_length (tabT [] (allT xa)) (allT xb)
    simp only [List.length_nil] at l1
    omega

set_option maxRecDepth 100000 in
set_option maxHeartbeats 6400000 in
theorem checks_any {F : Nat → Prop} {w : World} {svA svB vm : Value} {CA CB : Option Addr} {na ca nb cb : Nat} {xa xb : List At} {ps : List (ByteArray × Tm)} (hA : Ats F w svA xa) (hB : Ats F w svB xb) (hM : Prs F w vm ps) (ra : Rg xa) (rb : Rg xb) (hpl : ps.length ≤ 1048576) (hpz : ∀ q ∈ ps, (-9223372036854775808 ≤ q.2.kind ∧ q.2.kind ≤ 9223372036854775807 ∧ -9223372036854775808 ≤ q.2.int ∧ q.2.int ≤ 9223372036854775807) ∧ q.1.size ≤ 1048576 ∧ q.2.var.size ≤ 1048576 ∧ q.2.str.size ≤ 1048576) (htab : TabE w) :
    Calls Tryd.prog 4 #[.agg #[svA, .slice CA na ca], .agg #[svB, .slice CB nb cb], vm] w (Ret (fun x _ => x = .bool true) w) := by
  have HA := Lib.hid hA; have HB := Lib.hid hB; have HM := Lib.hid hM; have RA := Lib.hid ra; have RB := Lib.hid rb; have HTAB := Lib.hid htab; have HPL := Lib.hid hpl; have HPZ := Lib.hid hpz
  obtain ⟨A1, c1, n1, h1⟩ : ∃ A c n, svA = .slice A n c := by obtain ⟨A, c, vs, hv, _⟩ := hA; exact ⟨A, c, _, hv⟩
  obtain ⟨A2, c2, n2, h2⟩ : ∃ A c n, svB = .slice A n c := by obtain ⟨A, c, vs, hv, _⟩ := hB; exact ⟨A, c, _, hv⟩
  obtain ⟨A3, c3, np, h3, hnp⟩ : ∃ A c n, vm = .slice A n c ∧ n = ps.length := by obtain ⟨A, c, hv, _⟩ := hM; exact ⟨A, c, _, hv, rfl⟩
  subst h1 h2 h3
  have HNP := Lib.hid hnp
  clear hA hB hM ra rb htab hpl hpz hnp
  go_enter Tryd.func4, Tryd.ntmps4
  go_wp2_with fail
  have h3 := two_new w [.slice A1 n1 c1, .slice CA na ca] [.slice A2 n2 c2, .slice CB nb cb] 25 25 _ rfl
  change Bk ((w.alloc (.cells #[.slice A1 n1 c1, .slice CA na ca] 25)).alloc (.cells #[.slice A2 n2 c2, .slice CB nb cb] 25)) _ _ _ ∧ Bk ((w.alloc (.cells #[.slice A1 n1 c1, .slice CA na ca] 25)).alloc (.cells #[.slice A2 n2 c2, .slice CB nb cb] 25)) _ _ _ ∧ Ext w ((w.alloc (.cells #[.slice A1 n1 c1, .slice CA na ca] 25)).alloc (.cells #[.slice A2 n2 c2, .slice CB nb cb] 25)) at h3
  generalize ((w.alloc (.cells #[.slice A1 n1 c1, .slice CA na ca] 25)).alloc (.cells #[.slice A2 n2 c2, .slice CB nb cb] 25)) = w1 at *
  obtain ⟨k1, k2, hx1⟩ := h3
  have HX : Hid (Bx2 w w1 [.slice A1 n1 c1, .slice CA na ca] [.slice A2 n2 c2, .slice CB nb cb]) := Lib.hid ⟨k1, k2, hx1⟩
  clear k1 k2 hx1
  refine (great_any (HA.out.ext HX.out.ext) RA.out.bd).mono ?_
  rintro e v2 ⟨y, rfl, hen, bA, rfl, hsA⟩
  replace HX := Lib.hid (HX.out.fore hen)
  clear hen
  rcases bA with _ | _
  case true =>
    clear hsA
    go_wp2_with fail
    refine (awake_any (HTAB.out.fore HX.out.ext)).mono ?_
    rintro e wz ⟨y, rfl, hez, rfl⟩
    have HZ := Lib.hid (Ext.trans HX.out.ext hez)
    clear hez
    go_wp2_with fail
    go_ret
    exact Ret.mk HZ.out rfl
  have SMA := Lib.hid (hsA rfl)
  clear hsA
  have a0 := HX.out.a.cell (i := 0) (by simp); have a1 := HX.out.a.cell (i := 1) (by simp); have b0 := HX.out.b.cell (i := 0) (by simp); have b1 := HX.out.b.cell (i := 1) (by simp)
  simp only [List.getElem_cons_zero, List.getElem_cons_succ] at a0 a1 b0 b1
  go_wp2_with fail
  clear a0 a1 b0 b1
  refine (great_any (HB.out.ext HX.out.ext) RB.out.bd).mono ?_
  rintro e v3 ⟨y, rfl, hen, bB, rfl, hsB⟩
  replace HX := Lib.hid (HX.out.fore hen)
  clear hen
  rcases bB with _ | _
  case true =>
    clear hsB
    go_wp2_with fail
    refine (awake_any (HTAB.out.fore HX.out.ext)).mono ?_
    rintro e wz ⟨y, rfl, hez, rfl⟩
    have HZ := Lib.hid (Ext.trans HX.out.ext hez)
    clear hez
    go_wp2_with fail
    go_ret
    exact Ret.mk HZ.out rfl
  have SMB := Lib.hid (hsB rfl)
  clear hsB
  go_wp2_with fail
  refine (odd_any (HM.out.ext HX.out.ext) HPL.out (fun p hp => (HPZ.out p hp).2)).mono ?_
  rintro e v4 ⟨y, rfl, hen, bO, rfl, hsO⟩
  replace HX := Lib.hid (HX.out.fore hen)
  clear hen
  rcases bO with _ | _
  case true =>
    clear hsO
    go_wp2_with fail
    refine (awake_any (HTAB.out.fore HX.out.ext)).mono ?_
    rintro e wz ⟨y, rfl, hez, rfl⟩
    have HZ := Lib.hid (Ext.trans HX.out.ext hez)
    clear hez
    go_wp2_with fail
    go_ret
    exact Ret.mk HZ.out rfl
  have EV := Lib.hid (hsO rfl)
  clear hsO
  go_upto_region 4 with fail
  have hx0 : Ext v4 (v4.alloc (.cells #[.slice none 0 0] 35)) := (Ext.refl _).alloc _
  have HN0 := Lib.hid (num_new v4)
  have HFA : Hid (Ats (Far v4.heap.size (.slice none 0 0) (v4.alloc (.cells #[.slice none 0 0] 35))) (v4.alloc (.cells #[.slice none 0 0] 35)) (.slice A1 n1 c1) xa) := Lib.hid (((HA.out.ext HX.out.ext).mono (fun k hk _ => far_new _ hk)).ext hx0)
  have HFB : Hid (Ats (Far v4.heap.size (.slice none 0 0) (v4.alloc (.cells #[.slice none 0 0] 35))) (v4.alloc (.cells #[.slice none 0 0] 35)) (.slice A2 n2 c2) xb) := Lib.hid (((HB.out.ext HX.out.ext).mono (fun k hk _ => far_new _ hk)).ext hx0)
  have HFM : Hid (Prs (Far v4.heap.size (.slice none 0 0) (v4.alloc (.cells #[.slice none 0 0] 35))) (v4.alloc (.cells #[.slice none 0 0] 35)) (.slice A3 np c3) ps) := Lib.hid (((HM.out.ext HX.out.ext).mono (fun k hk _ => far_new _ hk)).ext hx0)
  have HF1 : Hid (Far v4.heap.size (.slice none 0 0) (v4.alloc (.cells #[.slice none 0 0] 35)) w.heap.size) := Lib.hid (far_new _ HX.out.a.lt)
  have HF2 : Hid (Far v4.heap.size (.slice none 0 0) (v4.alloc (.cells #[.slice none 0 0] 35)) (w.heap.size + 1)) := Lib.hid (far_new _ HX.out.b.lt)
  have hwg : w.heap.size ≤ v4.heap.size := HX.out.ext.size
  replace HX := Lib.hid (HX.out.fore hx0)
  have hgl : v4.heap.size < (v4.alloc (.cells #[.slice none 0 0] 35)).heap.size := by simp
  clear hx0
  generalize (v4.alloc (.cells #[.slice none 0 0] 35)) = V0 at *
  obtain ⟨g, hg⟩ : ∃ g, g = v4.heap.size := ⟨_, rfl⟩
  rw [← hg] at HN0 HFA HFB HFM HF1 HF2 hgl hwg ⊢
  clear hg
  have a0 := HX.out.a.cell (i := 0) (by simp); have a1 := HX.out.a.cell (i := 1) (by simp); have b0 := HX.out.b.cell (i := 0) (by simp); have b1 := HX.out.b.cell (i := 1) (by simp)
  simp only [List.getElem_cons_zero, List.getElem_cons_succ] at a0 a1 b0 b1
  have hal : (allT xa).length ≤ 30 := by have h1 := allT_small (fun a ha => (SMA.out.terms a ha).1); have h2 := SMA.out.len; omega
  have hbl : (allT xb).length ≤ 30 := by have h1 := allT_small (fun a ha => (SMB.out.terms a ha).1); have h2 := SMB.out.len; omega
  have hd0 : Ext V0 V0.drew := (Ext.refl V0).drew
  have HC1 := Lib.hid (atoms_any (Ac := CA) (nc := na) (cc := ca) (HN0.out.ext hd0) (HFA.out.ext hd0) Far.use (by simp; omega) (by have := SMA.out.len; omega) (by have := hd0.size; omega) (fun k hk => Nat.lt_of_lt_of_le hk.lt hd0.size))
  have hgd : g < V0.drew.heap.size := by have := hd0.size; omega
  have hta := tabT_length [] (allT xa)
  have HD0 := Lib.hid hd0
  clear hd0
  go_region_held3 (fun V => V.cell? ⟨w.heap.size, 0, none⟩ = some (.slice A1 n1 c1) ∧ V.cell? ⟨w.heap.size, 1, none⟩ = some (.slice CA na ca) ∧ V.cell? ⟨w.heap.size + 1, 0, none⟩ = some (.slice A2 n2 c2) ∧ V.cell? ⟨w.heap.size + 1, 1, none⟩ = some (.slice CB nb cb))
    (first | exact ⟨a0, a1, b0, b1⟩ | exact hS1 | exact hS2)
    (first
      | (go_at_call 11; with_reducible refine HC1.out.mono ?_; intro e wa hp1; obtain ⟨x1, v1, rfl, hn1, hf1, hl1, hr1⟩ := atoms_far hgd hp1; have hS1 := bx_cells HX.out HD0.out hf1 HF1.out HF2.out; clear hp1)
      | (go_at_call 11; with_reducible refine (atoms_any (Ac := CB) (nc := nb) (cc := cb) (xs := xb) hn1 (far_ats HFB.out HD0.out hf1 hl1) Far.use (by simp at hta; omega) (by have := SMB.out.len; omega) (by have := hf1.size; omega) Far.below).mono ?_; intro e wb hp2; obtain ⟨x2, v2, rfl, hn2, hf2, hl2, hr2⟩ := atoms_far (by have := hf1.size; omega) hp2; have hS2 := bx_cells2 hS1 hf2 (far_far HF1.out HD0.out hf1 hl1) (far_far HF2.out HD0.out hf1 hl1); clear hp2))
  have hwa : Ext w wa := hf1.new (HX.out.ext.trans HD0.out) (fun k hk => by
    rcases hk with hk | hk
    · omega
    · simp [Value.ownBlock] at hk)
  have hwb : Ext w wb := hf2.new hwa (fun k hk => by
    rcases hk with rfl | hk
    · exact hwg
    · exact Nat.le_trans hwg (own_ge hn1.row hk))
  have HWB := Lib.hid hwb; have HN2 := Lib.hid hn2; have HR2 := Lib.hid hr2; have HR1 := Lib.hid (far_ras hr1 (Ext.refl wa) hf2 hl2); have HM2 := Lib.hid (far_prs (far_prs HFM.out HD0.out hf1 hl1) (Ext.refl wa) hf2 hl2)
  have HG1 := Lib.hid (far_far (far_far HF1.out HD0.out hf1 hl1) (Ext.refl wa) hf2 hl2); have HG2 := Lib.hid (far_far (far_far HF2.out HD0.out hf1 hl1) (Ext.refl wa) hf2 hl2)
  have HB1 := Lib.hid (((HX.out.a.ext HD0.out).fr hf1 (HF1.out.ext HD0.out).off).fr hf2 (far_far HF1.out HD0.out hf1 hl1).off)
  have HB2 := Lib.hid (((HX.out.b.ext HD0.out).fr hf1 (HF2.out.ext HD0.out).off).fr hf2 (far_far HF2.out HD0.out hf1 hl1).off)
  have hgb : g < wb.heap.size := hn2.cell.lt
  simp only [List.length_nil] at hta
  clear a0 a1 b0 b1 hS1 hS2 hn1 hf1 hl1 hr1 hn2 hf2 hl2 hr2 hwa hwb HX HD0 HC1 HFM HFA HFB HF1 HF2 hgd hgl
  rename_i _ hHeld
  clear hHeld
  go_wp2_with fail
  refine (terms_ref HR1.out (by have := SMA.out.len; simp; omega) (by rw [allR_rats, List.length_map]; omega)).mono ?_
  rintro e wc ⟨y, rfl, hec, hrc⟩
  have HKA1 : Hid (∀ t ∈ allT xa, Kn (tabT [] (allT xa)) t) := Lib.hid (fun t ht => ⟨tabT_mem ht, by obtain ⟨a, ha, hta⟩ := allT_iff.1 ht; exact (SMA.out.str a ha t hta).2⟩)
  rw [allR_rats, vars_num HKA1.out, List.length_map] at hrc
  obtain ⟨nv, hnv⟩ : ∃ nv, nv = (varsT (allT xa)).length := ⟨_, rfl⟩
  rw [← hnv] at hrc
  have hnv4 : nv ≤ 4 := by rw [hnv]; exact Nat.le_trans (vars_small xa) SMA.out.vars
  obtain ⟨Av, cv, rfl⟩ := own_slice hrc
  have HNV := Lib.hid hnv; have HEC := Lib.hid hec; have HRC := Lib.hid hrc
  clear hnv hec hrc
  have hmk := fun W => make_row (P := Tryd.prog) 38 3 (.int .i64 0) 8 Tryd.underlying38 info_int rfl nv (by omega) (by omega) W
  go_wp2_with fail
  clear hmk
  have kI := Bk.new wc 3 (List.replicate nv (.int .i64 0))
  rw [List.toArray_replicate] at kI
  have hxI : Ext wc (wc.alloc (.cells (Array.replicate nv (Value.int .i64 0)) 3)) := (Ext.refl wc).alloc _
  generalize (wc.alloc (.cells (Array.replicate nv (Value.int .i64 0)) 3)) = W5 at *
  have HNC := Lib.hid (nc_mk hwg HWB.out HN2.out HR1.out HR2.out HM2.out HB1.out HB2.out HG1.out HG2.out HEC.out HRC.out hxI rfl HKA1.out hal hbl)
  obtain ⟨gI, hgI⟩ : ∃ gI, gI = wc.heap.size := ⟨_, rfl⟩
  rw [← hgI] at HNC kI ⊢
  have HKI := Lib.hid kI
  clear kI hxI hgI HWB HN2 HR1 HR2 HM2 HB1 HB2 HG1 HG2 HEC HRC HKA1
  obtain ⟨T0, hT0⟩ : ∃ T0, T0 = tabT (tabT [] (allT xa)) (allT xb) := ⟨_, rfl⟩
  have HKA : Hid (∀ t ∈ allT xa, Kn T0 t) := Lib.hid (fun t ht => ⟨by rw [hT0]; exact (tabT_pre _ _).subset (tabT_mem ht), by obtain ⟨a, ha, hta⟩ := allT_iff.1 ht; exact (SMA.out.str a ha t hta).2⟩)
  have HKB : Hid (∀ t ∈ allT xb, Kn T0 t) := Lib.hid (fun t ht => ⟨by rw [hT0]; exact tabT_mem ht, by obtain ⟨a, ha, hta⟩ := allT_iff.1 ht; exact (SMB.out.str a ha t hta).2⟩)
  rw [← hT0] at HNC
  clear hT0
  have hnp8 : np ≤ 8 := by have := EV.out.len; have := HNP.out; omega
  obtain ⟨vs, hvs⟩ : ∃ vs, vs = varsT (allT xa) := ⟨_, rfl⟩
  have HVS := Lib.hid hvs
  rw [← hvs] at HNV
  clear hvs
  go_loopw [12, 43] (fun c q wr => ∃ (i cnt : Nat) (v : Value) (T : List Tm) (img : List Int), i ≤ nv ∧ q = .int .i64 (i : Int) ∧ c = .int .i64 (cnt : Int) ∧ cnt ≤ i * 8 ∧ T.length ≤ 100 + 2 * (i * 8) ∧ CkI W5 wr g gI v2 v T0 T img ∧ PlI vs ps T img cnt i 0) (fun _ q _ => nv - (intOf q).toNat)
  case atStart =>
    refine ⟨0, 0, v2, T0, List.replicate nv (0 : Int), Nat.zero_le _, rfl, rfl, by omega, by have := HNC.out.len; omega, ⟨HNC.out.num, List.prefix_refl _, ?_, Fr.refl _ _, .inl rfl⟩, ?_⟩
    · rw [List.map_replicate]; exact HKI.out
    · rw [HNV.out]; exact PlI.start vs ps T0
  case round =>
    obtain ⟨i, cnt, v, T, img, hi, rfl, rfl, hcn, hTl, hC, hP⟩ := hrel
    obtain ⟨wo, rfl⟩ : ∃ wo : World, wo = wr := ⟨_, rfl⟩
    have HC := Lib.hid hC; have HP := Lib.hid hP
    by_cases hlt : i < nv
    · have i1 : (0 : Int) ≤ (i : Int) := by omega
      have i2 : (i : Int) < (nv : Int) := by omega
      have hiv : i < vs.length := by have := HNV.out; omega
      obtain ⟨Bv, dv, ev, -, clv⟩ := HNC.out.rv
      injection ev with ev ev1 ev2
      subst ev
      clear ev1 ev2
      obtain ⟨adv, rfl, hFv, q0⟩ := clv.int (i := i) (by rw [List.length_map, ← HVS.out]; exact hiv)
      replace q0 := hC.fr.cell q0 (by rw [block_add]; exact hFv.off)
      obtain ⟨vz, hvz⟩ : ∃ vz, vz = numT T0 (varT vs[i]) := ⟨_, rfl⟩
      have eq0 : ((varsT (allT xa)).map (fun v => numT T0 (varT v)))[i]'(by rw [List.length_map, ← HVS.out]; exact hiv) = vz := by rw [List.getElem_map, hvz]; simp only [HVS.out]
      rw [eq0] at q0
      have HVZ := Lib.hid hvz
      clear hvz eq0 clv hFv hC hP
      go_wp2_with fail
      clear q0
      go_loopw [12, 50] (fun c q wr => ∃ (j cnt : Nat) (v : Value) (T : List Tm) (img : List Int), j ≤ np ∧ q = .int .i64 (j : Int) ∧ c = .int .i64 (cnt : Int) ∧ cnt ≤ i * 8 + j ∧ T.length ≤ 100 + 2 * (i * 8 + j) ∧ CkI W5 wr g gI v2 v T0 T img ∧ PlI vs ps T img cnt i j) (fun _ q _ => np - (intOf q).toNat)
      case atStart => exact ⟨0, cnt, v, T, img, Nat.zero_le _, rfl, rfl, by omega, by omega, HC.out, HP.out⟩
      case round =>
        clear HC HP hcn hTl
        obtain ⟨j, cnt, v, T, img, hj, rfl, rfl, hcn, hTl, hC, hP⟩ := hrel
        have HC := Lib.hid hC; have HP := Lib.hid hP
        by_cases hjt : j < np
        · have j1 : (0 : Int) ≤ (j : Int) := by omega
          have j2 : (j : Int) < (np : Int) := by omega
          have hjp : j < ps.length := by have := HNP.out; omega
          obtain ⟨Bm, dm, em, -, clm⟩ := HNC.out.pr
          injection em with em em1 em2
          subst em
          clear em1 em2
          obtain ⟨adm, rfl, hFm, p0, p1, p2, p3, p4⟩ := clm.pair (i := j) hjp
          replace p0 := hC.fr.cell p0 (by rw [block_add]; exact hFm.off)
          replace p1 := hC.fr.cell p1 (by simp only [block_add]; exact hFm.off)
          replace p2 := hC.fr.cell p2 (by simp only [block_add]; exact hFm.off)
          replace p3 := hC.fr.cell p3 (by simp only [block_add]; exact hFm.off)
          replace p4 := hC.fr.cell p4 (by simp only [block_add]; exact hFm.off)
          obtain ⟨pr, hpr⟩ : ∃ pr, pr = ps[j] := ⟨_, rfl⟩
          rw [← hpr] at p0 p1 p2 p3 p4
          obtain ⟨s, x⟩ := pr
          simp only at p0 p1 p2 p3 p4
          have HPR := Lib.hid hpr
          clear hpr clm hFm hC hP
          go_upto_region 14 with fail
          have kb := Bk.new wr 49 [.string s, .string x.var, .int .i64 x.kind, .int .i64 x.int, .string x.str]
          change Bk (wr.alloc (.cells #[.string s, .string x.var, .int .i64 x.kind, .int .i64 x.int, .string x.str] 49)) _ _ _ at kb
          have hxb : Ext wr (wr.alloc (.cells #[.string s, .string x.var, .int .i64 x.kind, .int .i64 x.int, .string x.str] 49)) := (Ext.refl wr).alloc _
          generalize (wr.alloc (.cells #[.string s, .string x.var, .int .i64 x.kind, .int .i64 x.int, .string x.str] 49)) = wB at *
          have HCB := Lib.hid (HC.out.fore hxb); have HKB2 := Lib.hid kb
          have hgr : g < wr.heap.size := HC.out.num.cell.lt
          have hrr : ∀ k, v.ownBlock = some k → k < wr.heap.size := fun k hk => (HC.out.num.row.lt k hk).2
          have hwB : wr.heap.size < wB.heap.size := kb.lt
          have HFARB : Hid (Far g v wB wr.heap.size) := Lib.hid ⟨by omega, fun e => by have := hrr _ e; omega, hwB⟩
          have k0 := kb.cell (i := 0) (by simp)
          simp only [List.getElem_cons_zero, List.getElem_cons_succ] at k0
          have hvi : vs[i] ∈ varsT (allT xa) := by rw [← HVS.out]; exact List.getElem_mem hiv
          have HKV : Hid (Kn T0 (varT vs[i]) ∧ vs[i] ≠ ⟨#[]⟩) := Lib.hid (by
            obtain ⟨u, hu, hus, hne⟩ := varsT_iff.1 hvi
            have h1 := HKA.out u hu
            rw [ok_var h1.2 (by rw [hus]; exact hne), hus] at h1
            exact ⟨h1, hne⟩)
          clear p0 p1 p2 p3 p4 kb hxb hrr hvi HC
          by_cases hse : s = ⟨#[]⟩
          · have hse2 := var_eq hse
            have HNE : Hid (ps[j].1 ≠ vs[i]) := Lib.hid (by rw [← HPR.out]; intro e; exact HKV.out.2 (by rw [← e]; exact hse))
            clear hse
            go_wp2_with fail
            go_roundw
            case rel => exact ⟨j + 1, cnt, v, T, img, by omega, by go_num, rfl, by omega, by omega, HCB.out, HP.out.miss hiv hjp HNE.out⟩
            case measure => simp [intOf]; omega
          · have hse2 := var_ne hse
            have HSE := Lib.hid hse
            clear hse
            go_wp2_with fail
            refine (of_any (t := varT s) HCB.out.num (by omega) (by omega)).mono ?_
            rintro e wx ⟨z, v', rfl, hz, hn', hf', hl'⟩
            have HCX := Lib.hid (HCB.out.of hn' hf' hl')
            have HKX := Lib.hid (HKB2.out.fr hf' HFARB.out.off)
            have HFARX := Lib.hid (HFARB.out.step hf' hl')
            have hTx := addT_length T (varT s)
            have HPX := Lib.hid (HP.out.grow (addT_pre T (varT s)))
            have hKs : Kn (addT T (varT s)) (varT s) := ⟨addT_mem _ _, varT_ok s⟩
            have hKvi : Kn (addT T (varT s)) (varT vs[i]) := ⟨(addT_pre _ _).subset (HCB.out.pre.subset HKV.out.1.1), varT_ok _⟩
            have hzz : z = numT (addT T (varT s)) (varT s) := by rw [hz, numT_add]
            have hvv : vz = numT (addT T (varT s)) (varT vs[i]) := by rw [HVZ.out]; exact (numT_pre HKV.out.1.1 (HCB.out.pre.trans (addT_pre _ _))).symm
            have HEQ : Hid (z = vz → ps[j].1 = vs[i]) := Lib.hid (fun e => by
              have h1 := numT_inj hKs hKvi (by rw [← hzz, ← hvv, e])
              injection h1 with h1
              rw [← HPR.out]; exact h1)
            have HNEQ : Hid (z ≠ vz → ps[j].1 ≠ vs[i]) := Lib.hid (fun e e2 => e (by
              rw [← HPR.out] at e2
              have e2 : s = vs[i] := e2
              rw [hzz, hvv, e2]))
            obtain ⟨T2, hT2⟩ : ∃ T2, T2 = addT T (varT s) := ⟨_, rfl⟩
            rw [← hT2] at HCX HPX hTx
            clear hz hn' hf' hl' hKs hKvi hzz hvv hT2 k0 HCB HKB2 HFARB HP
            by_cases hze : z = vz
            · have HHIT := Lib.hid (HEQ.out hze)
              subst hze
              have k1 := HKX.out.cell (i := 1) (by simp); have k2 := HKX.out.cell (i := 2) (by simp); have k3 := HKX.out.cell (i := 3) (by simp); have k4 := HKX.out.cell (i := 4) (by simp)
              simp only [List.getElem_cons_zero, List.getElem_cons_succ] at k1 k2 k3 k4
              go_wp2_with fail
              refine (of_any (t := x) HCX.out.num (by omega) (Nat.le_of_lt HCX.out.num.cell.lt)).mono ?_
              rintro e wy ⟨z2, v'', rfl, hz2, hn2, hf2, hl2⟩
              have HCY := Lib.hid (HCX.out.of hn2 hf2 hl2)
              have hTy := addT_length T2 x
              have HPY := Lib.hid (HPX.out.grow (addT_pre T2 x))
              have HZ2 : Hid (z2 = numT (addT T2 x) x ∧ x.key ∈ addT T2 x) := Lib.hid ⟨by rw [hz2, numT_add], addT_mem _ _⟩
              obtain ⟨T3, hT3⟩ : ∃ T3, T3 = addT T2 x := ⟨_, rfl⟩
              rw [← hT3] at HCY HPY HZ2 hTy
              clear hz2 hn2 hf2 hl2 hT3 k1 k2 k3 k4 HKX HFARX HPX HCX
              have f0 := HCY.out.img.free i
              have hil : i < (img.map I64).length := by rw [List.length_map, HPY.out.len]; exact hiv
              obtain ⟨u5, k5⟩ : ∃ u5, wy.cell? ⟨gI, i, none⟩ = some u5 := ⟨_, HCY.out.img.cell hil⟩
              have hgl2 : gI < wy.heap.size := HCY.out.img.lt
              have hadd : (⟨gI, 0, none⟩ : Addr).add i = ⟨gI, i, none⟩ := add_own gI i
              have hcb : cnt ≤ 100 := by omega
              clear hil
              go_wp2_with fail
              go_roundw
              case rel => exact ⟨j + 1, cnt + 1, v'', T3, img.set i z2, by omega, by go_num, by go_num, by omega, by omega, HCY.out.set i z2, HPY.out.hit hiv hjp HHIT.out (by rw [← HPR.out]; exact HZ2.out.2) (by rw [← HPR.out]; exact HZ2.out.1)⟩
              case measure => simp [intOf]; omega
            · have HMISS := Lib.hid (HNEQ.out hze)
              have hze2 : (z == vz) = false := by simp [hze]
              clear hze
              go_wp2_with fail
              go_roundw
              case rel => exact ⟨j + 1, cnt, v', T2, img, by omega, by go_num, rfl, by omega, by omega, HCX.out, HPX.out.miss hiv hjp HMISS.out⟩
              case measure => simp [intOf]; omega
        · obtain rfl : j = np := by omega
          have hdn2 : ¬ (j : Int) < (j : Int) := by omega
          clear hC hP
          go_wp2_with fail
          go_roundw
          case rel => exact ⟨i + 1, cnt, v, T, img, by omega, by go_num, rfl, by omega, by omega, HC.out, PlI.turn (by have h := HP.out; rw [HNP.out] at h; exact h) hiv⟩
          case measure => simp [intOf]; omega
    · obtain rfl : i = nv := by omega
      have hdn : ¬ (i : Int) < (i : Int) := by omega
      have HPE : Hid (img = vs.map (fun v => imgN T (lastP ps v)) ∧ cnt = cntV vs ps ∧ ∀ p ∈ ps, p.1 ∈ vs → p.2.key ∈ T) := Lib.hid (PlI.end (by have h := HP.out; rw [HNV.out] at h; exact h))
      have hcb : cnt ≤ 100 := by omega
      clear hC hP HP
      have ba := HNC.out.ba.fr HC.out.fr HNC.out.fa.off; have bb := HNC.out.bb.fr HC.out.fr HNC.out.fb.off
      have HW := Lib.hid (HNC.out.new HC.out)
      have HBX := Lib.hid (And.intro ba bb)
      clear ba bb
      obtain ⟨nv, rfl⟩ : ∃ nv : Nat, nv = i := ⟨_, rfl⟩
      obtain ⟨wE, rfl⟩ : ∃ wE : World, wE = wo := ⟨_, rfl⟩
      have HKA2 : Hid (∀ t ∈ allT xa, Kn T t) := Lib.hid (fun t ht => ⟨HC.out.pre.subset (HKA.out t ht).1, (HKA.out t ht).2⟩)
      have HKB3 : Hid (∀ t ∈ allT xb, Kn T t) := Lib.hid (fun t ht => ⟨HC.out.pre.subset (HKB.out t ht).1, (HKB.out t ht).2⟩)
      by_cases hq1 : cnt = np
      case neg =>
        have HNEX : Hid (¬ ExactP vs ps) := Lib.hid (fun h => hq1 (by rw [HPE.out.2.1, h.1]; exact HNP.out.symm))
        have hq1' : ((cnt : Int) == (np : Int)) = false := by have : ¬ (cnt : Int) = (np : Int) := by omega
                                                              simp [this]
        clear hq1
        go_wp2_with fail
        go_loopw [17, 87] (fun t q wr => ∃ i : Nat, i ≤ np ∧ q = .int .i64 (i : Int) ∧ t = .bool false ∧ Ext wE wr) (fun _ q _ => np - (intOf q).toNat)
        case atStart => exact ⟨0, Nat.zero_le _, rfl, rfl, Ext.refl _⟩
        case round =>
          obtain ⟨i, hi, rfl, rfl, hext⟩ := hrel
          obtain ⟨wo, rfl⟩ : ∃ wo : World, wo = wr := ⟨_, rfl⟩
          have HE := Lib.hid hext
          clear hext
          by_cases hlt : i < np
          · have i1 : (0 : Int) ≤ (i : Int) := by omega
            have i2 : (i : Int) < (np : Int) := by omega
            go_wp2_with fail
            go_loopw [17, 91] (fun t q wr => ∃ k : Nat, k ≤ i ∧ q = .int .i64 (k : Int) ∧ t = .bool false ∧ Ext wE wr) (fun _ q _ => i - (intOf q).toNat)
            case atStart => exact ⟨0, Nat.zero_le _, rfl, rfl, HE.out⟩
            case round =>
              obtain ⟨k, hk, rfl, rfl, hext⟩ := hrel
              have HE2 := Lib.hid hext
              clear hext
              by_cases hkt : k < i
              · have k1 : (0 : Int) ≤ (k : Int) := by omega
                have k2 : (k : Int) < (i : Int) := by omega
                go_upto_region 26 with fail
                go_quiet (fail)
                go_wp2_with fail
                go_roundw
                case rel => exact ⟨k + 1, by omega, by go_num, rfl, HE2.out.drewN _⟩
                case measure => simp [intOf]; omega
              · obtain rfl : k = i := by omega
                have hdk : ¬ (k : Int) < (k : Int) := by omega
                go_wp2_with fail
                go_roundw
                case rel => exact ⟨k + 1, by omega, by go_num, rfl, HE2.out⟩
                case measure => simp [intOf]; omega
          · obtain rfl : i = np := by omega
            have hdi : ¬ (i : Int) < (i : Int) := by omega
            have a0 := (HBX.out.1.ext HE.out).cell (i := 0) (by simp); have a1 := (HBX.out.1.ext HE.out).cell (i := 1) (by simp); have b0 := (HBX.out.2.ext HE.out).cell (i := 0) (by simp); have b1 := (HBX.out.2.ext HE.out).cell (i := 1) (by simp)
            simp only [List.getElem_cons_zero, List.getElem_cons_succ] at a0 a1 b0 b1
            go_wp2_with fail
            clear a0 a1 b0 b1
            by_cases hpp : lpureB xa na = true ∧ lpureB xb nb = true
            case neg =>
              have HPP := Lib.hid hpp
              clear hpp
              refine (check_bad (HA.out.ext (HW.out.trans HE.out)) (HB.out.ext (HW.out.trans HE.out)) RA.out.bd RB.out.bd (Lib.hid (by
                rcases ha : lpureB xa na with _ | _
                · exact .inl (hpureB_bad ha)
                · rcases hb : lpureB xb nb with _ | _
                  · exact .inr (hpureB_bad hb)
                  · exact absurd ⟨ha, hb⟩ HPP.out))).mono ?_
              rintro e wk ⟨y, rfl, hek, rfl⟩
              have HK := Lib.hid ((HW.out.trans HE.out).trans hek)
              clear hek
              go_wp2_with fail
              refine (awake_any (HTAB.out.fore HK.out)).mono ?_
              rintro e wz ⟨y, rfl, hez, rfl⟩
              have HZ := Lib.hid (Ext.trans HK.out hez)
              clear hez
              go_wp2_with fail
              go_ret
              exact Ret.mk HZ.out rfl
            obtain ⟨hpa, hpb⟩ := hpp
            have HPA := Lib.hid hpa; have HPB := Lib.hid hpb
            clear hpa hpb
            obtain ⟨gA, rfl⟩ := lpureB_out HPA.out
            obtain ⟨gB, rfl⟩ := lpureB_out HPB.out
            have SA : Hid (Sp xa) := Lib.hid ⟨RA.out, SMA.out, gA⟩
            have SB : Hid (Sp xb) := Lib.hid ⟨RB.out, SMB.out, gB⟩
            have HLAW := Lib.hid (checks_law (T := T) (ps := ps) HKA2.out HKB3.out gA gB (fun p hp => (EV.out.ok p hp).2) (by rw [← HVS.out]; exact HPE.out.2.2))
            clear gA gB
            refine (check_good (HA.out.ext (HW.out.trans HE.out)) (HB.out.ext (HW.out.trans HE.out)) (HM.out.ext (HW.out.trans HE.out)) SA.out.aok SB.out.aok (Lib.hid SA.out.pure) (Lib.hid SB.out.pure) (Lib.hid (fun q hq => Nat.le_trans (HPZ.out q hq).2.1 (by simp [maxLen]))) (by have := HNP.out; omega) (HTAB.out.fore (HW.out.trans HE.out)) (Lib.hid (fun v hv => Nat.le_trans (SA.out.vsize v hv) (by simp [maxLen]))) (Lib.hid (fun s t hs => by
              obtain ⟨hr, -, h1, h2⟩ := HPZ.out _ (firstP_mem hs)
              exact ⟨h1, h2, hr.1, hr.2.1, hr.2.2.1, hr.2.2.2⟩))).mono ?_
            rintro e wk ⟨y, rfl, hek, rfl⟩
            rw [HLAW.out]
            rw [← HVS.out, exactB_no HNEX.out, Bool.false_and]
            have HK := Lib.hid ((HW.out.trans HE.out).trans hek)
            clear hek
            go_wp2_with fail
            refine (awake_any (HTAB.out.fore HK.out)).mono ?_
            rintro e wz ⟨y, rfl, hez, rfl⟩
            have HZ := Lib.hid (Ext.trans HK.out hez)
            clear hez
            go_wp2_with fail
            go_ret
            exact Ret.mk HZ.out rfl
      by_cases hq2 : cnt = nv
      case neg =>
        have HNEX : Hid (¬ ExactP vs ps) := Lib.hid (fun h => hq2 (by rw [HPE.out.2.1, h.2.1]; exact HNV.out.symm))
        have hq2' : ((cnt : Int) == (nv : Int)) = false := by have : ¬ (cnt : Int) = (nv : Int) := by omega
                                                              simp [this]
        have hq1' : ((cnt : Int) == (np : Int)) = true := by simp [hq1]
        clear hq1 hq2
        go_wp2_with fail
        go_loopw [17, 87] (fun t q wr => ∃ i : Nat, i ≤ np ∧ q = .int .i64 (i : Int) ∧ t = .bool false ∧ Ext wE wr) (fun _ q _ => np - (intOf q).toNat)
        case atStart => exact ⟨0, Nat.zero_le _, rfl, rfl, Ext.refl _⟩
        case round =>
          obtain ⟨i, hi, rfl, rfl, hext⟩ := hrel
          obtain ⟨wo, rfl⟩ : ∃ wo : World, wo = wr := ⟨_, rfl⟩
          have HE := Lib.hid hext
          clear hext
          by_cases hlt : i < np
          · have i1 : (0 : Int) ≤ (i : Int) := by omega
            have i2 : (i : Int) < (np : Int) := by omega
            go_wp2_with fail
            go_loopw [17, 91] (fun t q wr => ∃ k : Nat, k ≤ i ∧ q = .int .i64 (k : Int) ∧ t = .bool false ∧ Ext wE wr) (fun _ q _ => i - (intOf q).toNat)
            case atStart => exact ⟨0, Nat.zero_le _, rfl, rfl, HE.out⟩
            case round =>
              obtain ⟨k, hk, rfl, rfl, hext⟩ := hrel
              have HE2 := Lib.hid hext
              clear hext
              by_cases hkt : k < i
              · have k1 : (0 : Int) ≤ (k : Int) := by omega
                have k2 : (k : Int) < (i : Int) := by omega
                go_upto_region 26 with fail
                go_quiet (fail)
                go_wp2_with fail
                go_roundw
                case rel => exact ⟨k + 1, by omega, by go_num, rfl, HE2.out.drewN _⟩
                case measure => simp [intOf]; omega
              · obtain rfl : k = i := by omega
                have hdk : ¬ (k : Int) < (k : Int) := by omega
                go_wp2_with fail
                go_roundw
                case rel => exact ⟨k + 1, by omega, by go_num, rfl, HE2.out⟩
                case measure => simp [intOf]; omega
          · obtain rfl : i = np := by omega
            have hdi : ¬ (i : Int) < (i : Int) := by omega
            have a0 := (HBX.out.1.ext HE.out).cell (i := 0) (by simp); have a1 := (HBX.out.1.ext HE.out).cell (i := 1) (by simp); have b0 := (HBX.out.2.ext HE.out).cell (i := 0) (by simp); have b1 := (HBX.out.2.ext HE.out).cell (i := 1) (by simp)
            simp only [List.getElem_cons_zero, List.getElem_cons_succ] at a0 a1 b0 b1
            go_wp2_with fail
            clear a0 a1 b0 b1
            by_cases hpp : lpureB xa na = true ∧ lpureB xb nb = true
            case neg =>
              have HPP := Lib.hid hpp
              clear hpp
              refine (check_bad (HA.out.ext (HW.out.trans HE.out)) (HB.out.ext (HW.out.trans HE.out)) RA.out.bd RB.out.bd (Lib.hid (by
                rcases ha : lpureB xa na with _ | _
                · exact .inl (hpureB_bad ha)
                · rcases hb : lpureB xb nb with _ | _
                  · exact .inr (hpureB_bad hb)
                  · exact absurd ⟨ha, hb⟩ HPP.out))).mono ?_
              rintro e wk ⟨y, rfl, hek, rfl⟩
              have HK := Lib.hid ((HW.out.trans HE.out).trans hek)
              clear hek
              go_wp2_with fail
              refine (awake_any (HTAB.out.fore HK.out)).mono ?_
              rintro e wz ⟨y, rfl, hez, rfl⟩
              have HZ := Lib.hid (Ext.trans HK.out hez)
              clear hez
              go_wp2_with fail
              go_ret
              exact Ret.mk HZ.out rfl
            obtain ⟨hpa, hpb⟩ := hpp
            have HPA := Lib.hid hpa; have HPB := Lib.hid hpb
            clear hpa hpb
            obtain ⟨gA, rfl⟩ := lpureB_out HPA.out
            obtain ⟨gB, rfl⟩ := lpureB_out HPB.out
            have SA : Hid (Sp xa) := Lib.hid ⟨RA.out, SMA.out, gA⟩
            have SB : Hid (Sp xb) := Lib.hid ⟨RB.out, SMB.out, gB⟩
            have HLAW := Lib.hid (checks_law (T := T) (ps := ps) HKA2.out HKB3.out gA gB (fun p hp => (EV.out.ok p hp).2) (by rw [← HVS.out]; exact HPE.out.2.2))
            clear gA gB
            refine (check_good (HA.out.ext (HW.out.trans HE.out)) (HB.out.ext (HW.out.trans HE.out)) (HM.out.ext (HW.out.trans HE.out)) SA.out.aok SB.out.aok (Lib.hid SA.out.pure) (Lib.hid SB.out.pure) (Lib.hid (fun q hq => Nat.le_trans (HPZ.out q hq).2.1 (by simp [maxLen]))) (by have := HNP.out; omega) (HTAB.out.fore (HW.out.trans HE.out)) (Lib.hid (fun v hv => Nat.le_trans (SA.out.vsize v hv) (by simp [maxLen]))) (Lib.hid (fun s t hs => by
              obtain ⟨hr, -, h1, h2⟩ := HPZ.out _ (firstP_mem hs)
              exact ⟨h1, h2, hr.1, hr.2.1, hr.2.2.1, hr.2.2.2⟩))).mono ?_
            rintro e wk ⟨y, rfl, hek, rfl⟩
            rw [HLAW.out]
            rw [← HVS.out, exactB_no HNEX.out, Bool.false_and]
            have HK := Lib.hid ((HW.out.trans HE.out).trans hek)
            clear hek
            go_wp2_with fail
            refine (awake_any (HTAB.out.fore HK.out)).mono ?_
            rintro e wz ⟨y, rfl, hez, rfl⟩
            have HZ := Lib.hid (Ext.trans HK.out hez)
            clear hez
            go_wp2_with fail
            go_ret
            exact Ret.mk HZ.out rfl
      have HEXA : Hid ((ps.map (·.1)).Nodup → ExactP vs ps) := Lib.hid (fun h => ⟨by rw [← HPE.out.2.1, hq1]; exact HNP.out, by rw [← HPE.out.2.1, hq2]; exact HNV.out, h⟩)
      have hq1' : ((cnt : Int) == (np : Int)) = true := by simp [hq1]
      have hq2' : ((cnt : Int) == (nv : Int)) = true := by simp [hq2]
      clear hq1 hq2
      go_wp2_with fail
      go_loopw [17, 87] (fun t q wr => ∃ (i : Nat) (b : Bool), i ≤ np ∧ q = .int .i64 (i : Int) ∧ t = .bool b ∧ INod ps i b ∧ Ext wE wr) (fun _ q _ => np - (intOf q).toNat)
      case atStart => exact ⟨0, true, Nat.zero_le _, rfl, rfl, INod.mk (by simp), Ext.refl _⟩
      case round =>
        obtain ⟨i, b, hi2, rfl, rfl, hb, hext⟩ := hrel
        obtain ⟨wo2, rfl⟩ : ∃ wo2 : World, wo2 = wr := ⟨_, rfl⟩
        have HE := Lib.hid hext; have HBB := Lib.hid hb
        clear hext hb
        by_cases hlt2 : i < np
        · have i1 : (0 : Int) ≤ (i : Int) := by omega
          have i2 : (i : Int) < (np : Int) := by omega
          have hip : i < ps.length := by have := HNP.out; omega
          obtain ⟨Bm, dm, em, -, clm⟩ := HNC.out.pr
          injection em with em em1 em2
          subst em
          clear em1 em2
          obtain ⟨adm, rfl, hFm, p0, -⟩ := clm.pair (i := i) hip
          replace p0 := HC.out.fr.cell p0 (by rw [block_add]; exact hFm.off)
          obtain ⟨s, hs⟩ : ∃ s, s = ps[i].1 := ⟨_, rfl⟩
          rw [← hs] at p0
          have HS := Lib.hid hs; have HP0 := Lib.hid p0; have HCLM := Lib.hid clm
          clear hs p0 clm hFm
          go_wp2_with fail
          go_loopw [17, 91] (fun t q wr => ∃ (k : Nat) (b2 : Bool), k ≤ i ∧ q = .int .i64 (k : Int) ∧ t = .bool b2 ∧ KNod ps s k b b2 ∧ Ext wE wr) (fun _ q _ => i - (intOf q).toNat)
          case atStart => exact ⟨0, b, Nat.zero_le _, rfl, rfl, KNod.mk ⟨fun h => ⟨h, fun _ _ h => absurd h (by omega)⟩, fun h => h.1⟩, HE.out⟩
          case round =>
            obtain ⟨k, b2, hk, rfl, rfl, hb2, hext⟩ := hrel
            have HE2 := Lib.hid hext; have HB2 := Lib.hid hb2
            clear hb2
            by_cases hkt : k < i
            · have k1 : (0 : Int) ≤ (k : Int) := by omega
              have k2 : (k : Int) < (i : Int) := by omega
              have k3 : (k : Int) < (np : Int) := by omega
              have hkp : k < ps.length := by have := HNP.out; omega
              rcases b2 with _ | _
              · clear hext
                go_upto_region 26 with fail
                go_quiet (fail)
                go_wp2_with fail
                go_roundw
                case rel => exact ⟨k + 1, false, by omega, by go_num, rfl, KNod.mk ⟨fun h => (by cases h), fun h => HB2.out.out.2 ⟨h.1, fun k' h1 h2 => h.2 k' h1 (by omega)⟩⟩, HE2.out.drewN _⟩
                case measure => simp [intOf]; omega
              · obtain ⟨adm2, e2, hFm, r0, -⟩ := HCLM.out.pair (i := k) hkp
                injection e2 with e2
                subst e2
                replace r0 := hext.cell (HC.out.fr.cell r0 (by rw [block_add]; exact hFm.off))
                have p0 := hext.cell HP0.out
                obtain ⟨u, hu⟩ : ∃ u, u = ps[k].1 := ⟨_, rfl⟩
                rw [← hu] at r0
                have HU := Lib.hid hu
                clear hu hFm hext
                have hbt : b = true := (HB2.out.out.1 rfl).1
                have HALLK := Lib.hid (HB2.out.out.1 rfl).2
                subst hbt
                by_cases hus : u = s
                · subst hus
                  go_upto_region 26 with fail
                  go_quiet (fail)
                  go_wp2_with fail
                  go_roundw
                  case rel => exact ⟨k + 1, false, by omega, by go_num, rfl, KNod.mk ⟨fun h => (by cases h), fun h => absurd HU.out.symm (h.2 k hkp (by omega))⟩, HE2.out.drewN _⟩
                  case measure => simp [intOf]; omega
                · have hus2 : (s.toList == u.toList) = false := beq_false_of_ne (fun e => hus (toList_inj e).symm)
                  have HUS := Lib.hid hus
                  clear hus
                  go_upto_region 26 with fail
                  go_quiet (fail)
                  go_wp2_with fail
                  go_roundw
                  case rel =>
                    refine ⟨k + 1, true, by omega, by go_num, rfl, KNod.mk ⟨fun _ => ⟨rfl, fun k' h1 h2 => ?_⟩, fun _ => rfl⟩, HE2.out.drewN _⟩
                    rcases Nat.lt_or_ge k' k with h | h
                    · exact HALLK.out k' h1 h
                    · obtain rfl : k' = k := by omega
                      rw [← HU.out]; exact HUS.out
                  case measure => simp [intOf]; omega
            · obtain rfl : k = i := by omega
              have hdk : ¬ (k : Int) < (k : Int) := by omega
              clear hext
              go_wp2_with fail
              go_roundw
              case rel =>
                refine ⟨k + 1, b2, by omega, by go_num, rfl, ?_, HE2.out⟩
                exact INod.mk (by rw [HB2.out.out, HBB.out.out, nodup_take hip, ← HS.out])
              case measure => simp [intOf]; omega
        · obtain rfl : i = np := by omega
          have hdi : ¬ (i : Int) < (i : Int) := by omega
          have HBE : Hid (b = true ↔ (ps.map (·.1)).Nodup) := Lib.hid (by have h := HBB.out.out; rw [HNP.out, List.take_length] at h; exact h)
          clear HBB
          rcases b with _ | _
          case false =>
            have HNEX : Hid (¬ ExactP vs ps) := Lib.hid (fun h => by have := HBE.out.2 h.2.2; cases this)
            have a0 := (HBX.out.1.ext HE.out).cell (i := 0) (by simp); have a1 := (HBX.out.1.ext HE.out).cell (i := 1) (by simp); have b0 := (HBX.out.2.ext HE.out).cell (i := 0) (by simp); have b1 := (HBX.out.2.ext HE.out).cell (i := 1) (by simp)
            simp only [List.getElem_cons_zero, List.getElem_cons_succ] at a0 a1 b0 b1
            go_wp2_with fail
            clear a0 a1 b0 b1
            by_cases hpp : lpureB xa na = true ∧ lpureB xb nb = true
            case neg =>
              have HPP := Lib.hid hpp
              clear hpp
              refine (check_bad (HA.out.ext (HW.out.trans HE.out)) (HB.out.ext (HW.out.trans HE.out)) RA.out.bd RB.out.bd (Lib.hid (by
                rcases ha : lpureB xa na with _ | _
                · exact .inl (hpureB_bad ha)
                · rcases hb : lpureB xb nb with _ | _
                  · exact .inr (hpureB_bad hb)
                  · exact absurd ⟨ha, hb⟩ HPP.out))).mono ?_
              rintro e wk ⟨y, rfl, hek, rfl⟩
              have HK := Lib.hid ((HW.out.trans HE.out).trans hek)
              clear hek
              go_wp2_with fail
              refine (awake_any (HTAB.out.fore HK.out)).mono ?_
              rintro e wz ⟨y, rfl, hez, rfl⟩
              have HZ := Lib.hid (Ext.trans HK.out hez)
              clear hez
              go_wp2_with fail
              go_ret
              exact Ret.mk HZ.out rfl
            obtain ⟨hpa, hpb⟩ := hpp
            have HPA := Lib.hid hpa; have HPB := Lib.hid hpb
            clear hpa hpb
            obtain ⟨gA, rfl⟩ := lpureB_out HPA.out
            obtain ⟨gB, rfl⟩ := lpureB_out HPB.out
            have SA : Hid (Sp xa) := Lib.hid ⟨RA.out, SMA.out, gA⟩
            have SB : Hid (Sp xb) := Lib.hid ⟨RB.out, SMB.out, gB⟩
            have HLAW := Lib.hid (checks_law (T := T) (ps := ps) HKA2.out HKB3.out gA gB (fun p hp => (EV.out.ok p hp).2) (by rw [← HVS.out]; exact HPE.out.2.2))
            clear gA gB
            refine (check_good (HA.out.ext (HW.out.trans HE.out)) (HB.out.ext (HW.out.trans HE.out)) (HM.out.ext (HW.out.trans HE.out)) SA.out.aok SB.out.aok (Lib.hid SA.out.pure) (Lib.hid SB.out.pure) (Lib.hid (fun q hq => Nat.le_trans (HPZ.out q hq).2.1 (by simp [maxLen]))) (by have := HNP.out; omega) (HTAB.out.fore (HW.out.trans HE.out)) (Lib.hid (fun v hv => Nat.le_trans (SA.out.vsize v hv) (by simp [maxLen]))) (Lib.hid (fun s t hs => by
              obtain ⟨hr, -, h1, h2⟩ := HPZ.out _ (firstP_mem hs)
              exact ⟨h1, h2, hr.1, hr.2.1, hr.2.2.1, hr.2.2.2⟩))).mono ?_
            rintro e wk ⟨y, rfl, hek, rfl⟩
            rw [HLAW.out]
            rw [← HVS.out, exactB_no HNEX.out, Bool.false_and]
            have HK := Lib.hid ((HW.out.trans HE.out).trans hek)
            clear hek
            go_wp2_with fail
            refine (awake_any (HTAB.out.fore HK.out)).mono ?_
            rintro e wz ⟨y, rfl, hez, rfl⟩
            have HZ := Lib.hid (Ext.trans HK.out hez)
            clear hez
            go_wp2_with fail
            go_ret
            exact Ret.mk HZ.out rfl
          have HEX : Hid (ExactP vs ps) := Lib.hid (HEXA.out (HBE.out.1 rfl))
          have a0 := (HBX.out.1.ext HE.out).cell (i := 0) (by simp); have a1 := (HBX.out.1.ext HE.out).cell (i := 1) (by simp); have b0 := (HBX.out.2.ext HE.out).cell (i := 0) (by simp); have b1 := (HBX.out.2.ext HE.out).cell (i := 1) (by simp)
          simp only [List.getElem_cons_zero, List.getElem_cons_succ] at a0 a1 b0 b1
          go_wp2_with fail
          clear a0 a1 b0 b1
          refine (lpure_any (HA.out.ext (HW.out.trans HE.out)) RA.out.bd.len).mono ?_
          rintro e wp1 ⟨y, rfl, hen, rfl⟩
          replace HE := Lib.hid (HE.out.trans hen)
          clear hen
          rcases hpa : lpureB xa na with _ | _
          case false =>
            have HPP : Hid (¬ (lpureB xa na = true ∧ lpureB xb nb = true)) := Lib.hid (fun h => by rw [hpa] at h; cases h.1)
            clear hpa
            have a0 := (HBX.out.1.ext HE.out).cell (i := 0) (by simp); have a1 := (HBX.out.1.ext HE.out).cell (i := 1) (by simp); have b0 := (HBX.out.2.ext HE.out).cell (i := 0) (by simp); have b1 := (HBX.out.2.ext HE.out).cell (i := 1) (by simp)
            simp only [List.getElem_cons_zero, List.getElem_cons_succ] at a0 a1 b0 b1
            go_wp2_with fail
            clear a0 a1 b0 b1
            refine (check_bad (HA.out.ext (HW.out.trans HE.out)) (HB.out.ext (HW.out.trans HE.out)) RA.out.bd RB.out.bd (Lib.hid (by
              rcases ha : lpureB xa na with _ | _
              · exact .inl (hpureB_bad ha)
              · rcases hb : lpureB xb nb with _ | _
                · exact .inr (hpureB_bad hb)
                · exact absurd ⟨ha, hb⟩ HPP.out))).mono ?_
            rintro e wk ⟨y, rfl, hek, rfl⟩
            have HK := Lib.hid ((HW.out.trans HE.out).trans hek)
            clear hek
            go_wp2_with fail
            refine (awake_any (HTAB.out.fore HK.out)).mono ?_
            rintro e wz ⟨y, rfl, hez, rfl⟩
            have HZ := Lib.hid (Ext.trans HK.out hez)
            clear hez
            go_wp2_with fail
            go_ret
            exact Ret.mk HZ.out rfl
          have HPA0 := Lib.hid hpa
          clear hpa
          have a0 := (HBX.out.1.ext HE.out).cell (i := 0) (by simp); have a1 := (HBX.out.1.ext HE.out).cell (i := 1) (by simp); have b0 := (HBX.out.2.ext HE.out).cell (i := 0) (by simp); have b1 := (HBX.out.2.ext HE.out).cell (i := 1) (by simp)
          simp only [List.getElem_cons_zero, List.getElem_cons_succ] at a0 a1 b0 b1
          go_wp2_with fail
          clear a0 a1 b0 b1
          refine (lpure_any (HB.out.ext (HW.out.trans HE.out)) RB.out.bd.len).mono ?_
          rintro e wp2 ⟨y, rfl, hen, rfl⟩
          replace HE := Lib.hid (HE.out.trans hen)
          clear hen
          rcases hpb : lpureB xb nb with _ | _
          case false =>
            have HPP : Hid (¬ (lpureB xa na = true ∧ lpureB xb nb = true)) := Lib.hid (fun h => by rw [hpb] at h; cases h.2)
            clear hpb
            have a0 := (HBX.out.1.ext HE.out).cell (i := 0) (by simp); have a1 := (HBX.out.1.ext HE.out).cell (i := 1) (by simp); have b0 := (HBX.out.2.ext HE.out).cell (i := 0) (by simp); have b1 := (HBX.out.2.ext HE.out).cell (i := 1) (by simp)
            simp only [List.getElem_cons_zero, List.getElem_cons_succ] at a0 a1 b0 b1
            go_wp2_with fail
            clear a0 a1 b0 b1
            refine (check_bad (HA.out.ext (HW.out.trans HE.out)) (HB.out.ext (HW.out.trans HE.out)) RA.out.bd RB.out.bd (Lib.hid (by
              rcases ha : lpureB xa na with _ | _
              · exact .inl (hpureB_bad ha)
              · rcases hb : lpureB xb nb with _ | _
                · exact .inr (hpureB_bad hb)
                · exact absurd ⟨ha, hb⟩ HPP.out))).mono ?_
            rintro e wk ⟨y, rfl, hek, rfl⟩
            have HK := Lib.hid ((HW.out.trans HE.out).trans hek)
            clear hek
            go_wp2_with fail
            refine (awake_any (HTAB.out.fore HK.out)).mono ?_
            rintro e wz ⟨y, rfl, hez, rfl⟩
            have HZ := Lib.hid (Ext.trans HK.out hez)
            clear hez
            go_wp2_with fail
            go_ret
            exact Ret.mk HZ.out rfl
          have hpp : lpureB xa na = true ∧ lpureB xb nb = true := ⟨HPA0.out, hpb⟩
          clear hpb
          obtain ⟨hpa, hpb⟩ := hpp
          have HPA := Lib.hid hpa; have HPB := Lib.hid hpb
          clear hpa hpb
          obtain ⟨gA, rfl⟩ := lpureB_out HPA.out
          obtain ⟨gB, rfl⟩ := lpureB_out HPB.out
          have SA : Hid (Sp xa) := Lib.hid ⟨RA.out, SMA.out, gA⟩
          have SB : Hid (Sp xb) := Lib.hid ⟨RB.out, SMB.out, gB⟩
          have HLAW := Lib.hid (checks_law (T := T) (ps := ps) HKA2.out HKB3.out gA gB (fun p hp => (EV.out.ok p hp).2) (by rw [← HVS.out]; exact HPE.out.2.2))
          clear gA gB
          go_wp2_with fail
          have hra : Ras (fun _ => True) wp2 x1 (xa.map (rat T)) := by
            have h := ((HNC.out.ra.fr HC.out.fr (fun _ h => h.off)).mono (G := fun _ => True) (fun _ _ _ => trivial)).ext HE.out
            rwa [rats_pre (fun t ht => (HKA.out t ht).1) HC.out.pre] at h
          have hrb : Ras (fun _ => True) wp2 x2 (xb.map (rat T)) := by
            have h := ((HNC.out.rb.fr HC.out.fr (fun _ h => h.off)).mono (G := fun _ => True) (fun _ _ _ => trivial)).ext HE.out
            rwa [rats_pre (fun t ht => (HKB.out t ht).1) HC.out.pre] at h
          have hrv : Ins (fun _ => True) wp2 (.slice Av nv cv) ((varsT (allT xa)).map (fun v => numT T (varT v))) := by
            have h := ((HNC.out.rv.fr HC.out.fr (fun _ h => h.off)).mono (G := fun _ => True) (fun _ _ _ => trivial)).ext HE.out
            have e : (varsT (allT xa)).map (fun v => numT T0 (varT v)) = (varsT (allT xa)).map (fun v => numT T (varT v)) := List.map_congr_left (fun v hv => by
              obtain ⟨u, hu, hus, hne⟩ := varsT_iff.1 hv
              have h1 := HKA.out u hu
              rw [ok_var h1.2 (by rw [hus]; exact hne), hus] at h1
              exact (numT_pre h1.1 HC.out.pre).symm)
            rwa [e] at h
          have him : Ins (fun _ => True) wp2 (.slice (some ⟨gI, 0, none⟩) nv nv) img := by
            have hl : img.length = nv := by rw [HPE.out.1, List.length_map]; exact HNV.out.symm
            refine ⟨some ⟨gI, 0, none⟩, nv, by rw [hl], by omega, Cl.ext (Cl.bk HC.out.img) HE.out⟩
          have hlv : ((varsT (allT xa)).map (fun v => numT T (varT v))).length = nv := by rw [List.length_map, ← HVS.out]; exact HNV.out.symm
          have hli : img.length = nv := by rw [HPE.out.1, List.length_map]; exact HNV.out.symm
          refine (is_any (K := fun _ => True) (fx := []) hra hrb hrv him ⟨none, 0, rfl, by simp, .inl rfl⟩ (by have := SMA.out.len; simp; omega) (by have := SMB.out.len; simp; omega) (by omega) (by omega) (by simp) (fun a ha => by obtain ⟨b, hb, rfl⟩ := List.mem_map.1 ha; have := (SMA.out.terms b hb).1; simp [rat]; omega)).mono ?_
          rintro e wp3 ⟨y, rfl, hen, rfl⟩
          replace HE := Lib.hid (HE.out.trans hen)
          have HIM : Hid (img = (varsT (allT xa)).map (fun v => imgN T (lastP ps v))) := Lib.hid (by rw [HPE.out.1, HVS.out])
          rw [HIM.out]
          clear hra hrb hrv him hlv hli hen
          obtain ⟨rr, hrr⟩ : ∃ rr, rr = isR (xa.map (rat T)) (xb.map (rat T)) ((varsT (allT xa)).map (fun v => numT T (varT v))) ((varsT (allT xa)).map (fun v => imgN T (lastP ps v))) [] := ⟨_, rfl⟩
          rw [← hrr] at HLAW ⊢
          clear hrr
          have a0 := (HBX.out.1.ext HE.out).cell (i := 0) (by simp); have a1 := (HBX.out.1.ext HE.out).cell (i := 1) (by simp); have b0 := (HBX.out.2.ext HE.out).cell (i := 0) (by simp); have b1 := (HBX.out.2.ext HE.out).cell (i := 1) (by simp)
          simp only [List.getElem_cons_zero, List.getElem_cons_succ] at a0 a1 b0 b1
          go_wp2_with fail
          clear a0 a1 b0 b1
          refine (check_good (HA.out.ext (HW.out.trans HE.out)) (HB.out.ext (HW.out.trans HE.out)) (HM.out.ext (HW.out.trans HE.out)) SA.out.aok SB.out.aok (Lib.hid SA.out.pure) (Lib.hid SB.out.pure) (Lib.hid (fun q hq => Nat.le_trans (HPZ.out q hq).2.1 (by simp [maxLen]))) (by have := HNP.out; omega) (HTAB.out.fore (HW.out.trans HE.out)) (Lib.hid (fun v hv => Nat.le_trans (SA.out.vsize v hv) (by simp [maxLen]))) (Lib.hid (fun s t hs => by
            obtain ⟨hr, -, h1, h2⟩ := HPZ.out _ (firstP_mem hs)
            exact ⟨h1, h2, hr.1, hr.2.1, hr.2.2.1, hr.2.2.2⟩))).mono ?_
          rintro e wk ⟨y, rfl, hek, rfl⟩
          rw [HLAW.out]
          rw [← HVS.out, exactB_yes HEX.out, Bool.true_and]
          have HK := Lib.hid ((HW.out.trans HE.out).trans hek)
          clear hek
          go_wp2_with fail
          refine (awake_any (HTAB.out.fore HK.out)).mono ?_
          rintro e wz ⟨y, rfl, hez, rfl⟩
          have HZ := Lib.hid (Ext.trans HK.out hez)
          clear hez
          go_wp2_with fail
          go_ret
          exact Ret.mk HZ.out rfl
end Go.Proofs.YtiahaofjmcjdiaaDoor
