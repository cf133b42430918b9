/- Contract: ast.checkItems. Contract: ast.Vars. -/
import Derived.Test.YtmmmdinncmbjkaaGreatMf04
namespace Go.Proofs.YtmmmdinncmbjkaaGreat
open Go.RowKit Go.Maps
/-- Strings that fit, in a rule. -/
structure RlZ (r : Rl) : Prop where
  rel : ∀ a ∈ r.ats, a.rel.size ≤ maxLen
  tms : ∀ a ∈ r.ats, TmZ a.terms
  var : ∀ c ∈ r.cds, c.var.size ≤ maxLen
  str : ∀ c ∈ r.cds, c.str.size ≤ maxLen
set_option maxRecDepth 20000 in
set_option maxHeartbeats 3200000 in
theorem checkItems_any {F G : Nat → Prop} {w : World} {va vc : Value} {r : Rl} (hA : Ats F w va r.ats) (hC : Sl rdCd G w vc r.cds) (hz : RlZ r) :
    Calls Tryz.prog 115 #[.agg #[va, vc]] w (Ret (fun x _ => x = .int .i64 (itemsE r)) w) := by
  obtain ⟨A, c, rfl⟩ := hA.sl
  obtain ⟨C, d, rfl⟩ := hC.sl
  obtain ⟨n, hn⟩ : ∃ n, n = r.ats.length := ⟨_, rfl⟩
  obtain ⟨m, hm⟩ : ∃ m, m = r.cds.length := ⟨_, rfl⟩
  rw [← hn] at hA ⊢
  rw [← hm] at hC ⊢
  have hE0 : n = 0 → itemsE r = 10 := fun h => if_pos (List.eq_nil_of_length_eq_zero (by omega))
  have hE1 : n ≠ 0 → ¬ (n ≤ 8 ∧ m ≤ 8) → itemsE r = 12 := fun h h1 => (if_neg (fun e => h (by rw [hn, e]; rfl))).trans (if_neg (by rw [← hn, ← hm]; exact h1))
  have hE2 : n ≠ 0 → n ≤ 8 ∧ m ≤ 8 → itemsE r = if firstE atomE r.ats = 0 then firstE condE r.cds else firstE atomE r.ats := fun h h1 => (if_neg (fun e => h (by rw [hn, e]; rfl))).trans (if_pos (by rw [← hn, ← hm]; exact h1))
  have HA := Lib.hid hA.at2; have HC := Lib.hid hC; have HN := Lib.hid hn; have HM := Lib.hid hm; have HZ := Lib.hid hz
  clear hn hm hA hC hz
  by_cases h0 : n = 0
  · have HE := Lib.hid (hE0 h0)
    subst h0
    rw [HE.out]
    clear hE0 hE1 hE2
    go_enter Tryz.func115, Tryz.ntmps115
    go_wp2_with fail
    go_ret
    exact Ret.mk ((Ext.refl w).alloc _) rfl
  have hn0 : ((n : Int) == 0) = false := beq_false_of_ne (by omega)
  have hn1 : 0 < n := by omega
  by_cases h8 : ¬ (n ≤ 8 ∧ m ≤ 8)
  · have HE := Lib.hid (hE1 h0 h8)
    rw [HE.out]
    have h9 : (8 < n) ∨ (¬ 8 < n ∧ 8 < m) := by omega
    clear hE0 hE1 hE2 h0 h8
    rcases h9 with h9 | ⟨h9, h10⟩
    · have k1 : (8 : Int) < (n : Int) := by omega
      go_enter Tryz.func115, Tryz.ntmps115
      go_wp2_with fail
      go_ret
      exact Ret.mk ((Ext.refl w).alloc _) rfl
    · have k1 : ¬ (8 : Int) < (n : Int) := by omega
      have k2 : (8 : Int) < (m : Int) := by omega
      go_enter Tryz.func115, Tryz.ntmps115
      go_wp2_with fail
      go_ret
      exact Ret.mk ((Ext.refl w).alloc _) rfl
  rw [Decidable.not_not] at h8
  have HE := Lib.hid (hE2 h0 h8)
  obtain ⟨h8a, h8b⟩ := h8
  have k1 : ¬ (8 : Int) < (n : Int) := by omega
  have k2 : ¬ (8 : Int) < (m : Int) := by omega
  clear hE0 hE1 hE2 h0
  go_enter Tryz.func115, Tryz.ntmps115
  go_wp2_with fail
  have hx : Ext w (w.alloc (.cells #[.slice A n c, .slice C m d] 73)) := (Ext.refl w).alloc _
  have kb := Bk.new w 73 [.slice A n c, .slice C m d]
  change Bk (w.alloc (.cells #[.slice A n c, .slice C m d] 73)) _ _ _ at kb
  generalize (w.alloc (.cells #[.slice A n c, .slice C m d] 73)) = w1 at *
  go_loopw [25] (fun t wr => ∃ i : Nat, i ≤ n ∧ t = .int .i64 (i : Int) ∧ Hid (∀ j (_ : j < i) (_ : j < r.ats.length), atomE r.ats[j] = 0) ∧ Ext w1 wr) (fun t _ => n - (intOf t).toNat)
  case atStart => exact ⟨0, Nat.zero_le _, rfl, Lib.hid (fun j hj => by omega), Ext.refl _⟩
  case round =>
    obtain ⟨i, hi, rfl, H, hxr⟩ := hrel
    obtain ⟨W, rfl⟩ : ∃ W : World, W = wr := ⟨_, rfl⟩
    have HX := Lib.hid (hx.trans hxr); have HX1 := Lib.hid hxr
    by_cases hlt : i < n
    · have i1 : (0 : Int) ≤ (i : Int) := by omega
      have i2 : (i : Int) < (n : Int) := by omega
      have hit : i < r.ats.length := by have := HN.out; omega
      obtain ⟨ad, Bt, dt, rfl, -, d0, d1, d2, hT⟩ := HA.out i hit
      replace d0 := HX.out.cell d0; replace d1 := HX.out.cell d1; replace d2 := HX.out.cell d2
      have hcall := fun (V : World) (hV : Ext W V) => checkAtom_any (F := F) (a := r.ats[i]) (Ts.ext ⟨Bt, dt, rfl, hT.1, hT.2⟩ (HX.out.trans hV)) (HZ.out.tms _ (List.getElem_mem hit)) (HZ.out.rel _ (List.getElem_mem hit))
      have hgo := take_ok (f := atomE) hit H.out
      have hst := firstE_at (f := atomE) hit H.out
      obtain ⟨x, hx⟩ : ∃ x, x = r.ats[i] := ⟨_, rfl⟩
      rw [← hx] at d0 d1 d2 hcall hgo hst
      have HGO := Lib.hid hgo; have HST := Lib.hid hst; have HCALL := Lib.hid hcall
      clear hgo hst hcall hx hT kb
      go_wp2_with fail
      refine (HCALL.out _ ((Ext.refl _).alloc _)).mono ?_
      rintro e w2 ⟨y, rfl, he, rfl⟩
      have HF := Lib.hid ((Ext.alloc (Ext.refl W) _).trans he)
      clear d0 d1 d2 he
      by_cases hz0 : atomE x = 0
      · have HG := Lib.hid (HGO.out hz0)
        have HZ0 := Lib.hid hz0
        rw [HZ0.out]
        clear hz0
        go_wp2_with fail
        go_roundw
        case rel => exact ⟨i + 1, by omega, by go_num, HG, HX1.out.trans HF.out⟩
        case measure => simp [intOf]; omega
      · have HR := Lib.hid (HST.out hz0)
        obtain ⟨ev, hev⟩ : ∃ ev, ev = atomE x := ⟨_, rfl⟩
        rw [← hev] at hz0 HR ⊢
        have hne : (ev != 0) = true := by rw [bne_iff_ne]; exact hz0
        have HNE := Lib.hid hz0
        clear hev hz0
        go_wp2_with fail
        go_ret
        exact Ret.mk (HX.out.trans HF.out) (ret_i (by rw [HE.out, if_neg (by rw [HR.out]; exact HNE.out), HR.out]))
    · obtain rfl : i = n := by omega
      have hdi : ¬ (i : Int) < (i : Int) := by omega
      have HR := Lib.hid (firstE_all (f := atomE) (l := r.ats) (fun j hj => H.out j (by have := HN.out; omega) hj))
      have b1 := (kb.ext hxr).cell (i := 1) (by simp)
      simp only [List.getElem_cons_zero, List.getElem_cons_succ] at b1
      clear kb
      go_wp2_with fail
      go_loopw [38] (fun t wr => ∃ k : Nat, k ≤ m ∧ t = .int .i64 (k : Int) ∧ Hid (∀ j (_ : j < k) (_ : j < r.cds.length), condE r.cds[j] = 0) ∧ Ext W wr) (fun t _ => m - (intOf t).toNat)
      case atStart => exact ⟨0, Nat.zero_le _, rfl, Lib.hid (fun j hj => by omega), Ext.refl _⟩
      case round =>
        obtain ⟨k, hk, rfl, H2, hxk⟩ := hrel
        have HY := Lib.hid (HX.out.trans hxk); have HY1 := Lib.hid hxk
        by_cases hkm : k < m
        · have j1 : (0 : Int) ≤ (k : Int) := by omega
          have j2 : (k : Int) < (m : Int) := by omega
          have hit : k < r.cds.length := by have := HM.out; omega
          obtain ⟨ad, rfl, -, d0, d1, d2, d3, d4⟩ := HC.out.cd hit
          replace d0 := HY.out.cell d0; replace d1 := HY.out.cell d1; replace d2 := HY.out.cell d2; replace d3 := HY.out.cell d3; replace d4 := HY.out.cell d4
          have hgo := take_ok (f := condE) hit H2.out
          have hst := firstE_at (f := condE) hit H2.out
          have hz1 := HZ.out.var _ (List.getElem_mem hit)
          have hz2 := HZ.out.str _ (List.getElem_mem hit)
          obtain ⟨x, hx⟩ : ∃ x, x = r.cds[k] := ⟨_, rfl⟩
          rw [← hx] at d0 d1 d2 d3 d4 hgo hst hz1 hz2
          obtain ⟨xv, op, kd, it, st⟩ := x
          simp only at d0 d1 d2 d3 d4 hz1 hz2
          have HGO := Lib.hid hgo
          have HS : Hid (∀ m : Int, m ≠ 0 → condE ⟨xv, op, kd, it, st⟩ = m → itemsE r = m) := Lib.hid (fun m hm h => by rw [HE.out, if_pos HR.out, hst (by rw [h]; exact hm), h])
          clear hgo hst hx b1
          by_cases hnm : nameB xv = true
          · have HNM := Lib.hid hnm
            by_cases hop : 0 ≤ op ∧ op ≤ 5
            · obtain ⟨o1, o2⟩ := hop
              have o3 : ¬ op < 0 := by omega
              have o4 : ¬ (5 : Int) < op := by omega
              by_cases hb : valB kd it st = true
              · have HG := Lib.hid (HGO.out (show condE ⟨xv, op, kd, it, st⟩ = 0 from (if_pos hnm).trans ((if_pos ⟨o1, o2⟩).trans (if_pos hb))))
                have HB := Lib.hid hb
                clear hnm hb
                go_wp2_with fail
                refine (valid_any xv _ hz1).mono ?_
                rintro e w' ⟨rfl, rfl⟩
                rw [HNM.out]
                go_wp2_with fail
                refine (vvalid_any kd it st _ hz2).mono ?_
                rintro e w2 ⟨y, rfl, he, rfl⟩
                rw [HB.out]
                have HF := Lib.hid ((Ext.alloc HY1.out _).trans he)
                clear d0 d1 d2 d3 d4 he
                go_wp2_with fail
                go_roundw
                case rel => exact ⟨k + 1, by omega, by go_num, HG, HF.out⟩
                case measure => simp [intOf]; omega
              · have HQ := Lib.hid (HS.out 4 (by decide) (show condE ⟨xv, op, kd, it, st⟩ = 4 from (if_pos hnm).trans ((if_pos ⟨o1, o2⟩).trans (if_neg hb))))
                rw [Bool.not_eq_true] at hb
                have HB := Lib.hid hb
                clear hnm hb
                go_wp2_with fail
                refine (valid_any xv _ hz1).mono ?_
                rintro e w' ⟨rfl, rfl⟩
                rw [HNM.out]
                go_wp2_with fail
                refine (vvalid_any kd it st _ hz2).mono ?_
                rintro e w2 ⟨y, rfl, he, rfl⟩
                rw [HB.out]
                have HF := Lib.hid ((Ext.alloc HY.out _).trans he)
                clear d0 d1 d2 d3 d4 he
                go_wp2_with fail
                go_ret
                exact Ret.mk HF.out (ret_i HQ.out)
            · have HQ := Lib.hid (HS.out 2 (by decide) (show condE ⟨xv, op, kd, it, st⟩ = 2 from (if_pos hnm).trans (if_neg hop)))
              have hop2 : op < 0 ∨ (¬ op < 0 ∧ 5 < op) := by omega
              clear hnm hop
              rcases hop2 with o1 | ⟨o1, o2⟩
              all_goals
                go_wp2_with fail
                refine (valid_any xv _ hz1).mono ?_
                rintro e w' ⟨rfl, rfl⟩
                rw [HNM.out]
                go_wp2_with fail
                go_ret
                exact Ret.mk (HY.out.alloc _) (ret_i HQ.out)
          · have HQ := Lib.hid (HS.out 7 (by decide) (show condE ⟨xv, op, kd, it, st⟩ = 7 from if_neg hnm))
            rw [Bool.not_eq_true] at hnm
            have HNM := Lib.hid hnm
            clear hnm
            go_wp2_with fail
            refine (valid_any xv _ hz1).mono ?_
            rintro e w' ⟨rfl, rfl⟩
            rw [HNM.out]
            go_wp2_with fail
            go_ret
            exact Ret.mk (HY.out.alloc _) (ret_i HQ.out)
        · obtain rfl : k = m := by omega
          have hdk : ¬ (k : Int) < (k : Int) := by omega
          have HQ := Lib.hid (firstE_all (f := condE) (l := r.cds) (fun j hj => H2.out j (by have := HM.out; omega) hj))
          clear b1
          go_wp2_with fail
          go_ret
          exact Ret.mk HY.out (ret_i (by rw [HE.out, if_pos HR.out, HQ.out]))
end Go.Proofs.YtmmmdinncmbjkaaGreat
namespace Go.Proofs.YtmmmdinncmbjkaaGreat
open Go.RowKit Go.Maps
/-- A rule that fits. -/
structure RlB (r : Rl) : Prop where
  z : RlZ r
  al : r.ats.length ≤ 524288
  tl : (allT r.ats).length ≤ 524288
  cl : r.cds.length ≤ 524288
abbrev cdT (c : Cd) : Tm := ⟨c.var, 0, 0, ⟨#[]⟩⟩
theorem varsC_eq (r : Rl) : varsC r = varsT (allT r.ats ++ r.cds.map cdT) := by
  unfold varsC varsT
  rw [List.foldl_append, List.foldl_map]
set_option maxRecDepth 20000 in
set_option maxHeartbeats 1600000 in
theorem vars_any {F G : Nat → Prop} {w : World} {sv vc : Value} {r : Rl} (h : Ats F w sv r.ats) (hC : Sl rdCd G w vc r.cds) (hbd : RlB r) :
    Calls Tryz.prog 39 #[.agg #[sv, vc]] w (Ret (fun x w' => w'.ownsRow w.heap.size 9 1 x (varsC r).length ((varsC r).map Sv)) w) := by
  rw [varsC_eq]
  obtain ⟨xs, cds⟩ := r
  simp only at h hC ⊢
  obtain ⟨Ac, cc, rfl⟩ := hC.sl
  obtain ⟨nc, hnc⟩ : ∃ n, n = cds.length := ⟨_, rfl⟩
  rw [← hnc] at hC ⊢
  have hcl : nc ≤ 524288 := by rw [hnc]; exact hbd.cl
  have HNC := Lib.hid hnc; have HC := Lib.hid hC
  clear hnc hC
  obtain ⟨A, c, rfl, hc, hat⟩ := h.at'
  obtain ⟨n, hn⟩ : ∃ n, n = xs.length := ⟨_, rfl⟩
  rw [← hn] at hc ⊢
  have hl : n ≤ 524288 := by rw [hn]; exact hbd.al
  have HN := Lib.hid hn; have HAT := Lib.hid hat; have HBD := Lib.hid hbd
  clear hn hat h hbd
  have hmm := @run_makeMap Tryz.prog
  have HM0 := Lib.hid (MapV.made ((w.alloc (.cells #[.slice A n c, .slice Ac nc cc] 73)).alloc (.cells #[.slice none 0 0] 30)))
  have hsz0 : ((w.alloc (.cells #[.slice A n c, .slice Ac nc cc] 73)).alloc (.cells #[.slice none 0 0] 30)).heap.size = w.heap.size + 1 + 1 := by simp
  rw [hsz0] at HM0
  have hB0 : Bk (((w.alloc (.cells #[.slice A n c, .slice Ac nc cc] 73)).alloc (.cells #[.slice none 0 0] 30)).alloc (.map #[] 0)) w.heap.size 73 [.slice A n c, .slice Ac nc cc] ∧ Bk (((w.alloc (.cells #[.slice A n c, .slice Ac nc cc] 73)).alloc (.cells #[.slice none 0 0] 30)).alloc (.map #[] 0)) (w.heap.size + 1) 30 [.slice none 0 0] ∧ Ext w (((w.alloc (.cells #[.slice A n c, .slice Ac nc cc] 73)).alloc (.cells #[.slice none 0 0] 30)).alloc (.map #[] 0)) := by
    refine ⟨((Bk.new w _ [.slice A n c, .slice Ac nc cc]).alloc _).alloc _, ?_, (((Ext.refl w).alloc _).alloc _).alloc _⟩
    have h := Bk.new (w.alloc (.cells #[.slice A n c, .slice Ac nc cc] 73)) 30 [.slice none 0 0]
    rw [show (w.alloc (.cells #[.slice A n c, .slice Ac nc cc] 73)).heap.size = w.heap.size + 1 by simp] at h
    exact h.alloc _
  have HB0 := Lib.hid hB0
  clear hsz0 hB0
  go_enter Tryz.func39, Tryz.ntmps39
  go_wp2_with (first
    | (refine wpList_insert_V rfl _ _ _ 168 4 rfl Tryz.underlying168 (w.heap.size + 1 + 1) 0 (fun _ => none) rfl HM0.out (by simp [maxLen]) ⟨#[]⟩ (.bool true) rfl (by decide) rfl ?_; intro w1 hm1 hg1; have kx : Bk w1 w.heap.size 73 [.slice A n c, .slice Ac nc cc] := Bk.fr HB0.out.1 (grown_fr hg1) (fun e => by injection e with e; omega); have kv : Bk w1 (w.heap.size + 1) 30 [.slice none 0 0] := Bk.fr HB0.out.2.1 (grown_fr hg1) (fun e => by injection e with e; omega); have a0 := kx.cell (i := 0) (by simp); simp only [List.getElem_cons_zero] at a0; have hlt0 := kx.lt; have HM1 := Lib.hid hm1; have HKX := Lib.hid kx; have HKV := Lib.hid kv; have HE1 := Lib.hid (HB0.out.2.2.grown hg1 (fun k e => by injection e with e; omega)); clear hm1 hg1 kx kv))
  have hst : VaI w (w1.alloc (.cells #[.map (some (w.heap.size + 1 + 1))] 168)) (w.heap.size + 1 + 1) w1.heap.size (w.heap.size + 1) 1 (.slice none 0 0) [] [.slice A n c, .slice Ac nc cc] := by
    refine ⟨⟨?_, Bk.new w1 _ [.map (some (w.heap.size + 1 + 1))], HKV.out.alloc _, World.ownsRow_nil _ _ _ _⟩, HE1.out.alloc _, HKX.out.alloc _, by simp⟩
    have e : updV (fun _ => none) ⟨#[]⟩ (some (.bool true)) = seenF (varsT []) := by
      funext t
      unfold updV seenF
      by_cases h : t = ⟨#[]⟩
      · rw [if_pos h, if_pos (.inl h)]
      · rw [if_neg h, if_neg (fun h2 => by rcases h2 with h2 | h2; exact h h2; simp [varsT] at h2)]
    rw [← e]
    exact HM1.out.ext ((Ext.refl w1).alloc _)
  have HST := Lib.hid hst
  obtain ⟨gs, hgs⟩ : ∃ gs, gs = w1.heap.size := ⟨_, rfl⟩
  rw [← hgs] at HST ⊢
  clear hst a0 hlt0 hmm
  generalize (w1.alloc (.cells #[.map (some (w.heap.size + 1 + 1))] 168)) = w2 at *
  clear hgs
  go_loopw [18] (fun q wr => ∃ (i m : Nat) (vv : Value), i ≤ n ∧ q = .int .i64 (i : Int) ∧ VaI w wr (w.heap.size + 1 + 1) gs (w.heap.size + 1) m vv (allT (xs.take i)) [.slice A n c, .slice Ac nc cc]) (fun q _ => n - (intOf q).toNat)
  case atStart => exact ⟨0, 1, .slice none 0 0, Nat.zero_le _, rfl, HST.out⟩
  case round =>
    clear HST
    obtain ⟨i, m0, vv, hi, rfl, hI⟩ := hrel
    obtain ⟨wo, rfl⟩ : ∃ wo : World, wo = wr := ⟨_, rfl⟩
    have HI := Lib.hid hI
    by_cases hlt : i < n
    · have i1 : (0 : Int) ≤ (i : Int) := by omega
      have i2 : (i : Int) < (n : Int) := by omega
      have hix : i < xs.length := by have := HN.out; omega
      obtain ⟨ad, B, d, rfl, -, c0, c1, c2, hd, htc⟩ := HAT.out i hix
      replace c0 := hI.ext.cell c0
      replace c1 := hI.ext.cell c1
      replace c2 := hI.ext.cell c2
      have htn := terms_le hix
      obtain ⟨a, ha⟩ : ∃ a, a = xs[i] := ⟨_, rfl⟩
      rw [← ha] at c0 c1 c2 hd htc htn
      obtain ⟨nt, hnt⟩ : ∃ nt, nt = a.terms.length := ⟨_, rfl⟩
      rw [← hnt] at c2 hd htn
      have hnt2 : nt ≤ 1048576 := by have : (allT xs).length ≤ 524288 := HBD.out.tl; omega
      have HA := Lib.hid ha; have HNT := Lib.hid hnt; have HTC := Lib.hid htc
      clear hnt ha htc htn hI
      go_wp2_with fail
      have hx3 : Ext wo (wo.alloc (.cells #[.bool a.neg, .string a.rel, .slice B nt d] 109)) := (Ext.refl wo).alloc _
      generalize (wo.alloc (.cells #[.bool a.neg, .string a.rel, .slice B nt d] 109)) = w3 at *
      have HX3 := Lib.hid hx3
      clear hx3 c0 c1 c2
      go_loopw [25] (fun q wr => ∃ (j m : Nat) (vv : Value), j ≤ nt ∧ q = .int .i64 (j : Int) ∧ VaI w wr (w.heap.size + 1 + 1) gs (w.heap.size + 1) m vv (allT (xs.take i) ++ a.terms.take j) [.slice (some ad) n c, .slice Ac nc cc]) (fun q _ => nt - (intOf q).toNat)
      case atStart => exact ⟨0, m0, vv, Nat.zero_le _, rfl, by simpa using HI.out.fore HX3.out⟩
      case round =>
        obtain ⟨j, m, vj, hj, rfl, hJ⟩ := hrel
        have HJ := Lib.hid hJ
        by_cases hjt : j < nt
        · have j1 : (0 : Int) ≤ (j : Int) := by omega
          have j2 : (j : Int) < (nt : Int) := by omega
          have hjl : j < a.terms.length := by have := HNT.out; omega
          obtain ⟨ad2, rfl, -, d0, d1, d2, d3⟩ := HTC.out.term (i := j) hjl
          replace d0 := hJ.ext.cell d0
          replace d1 := hJ.ext.cell d1
          replace d2 := hJ.ext.cell d2
          replace d3 := hJ.ext.cell d3
          have hsb := HBD.out.z.tms _ (List.getElem_mem hix) (a.terms[j]) (by rw [← HA.out]; exact List.getElem_mem _)
          obtain ⟨x, hx⟩ : ∃ x, x = a.terms[j] := ⟨_, rfl⟩
          rw [← hx] at d0 d1 d2 d3 hsb
          have HX := Lib.hid hx
          have hsv := hsb.1
          have hlen : (varsT (allT (xs.take i) ++ a.terms.take j)).length ≤ 1048576 ∧ m ≤ 2097152 := by
            have h0 := varsT_length (allT (xs.take i) ++ a.terms.take j)
            have h1 := allT_le (xs := xs) (i + 1)
            rw [allT_take hix, List.length_append, ← HA.out] at h1
            have h2 : (allT xs).length ≤ 524288 := HBD.out.tl
            have h3 := hJ.cnt
            simp only [List.length_append, List.length_take] at h0 h3
            omega
          have HLEN := Lib.hid hlen
          have hwb : w.heap.size ≤ wr.heap.size := hJ.ext.size
          clear hx hJ hsb hlen
          go_wp2_with fail
          have hx4 : Ext wr (wr.alloc (.cells #[.string x.var, .int .i64 x.kind, .int .i64 x.int, .string x.str] 136)) := (Ext.refl wr).alloc _
          refine (add_any (HJ.out.fore hx4).vb (Nat.le_trans hwb hx4.size) HLEN.out.2 HLEN.out.1 hsv).mono ?_
          intro e w5 hpost
          obtain ⟨vv', hstep⟩ := VaI.step (t := x) HJ.out (by omega) (by omega) hx4 hpost
          obtain ⟨-, rfl, -⟩ := hpost
          have HS5 := Lib.hid hstep
          clear hstep hx4 d0 d1 d2 d3
          go_wp2_with fail
          go_roundw
          case rel =>
            refine ⟨j + 1, m + 1, vv', by omega, by go_num, ?_⟩
            rw [List.take_succ_eq_append_getElem hjl, ← HX.out, ← List.append_assoc]
            exact HS5.out
          case measure => simp [intOf]; omega
        · obtain rfl : j = nt := by omega
          have hdn : ¬ (j : Int) < (j : Int) := by omega
          clear hJ
          go_wp2_with fail
          go_roundw
          case rel =>
            refine ⟨i + 1, m, vj, by omega, by go_num, ?_⟩
            rw [allT_take hix, ← HA.out]
            have h := HJ.out
            have et : a.terms.take j = a.terms := by rw [HNT.out]; exact List.take_length
            rwa [et] at h
          case measure => simp [intOf]; omega
    · obtain rfl : i = n := by omega
      have hdn : ¬ (i : Int) < (i : Int) := by omega
      have e1 := hI.box.cell (i := 1) (by simp)
      simp only [List.getElem_cons_zero, List.getElem_cons_succ] at e1
      have et : xs.take i = xs := by rw [HN.out]; exact List.take_length
      rw [et] at HI
      clear hI et
      go_wp2_with fail
      go_loopw [38] (fun q wr => ∃ (k m : Nat) (vv : Value), k ≤ nc ∧ q = .int .i64 (k : Int) ∧ VaI w wr (w.heap.size + 1 + 1) gs (w.heap.size + 1) m vv (allT xs ++ (cds.take k).map cdT) [.slice A i c, .slice Ac nc cc]) (fun q _ => nc - (intOf q).toNat)
      case atStart => exact ⟨0, m0, vv, Nat.zero_le _, rfl, by simpa using HI.out⟩
      case round =>
        obtain ⟨k, m, vj, hk, rfl, hJ⟩ := hrel
        have HJ := Lib.hid hJ
        by_cases hkn : k < nc
        · have k1 : (0 : Int) ≤ (k : Int) := by omega
          have k2 : (k : Int) < (nc : Int) := by omega
          have hkl : k < cds.length := by have := HNC.out; omega
          obtain ⟨ad2, rfl, -, d0, d1, d2, d3, d4⟩ := HC.out.cd hkl
          replace d0 := hJ.ext.cell d0
          replace d1 := hJ.ext.cell d1
          replace d2 := hJ.ext.cell d2
          replace d3 := hJ.ext.cell d3
          replace d4 := hJ.ext.cell d4
          have hsv := HBD.out.z.var _ (List.getElem_mem hkl)
          obtain ⟨x, hx⟩ : ∃ x, x = cds[k] := ⟨_, rfl⟩
          rw [← hx] at d0 d1 d2 d3 d4 hsv
          have HX := Lib.hid hx
          have hlen : (varsT (allT xs ++ (cds.take k).map cdT)).length ≤ 1048576 ∧ m ≤ 2097152 := by
            have h0 := varsT_length (allT xs ++ (cds.take k).map cdT)
            have h2 : (allT xs).length ≤ 524288 := HBD.out.tl
            have h3 := hJ.cnt
            simp only [List.length_append, List.length_map, List.length_take] at h0 h3
            omega
          have HLEN := Lib.hid hlen
          have hwb : w.heap.size ≤ wr.heap.size := hJ.ext.size
          clear hx hJ hlen e1
          go_wp2_with fail
          have hx4 : Ext wr (wr.alloc (.cells #[.string x.var, .int .i64 x.op, .int .i64 x.kind, .int .i64 x.int, .string x.str] 87)) := (Ext.refl wr).alloc _
          refine (add_any (HJ.out.fore hx4).vb (Nat.le_trans hwb hx4.size) HLEN.out.2 HLEN.out.1 hsv).mono ?_
          intro e w5 hpost
          obtain ⟨vv', hstep⟩ := VaI.step (t := cdT x) HJ.out (by omega) (by omega) hx4 hpost
          obtain ⟨-, rfl, -⟩ := hpost
          have HS5 := Lib.hid hstep
          clear hstep hx4 d0 d1 d2 d3 d4
          go_wp2_with fail
          go_roundw
          case rel =>
            refine ⟨k + 1, m + 1, vv', by omega, by go_num, ?_⟩
            rw [List.take_succ_eq_append_getElem hkl, ← HX.out, List.map_append, ← List.append_assoc]
            exact HS5.out
          case measure => simp [intOf]; omega
        · obtain rfl : k = nc := by omega
          have hdk : ¬ (k : Int) < (k : Int) := by omega
          have e2 := hJ.vb.vars.cell (i := 0) (by simp)
          simp only [List.getElem_cons_zero, List.getElem_cons_succ] at e2
          obtain ⟨Av, cv, rfl⟩ := own_slice hJ.vb.row
          obtain ⟨mv, hmv⟩ : ∃ mv, mv = (varsT (allT xs ++ (cds.take k).map cdT)).length := ⟨_, rfl⟩
          rw [← hmv] at e2
          have HMV := Lib.hid hmv
          clear hJ hmv e1
          go_wp2_with fail
          go_ret
          have h := HJ.out
          have et : cds.take k = cds := by rw [HNC.out]; exact List.take_length
          have em : mv = (varsT (allT xs ++ cds.map cdT)).length := by rw [HMV.out, et]
          rw [et] at h
          have hh : Ret (fun x w' => w'.ownsRow w.heap.size 9 1 x (varsT (allT xs ++ cds.map cdT)).length ((varsT (allT xs ++ cds.map cdT)).map Sv)) w (.returned (.slice Av mv cv)) wr := by
            rw [em]; exact Ret.mk h.ext h.vb.row
          exact hh
end Go.Proofs.YtmmmdinncmbjkaaGreat
