/- Contract: check.verify. -/
import Derived.Test.YtmmmdinncmbjkaaNr
namespace Go.Proofs.Ytmmmdinncmbjkaa
open Go.RowKit Go.Maps

set_option maxRecDepth 20000 in
set_option maxHeartbeats 1600000 in
theorem verify_any {F G : Nat → Prop} {w : World} {va vc : Value} {r : Rl} {b m : Nat} {km : Km} (hA : Ats F w va r.ats) (hC : Sl rdCd G w vc r.cds) (hM : MapV w b m (kmF km)) (hz : RlZ r) (hl : ∀ a ∈ r.ats, a.terms.length ≤ 1048576) (hl1 : r.ats.length ≤ 1048576) (hl2 : r.cds.length ≤ 1048576) :
    Calls Try.prog 23 #[.agg #[va, vc], .map (some b)] w (Ret (fun x _ => x = .int .i64 (verifyE km r)) w) := by
  obtain ⟨A, c, rfl⟩ := hA.sl
  obtain ⟨C, d, rfl⟩ := hC.sl
  obtain ⟨n, hn⟩ : ∃ n, n = r.ats.length := ⟨_, rfl⟩
  obtain ⟨nc, hnc⟩ : ∃ m, m = r.cds.length := ⟨_, rfl⟩
  rw [← hn] at hA hl1 ⊢
  rw [← hnc] at hC hl2 ⊢
  have HA0 := Lib.hid hA; have HA := Lib.hid hA.at2; have HC := Lib.hid hC; have HN := Lib.hid hn; have HNC := Lib.hid hnc; have HZ := Lib.hid hz; have HM := Lib.hid hM; have HL := Lib.hid hl
  have hE1 : firstE (kindE km) r.cds = 0 → verifyE km r = firstE (negE r.ats) r.ats := fun h => if_pos h
  have hE2 : firstE (kindE km) r.cds ≠ 0 → verifyE km r = firstE (kindE km) r.cds := fun h => if_neg h
  have HE1 := Lib.hid hE1; have HE2 := Lib.hid hE2
  clear hn hnc hA hC hz hM hl hE1 hE2
  go_enter Try.func23, Try.ntmps23
  go_wp2_with fail
  have hx : Ext w (w.alloc (.cells #[.slice A n c, .slice C nc d] 48)) := (Ext.refl w).alloc _
  have kb := Bk.new w 48 [.slice A n c, .slice C nc d]
  change Bk (w.alloc (.cells #[.slice A n c, .slice C nc d] 48)) _ _ _ at kb
  generalize (w.alloc (.cells #[.slice A n c, .slice C nc d] 48)) = w1 at *
  have HKB := Lib.hid kb
  clear kb
  go_loopw [14] (fun t wr => ∃ i : Nat, i ≤ nc ∧ t = .int .i64 (i : Int) ∧ Hid (∀ j (_ : j < i) (_ : j < r.cds.length), kindE km r.cds[j] = 0) ∧ Ext w1 wr) (fun t _ => nc - (intOf t).toNat)
  case atStart => exact ⟨0, Nat.zero_le _, rfl, Lib.hid (fun j hj => by omega), Ext.refl _⟩
  case round =>
    obtain ⟨i, hi, rfl, H, hxr⟩ := hrel
    obtain ⟨W, rfl⟩ : ∃ W : World, W = wr := ⟨_, rfl⟩
    have HX := Lib.hid (hx.trans hxr); have HX1 := Lib.hid hxr
    by_cases hlt : i < nc
    · have i1 : (0 : Int) ≤ (i : Int) := by omega
      have i2 : (i : Int) < (nc : Int) := by omega
      have hit : i < r.cds.length := by have := HNC.out; omega
      obtain ⟨ad, rfl, -, d0, d1, d2, d3, d4⟩ := HC.out.cd hit
      replace d0 := HX.out.cell d0; replace d1 := HX.out.cell d1; replace d2 := HX.out.cell d2; replace d3 := HX.out.cell d3; replace d4 := HX.out.cell d4
      have hgo := take_ok (f := kindE km) hit H.out
      have hst := firstE_at (f := kindE km) hit H.out
      have hz1 := HZ.out.var _ (List.getElem_mem hit)
      obtain ⟨x, hx⟩ : ∃ x, x = r.cds[i] := ⟨_, rfl⟩
      rw [← hx] at d0 d1 d2 d3 d4 hgo hst hz1
      obtain ⟨xv, op, kd, it, st⟩ := x
      simp only at d0 d1 d2 d3 d4 hz1
      have HGO := Lib.hid hgo; have HST := Lib.hid hst
      have hget := kmF_get km xv
      obtain ⟨kv, hkv⟩ : ∃ kv, kv = (km xv).getD 0 := ⟨_, rfl⟩
      rw [← hkv] at hget
      have HGET := Lib.hid hget
      have hke : kindE km ⟨xv, op, kd, it, st⟩ = if kd = kv then 0 else 5 := by rw [hkv]; rfl
      have HKE := Lib.hid hke
      clear hgo hst hx hkv hget hke hxr
      by_cases hk : kd = kv
      · have HG := Lib.hid (HGO.out (by rw [HKE.out, if_pos hk]))
        have hb : (kd != kv) = false := by rw [hk]; simp
        clear hk
        go_wp2_with (first | (refine wpList_lookup_V rfl _ _ 84 3 rfl Try.underlying84 (.int .i64 0) (zero_int _) b m _ rfl (HM.out.ext (HX.out.alloc _)) xv rfl hz1 (.int .i64 kv) HGET.out ?_))
        go_roundw
        case rel => exact ⟨i + 1, by omega, by go_num, HG, HX1.out.alloc _⟩
        case measure => simp [intOf]; omega
      · have h5 : kindE km ⟨xv, op, kd, it, st⟩ = 5 := by rw [HKE.out, if_neg hk]
        have hf5 := HST.out (by rw [h5]; decide)
        have HQ : Hid (verifyE km r = 5) := Lib.hid (by rw [HE2.out (by rw [hf5, h5]; decide), hf5, h5])
        have hb : (kd != kv) = true := by rw [bne_iff_ne]; exact hk
        clear hk h5 hf5
        go_wp2_with (first | (refine wpList_lookup_V rfl _ _ 84 3 rfl Try.underlying84 (.int .i64 0) (zero_int _) b m _ rfl (HM.out.ext (HX.out.alloc _)) xv rfl hz1 (.int .i64 kv) HGET.out ?_))
        go_ret
        exact Ret.mk (HX.out.alloc _) (ret_i HQ.out)
    · obtain rfl : i = nc := by omega
      have hdi : ¬ (i : Int) < (i : Int) := by omega
      have HV := Lib.hid (HE1.out (firstE_all (fun j hj => H.out j (by have := HNC.out; omega) hj)))
      have b0 := (HKB.out.ext hxr).cell (i := 0) (by simp)
      simp only [List.getElem_cons_zero, List.getElem_cons_succ] at b0
      go_wp2_with fail
      have HKW := Lib.hid (HKB.out.ext HX1.out)
      clear b0
      go_loopw [30] (fun t wr => ∃ i : Nat, i ≤ n ∧ t = .int .i64 (i : Int) ∧ Hid (∀ j (_ : j < i) (_ : j < r.ats.length), negE r.ats r.ats[j] = 0) ∧ Ext W wr) (fun t _ => n - (intOf t).toNat)
      case atStart => exact ⟨0, Nat.zero_le _, rfl, Lib.hid (fun j hj => by omega), Ext.refl _⟩
      case round =>
        obtain ⟨k, hk, rfl, H2, hxk⟩ := hrel
        have HY := Lib.hid (HX.out.trans hxk); have HY1 := Lib.hid hxk
        by_cases hkm : k < n
        · have j1 : (0 : Int) ≤ (k : Int) := by omega
          have j2 : (k : Int) < (n : Int) := by omega
          have hit : k < r.ats.length := by have := HN.out; omega
          have b0 := (HKW.out.ext hxk).cell (i := 0) (by simp); have b1 := (HKW.out.ext hxk).cell (i := 1) (by simp)
          simp only [List.getElem_cons_zero, List.getElem_cons_succ] at b0 b1
          have hkb : w.heap.size < wr.heap.size := (HKW.out.ext hxk).lt
          obtain ⟨ad, Bt, dt, rfl, -, d0, d1, d2, -⟩ := HA.out k hit
          replace d0 := HY.out.cell d0; replace d1 := HY.out.cell d1; replace d2 := HY.out.cell d2
          have hgo := take_ok (f := negE r.ats) hit H2.out
          have hst := firstE_at (f := negE r.ats) hit H2.out
          have hgd := fun (V : World) (hV : Ext w V) (hng : r.ats[k].neg = true) => guard_any (C := C) (nc := i) (cc := d) (k := k) (HA0.out.ext hV) HZ.out.tms HL.out hit hng hl1
          obtain ⟨x, hx⟩ : ∃ x, x = r.ats[k] := ⟨_, rfl⟩
          rw [← hx] at d0 d1 d2 hgo hst hgd
          have HGO := Lib.hid hgo; have HST := Lib.hid hst
          have HGD := Lib.hid hgd
          have HNE : Hid (negE r.ats x = if x.neg = true then (if (guardI r.ats x).isSome = true then 0 else 23) else 0) := Lib.hid rfl
          obtain ⟨ng, hng⟩ : ∃ ng, ng = x.neg := ⟨_, rfl⟩
          rw [← hng] at d0 HNE HGD
          clear hx hgo hst hgd hxk hng
          rcases ng with _ | _
          · have HG := Lib.hid (HGO.out (by rw [HNE.out]; rfl))
            go_wp2_with fail
            go_roundw
            case rel => exact ⟨k + 1, by omega, by go_num, HG, HY1.out.alloc _⟩
            case measure => simp [intOf]; omega
          · go_wp2_with fail
            refine (HGD.out _ (HY.out.alloc _) (by trivial)).mono ?_
            rintro e w5 ⟨he5, hpost⟩
            have HX5 := Lib.hid he5
            clear he5 d0 d1 d2 b0 b1
            rcases hpost with ⟨g, hg, rfl⟩ | ⟨hg, rfl⟩
            · have HG := Lib.hid (HGO.out (by rw [HNE.out, if_pos (by trivial), hg]; rfl))
              clear hg
              go_wp2_with fail
              go_roundw
              case rel => exact ⟨k + 1, by omega, by go_num, HG, (HY1.out.alloc _).trans HX5.out⟩
              case measure => simp [intOf]; omega
            · have h23 : negE r.ats x = 23 := by rw [HNE.out, if_pos (by trivial), hg]; rfl
              have HQ : Hid (verifyE km r = 23) := Lib.hid (by rw [HV.out, HST.out (by rw [h23]; decide), h23])
              clear hg h23
              go_wp2_with fail
              go_ret
              exact Ret.mk ((HY.out.alloc _).trans HX5.out) (ret_i HQ.out)
        · obtain rfl : k = n := by omega
          have hdk : ¬ (k : Int) < (k : Int) := by omega
          have HQ : Hid (verifyE km r = 0) := Lib.hid (by rw [HV.out]; exact firstE_all (fun j hj => H2.out j (by have := HN.out; omega) hj))
          go_wp2_with fail
          go_ret
          exact Ret.mk HY.out (ret_i HQ.out)
end Go.Proofs.Ytmmmdinncmbjkaa
