/- Contract: sample.Distinct. -/
import Derived.Test.YtamkbboijblooaaDistA
namespace Go.Proofs.Ytamkbboijblooaa
open Go.RowKit

/-- What Distinct leaves. -/
def DistPost (w : World) (bs : List Nat) (R : Option (List Nat × Nat)) (e : Ending) (w' : World) : Prop :=
  Ext w w' ∧ match R with
    | none => e = .returned (.tuple #[.slice none 0 0, .agg #[.slice none 0 0, .int .i64 0], .int .i64 36])
    | some (l, p) => ∃ A c A' c', e = .returned (.tuple #[.slice A l.length c, .agg #[.slice A' bs.length c', .int .i64 (p : Int)], .int .i64 0]) ∧ Ns w' A l.length (fun i => l.getD i 0) ∧ By w' (.slice A' bs.length c') bs ∧ (∀ ad, A = some ad → w.heap.size ≤ ad.block)

theorem NsL.add {w1 w' : World} {base : Nat} {v v' : Value} {l : List Nat} {B : Option Addr} {a d y : Nat} {vs : List Value} (h1 : Row w1 base 29 (.slice none 0 0) v vs) (h2 : NumsL w1 vs l) (k : Nat)
    (hr : Row w' base 29 (.slice none 0 0) v' (vs.take k ++ [.slice B a d] ++ vs.drop k)) (hg : w1.grownBy w' v.ownBlock) (hx : Nz w1 (.slice B a d) y) : NsL w' base v' (l.take k ++ [y] ++ l.drop k) := by
  obtain ⟨f1, _⟩ := row_far h1 h2 hg
  obtain ⟨s1, s2⟩ := h2.split k
  exact ⟨_, hr, NumsL.append (NumsL.append (s1.map f1) ⟨⟨⟨_, _, _, rfl⟩, f1 hx⟩, trivial⟩) (s2.map f1)⟩

theorem NsL.snoc {w1 w' : World} {base : Nat} {v v' : Value} {l : List Nat} {B : Option Addr} {a d y : Nat} {vs : List Value} (h1 : Row w1 base 29 (.slice none 0 0) v vs) (h2 : NumsL w1 vs l)
    (hr : Row w' base 29 (.slice none 0 0) v' (vs ++ [.slice B a d])) (hg : w1.grownBy w' v.ownBlock) (hx : Nz w1 (.slice B a d) y) : NsL w' base v' (l ++ [y]) := by
  obtain ⟨f1, _⟩ := row_far h1 h2 hg
  exact ⟨_, hr, NumsL.append (h2.map f1) ⟨⟨⟨_, _, _, rfl⟩, f1 hx⟩, trivial⟩⟩

set_option maxRecDepth 20000 in
set_option maxHeartbeats 3200000 in
theorem distinct_any {w : World} {u t : Value} {n m pos : Nat} {bs : List Nat} (hu : Nv w u n) (hn : n ≤ 255) (hm : m ≤ n) (ht : Tp w t bs pos) (hp : pos ≤ 8 * bs.length) :
    Calls Try.prog 45 #[u, .int .i64 (m : Int), t] w (DistPost w bs (dist (bitAt bs) (8 * bs.length) m (n - m) [] pos)) := by
  obtain ⟨s, rfl, hs⟩ := ht
  obtain ⟨A, c, rfl, hc⟩ := hs.parts
  have hd1 : decide ((m : Int) < 0) = false := by simp
  have hd2 : decide ((4096 : Int) < m) = false := by simp; omega
  have hcv : IntKind.u64.wrap (m : Int) = (m : Int) := u64_id (by omega)
  obtain ⟨i0, hi0, hz0, hz1, hz2⟩ := info_parts info_nat
  have HI := Lib.hid (And.intro hi0 (And.intro hz0 (And.intro hz1 hz2))); clear hi0 hz0 hz1 hz2
  obtain ⟨R, hR⟩ : ∃ R, dist (bitAt bs) (8 * bs.length) m (n - m) [] pos = R := ⟨_, rfl⟩
  rw [hR]
  have HR := Lib.hid hR; have HP := Lib.hid hp
  clear hR hp hc
  go_enter Try.func45, Try.ntmps45
  go_wp2_with fail
  have hx0 : Ext w ((w.alloc (.cells #[.slice A bs.length c, .int .i64 (pos : Int)] 25)).alloc (.cells #[.slice none 0 0, .int .i64 0] 25)) := ((Ext.refl w).alloc _).alloc _
  have k0 : Bk ((w.alloc (.cells #[.slice A bs.length c, .int .i64 (pos : Int)] 25)).alloc (.cells #[.slice none 0 0, .int .i64 0] 25)) w.heap.size 25 [.slice A bs.length c, .int .i64 (pos : Int)] := (Bk.new w _ [.slice A bs.length c, .int .i64 (pos : Int)]).alloc _
  have k1 : Bk ((w.alloc (.cells #[.slice A bs.length c, .int .i64 (pos : Int)] 25)).alloc (.cells #[.slice none 0 0, .int .i64 0] 25)) (w.heap.size + 1) 25 [.slice none 0 0, .int .i64 0] := by
    have h := Bk.new (w.alloc (.cells #[.slice A bs.length c, .int .i64 (pos : Int)] 25)) 25 [.slice none 0 0, .int .i64 0]
    rw [show (w.alloc (.cells #[.slice A bs.length c, .int .i64 (pos : Int)] 25)).heap.size = w.heap.size + 1 by simp] at h
    exact h
  generalize ((w.alloc (.cells #[.slice A bs.length c, .int .i64 (pos : Int)] 25)).alloc (.cells #[.slice none 0 0, .int .i64 0] 25)) = W0 at *
  refine (of_nz m (by omega) _).mono ?_
  rintro e w1 ⟨_, rfl, he1, ho⟩
  go_wp2_with fail
  refine (cmp_le ho.nv (hu.ext (hx0.trans he1)) hm).mono ?_
  rintro e w2 ⟨ce, rfl, hce, hq2⟩
  have hce' : ¬ 0 < ce := by omega
  have hx2 := (hx0.trans he1).trans hq2.ext
  have l0 := (k0.ext he1).ext hq2.ext
  have l1 := (k1.ext he1).ext hq2.ext
  have hs2 := hs.ext hx2
  have hu2 := hu.ext hx2
  have d0 := l0.cell (i := 0) (by simp)
  have d1 := l0.cell (i := 1) (by simp)
  simp only [List.getElem_cons_zero, List.getElem_cons_succ] at d0 d1
  clear he1 hq2 ho k0 k1 hx0 hs hu hce
  have hgr : w.heap.size + 1 < w2.heap.size := l1.lt
  have hz : Ext w2 (w2.alloc (.cells #[.slice A bs.length c, .int .i64 (pos : Int)] 87)) := (Ext.refl w2).alloc _
  have k2 : Bk (w2.alloc (.cells #[.slice A bs.length c, .int .i64 (pos : Int)] 87)) w2.heap.size 87 [.slice A bs.length c, .int .i64 (pos : Int)] := Bk.new w2 _ [.slice A bs.length c, .int .i64 (pos : Int)]
  have henv : DEnv w (w2.alloc (.cells #[.slice A bs.length c, .int .i64 (pos : Int)] 87)) w2.heap.size (.slice A bs.length c) bs pos pos := ⟨l0.ext hz, l1.ext hz, k2, hs2.ext hz, hx2.trans hz, hgr⟩
  have hu3 := hu2.ext hz
  have HENV := Lib.hid henv; have HU3 := Lib.hid hu3
  clear henv hu3 k2 hz l0 l1 hs2 hu2 hx2 hgr
  go_wp2_with fail
  refine (of_nz m (by omega) _).mono ?_
  rintro e w4 ⟨_, rfl, he4, ho⟩
  go_wp2_with fail
  refine (sub_nv (HU3.out.ext he4) ho.nv hm (Nat.le_trans (dl (by omega)) (by omega))).mono ?_
  rintro e w5 ⟨_, rfl, he5, jv, rfl, hj⟩
  have henv := (HENV.out.ext he4).ext he5
  have hbase : w2.heap.size < w4.heap.size := by have := he4.size; simp at this; omega
  have hb45 := he5.size
  clear HENV HU3 he4 he5 ho d0 d1 hce' hd1 hd2 hcv
  go_wp2_with fail
  obtain ⟨gR, hgR⟩ : ∃ gR, gR = w2.heap.size := ⟨_, rfl⟩
  rw [← hgR] at henv hbase ⊢
  clear hgR
  obtain ⟨base, hbs⟩ : ∃ base, base = w4.heap.size := ⟨_, rfl⟩
  rw [← hbs] at hbase hb45
  clear hbs
  have HE0 := Lib.hid henv; have HJ0 := Lib.hid hj
  clear henv hj
  go_loopw [10, 11, 47] (fun v jv q wr => ∃ (k : Nat) (l : List Nat) (p : Nat), k ≤ m ∧ q = .int .i64 (k : Int) ∧ Hid (dist (bitAt bs) (8 * bs.length) (m - k) (n - m + k) l p = R) ∧ SetOk l (n - m + k) k ∧ p ≤ 8 * bs.length ∧ NsL wr base v l ∧ Nz wr jv (n - m + k) ∧ DEnv w wr gR (.slice A bs.length c) bs pos p ∧ base ≤ wr.heap.size) (fun _ _ q _ => m - (intOf q).toNat)
  case atStart => exact ⟨0, [], pos, Nat.zero_le _, rfl, HR, ⟨List.Pairwise.nil, fun _ h => (by simp at h), rfl⟩, HP.out, NsL.nil _ _, HJ0.out, HE0.out, hb45⟩
  case round =>
    clear HR HP HE0 HJ0 hb45
    obtain ⟨k, l, p, hk, rfl, HD, hok, hp, hns, hj, henv, hsz⟩ := hrel
    have HOK := Lib.hid hok; have HPP := Lib.hid hp
    clear hok hp
    by_cases hlt : k < m
    · go_wp2_with fail
      refine (of_nz 1 (by omega) _).mono ?_
      rintro e v1 ⟨_, rfl, he1, ho⟩
      replace hns := hns.ext he1
      replace hj := hj.ext he1
      replace henv := henv.ext he1
      have hs1 := he1.size
      clear he1
      go_wp2_with fail
      refine (add_nv hj.nv ho.nv (Nat.le_trans (dl (by omega)) (by omega)) (Nat.le_trans (dl (by omega)) (by omega))).mono ?_
      rintro e v2 ⟨nx, rfl, he2, hnx⟩
      replace hns := hns.ext he2
      replace hj := hj.ext he2
      replace henv := henv.ext he2
      have hs2 := he2.size
      clear he2 ho
      go_wp2_with fail
      refine (uniform_any hnx.nv (by omega) (dig_small (by omega)) henv.2.2.1 henv.2.2.2.1 HPP.out).mono ?_
      rintro e v3 ⟨hm3, hU⟩
      have hdd := HD.out
      rw [show m - k = (m - (k + 1)) + 1 by omega] at hdd
      rw [show n - m + k + 1 - 1 = n - m + k by omega] at hU
      replace hns := hns.mod hm3 henv.2.2.1 (rd_u32 _ _ ⟨_, _, _, rfl⟩) hbase
      have hj3 : Nz v3 _ _ := Dg.mod hj henv.2.2.1 (rd_u32 _ _ ⟨_, _, _, rfl⟩) hm3
      have hnx3 : Nz v3 _ _ := Dg.mod hnx henv.2.2.1 (rd_u32 _ _ ⟨_, _, _, rfl⟩) hm3
      have hs3 := hm3.size
      rcases hun : uni (bitAt bs) (8 * bs.length) (n - m + k + 1) (blen (n - m + k)) (8 * bs.length + 1) p with _ | ⟨r, q⟩
      · rw [hun] at hU
        rw [dist_none hun] at hdd
        subst hdd
        simp only at hU
        subst hU
        have hgR2 := henv.2.2.2.2.2
        have l1 := hm3.bk henv.2.1 (by omega)
        have hxm := henv.2.2.2.2.1.mod hm3 (by omega)
        have c0 := l1.cell (i := 0) (by simp)
        have c1 := l1.cell (i := 1) (by simp)
        have f0 := l1.free 0
        have f1 := l1.free 1
        have m1 := (l1.set 0 (.slice none 0 0)).set 1 (.int .i64 0)
        have r0 := m1.cell (i := 0) (by simp)
        have r1 := m1.cell (i := 1) (by simp)
        have HR := Lib.hid (And.intro r0 r1)
        have HX := Lib.hid hxm
        clear r0 r1 m1 hun henv hj hj3 hnx hnx3 hns hm3 l1 hxm HD
        go_wp2_with fail
        refine bodyPost_ret (v := .tuple #[.slice none 0 0, .agg #[.slice none 0 0, .int .i64 0], .int .i64 36]) ?_ rfl ⟨(HX.out.setCell (p := ⟨w.heap.size + 1, 0, none⟩) (by simp) _).setCell (p := ⟨w.heap.size + 1, 1, none⟩) (by simp) _, rfl⟩
        obtain ⟨r0, r1⟩ := HR.out
        simp [results, Try.results45, go_sem, r0, r1]
      · rw [hun] at hU
        rw [dist_some hun] at hdd
        obtain ⟨x, rfl, hxr, hrd⟩ := hU
        have hrj := (uni_some hun).1
        have hq := (uni_some hun).2.2.1
        replace henv := henv.mod hm3 hrd
        have HDD := Lib.hid hdd; have HQ := Lib.hid hq
        clear hun hdd hq hm3 hrd hj hnx HD HPP
        obtain ⟨SA, Sc, hv, hNs⟩ := hns.out
        have hlen := HOK.out.len
        rw [hlen] at hv hNs
        subst hv
        go_wp2_with fail
        refine (search_ns hNs (by omega) hxr.nv (fun i j hij hjm => asc_get HOK.out.asc hij (by omega))).mono ?_
        rintro e v4 ⟨at', rfl, hF, hq4⟩
        replace hns := hns.ext hq4.ext
        have hj4 := hj3.ext hq4.ext
        have hnx4 := hnx3.ext hq4.ext
        have hxr4 := hxr.ext hq4.ext
        replace henv := henv.ext hq4.ext
        have hs4 := hq4.ext.size
        rw [← hlen] at hF
        have hmem := found_mem HOK.out.asc hF
        rw [hlen] at hmem
        have hF2 : at' ≤ l.length := hF.1
        clear hj3 hnx3 hxr hq4 hNs
        have HF := Lib.hid hF
        have hok2 := HOK.out.put hrj
        clear hF hlen
        by_cases hin : r ∈ l
        · rw [decide_eq_true (hmem.2 hin)]
          have hpk : pick l r (n - m + k) = n - m + k := by simp [pick, hin]
          rw [hpk, putL_last HOK.out.lt] at hok2
          have hdd := HDD.out
          rw [hpk, putL_last HOK.out.lt] at hdd
          obtain ⟨JB, jd, hje⟩ := hj4.slice
          generalize (dig (n - m + k)).length = ja at hje
          subst hje
          have HDD2 := Lib.hid hdd; have HOK2 := Lib.hid hok2
          have hal : Ext v4 (v4.alloc (.cells #[.slice JB ja jd] 29)) := (Ext.refl v4).alloc _
          obtain ⟨vs, hrw, hnums⟩ := hns.ext hal
          have hvl := hnums.len
          have henv5 := henv.ext hal
          have hj5 := hj4.ext hal
          have hnx5 := hnx4.ext hal
          have hlen := HOK.out.len
          have HVL := Lib.hid (hvl.trans hlen)
          have HA := Lib.hid (And.intro hnums (And.intro henv5 (And.intro hj5 hnx5)))
          have hbz : base ≤ (v4.alloc (.cells #[.slice JB ja jd] 29)).heap.size := by have := hal.size; omega
          clear hmem hpk hdd hok2 HDD HF hns hnums hvl henv5 hj5 hnx5 hlen henv hj4 hnx4 hxr4 hal hF2 hin
          go_wp2_with (first | (at_builtin; refine wpList_append_row rfl _ _ 64 rfl base 29 i0 (.slice none 0 0) 24 Try.underlying64 HI.out.1 HI.out.2.1 HI.out.2.2.1 HI.out.2.2.2 rfl _ vs rfl hrw ⟨v4.heap.size, 0, none⟩ 1 (.slice JB ja jd) rfl ?c1 rfl ?c3 ?c4 hbz ?_))
          case c1 => exact one_new v4 _ _ 0 _ rfl
          case c3 => rw [HVL.out]; simp only [maxLen]; omega
          case c4 => rw [HVL.out]; omega
          intro v' w' hr' hgr
          obtain ⟨hnums, henv5, hj5, hnx5⟩ := HA.out
          have hns2 := NsL.snoc hrw hnums hr' hgr hj5
          have henv6 := henv5.row hrw hnums hgr hbase
          have hnx6 : Nz w' _ _ := (row_far hrw hnums hgr).1 hnx5
          have hsz2 : base ≤ w'.heap.size := Nat.le_trans hbz (World.grownBy.size hgr)
          clear hrw hr' hgr hnums henv5 hj5 hnx5 HA
          go_wp2_with fail
          go_roundw
          case rel => exact ⟨k + 1, l ++ [n - m + k], q, by omega, by go_num, HDD2, HOK2.out, HQ.out, hns2, hnx6, henv6, hsz2⟩
          case measure => simp [intOf]; omega
        · rw [decide_eq_false (fun h => hin (hmem.1 h))]
          have hpk : pick l r (n - m + k) = r := by simp [pick, hin]
          rw [hpk, found_put HF.out] at hok2
          have hdd := HDD.out
          rw [hpk, found_put HF.out] at hdd
          obtain ⟨JB, jd, hje⟩ := hxr4.slice
          generalize (dig r).length = ja at hje
          subst hje
          have HDD2 := Lib.hid hdd; have HOK2 := Lib.hid hok2
          have hal : Ext v4 (v4.alloc (.cells #[.slice JB ja jd] 29)) := (Ext.refl v4).alloc _
          have hlen := HOK.out.len
          obtain ⟨vs4, hrw4, hnums4⟩ := hns
          have hrw := hrw4.ext hal
          have hnums := hnums4.map (fun h => Dg.ext h hal)
          have hvl := hnums.len
          have hkb : Bk (v4.alloc (.cells #[.slice JB ja jd] 29)) v4.heap.size 29 [.slice JB ja jd] := Bk.new v4 _ [.slice JB ja jd]
          have henv5 := henv.ext hal
          have hx5 := hxr4.ext hal
          have hnx5 := hnx4.ext hal
          have hbz : base ≤ (v4.alloc (.cells #[.slice JB ja jd] 29)).heap.size := by have := hal.size; omega
          have HIN := Lib.hid (insert_row hrw hbz (i := at') (by omega) (by omega) hkb (fun g hg => by have := (hrw4.own.lt g hg).2; omega) rfl hnums.one)
          have HA := Lib.hid (And.intro hrw (And.intro hnums (And.intro henv5 (And.intro hx5 hnx5))))
          clear hmem hpk hdd hok2 HDD HF hnums hvl henv5 hx5 hnx5 hlen henv hj4 hnx4 hxr4 hal hrw hrw4 hnums4 hkb hin
          go_wp2_with fail
          refine HIN.out.mono ?_
          rintro e w' ⟨v', rfl, hr', hgr⟩
          obtain ⟨hrw, hnums, henv5, hx5, hnx5⟩ := HA.out
          have hns2 := NsL.add hrw hnums at' hr' hgr hx5
          have henv6 := henv5.row hrw hnums hgr hbase
          have hnx6 : Nz w' _ _ := (row_far hrw hnums hgr).1 hnx5
          have hsz2 : base ≤ w'.heap.size := Nat.le_trans hbz (World.grownBy.size hgr)
          clear hrw hr' hgr hnums henv5 hx5 hnx5 HA HIN
          go_wp2_with fail
          go_roundw
          case rel => exact ⟨k + 1, l.take at' ++ [r] ++ l.drop at', q, by omega, by go_num, HDD2, HOK2.out, HQ.out, hns2, hnx6, henv6, hsz2⟩
          case measure => simp [intOf]; omega
    · obtain rfl : k = m := by omega
      have hdd := HD.out
      rw [Nat.sub_self] at hdd
      simp only [dist] at hdd
      subst hdd
      obtain ⟨SA, Sc, hv, hNs⟩ := hns.out
      obtain ⟨l0, l1, hr, hs1, hxm, hgR2⟩ := henv
      have HBL : Hid (∀ ad, SA = some ad → w.heap.size ≤ ad.block) := Lib.hid (by
        rintro ad rfl
        obtain ⟨vs, hrw, _⟩ := hns
        have := hrw.block ad.block (by rw [hv]; rfl)
        omega)
      have d0 := l0.cell (i := 0) (by simp)
      have d1 := l0.cell (i := 1) (by simp)
      have d2 := Bk.cell hr (i := 1) (by simp)
      have c0 := l1.cell (i := 0) (by simp)
      have c1 := l1.cell (i := 1) (by simp)
      have f0 := l1.free 0
      have f1 := l1.free 1
      simp only [List.getElem_cons_zero, List.getElem_cons_succ] at d0 d1 d2 c0 c1
      have L1 := Lib.hid l1; have HX := Lib.hid hxm; have HNS := Lib.hid hns; have HS1 := Lib.hid hs1; have HV := Lib.hid hv
      clear l1 l0 hr hs1 hxm hns hNs hv hj HD HPP
      go_upto_region 20 with fail
      go_region_held3 (fun W => W.cell? ⟨w.heap.size, 0, none⟩ = some (.slice A bs.length c) ∧ W.cell? ⟨w.heap.size, 1, none⟩ = some (.int .i64 pos) ∧ W.cell? ⟨gR, 1, none⟩ = some (.int .i64 (p : Int)))
        (first | exact ⟨d0, d1, d2⟩ | exact ⟨he2.cell d0, he2.cell d1, he2.cell d2⟩ | exact ⟨cell_far (cell_far (he2.cell d0) (by simp)) (by simp), cell_far (cell_far (he2.cell d1) (by simp)) (by simp), cell_far (cell_far (he2.cell d2) (by simp; omega)) (by simp; omega)⟩)
        (first | (go_at_call 51; refine (used_tp (bs := bs) (pos := (pos : Int)) (p : Int) ?_).mono ?_; exact ⟨_, rfl, HS1.out.ext ((Ext.refl _).drew)⟩; rintro e w2 ⟨t', rfl, he2, ⟨s', rfl, hs'⟩⟩; obtain ⟨A', c', rfl, -⟩ := hs'.parts; have n1 := L1.out.drew.ext he2; have g0 := n1.cell (i := 0) (by simp); have g1 := n1.cell (i := 1) (by simp); have q0 := n1.free 0; have q1 := n1.free 1))
      have hm2 : Mod (w.heap.size + 1) w2 ((w2.setCell ⟨w.heap.size + 1, 0, none⟩ (.slice A' bs.length c')).setCell ⟨w.heap.size + 1, 1, none⟩ (.int .i64 (p : Int))) := ((Mod.refl _ w2).setCell (p := ⟨w.heap.size + 1, 0, none⟩) (.inl rfl) _).setCell (p := ⟨w.heap.size + 1, 1, none⟩) (.inl rfl) _
      have hxf := (HX.out.drew.trans he2).mod hm2 (by omega)
      have hnf := ((HNS.out.ext (Ext.refl _).drew).ext he2).mod hm2 n1 (by simp [U32]) (by omega)
      have hsf := hs'.mod n1 (by simp [U8]) hm2
      have m1 := (n1.set 0 (.slice A' bs.length c')).set 1 (.int .i64 (p : Int))
      have r0 := m1.cell (i := 0) (by simp)
      have r1 := m1.cell (i := 1) (by simp)
      have HR := Lib.hid (And.intro r0 r1); clear r0 r1 m1
      obtain ⟨SA2, Sc2, hv2, hNs2⟩ := hnf.out
      rw [HV.out] at hv2
      injection hv2 with e1 e2 e3
      subst e1 e3
      have HF := Lib.hid (And.intro hxf (And.intro hNs2 hsf)); clear hxf hnf hsf hm2 hNs2 e2
      have hv := HV.out
      go_wp2_with fail
      refine bodyPost_ret (v := .tuple #[.slice SA l.length Sc, .agg #[.slice A' bs.length c', .int .i64 (p : Int)], .int .i64 0]) ?_ rfl ⟨HF.out.1, ⟨_, _, _, _, rfl, HF.out.2.1, HF.out.2.2, HBL.out⟩⟩
      obtain ⟨r0, r1⟩ := HR.out
      simp [results, Try.results45, go_sem, r0, r1]
      exact hv

set_option maxHeartbeats 800000 in
theorem distinct_neg {w : World} {u t : Value} {m pos : Int} {bs : List Nat} (hm : m < 0) (ht : Tp w t bs pos) :
    Calls Try.prog 45 #[u, .int .i64 m, t] w fun e w' => e = .returned (.tuple #[.slice none 0 0, .agg #[.slice none 0 0, .int .i64 0], .int .i64 3]) ∧ Ext w w' := by
  obtain ⟨s, rfl, hs⟩ := ht
  obtain ⟨A, c, rfl, hc⟩ := hs.parts
  have hx : Ext w (((w.alloc (.cells #[.slice A bs.length c, .int .i64 pos] 25)).alloc (.cells #[.slice none 0 0, .int .i64 0] 25))) := ((Ext.refl w).alloc _).alloc _
  have HX := Lib.hid hx
  clear hx hs hc
  have hd : decide (m < 0) = true := by simp; omega
  go_enter Try.func45, Try.ntmps45
  go_wp2_with fail
  refine bodyPost_ret (v := .tuple #[.slice none 0 0, .agg #[.slice none 0 0, .int .i64 0], .int .i64 3]) ?_ rfl ⟨rfl, HX.out⟩
  simp [results, Try.results45, go_sem]

set_option maxRecDepth 20000 in
set_option maxHeartbeats 800000 in
theorem distinct_big {w : World} {u t : Value} {n m : Nat} {pos : Int} {bs : List Nat} (hu : Nv w u n) (hm : n < m) (hm2 : m < 9223372036854775808) (ht : Tp w t bs pos) :
    Calls Try.prog 45 #[u, .int .i64 (m : Int), t] w fun e w' => e = .returned (.tuple #[.slice none 0 0, .agg #[.slice none 0 0, .int .i64 0], .int .i64 3]) ∧ Ext w w' := by
  obtain ⟨s, rfl, hs⟩ := ht
  obtain ⟨A, c, rfl, hc⟩ := hs.parts
  have hd1 : decide ((m : Int) < 0) = false := by simp
  have hcv : IntKind.u64.wrap (m : Int) = (m : Int) := u64_id (by omega)
  have HM2 := Lib.hid hm2
  clear hm2
  go_enter Try.func45, Try.ntmps45
  go_wp2_with fail
  have hx0 : Ext w ((w.alloc (.cells #[.slice A bs.length c, .int .i64 pos] 25)).alloc (.cells #[.slice none 0 0, .int .i64 0] 25)) := ((Ext.refl w).alloc _).alloc _
  have k1 : Bk ((w.alloc (.cells #[.slice A bs.length c, .int .i64 pos] 25)).alloc (.cells #[.slice none 0 0, .int .i64 0] 25)) (w.heap.size + 1) 25 [.slice none 0 0, .int .i64 0] := by
    have h := Bk.new (w.alloc (.cells #[.slice A bs.length c, .int .i64 pos] 25)) 25 [.slice none 0 0, .int .i64 0]
    rw [show (w.alloc (.cells #[.slice A bs.length c, .int .i64 pos] 25)).heap.size = w.heap.size + 1 by simp] at h
    exact h
  generalize ((w.alloc (.cells #[.slice A bs.length c, .int .i64 pos] 25)).alloc (.cells #[.slice none 0 0, .int .i64 0] 25)) = W0 at *
  refine (of_nz m (by have := HM2.out; omega) _).mono ?_
  rintro e w1 ⟨_, rfl, he1, ho⟩
  go_wp2_with fail
  refine (cmp_nv ho.nv (hu.ext (hx0.trans he1))).mono ?_
  rintro e w2 ⟨rfl, hq2⟩
  rw [cmpI_gt hm]
  have hx2 := (hx0.trans he1).trans hq2.ext
  have l1 := (k1.ext he1).ext hq2.ext
  have c0 := l1.cell (i := 0) (by simp)
  have c1 := l1.cell (i := 1) (by simp)
  have f0 := l1.free 0
  have f1 := l1.free 1
  have m1 := (l1.set 0 (.slice none 0 0)).set 1 (.int .i64 0)
  have r0 := m1.cell (i := 0) (by simp)
  have r1 := m1.cell (i := 1) (by simp)
  have HR := Lib.hid (And.intro r0 r1)
  have HX := Lib.hid hx2
  clear r0 r1 m1 hx2 l1 k1 he1 hq2 ho hx0 hs hu hc
  go_wp2_with fail
  refine bodyPost_ret (v := .tuple #[.slice none 0 0, .agg #[.slice none 0 0, .int .i64 0], .int .i64 3]) ?_ rfl ⟨rfl, (HX.out.setCell (p := ⟨w.heap.size + 1, 0, none⟩) (by simp) _).setCell (p := ⟨w.heap.size + 1, 1, none⟩) (by simp) _⟩
  obtain ⟨r0, r1⟩ := HR.out
  simp [results, Try.results45, go_sem, r0, r1]
end Go.Proofs.Ytamkbboijblooaa
