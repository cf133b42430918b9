/- Contract: sample.Permutation. -/
import Derived.Test.YtamkbboijblooaaSamJ
import Derived.Test.YtamkbboijblooaaQuaB
import Derived.Test.YtamkbboijblooaaPermM
import Derived.BigRegion
namespace Go.Proofs.Ytamkbboijblooaa
open Go.RowKit

/-- What Permutation leaves. -/
def PermPost (w : World) (bs : List Nat) (R : Option (List Nat × Nat)) (e : Ending) (w' : World) : Prop :=
  Ext w w' ∧ match R with
    | none => e = .returned (.tuple #[.slice none 0 0, .agg #[.slice none 0 0, .int .i64 0], .int .i64 36])
    | some (l, p) => ∃ A c A' c', e = .returned (.tuple #[.slice A l.length c, .agg #[.slice A' bs.length c', .int .i64 (p : Int)], .int .i64 0]) ∧ (l.length = 0 ∨ ∃ g, A = some ⟨g, 0, none⟩) ∧ In w' (.slice A l.length c) l ∧ By w' (.slice A' bs.length c') bs

theorem iota_get {m i : Nat} (h : i < m) : (List.range m).getD i 0 = i := by simp [List.getD, h]

/-- The row while it is filled: the first k are in place. -/
def fillP (m k : Nat) : List Value := (List.range m).map fun i => if i < k then I64 i else I64 0
theorem fillP_length (m k : Nat) : (fillP m k).length = m := by simp [fillP]
theorem fillP_zero (m : Nat) : fillP m 0 = List.replicate m (.int .i64 0) := by
  refine List.ext_getElem (by simp [fillP]) (fun i h1 h2 => ?_)
  simp [fillP]
theorem fillP_succ {m k : Nat} (_h : k < m) : (fillP m k).set k (I64 k) = fillP m (k + 1) := by
  refine List.ext_getElem (by simp [fillP]) (fun i h1 h2 => ?_)
  rw [List.getElem_set]
  by_cases e : k = i
  · subst e; simp [fillP]
  · rw [if_neg e]
    simp only [fillP, List.getElem_map, List.getElem_range]
    by_cases h : i < k
    · rw [if_pos h, if_pos (by omega)]
    · rw [if_neg h, if_neg (by omega)]
theorem fillP_all (m : Nat) : fillP m m = (List.range m).map I64 := by
  refine List.ext_getElem (by simp [fillP]) (fun i h1 h2 => ?_)
  have : i < m := by rw [fillP_length] at h1; exact h1
  simp [fillP, this]

theorem four_new (w : World) (t0 t1 t2 t3 : TypeId) (x0 x1 x2 x3 : List Value) (W : World) (hW : W = (((w.alloc (.cells x0.toArray t0)).alloc (.cells x1.toArray t1)).alloc (.cells x2.toArray t2)).alloc (.cells x3.toArray t3)) :
    Bk W w.heap.size t0 x0 ∧ Bk W (w.heap.size + 1) t1 x1 ∧ Bk W (w.heap.size + 1 + 1) t2 x2 ∧ Bk W (w.heap.size + 1 + 1 + 1) t3 x3 ∧ Ext w W := by
  subst hW
  have k0 := Bk.new w t0 x0
  have k1 := Bk.new (w.alloc (.cells x0.toArray t0)) t1 x1
  have k2 := Bk.new ((w.alloc (.cells x0.toArray t0)).alloc (.cells x1.toArray t1)) t2 x2
  have k3 := Bk.new (((w.alloc (.cells x0.toArray t0)).alloc (.cells x1.toArray t1)).alloc (.cells x2.toArray t2)) t3 x3
  rw [show (w.alloc (.cells x0.toArray t0)).heap.size = w.heap.size + 1 by simp] at k1
  rw [show ((w.alloc (.cells x0.toArray t0)).alloc (.cells x1.toArray t1)).heap.size = w.heap.size + 1 + 1 by simp] at k2
  rw [show (((w.alloc (.cells x0.toArray t0)).alloc (.cells x1.toArray t1)).alloc (.cells x2.toArray t2)).heap.size = w.heap.size + 1 + 1 + 1 by simp] at k3
  exact ⟨((k0.alloc _).alloc _).alloc _, (k1.alloc _).alloc _, k2.alloc _, k3, ((((Ext.refl w).alloc _).alloc _).alloc _).alloc _⟩

/-- What stands beside the row: the tape, the result's tape, the reader. -/
def PEnv (w wr : World) (S : Value) (bs : List Nat) (pos q : Int) : Prop :=
  Bk wr w.heap.size 25 [S, .int .i64 pos] ∧ Bk wr (w.heap.size + 1) 25 [.slice none 0 0, .int .i64 0] ∧ Rd wr (w.heap.size + 1 + 1) S q ∧ By wr S bs ∧ Ext w wr
theorem PEnv.ext {w wr w' : World} {S : Value} {bs : List Nat} {pos q : Int} (h : PEnv w wr S bs pos q) (he : Ext wr w') : PEnv w w' S bs pos q :=
  ⟨h.1.ext he, h.2.1.ext he, Bk.ext h.2.2.1 he, h.2.2.2.1.ext he, h.2.2.2.2.trans he⟩
theorem PEnv.set {w wr : World} {S : Value} {bs : List Nat} {pos q : Int} {ns : List Nat} (h : PEnv w wr S bs pos q) (hb : Bk wr (w.heap.size + 1 + 1 + 1) 3 (ns.map I64)) (i : Nat) (u : Value) : PEnv w (wr.setCell ⟨w.heap.size + 1 + 1 + 1, i, none⟩ u) S bs pos q := by
  have hm : Mod (w.heap.size + 1 + 1 + 1) wr (wr.setCell ⟨w.heap.size + 1 + 1 + 1, i, none⟩ u) := (Mod.refl _ wr).setCell (.inl rfl) u
  refine ⟨hm.bk h.1 (by omega), hm.bk h.2.1 (by omega), hm.bk h.2.2.1 (by omega), h.2.2.2.1.mod hb (fun d hd => ?_) hm, h.2.2.2.2.setCell (by simp; omega) _⟩
  obtain ⟨n, _, e⟩ := List.mem_map.1 hd
  cases e
theorem PEnv.mod {w wr w' : World} {A : Option Addr} {n c : Nat} {bs : List Nat} {pos q r : Int} (h : PEnv w wr (.slice A n c) bs pos q) (hm : Mod (w.heap.size + 1 + 1) wr w') (hr : Rd w' (w.heap.size + 1 + 1) (.slice A n c) r) : PEnv w w' (.slice A n c) bs pos r :=
  ⟨hm.bk h.1 (by omega), hm.bk h.2.1 (by omega), hr, h.2.2.2.1.mod h.2.2.1 (rd_u8 _ _ ⟨_, _, _, rfl⟩) hm, h.2.2.2.2.mod hm (by omega)⟩

set_option maxRecDepth 20000 in
set_option maxHeartbeats 3200000 in
theorem permutation_any {w : World} {t : Value} {m pos : Nat} {bs : List Nat} (hm : m ≤ 100) (ht : Tp w t bs pos) (hp : pos ≤ 8 * bs.length) :
    Calls Try.prog 31 #[.int .i64 (m : Int), t] w (PermPost w bs (perm (bitAt bs) (8 * bs.length) (m - 1) (List.range m) pos)) := by
  obtain ⟨s, rfl, hs⟩ := ht
  obtain ⟨A, c, rfl, hc⟩ := hs.parts
  have hd1 : decide ((m : Int) < 0) = false := by simp
  have hd2 : decide ((4096 : Int) < m) = false := by simp; omega
  have hmk := make_row (P := Try.prog) 38 3 (.int .i64 0) 8 Try.underlying38 info_int rfl m (by omega) (by omega)
  obtain ⟨R, hR⟩ : ∃ R, perm (bitAt bs) (8 * bs.length) (m - 1) (List.range m) pos = R := ⟨_, rfl⟩
  rw [hR]
  have HR := Lib.hid hR
  obtain ⟨n, hn⟩ : ∃ n, n = m - 1 := ⟨_, rfl⟩
  obtain ⟨z0, hnI⟩ : ∃ z0 : Int, (m : Int) - 1 = z0 := ⟨_, rfl⟩
  have HZ0 : Hid ((z0 = n ∧ n < m) ∨ (z0 = -1 ∧ n = 0)) := Lib.hid (by omega)
  rw [← hn] at HR
  have HN := Lib.hid hn
  have HP := Lib.hid hp
  have HS := Lib.hid hs
  clear hR hn hp hs hc
  go_enter Try.func31, Try.ntmps31
  go_wp2_with fail
  clear hmk hd1 hd2
  obtain ⟨W, hW⟩ : ∃ W, W = (((w.alloc (.cells #[.slice A bs.length c, .int .i64 (pos : Int)] 25)).alloc (.cells #[.slice none 0 0, .int .i64 0] 25)).alloc (.cells #[.slice A bs.length c, .int .i64 (pos : Int)] 87)).alloc (.cells (List.replicate m (.int .i64 0)).toArray 3) := ⟨_, rfl⟩
  obtain ⟨k0, k1, k2, k3, hx⟩ := four_new w _ _ _ _ [.slice A bs.length c, .int .i64 (pos : Int)] [.slice none 0 0, .int .i64 0] [.slice A bs.length c, .int .i64 (pos : Int)] (List.replicate m (.int .i64 0)) W hW
  have henv : PEnv w W (.slice A bs.length c) bs pos pos := ⟨k0, k1, k2, HS.out.ext hx, hx⟩
  rw [← fillP_zero] at k3
  rw [hW] at henv k3
  have HENV0 := Lib.hid henv; have HK3 := Lib.hid k3
  clear k0 k1 k2 hx hW HS henv k3 W
  go_loopw [32] (fun q wr => ∃ (k : Nat), k ≤ m ∧ q = .int .i64 k ∧ Bk wr (w.heap.size + 1 + 1 + 1) 3 (fillP m k) ∧ PEnv w wr (.slice A bs.length c) bs pos pos) (fun q _ => m - (intOf q).toNat)
  case atStart => exact ⟨0, Nat.zero_le _, rfl, HK3.out, HENV0.out⟩
  case round =>
    obtain ⟨k, hk, rfl, hb, henv'⟩ := hrel
    by_cases hkm : k < m
    · have hcell := hb.cellD (i := k) (by rw [fillP_length]; exact hkm)
      have hfree := hb.free k
      have hset := hb.set k (I64 k)
      rw [fillP_succ hkm] at hset
      have henv2 : PEnv w (wr.setCell ⟨w.heap.size + 1 + 1 + 1, k, none⟩ (.int .i64 (k : Int))) (.slice A bs.length c) bs pos pos := by
        have hb' : Bk wr (w.heap.size + 1 + 1 + 1) 3 (((List.range m).map fun i => if i < k then i else 0).map I64) := by
          have e : fillP m k = ((List.range m).map fun i => if i < k then i else 0).map I64 := by
            rw [List.map_map]; refine List.map_congr_left (fun i _ => ?_)
            simp only [Function.comp]; split <;> rfl
          rw [← e]; exact hb
        exact henv'.set hb' k _
      have HSET := Lib.hid hset; have HENV := Lib.hid henv2
      generalize (fillP m k).getD k undef = old at *
      clear hb henv' hset henv2
      go_wp2_with fail
      go_roundw
      case rel => exact ⟨k + 1, by omega, by go_num, HSET.out, HENV.out⟩
      case measure => simp [intOf]; omega
    · obtain rfl : k = m := by omega
      rw [fillP_all] at hb
      have HB := Lib.hid hb; have HE := Lib.hid henv'
      clear hb henv'
      go_wp2_with fail
      obtain ⟨w0, rfl⟩ : ∃ w0 : World, w0 = wr := ⟨_, rfl⟩
      go_loopw [10] (fun q wr => ∃ (z : Int) (i : Nat) (l : List Nat) (p : Nat), q = .int .i64 z ∧ ((z = i ∧ i < k) ∨ (z = -1 ∧ i = 0)) ∧ l.length = k ∧ Hid (perm (bitAt bs) (8 * bs.length) i l p = R) ∧ p ≤ 8 * bs.length ∧ Bk wr (w.heap.size + 1 + 1 + 1) 3 (l.map I64) ∧ PEnv w wr (.slice A bs.length c) bs pos p) (fun q _ => (intOf q).toNat)
      case atStart => exact ⟨z0, n, List.range k, pos, rfl, HZ0.out, by simp, HR, HP.out, HB.out, HE.out⟩
      case round =>
        obtain ⟨z, i, l, p, rfl, hz, hl, HPR, hp, hb, henv⟩ := hrel
        clear HR HB HE HP HN hnI HZ0
        have HL := Lib.hid hl
        have HPP := Lib.hid hp
        clear hl hp
        by_cases hi1 : 1 ≤ i
        · obtain ⟨rfl, hik⟩ : z = i ∧ i < k := by
            rcases hz with h | h
            · exact h
            · omega
          clear hz
          have hiI : (1 : Int) ≤ (i : Int) := by omega
          have hcv : IntKind.u64.wrap (i : Int) = (i : Int) := u64_id (by omega)
          have HB := Lib.hid hb; have HENV := Lib.hid henv
          clear hb henv
          go_wp2_with fail
          rw [show ((i : Int) + 1) = ((i + 1 : Nat) : Int) by omega]
          refine (of_nz (i + 1) (by omega) _).mono ?_
          rintro e w1 ⟨_, rfl, he1, ho⟩
          have henv := HENV.out.ext he1
          have hb := HB.out.ext he1
          clear HENV HB he1 hcv
          go_wp2_with fail
          refine (uniform_any ho.nv (by omega) (dig_small (by omega)) henv.2.2.1 henv.2.2.2.1 HPP.out).mono ?_
          rintro e w2 ⟨hm2, hU⟩
          have hb2 := hm2.bk hb (by omega)
          have hpr := HPR.out
          rw [show i = i - 1 + 1 by omega] at hpr
          rw [show i + 1 - 1 = i - 1 + 1 by omega, show i + 1 = i - 1 + 2 by omega] at hU
          rcases hu : uni (bitAt bs) (8 * bs.length) (i - 1 + 2) (blen (i - 1 + 1)) (8 * bs.length + 1) p with _ | ⟨j, q⟩
          · rw [hu] at hU
            rw [perm_none hu] at hpr
            subst hpr
            simp only at hU
            subst hU
            have l1 := hm2.bk henv.2.1 (by omega)
            have hxm := henv.2.2.2.2.mod hm2 (by omega)
            have c0 := l1.cell (i := 0) (by simp)
            have c1 := l1.cell (i := 1) (by simp)
            have f0 := l1.free 0
            have f1 := l1.free 1
            have m1 := (l1.set 0 (.slice none 0 0)).set 1 (.int .i64 0)
            have r0 := m1.cell (i := 0) (by simp)
            have r1 := m1.cell (i := 1) (by simp)
            have HR := Lib.hid (And.intro r0 r1)
            have HX := Lib.hid hxm
            clear r0 r1 m1 hu henv hb hb2 hm2 l1 hxm
            go_wp2_with fail
            refine bodyPost_ret (v := .tuple #[.slice none 0 0, .agg #[.slice none 0 0, .int .i64 0], .int .i64 36]) ?_ rfl ⟨(HX.out.setCell (p := ⟨w.heap.size + 1, 0, none⟩) (by simp) _).setCell (p := ⟨w.heap.size + 1, 1, none⟩) (by simp) _, rfl⟩
            obtain ⟨r0, r1⟩ := HR.out
            simp [results, Try.results31, go_sem, r0, r1]
          · rw [hu] at hU
            rw [perm_some hu] at hpr
            obtain ⟨v, rfl, hv, hrd⟩ := hU
            have hj := (uni_some hu).1
            have hq := (uni_some hu).2.2.1
            have henv2 := henv.mod hm2 hrd
            rw [show i - 1 + 1 = i by omega] at hpr
            have HPR2 := Lib.hid hpr; have HQ := Lib.hid hq
            have hji : j ≤ i := by omega
            have HJ := Lib.hid hj
            clear hu hpr hq henv hb hm2 hrd HPR HPP hj ho
            go_wp2_with fail
            refine (uint64_nv hv.nv (by omega)).mono ?_
            rintro e w3 ⟨rfl, rfl⟩
            have hli := HL.out
            have a1 : w2.cell? ⟨w.heap.size + 1 + 1 + 1, i, none⟩ = some (.int .i64 ((l.getD i 0 : Nat) : Int)) := by
              rw [hb2.cellD (i := i) (by simp; omega), getD_map I64 l i (by omega)]
            have a2 : w2.cell? ⟨w.heap.size + 1 + 1 + 1, j, none⟩ = some (.int .i64 ((l.getD j 0 : Nat) : Int)) := by
              rw [hb2.cellD (i := j) (by simp; omega), getD_map I64 l j (by omega)]
            have s1 := hb2.set i (I64 (l.getD j 0))
            have b1 := s1.cellD (i := j) (by simp; omega)
            have s2 := s1.set j (I64 (l.getD i 0))
            rw [← swp_map] at s2
            have en1 := henv2.set hb2 i (I64 (l.getD j 0))
            have s1' : Bk (w2.setCell ⟨w.heap.size + 1 + 1 + 1, i, none⟩ (I64 (l.getD j 0))) (w.heap.size + 1 + 1 + 1) 3 ((l.set i (l.getD j 0)).map I64) := by rw [List.map_set]; exact s1
            have en2 := en1.set s1' j (I64 (l.getD i 0))
            have f1 := hb2.free i
            have f2 := hb2.free j
            have f3 := s1.free j
            have hls := swp_length l i j
            generalize ((l.map I64).set i (I64 (l.getD j 0))).getD j undef = old at *
            have S2 := Lib.hid s2; have EN2 := Lib.hid en2; have HLS := Lib.hid (hls.trans hli)
            generalize swp l i j = l2 at *
            generalize l.getD i 0 = x at *
            generalize l.getD j 0 = y at *
            have i1 : (0 : Int) ≤ (i : Int) := by omega
            have i2 : (i : Int) < (k : Int) := by omega
            have i3 : (0 : Int) ≤ (j : Int) := by omega
            have i4 : (j : Int) < (k : Int) := by omega
            have i5 : j < k := by omega
            clear s1 s2 en1 en2 s1' hls hli hb2 henv2 HL hv
            go_upto_region 17 with fail
            go_region
            all_goals
              go_wp2_with fail
              go_roundw
              case rel => exact ⟨(i : Int) - 1, i - 1, l2, q, rfl, .inl ⟨by omega, by omega⟩, HLS.out, HPR2, HQ.out, S2.out, EN2.out.ext ((Ext.refl _).drew)⟩
              case measure => simp [intOf]; omega
        · obtain rfl : i = 0 := by omega
          have hpr := HPR.out
          simp only [perm] at hpr
          subst hpr
          have hi0 : ¬ (1 : Int) ≤ z := by omega
          clear hz
          obtain ⟨l0, l1, hr, hs1, hxm⟩ := henv
          have d0 := l0.cell (i := 0) (by simp)
          have d1 := l0.cell (i := 1) (by simp)
          have d2 := Bk.cell hr (i := 1) (by simp)
          have c0 := l1.cell (i := 0) (by simp)
          have c1 := l1.cell (i := 1) (by simp)
          have f0 := l1.free 0
          have f1 := l1.free 1
          simp only [List.getElem_cons_zero, List.getElem_cons_succ] at d0 d1 d2 c0 c1
          have L1 := Lib.hid l1; have HX := Lib.hid hxm; have HB := Lib.hid hb; have HS1 := Lib.hid hs1
          clear l1 l0 hr hs1 hxm hb HPR HPP
          go_upto_region 18 with fail
          go_region_held3 (fun W => W.cell? ⟨w.heap.size, 0, none⟩ = some (.slice A bs.length c) ∧ W.cell? ⟨w.heap.size, 1, none⟩ = some (.int .i64 pos) ∧ W.cell? ⟨w.heap.size + 1 + 1, 1, none⟩ = some (.int .i64 (p : Int)))
            (first | exact ⟨d0, d1, d2⟩ | exact ⟨he2.cell d0, he2.cell d1, he2.cell d2⟩ | exact ⟨cell_far (cell_far (he2.cell d0) (by simp)) (by simp), cell_far (cell_far (he2.cell d1) (by simp)) (by simp), cell_far (cell_far (he2.cell d2) (by simp)) (by simp)⟩)
            (first | (go_at_call 51; refine (used_tp (bs := bs) (pos := (pos : Int)) (p : Int) ?_).mono ?_; exact ⟨_, rfl, HS1.out.ext ((Ext.refl _).drew)⟩; rintro e w2 ⟨t', rfl, he2, ⟨s', rfl, hs'⟩⟩; obtain ⟨A', c', rfl, -⟩ := hs'.parts; have n1 := L1.out.drew.ext he2; have g0 := n1.cell (i := 0) (by simp); have g1 := n1.cell (i := 1) (by simp); have q0 := n1.free 0; have q1 := n1.free 1))
          have hm2 : Mod (w.heap.size + 1) w2 ((w2.setCell ⟨w.heap.size + 1, 0, none⟩ (.slice A' bs.length c')).setCell ⟨w.heap.size + 1, 1, none⟩ (.int .i64 (p : Int))) := ((Mod.refl _ w2).setCell (p := ⟨w.heap.size + 1, 0, none⟩) (.inl rfl) _).setCell (p := ⟨w.heap.size + 1, 1, none⟩) (.inl rfl) _
          have hxf := (HX.out.drew.trans he2).mod hm2 (by omega)
          have hbf := hm2.bk (HB.out.drew.ext he2) (by omega)
          have hsf := hs'.mod n1 (by simp [U8]) hm2
          have m1 := (n1.set 0 (.slice A' bs.length c')).set 1 (.int .i64 (p : Int))
          have r0 := m1.cell (i := 0) (by simp)
          have r1 := m1.cell (i := 1) (by simp)
          have HR := Lib.hid (And.intro r0 r1); clear r0 r1 m1
          have hin : In _ (.slice (some ⟨w.heap.size + 1 + 1 + 1, 0, none⟩) l.length l.length) l := ⟨by have := HL.out; omega, some ⟨w.heap.size + 1 + 1 + 1, 0, none⟩, l.length, by simp, by simp, fun _ => ⟨_, rfl, fun i hi => by
            rw [show (⟨w.heap.size + 1 + 1 + 1, 0, none⟩ : Addr).add i = ⟨w.heap.size + 1 + 1 + 1, i, none⟩ from by simp only [Addr.add, Nat.zero_add]; split <;> simp_all]
            exact hbf.cell hi⟩⟩
          have HF := Lib.hid (And.intro hxf (And.intro hin hsf)); clear hxf hbf hsf hm2 hin
          have hlk := HL.out
          go_wp2_with fail
          refine bodyPost_ret (v := .tuple #[.slice (some ⟨w.heap.size + 1 + 1 + 1, 0, none⟩) l.length l.length, .agg #[.slice A' bs.length c', .int .i64 (p : Int)], .int .i64 0]) ?_ rfl ⟨HF.out.1, ⟨_, _, _, _, rfl, .inr ⟨_, rfl⟩, HF.out.2.1, HF.out.2.2⟩⟩
          obtain ⟨r0, r1⟩ := HR.out
          simp [results, Try.results31, go_sem, r0, r1]
          exact hlk.symm
end Go.Proofs.Ytamkbboijblooaa
