/- The walk of NormalizeRefuses. -/
import Derived.Test.YtmmmdinncmbjkaaGreatTk
namespace Go.Proofs.YtmmmdinncmbjkaaGreat
open Go.RowKit Go.Maps

theorem five_blk (w : World) (t1 t2 t3 t4 t5 : TypeId) (c1 c2 c3 c4 c5 : List Value) : Bk (((((w.alloc (.cells c1.toArray t1)).alloc (.cells c2.toArray t2)).alloc (.cells c3.toArray t3)).alloc (.cells c4.toArray t4)).alloc (.cells c5.toArray t5)) (w.heap.size + 1) t2 c2 ∧ Bk (((((w.alloc (.cells c1.toArray t1)).alloc (.cells c2.toArray t2)).alloc (.cells c3.toArray t3)).alloc (.cells c4.toArray t4)).alloc (.cells c5.toArray t5)) (w.heap.size + 1 + 1) t3 c3 ∧ Bk (((((w.alloc (.cells c1.toArray t1)).alloc (.cells c2.toArray t2)).alloc (.cells c3.toArray t3)).alloc (.cells c4.toArray t4)).alloc (.cells c5.toArray t5)) (w.heap.size + 1 + 1 + 1) t4 c4 ∧ Bk (((((w.alloc (.cells c1.toArray t1)).alloc (.cells c2.toArray t2)).alloc (.cells c3.toArray t3)).alloc (.cells c4.toArray t4)).alloc (.cells c5.toArray t5)) (w.heap.size + 1 + 1 + 1 + 1) t5 c5 := by
  obtain ⟨-, h2, h3, h4⟩ := four_blk w t1 t2 t3 t4 c1 c2 c3 c4
  refine ⟨h2.alloc _, h3.alloc _, h4.alloc _, ?_⟩
  have h := Bk.new ((((w.alloc (.cells c1.toArray t1)).alloc (.cells c2.toArray t2)).alloc (.cells c3.toArray t3)).alloc (.cells c4.toArray t4)) t5 c5
  have e : ((((w.alloc (.cells c1.toArray t1)).alloc (.cells c2.toArray t2)).alloc (.cells c3.toArray t3)).alloc (.cells c4.toArray t4)).heap.size = w.heap.size + 1 + 1 + 1 + 1 := by simp
  rw [e] at h
  exact h
/-- The law's normal form and its database. -/
structure Rf (w : World) (G : Nat → Prop) (b nn : Nat) (m : Dm) (gd gv gc gS gN gx : Nat) (rel : ByteArray) (col : Int) (u3 u5 : Value) : Prop where
  D : DbB G w b nn m
  kd : Bk w gd 26 [.map (some b)]
  kv : Bk w gv 3 [.int .i64 0]
  kc : Bk w gc 3 [.int .i64 col]
  kS : Bk w gS 36 [.string rel, .slice (some ⟨gv, 0, none⟩) 1 1, .slice (some ⟨gc, 0, none⟩) 1 1, u3, .slice none 0 0, u5]
  kN : Bk w gN 40 [.slice (some ⟨gx, 0, none⟩) 1 1, .int .i64 0, .slice none 0 0, .slice (some ⟨gS, 0, none⟩) 1 1]
  ne : gd ≠ gS ∧ gv ≠ gS ∧ gc ≠ gS ∧ gN ≠ gS ∧ b ≠ gS ∧ ∀ k, G k → k ≠ gS
section
variable {w w8 : World} {G : Nat → Prop} {b nn : Nat} {m : Dm} {gd gv gc gS gN gx : Nat} {rel : ByteArray} {col : Int} {u3 u5 : Value}
theorem Rf.ext (h : Rf w G b nn m gd gv gc gS gN gx rel col u3 u5) (he : Ext w w8) : Rf w8 G b nn m gd gv gc gS gN gx rel col u3 u5 := ⟨h.D.ext he, h.kd.ext he, h.kv.ext he, h.kc.ext he, h.kS.ext he, h.kN.ext he, h.ne⟩
theorem Rf.set5 (h : Rf w G b nn m gd gv gc gS gN gx rel col u3 u5) (v : Value) : Rf (w.setCell ⟨gS, 5, none⟩ v) G b nn m gd gv gc gS gN gx rel col u3 v := by
  have hf : Fr (fun k => k = gS) w (w.setCell ⟨gS, 5, none⟩ v) := (Fr.refl (fun k => k = gS) w).setCell (p := ⟨gS, 5, none⟩) (.inl rfl) _
  exact ⟨h.D.fr hf h.ne.2.2.2.2.1 h.ne.2.2.2.2.2, h.kd.fr hf h.ne.1, h.kv.fr hf h.ne.2.1, h.kc.fr hf h.ne.2.2.1, h.kS.set 5 v, h.kN.fr hf h.ne.2.2.2.1, h.ne⟩
theorem Rf.set3 (h : Rf w G b nn m gd gv gc gS gN gx rel col u3 u5) (v : Value) : Rf (w.setCell ⟨gS, 3, none⟩ v) G b nn m gd gv gc gS gN gx rel col v u5 := by
  have hf : Fr (fun k => k = gS) w (w.setCell ⟨gS, 3, none⟩ v) := (Fr.refl (fun k => k = gS) w).setCell (p := ⟨gS, 3, none⟩) (.inl rfl) _
  exact ⟨h.D.fr hf h.ne.2.2.2.2.1 h.ne.2.2.2.2.2, h.kd.fr hf h.ne.1, h.kv.fr hf h.ne.2.1, h.kc.fr hf h.ne.2.2.1, h.kS.set 3 v, h.kN.fr hf h.ne.2.2.2.1, h.ne⟩
theorem Rf.load (h : Rf w G b nn m gd gv gc gS gN gx rel col u3 u5) {sm : List Pi} {nts : List Nt} (h3 : Sl rdPi (fun _ => True) w u3 sm) (h5 : Sl rdNt (fun _ => True) w u5 nts) (hs : rel.size ≤ maxLen) (b3 : sm.length ≤ 32) (hsm : ∀ x, m rel = some x → fitsB ⟨rel, [0], [col], sm, [], nts⟩ x.rel.ar = true → sm = []) (hrw : ∀ x, m rel = some x → x.rel.rows = [])
    (hn : nts = [] ∨ ∃ y, nts = [y] ∧ y.rel.size ≤ maxLen ∧ ∀ x, m y.rel = some x → (y.vars.length : Int) ≠ x.rel.ar) :
    Calls Tryz.prog 9 #[.agg #[.slice (some ⟨gx, 0, none⟩) 1 1, .int .i64 0, .slice none 0 0, .slice (some ⟨gS, 0, none⟩) 1 1], .agg #[.map (some b)]] w (Load1 (resR m ⟨rel, [0], [col], sm, [], nts⟩) w) :=
  load_one h.D (src_one h.kS h.kv h.kc h3 h5) hs (by simp) (by simp) b3 rfl hsm hrw hn
end
theorem fits_one {rel : ByteArray} {col a : Int} {nts : List Nt} (h0 : 0 ≤ col) : fitsB ⟨rel, [0], [col], [], [], nts⟩ a = decide (col < a) := by
  unfold fitsB missB
  simp
  by_cases h : col < a
  · rw [decide_eq_true h, decide_eq_false (by omega), decide_eq_false (by omega)]; rfl
  · rw [decide_eq_false h, decide_eq_true (show a ≤ col by omega)]; simp
theorem fits_same_no {rel : ByteArray} {col a : Int} {nts : List Nt} : fitsB ⟨rel, [0], [col], [⟨0, a⟩], [], nts⟩ a = false := fits_same (p := ⟨0, a⟩) (by simp) (by simp [pairB, missB])

set_option maxRecDepth 20000 in
set_option maxHeartbeats 6400000 in
theorem law_refuses {F : Nat → Prop} {w : World} {S : Option Addr} {cs : Nat} {ss : List Sc} {rel : ByteArray} {col : Nat} (hS : Sl rdSc F w (.slice S ss.length cs) ss) (hsl : ss.length ≤ maxLen) (hz : ∀ x ∈ ss, x.name.size ≤ maxLen ∧ x.kinds.length ≤ maxLen) (hrel : rel.size ≤ maxLen) (hcol : col ≤ 255) :
    Calls Tryz.prog 3 #[.slice S ss.length cs, .string rel, .int .u8 (col : Int)] w (Ret (fun x _ => x = .bool true) w) := by
  obtain ⟨n, hn⟩ : ∃ n, n = ss.length := ⟨_, rfl⟩
  rw [← hn] at hS hsl
  rw [← hn]
  have HS := Lib.hid hS; have HZ := Lib.hid hz
  clear hS hn hz
  have hn9 : n ≤ 9223372036854775807 := by simpa [maxLen] using hsl
  have hr9 : rel.size ≤ 9223372036854775807 := by simpa [maxLen] using hrel
  go_enter Tryz.func3, Tryz.ntmps3
  go_wp2_with fail
  refine (awake_true _).mono ?_
  rintro e w2 ⟨x, rfl, he, rfl⟩
  have HX2 := Lib.hid he
  clear he
  by_cases h6 : ¬ n ≤ 6
  · have g6 : (6 : Int) < (n : Int) := by omega
    clear h6
    go_wp2_with fail
    go_ret
    exact Ret.mk HX2.out rfl
  have h6' : n ≤ 6 := by omega
  have g6 : ¬ (6 : Int) < (n : Int) := by omega
  clear h6
  by_cases h100 : ¬ rel.size ≤ 100
  · have g1 : (100 : Int) < (rel.size : Int) := by omega
    clear h100
    go_wp2_with fail
    go_ret
    exact Ret.mk HX2.out rfl
  have h100' : rel.size ≤ 100 := by omega
  have g1 : ¬ (100 : Int) < (rel.size : Int) := by omega
  clear h100
  go_wp2_with fail
  refine (new_any (HS.out.ext HX2.out) (by omega) (fun x hx => (HZ.out x hx).1) (fun x hx => (HZ.out x hx).2)).mono ?_
  rintro e w3 ⟨he3, mb, c, rfl, hc | ⟨rfl, b, nn, rfl, hb, hnn, hD, hok⟩⟩
  · have hcb : (c != 0) = true := by rw [bne_iff_ne]; exact hc
    have HX3 := Lib.hid (HX2.out.trans he3)
    clear hc he3
    go_wp2_with fail
    go_ret
    exact Ret.mk (HX3.out.alloc _) rfl
  have HX3 := Lib.hid (HX2.out.trans he3); have HOK := Lib.hid hok
  have hbl := hD.lt
  have HD3 : Hid (DbB (fun k => k < w3.heap.size) w3 b nn (dmL ss)) := Lib.hid (hD.mono (fun k hk _ => hk))
  clear he3 hD hok hnn
  go_upto_region 8 with fail
  have kd := Bk.new w3 26 [.map (some b)]
  change Bk (w3.alloc (.cells #[.map (some b)] 26)) _ _ _ at kd
  have hx4 : Ext w3 (w3.alloc (.cells #[.map (some b)] 26)) := (Ext.refl w3).alloc _
  generalize (w3.alloc (.cells #[.map (some b)] 26)) = w4 at *
  have hlt4 : w3.heap.size < w4.heap.size := kd.lt
  have HX4 := Lib.hid (HX3.out.trans hx4); have HD4 := Lib.hid (HD3.out.ext hx4); have HKD := Lib.hid kd
  clear kd hx4
  have c0 : (0 : Int) ≤ (col : Int) := by omega
  have c1 : (col : Int) ≤ 255 := by omega
  have k5 := five_blk w4 9 3 3 36 40 [.string ⟨#[120]⟩] [.int .i64 0] [.int .i64 (col : Int)] [.string rel, .slice (some ⟨w4.heap.size + 1, 0, none⟩) 1 1, .slice (some ⟨w4.heap.size + 1 + 1, 0, none⟩) 1 1, .slice none 0 0, .slice none 0 0, .slice none 0 0] [.slice (some ⟨w4.heap.size, 0, none⟩) 1 1, .int .i64 0, .slice none 0 0, .slice (some ⟨w4.heap.size + 1 + 1 + 1, 0, none⟩) 1 1]
  change Bk (((((w4.alloc (.cells #[.string ⟨#[120]⟩] 9)).alloc (.cells #[.int .i64 0] 3)).alloc (.cells #[.int .i64 (col : Int)] 3)).alloc (.cells #[.string rel, .slice (some ⟨w4.heap.size + 1, 0, none⟩) 1 1, .slice (some ⟨w4.heap.size + 1 + 1, 0, none⟩) 1 1, .slice none 0 0, .slice none 0 0, .slice none 0 0] 36)).alloc (.cells #[.slice (some ⟨w4.heap.size, 0, none⟩) 1 1, .int .i64 0, .slice none 0 0, .slice (some ⟨w4.heap.size + 1 + 1 + 1, 0, none⟩) 1 1] 40)) _ _ _ ∧ Bk (((((w4.alloc (.cells #[.string ⟨#[120]⟩] 9)).alloc (.cells #[.int .i64 0] 3)).alloc (.cells #[.int .i64 (col : Int)] 3)).alloc (.cells #[.string rel, .slice (some ⟨w4.heap.size + 1, 0, none⟩) 1 1, .slice (some ⟨w4.heap.size + 1 + 1, 0, none⟩) 1 1, .slice none 0 0, .slice none 0 0, .slice none 0 0] 36)).alloc (.cells #[.slice (some ⟨w4.heap.size, 0, none⟩) 1 1, .int .i64 0, .slice none 0 0, .slice (some ⟨w4.heap.size + 1 + 1 + 1, 0, none⟩) 1 1] 40)) _ _ _ ∧ Bk (((((w4.alloc (.cells #[.string ⟨#[120]⟩] 9)).alloc (.cells #[.int .i64 0] 3)).alloc (.cells #[.int .i64 (col : Int)] 3)).alloc (.cells #[.string rel, .slice (some ⟨w4.heap.size + 1, 0, none⟩) 1 1, .slice (some ⟨w4.heap.size + 1 + 1, 0, none⟩) 1 1, .slice none 0 0, .slice none 0 0, .slice none 0 0] 36)).alloc (.cells #[.slice (some ⟨w4.heap.size, 0, none⟩) 1 1, .int .i64 0, .slice none 0 0, .slice (some ⟨w4.heap.size + 1 + 1 + 1, 0, none⟩) 1 1] 40)) _ _ _ ∧ Bk (((((w4.alloc (.cells #[.string ⟨#[120]⟩] 9)).alloc (.cells #[.int .i64 0] 3)).alloc (.cells #[.int .i64 (col : Int)] 3)).alloc (.cells #[.string rel, .slice (some ⟨w4.heap.size + 1, 0, none⟩) 1 1, .slice (some ⟨w4.heap.size + 1 + 1, 0, none⟩) 1 1, .slice none 0 0, .slice none 0 0, .slice none 0 0] 36)).alloc (.cells #[.slice (some ⟨w4.heap.size, 0, none⟩) 1 1, .int .i64 0, .slice none 0 0, .slice (some ⟨w4.heap.size + 1 + 1 + 1, 0, none⟩) 1 1] 40)) _ _ _ at k5
  have hx5 : Ext w4 (((((w4.alloc (.cells #[.string ⟨#[120]⟩] 9)).alloc (.cells #[.int .i64 0] 3)).alloc (.cells #[.int .i64 (col : Int)] 3)).alloc (.cells #[.string rel, .slice (some ⟨w4.heap.size + 1, 0, none⟩) 1 1, .slice (some ⟨w4.heap.size + 1 + 1, 0, none⟩) 1 1, .slice none 0 0, .slice none 0 0, .slice none 0 0] 36)).alloc (.cells #[.slice (some ⟨w4.heap.size, 0, none⟩) 1 1, .int .i64 0, .slice none 0 0, .slice (some ⟨w4.heap.size + 1 + 1 + 1, 0, none⟩) 1 1] 40)) := (((((Ext.refl w4).alloc _).alloc _).alloc _).alloc _).alloc _
  go_upto_region 9 with fail
  generalize (((((w4.alloc (.cells #[.string ⟨#[120]⟩] 9)).alloc (.cells #[.int .i64 0] 3)).alloc (.cells #[.int .i64 (col : Int)] 3)).alloc (.cells #[.string rel, .slice (some ⟨w4.heap.size + 1, 0, none⟩) 1 1, .slice (some ⟨w4.heap.size + 1 + 1, 0, none⟩) 1 1, .slice none 0 0, .slice none 0 0, .slice none 0 0] 36)).alloc (.cells #[.slice (some ⟨w4.heap.size, 0, none⟩) 1 1, .int .i64 0, .slice none 0 0, .slice (some ⟨w4.heap.size + 1 + 1 + 1, 0, none⟩) 1 1] 40)) = w5 at *
  obtain ⟨kv, kc, kS, kN⟩ := k5
  have hbw : w3.heap.size ≤ w4.heap.size := by omega
  have HRF : Hid (Rf w5 (fun k => k < w3.heap.size) b nn (dmL ss) w3.heap.size (w4.heap.size + 1) (w4.heap.size + 1 + 1) (w4.heap.size + 1 + 1 + 1) (w4.heap.size + 1 + 1 + 1 + 1) w4.heap.size rel (col : Int) (.slice none 0 0) (.slice none 0 0)) := Lib.hid ⟨HD4.out.ext hx5, HKD.out.ext hx5, kv, kc, kS, kN, by omega, by omega, by omega, by omega, by omega, fun k hk => by omega⟩
  have hlt5 : w4.heap.size + 1 + 1 + 1 + 1 < w5.heap.size := kN.lt
  have HX5 := Lib.hid (HX4.out.trans hx5)
  clear kv kc kS kN hx5
  obtain ⟨gx, hgx⟩ : ∃ g, g = w4.heap.size := ⟨_, rfl⟩
  rw [← hgx] at HRF hlt5
  rw [← hgx]
  obtain ⟨gd, hgd⟩ : ∃ g, g = w3.heap.size := ⟨_, rfl⟩
  rw [← hgd] at HRF
  rw [← hgd]
  have HROW := Lib.hid (fun x (hx : dmL ss rel = some x) => dmL_rows hx)
  have hkb : ∀ x, dmL ss rel = some x → x.kinds.length ≤ 6 := fun x hx => by
    obtain ⟨-, -, y, hy, -, hk⟩ := dmL_rows hx
    rw [← hk]
    exact (HOK.out y hy).2.1
  have HKB := Lib.hid hkb
  have HL0 := Lib.hid (HRF.out.load (sm := []) (nts := []) (Sl.nil _ _ _) (Sl.nil _ _ _) hrel (by simp) (fun _ _ _ => rfl) (fun x hx => (dmL_rows hx).1) (.inl rfl))
  have hw2x : w2.heap.size ≤ gx + 1 + 1 + 1 := by have := HX4.out.size; have := HX3.out.size; omega
  clear hgx hgd hkb
  rcases hm : dmL ss rel with _ | x
  · have HR : Hid (resR (dmL ss) ⟨rel, [0], [(col : Int)], [], [], []⟩ = .error 7) := Lib.hid (by unfold resR; simp only [hm])
    have HSC := Lib.hid (fun (V : World) (G : Nat → Prop) (hD : DbB G V b nn (dmL ss)) => schema_any hD (s := rel) (by omega) (fun x hx => by rw [hm] at hx; cases hx))
    have HM := Lib.hid hm
    clear hm
    have n0 := HRF.out.kN.cell (i := 0) (by simp); have n1 := HRF.out.kN.cell (i := 1) (by simp); have n2 := HRF.out.kN.cell (i := 2) (by simp); have n3 := HRF.out.kN.cell (i := 3) (by simp); have d0 := HRF.out.kd.cell (i := 0) (by simp)
    simp only [List.getElem_cons_zero, List.getElem_cons_succ] at n0 n1 n2 n3 d0
    go_wp2_with fail
    refine HL0.out.mono ?_
    rintro e w6 ⟨he6, ⟨c, hc, rfl⟩ | ⟨x, A, c, hc, -⟩⟩
    · obtain rfl : c = 7 := by rw [HR.out] at hc; injection hc with hc; exact hc.symm
      have HRF6 := Lib.hid (HRF.out.ext he6); have HX6 := Lib.hid (HX5.out.trans he6)
      clear hc he6 n0 n1 n2 n3 d0
      have d0 := HRF6.out.kd.cell (i := 0) (by simp)
      simp only [List.getElem_cons_zero] at d0
      go_wp2_with fail
      refine (HSC.out _ _ HRF6.out.D).mono ?_
      rintro e w7 ⟨he7, ⟨-, rfl⟩ | ⟨x, A, c, hc, -⟩⟩
      · have HX7 := Lib.hid (HX6.out.trans he7)
        clear he7 d0
        go_wp2_with fail
        go_ret
        exact Ret.mk (HX7.out.alloc _) rfl
      · rw [HM.out] at hc; cases hc
    · rw [HR.out] at hc; cases hc
  · obtain ⟨hrows, har, -⟩ := HROW.out x hm
    have hk6 := HKB.out x hm
    have HSC := Lib.hid (fun (V : World) (G : Nat → Prop) (hD : DbB G V b nn (dmL ss)) => schema_any hD (s := rel) (by omega) (fun y hy => by have := HKB.out y hy; omega))
    obtain ⟨nk, hnk⟩ : ∃ k, k = x.kinds.length := ⟨_, rfl⟩
    rw [← hnk] at har hk6
    have HM := Lib.hid hm; have HNK := Lib.hid hnk; have HAR := Lib.hid har
    have n0 := HRF.out.kN.cell (i := 0) (by simp); have n1 := HRF.out.kN.cell (i := 1) (by simp); have n2 := HRF.out.kN.cell (i := 2) (by simp); have n3 := HRF.out.kN.cell (i := 3) (by simp); have d0 := HRF.out.kd.cell (i := 0) (by simp)
    simp only [List.getElem_cons_zero, List.getElem_cons_succ] at n0 n1 n2 n3 d0
    by_cases hcl : ¬ col < nk
    · have HR : Hid (resR (dmL ss) ⟨rel, [0], [(col : Int)], [], [], []⟩ = .error 28) := Lib.hid (by
        unfold resR
        simp only [hm]
        rw [fits_one (by omega), har, decide_eq_false (by omega)]
        rfl)
      have g1 : (nk : Int) ≤ (col : Int) := by omega
      clear hcl hm hnk har hrows
      go_wp2_with fail
      refine HL0.out.mono ?_
      rintro e w6 ⟨he6, ⟨c, hc, rfl⟩ | ⟨y, A, c, hc, -⟩⟩
      · obtain rfl : c = 28 := by rw [HR.out] at hc; injection hc with hc; exact hc.symm
        have HRF6 := Lib.hid (HRF.out.ext he6); have HX6 := Lib.hid (HX5.out.trans he6)
        clear hc he6 n0 n1 n2 n3 d0
        have d0 := HRF6.out.kd.cell (i := 0) (by simp)
        simp only [List.getElem_cons_zero] at d0
        go_wp2_with fail
        refine (HSC.out _ _ HRF6.out.D).mono ?_
        rintro e w7 ⟨he7, ⟨hc, -⟩ | ⟨x', A, c, hc, rfl⟩⟩
        · rw [HM.out] at hc; cases hc
        · obtain rfl : x = x' := by rw [HM.out] at hc; injection hc
          rw [← HNK.out]
          have HX7 := Lib.hid (HX6.out.trans he7)
          clear hc he7 d0
          go_upto_region 11 with fail
          have ks := Bk.new w7 45 [.string rel, .slice A nk c]
          change Bk (w7.alloc (.cells #[.string rel, .slice A nk c] 45)) _ _ _ at ks
          have hx8 : Ext w7 (w7.alloc (.cells #[.string rel, .slice A nk c] 45)) := (Ext.refl w7).alloc _
          generalize (w7.alloc (.cells #[.string rel, .slice A nk c] 45)) = w8 at *
          have s1 := ks.cell (i := 1) (by simp)
          simp only [List.getElem_cons_zero, List.getElem_cons_succ] at s1
          have HX8 := Lib.hid (HX7.out.trans hx8)
          clear ks hx8
          go_wp2_with fail
          go_ret
          exact Ret.mk HX8.out rfl
      · rw [HR.out] at hc; cases hc
    have hcl' : col < nk := by omega
    have HR : Hid (resR (dmL ss) ⟨rel, [0], [(col : Int)], [], [], []⟩ = .ok ⟨1, []⟩) := Lib.hid (by
      unfold resR
      simp only [hm]
      rw [fits_one (by omega), har, decide_eq_true (by omega)]
      rfl)
    have g1 : ¬ (nk : Int) ≤ (col : Int) := by omega
    clear hcl hm hnk har hrows
    go_wp2_with fail
    refine HL0.out.mono ?_
    rintro e w6 ⟨he6, ⟨c, hc, -⟩ | ⟨y, A, c, hc, rfl, hl⟩⟩
    · rw [HR.out] at hc; cases hc
    obtain rfl : y = ⟨1, []⟩ := by rw [HR.out] at hc; injection hc with hc; exact hc.symm
    obtain ⟨adl, csl, rfl, hadb, ⟨ul, rfl, hul⟩, l0, l1⟩ := hl.at (i := 0) (by simp)
    obtain ⟨Rl0, rc, rfl⟩ := hul.sl
    replace l0 := l0 (by simp); replace l1 := l1 0 (by simp)
    have e0 : w6.cell? adl = some (.int .i64 1) := by simpa [Addr.add] using l0
    have e1 : w6.cell? ⟨adl.block, adl.off + 1, none⟩ = some (.slice Rl0 0 rc) := by simpa [Addr.add, rdRe] using l1
    have hadn : adl.block ≠ gx + 1 + 1 + 1 := by
      have h1 : w5.heap.size ≤ adl.block := hadb
      omega
    have HRF6 := Lib.hid (HRF.out.ext he6); have HX6 := Lib.hid (HX5.out.trans he6)
    clear hc he6 n0 n1 n2 n3 d0 hl hul l0 l1 hadb
    have d0 := HRF6.out.kd.cell (i := 0) (by simp)
    simp only [List.getElem_cons_zero] at d0
    go_wp2_with fail
    refine (HSC.out _ _ HRF6.out.D).mono ?_
    rintro e w7 ⟨he7, ⟨hc, -⟩ | ⟨x', A', c', hc, rfl⟩⟩
    · rw [HM.out] at hc; cases hc
    obtain rfl : x = x' := by rw [HM.out] at hc; injection hc
    rw [← HNK.out]
    have HX7 := Lib.hid (HX6.out.trans he7); have HRF7 := Lib.hid (HRF6.out.ext he7)
    replace e0 := he7.cell e0; replace e1 := he7.cell e1
    have hwl : w6.heap.size ≤ w7.heap.size := he7.size
    have hw6 : gx + 1 + 1 + 1 < w6.heap.size := HRF6.out.kS.lt
    clear hc he7 d0
    go_upto_region 11 with fail
    have ks := Bk.new w7 45 [.string rel, .slice A' nk c']
    change Bk (w7.alloc (.cells #[.string rel, .slice A' nk c'] 45)) _ _ _ at ks
    have hx8 : Ext w7 (w7.alloc (.cells #[.string rel, .slice A' nk c'] 45)) := (Ext.refl w7).alloc _
    generalize (w7.alloc (.cells #[.string rel, .slice A' nk c'] 45)) = w8 at *
    have s1 := ks.cell (i := 1) (by simp)
    simp only [List.getElem_cons_zero, List.getElem_cons_succ] at s1
    have HX8 := Lib.hid (HX7.out.trans hx8); have HRF8 := Lib.hid (HRF7.out.ext hx8)
    obtain ⟨gs, hgs⟩ : ∃ g, g = w7.heap.size := ⟨_, rfl⟩
    rw [← hgs] at ks s1
    rw [← hgs]
    have HKS := Lib.hid ks
    have hgsn : gs ≠ gx + 1 + 1 + 1 := by omega
    replace e0 := hx8.cell e0; replace e1 := hx8.cell e1
    clear ks hx8 hgs
    have n3 := HRF8.out.kN.cell (i := 3) (by simp); have t5 := HRF8.out.kS.cell (i := 5) (by simp); have tf5 := HRF8.out.kS.free 5
    simp only [List.getElem_cons_zero, List.getElem_cons_succ] at n3 t5
    have hlt8 : gx + 1 + 1 + 1 < w8.heap.size := HRF8.out.kS.lt
    go_upto_region 16 with fail
    have HHR := Lib.hid hrel
    have HRX : Hid (resR (dmL ss) ⟨rel, [0], [(col : Int)], [], [], [⟨⟨#[49, 120]⟩, [], []⟩]⟩ = .error 7) := Lib.hid (by
      unfold resR
      simp only [HM.out]
      rw [fits_one (by omega), HAR.out, decide_eq_true (by omega), dmL_1x HOK.out]
      rfl)
    have HRY : Hid (resR (dmL ss) ⟨rel, [0], [(col : Int)], [], [], [⟨rel, [], []⟩]⟩ = .error 28) := Lib.hid (by
      unfold resR
      simp only [HM.out]
      rw [fits_one (by omega), HAR.out, decide_eq_true (by omega)]
      rfl)
    have HRP : Hid (resR (dmL ss) ⟨rel, [0], [(col : Int)], [⟨0, (nk : Int)⟩], [], []⟩ = .error 28) := Lib.hid (by
      unfold resR
      simp only [HM.out]
      rw [HAR.out, fits_same_no]
      rfl)
    have HN1 : Hid (∀ y, dmL ss ⟨#[49, 120]⟩ = some y → ((([] : List Int).length : Nat) : Int) ≠ y.rel.ar) := Lib.hid (fun y hy => by rw [dmL_1x HOK.out] at hy; cases hy)
    have HN2 : Hid (∀ y, dmL ss rel = some y → ((([] : List Int).length : Nat) : Int) ≠ y.rel.ar) := Lib.hid (fun y hy => by
      rw [HM.out] at hy
      injection hy with hy
      rw [← hy, HAR.out]
      simp
      omega)
    have HN3 : Hid (∀ y, dmL ss rel = some y → fitsB ⟨rel, [0], [(col : Int)], [⟨0, (nk : Int)⟩], [], []⟩ y.rel.ar = true → ([⟨0, (nk : Int)⟩] : List Pi) = []) := Lib.hid (fun y hy h => by
      rw [HM.out] at hy
      injection hy with hy
      rw [← hy, HAR.out, fits_same_no] at h
      cases h)
    have HRW0 : Hid (∀ y, dmL ss rel = some y → y.rel.rows = []) := Lib.hid (fun y hy => (dmL_rows hy).1)
    have hwS : w.heap.size ≤ gx + 1 + 1 + 1 := by have := HX2.out.size; omega
    clear hrel t5 tf5 n3
    have hs8 : (w8.setCell ⟨gx + 1 + 1 + 1, 5, none⟩ (.slice (some ⟨w8.heap.size, 0, none⟩) 1 1)).heap.size = w8.heap.size := by simp [World.setCell]
    have kn9 := Bk.new (w8.setCell ⟨gx + 1 + 1 + 1, 5, none⟩ (.slice (some ⟨w8.heap.size, 0, none⟩) 1 1)) 50 [.string ⟨#[49, 120]⟩, .slice none 0 0, .slice none 0 0]
    rw [hs8] at kn9
    change Bk ((w8.setCell ⟨gx + 1 + 1 + 1, 5, none⟩ (.slice (some ⟨w8.heap.size, 0, none⟩) 1 1)).alloc (.cells #[.string ⟨#[49, 120]⟩, .slice none 0 0, .slice none 0 0] 50)) _ _ _ at kn9
    have hr9 := (HRF8.out.set5 (.slice (some ⟨w8.heap.size, 0, none⟩) 1 1)).ext ((Ext.refl _).alloc (.cells #[.string ⟨#[49, 120]⟩, .slice none 0 0, .slice none 0 0] 50))
    have hx9 := (HX8.out.setCell (p := ⟨gx + 1 + 1 + 1, 5, none⟩) hwS (.slice (some ⟨w8.heap.size, 0, none⟩) 1 1)).alloc (.cells #[.string ⟨#[49, 120]⟩, .slice none 0 0, .slice none 0 0] 50)
    have hf9 := (((Fr.refl (fun k => k = gx + 1 + 1 + 1) w8).setCell (p := ⟨gx + 1 + 1 + 1, 5, none⟩) (.inl rfl) (.slice (some ⟨w8.heap.size, 0, none⟩) 1 1)).alloc (.cells #[.string ⟨#[49, 120]⟩, .slice none 0 0, .slice none 0 0] 50))
    generalize ((w8.setCell ⟨gx + 1 + 1 + 1, 5, none⟩ (.slice (some ⟨w8.heap.size, 0, none⟩) 1 1)).alloc (.cells #[.string ⟨#[49, 120]⟩, .slice none 0 0, .slice none 0 0] 50)) = w9 at *
    replace e0 := hf9.cell e0 hadn; replace e1 := hf9.cell e1 hadn; replace s1 := hf9.cell s1 hgsn
    have HL1 := Lib.hid (hr9.load (sm := []) (nts := [⟨⟨#[49, 120]⟩, [], []⟩]) (Sl.nil _ _ _) (nt_one kn9) HHR.out (by simp) (fun _ _ _ => rfl) HRW0.out (.inr ⟨_, rfl, by decide, HN1.out⟩))
    have HRF9 := Lib.hid hr9; have HX9 := Lib.hid hx9
    have n0 := hr9.kN.cell (i := 0) (by simp); have n1 := hr9.kN.cell (i := 1) (by simp); have n2 := hr9.kN.cell (i := 2) (by simp); have n3 := hr9.kN.cell (i := 3) (by simp); have d0 := hr9.kd.cell (i := 0) (by simp)
    simp only [List.getElem_cons_zero, List.getElem_cons_succ] at n0 n1 n2 n3 d0
    clear hs8 kn9 hr9 hx9 hf9
    go_wp2_with fail
    refine HL1.out.mono ?_
    rintro e w10 ⟨he10, ⟨c9, hc, rfl⟩ | ⟨y, A9, c9, hc, -⟩⟩
    · obtain rfl : c9 = 7 := by rw [HRX.out] at hc; injection hc with hc; exact hc.symm
      have HRF10 := Lib.hid (HRF9.out.ext he10); have HX10 := Lib.hid (HX9.out.trans he10)
      replace e0 := he10.cell e0; replace e1 := he10.cell e1; replace s1 := he10.cell s1
      clear hc he10 n0 n1 n2 n3 d0
      have n3 := HRF10.out.kN.cell (i := 3) (by simp); have t5 := HRF10.out.kS.cell (i := 5) (by simp); have tf5 := HRF10.out.kS.free 5
      simp only [List.getElem_cons_zero, List.getElem_cons_succ] at n3 t5
      have hlt10 : gx + 1 + 1 + 1 < w10.heap.size := HRF10.out.kS.lt
      go_upto_region 18 with fail
      clear t5 tf5 n3
      have hs8 : (w10.setCell ⟨gx + 1 + 1 + 1, 5, none⟩ (.slice (some ⟨w10.heap.size, 0, none⟩) 1 1)).heap.size = w10.heap.size := by simp [World.setCell]
      have kn9 := Bk.new (w10.setCell ⟨gx + 1 + 1 + 1, 5, none⟩ (.slice (some ⟨w10.heap.size, 0, none⟩) 1 1)) 50 [.string rel, .slice none 0 0, .slice none 0 0]
      rw [hs8] at kn9
      change Bk ((w10.setCell ⟨gx + 1 + 1 + 1, 5, none⟩ (.slice (some ⟨w10.heap.size, 0, none⟩) 1 1)).alloc (.cells #[.string rel, .slice none 0 0, .slice none 0 0] 50)) _ _ _ at kn9
      have hr9 := (HRF10.out.set5 (.slice (some ⟨w10.heap.size, 0, none⟩) 1 1)).ext ((Ext.refl _).alloc (.cells #[.string rel, .slice none 0 0, .slice none 0 0] 50))
      have hx9 := (HX10.out.setCell (p := ⟨gx + 1 + 1 + 1, 5, none⟩) hwS (.slice (some ⟨w10.heap.size, 0, none⟩) 1 1)).alloc (.cells #[.string rel, .slice none 0 0, .slice none 0 0] 50)
      have hf9 := (((Fr.refl (fun k => k = gx + 1 + 1 + 1) w10).setCell (p := ⟨gx + 1 + 1 + 1, 5, none⟩) (.inl rfl) (.slice (some ⟨w10.heap.size, 0, none⟩) 1 1)).alloc (.cells #[.string rel, .slice none 0 0, .slice none 0 0] 50))
      generalize ((w10.setCell ⟨gx + 1 + 1 + 1, 5, none⟩ (.slice (some ⟨w10.heap.size, 0, none⟩) 1 1)).alloc (.cells #[.string rel, .slice none 0 0, .slice none 0 0] 50)) = w11 at *
      replace e0 := hf9.cell e0 hadn; replace e1 := hf9.cell e1 hadn; replace s1 := hf9.cell s1 hgsn
      have HL2 := Lib.hid (hr9.load (sm := []) (nts := [⟨rel, [], []⟩]) (Sl.nil _ _ _) (nt_one kn9) HHR.out (by simp) (fun _ _ _ => rfl) HRW0.out (.inr ⟨_, rfl, HHR.out, HN2.out⟩))
      have HRF11 := Lib.hid hr9; have HX11 := Lib.hid hx9
      have n0 := hr9.kN.cell (i := 0) (by simp); have n1 := hr9.kN.cell (i := 1) (by simp); have n2 := hr9.kN.cell (i := 2) (by simp); have n3 := hr9.kN.cell (i := 3) (by simp); have d0 := hr9.kd.cell (i := 0) (by simp)
      simp only [List.getElem_cons_zero, List.getElem_cons_succ] at n0 n1 n2 n3 d0
      clear hs8 kn9 hr9 hx9 hf9
      go_wp2_with fail
      refine HL2.out.mono ?_
      rintro e w12 ⟨he12, ⟨c9, hc, rfl⟩ | ⟨y, A9, c9, hc, -⟩⟩
      · obtain rfl : c9 = 28 := by rw [HRY.out] at hc; injection hc with hc; exact hc.symm
        have HRF12 := Lib.hid (HRF11.out.ext he12); have HX12 := Lib.hid (HX11.out.trans he12)
        replace e0 := he12.cell e0; replace e1 := he12.cell e1; replace s1 := he12.cell s1
        clear hc he12 n0 n1 n2 n3 d0
        have n3 := HRF12.out.kN.cell (i := 3) (by simp); have t5 := HRF12.out.kS.cell (i := 5) (by simp); have tf5 := HRF12.out.kS.free 5
        simp only [List.getElem_cons_zero, List.getElem_cons_succ] at n3 t5
        have hlt12 : gx + 1 + 1 + 1 < w12.heap.size := HRF12.out.kS.lt
        go_upto_region 20 with fail
        have hr13 := HRF12.out.set5 (.slice none 0 0)
        have hx13 := HX12.out.setCell (p := ⟨gx + 1 + 1 + 1, 5, none⟩) hwS (.slice none 0 0)
        have hf13 := ((Fr.refl (fun k => k = gx + 1 + 1 + 1) w12).setCell (p := ⟨gx + 1 + 1 + 1, 5, none⟩) (.inl rfl) (.slice none 0 0))
        generalize (w12.setCell ⟨gx + 1 + 1 + 1, 5, none⟩ (.slice none 0 0)) = w13 at *
        replace e0 := hf13.cell e0 hadn; replace e1 := hf13.cell e1 hadn; replace s1 := hf13.cell s1 hgsn
        have HRF13 := Lib.hid hr13; have HX13 := Lib.hid hx13
        clear t5 tf5 n3 hr13 hx13 hf13
        have n3 := HRF13.out.kN.cell (i := 3) (by simp); have t3 := HRF13.out.kS.cell (i := 3) (by simp); have tf3 := HRF13.out.kS.free 3
        simp only [List.getElem_cons_zero, List.getElem_cons_succ] at n3 t3
        have hlt13 : gx + 1 + 1 + 1 < w13.heap.size := HRF13.out.kS.lt
        go_upto_region 21 with fail
        clear t3 tf3 n3
        have hs8 : (w13.setCell ⟨gx + 1 + 1 + 1, 3, none⟩ (.slice (some ⟨w13.heap.size, 0, none⟩) 1 1)).heap.size = w13.heap.size := by simp [World.setCell]
        have kn9 := Bk.new (w13.setCell ⟨gx + 1 + 1 + 1, 3, none⟩ (.slice (some ⟨w13.heap.size, 0, none⟩) 1 1)) 51 [.int .i64 0, .int .i64 (nk : Int)]
        rw [hs8] at kn9
        change Bk ((w13.setCell ⟨gx + 1 + 1 + 1, 3, none⟩ (.slice (some ⟨w13.heap.size, 0, none⟩) 1 1)).alloc (.cells #[.int .i64 0, .int .i64 (nk : Int)] 51)) _ _ _ at kn9
        have hr9 := (HRF13.out.set3 (.slice (some ⟨w13.heap.size, 0, none⟩) 1 1)).ext ((Ext.refl _).alloc (.cells #[.int .i64 0, .int .i64 (nk : Int)] 51))
        have hx9 := (HX13.out.setCell (p := ⟨gx + 1 + 1 + 1, 3, none⟩) hwS (.slice (some ⟨w13.heap.size, 0, none⟩) 1 1)).alloc (.cells #[.int .i64 0, .int .i64 (nk : Int)] 51)
        have hf9 := (((Fr.refl (fun k => k = gx + 1 + 1 + 1) w13).setCell (p := ⟨gx + 1 + 1 + 1, 3, none⟩) (.inl rfl) (.slice (some ⟨w13.heap.size, 0, none⟩) 1 1)).alloc (.cells #[.int .i64 0, .int .i64 (nk : Int)] 51))
        generalize ((w13.setCell ⟨gx + 1 + 1 + 1, 3, none⟩ (.slice (some ⟨w13.heap.size, 0, none⟩) 1 1)).alloc (.cells #[.int .i64 0, .int .i64 (nk : Int)] 51)) = w14 at *
        replace e0 := hf9.cell e0 hadn; replace e1 := hf9.cell e1 hadn
        have HL3 := Lib.hid (hr9.load (sm := [⟨0, (nk : Int)⟩]) (nts := []) (pi_one kn9) (Sl.nil _ _ _) HHR.out (by simp) HN3.out HRW0.out (.inl rfl))
        have HRF14 := Lib.hid hr9; have HX14 := Lib.hid hx9
        have n0 := hr9.kN.cell (i := 0) (by simp); have n1 := hr9.kN.cell (i := 1) (by simp); have n2 := hr9.kN.cell (i := 2) (by simp); have n3 := hr9.kN.cell (i := 3) (by simp); have d0 := hr9.kd.cell (i := 0) (by simp)
        simp only [List.getElem_cons_zero, List.getElem_cons_succ] at n0 n1 n2 n3 d0
        clear hs8 kn9 hr9 hx9 hf9 s1
        go_wp2_with fail
        refine HL3.out.mono ?_
        rintro e w15 ⟨he15, ⟨c9, hc, rfl⟩ | ⟨y, A9, c9, hc, -⟩⟩
        · obtain rfl : c9 = 28 := by rw [HRP.out] at hc; injection hc with hc; exact hc.symm
          have HX15 := Lib.hid (HX14.out.trans he15)
          replace e0 := he15.cell e0; replace e1 := he15.cell e1
          clear hc he15 n0 n1 n2 n3 d0
          go_wp2_with fail
          refine arity_any.mono ?_
          rintro e w16 ⟨y, rfl, he16, rfl⟩
          have HX16 := Lib.hid (HX15.out.trans he16)
          clear he16 e0 e1
          go_wp2_with fail
          go_ret
          exact Ret.mk HX16.out rfl
        · rw [HRP.out] at hc; cases hc
      · rw [HRY.out] at hc; cases hc
    · rw [HRX.out] at hc; cases hc
end Go.Proofs.YtmmmdinncmbjkaaGreat
