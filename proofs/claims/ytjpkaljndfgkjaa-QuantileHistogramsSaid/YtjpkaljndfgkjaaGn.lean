/- Contract: sample.Rows. -/
import Derived.Test.YtjpkaljndfgkjaaGm
namespace Go.Proofs.Ytjpkaljndfgkjaa
open Go.RowKit

theorem dist_okX {b : Nat → Nat} {L : Nat} : ∀ {m j k : Nat} {l : List Nat} {pos : Nat} {r : List Nat} {p : Nat}, SetOk l j k → dist b L m j l pos = some (r, p) → SetOk r (j + m) (k + m)
  | 0, j, k, l, pos, r, p, h, e => by simp only [dist] at e; injection e with e; injection e with e1 e2; subst e1; exact h
  | m + 1, j, k, l, pos, r, p, h, e => by
    rcases hu : uni b L (j + 1) (blen j) (L + 1) pos with _ | ⟨x, q⟩
    · rw [dist_none hu] at e
      cases e
    · rw [dist_some hu] at e
      have h2 := dist_okX (h.put (uni_some hu).1) e
      rw [show j + (m + 1) = j + 1 + m by omega, show k + (m + 1) = k + 1 + m by omega]
      exact h2
theorem Ns.far {w w' : World} {g : Nat} {t : TypeId} {ys : List Value} {A : Option Addr} {m : Nat} {f : Nat → Nat} (h : Ns w A m f) (hb : Bk w g t ys) (hd : ∀ d : Nat, U32 d ∉ ys) (hm : Mod g w w') (hA : ∀ ad, A = some ad → g < ad.block) : Ns w' A m f := fun i hi => by
  obtain ⟨ad, B, k, d, h1, h2, h3⟩ := h i hi
  exact ⟨ad, B, k, d, h1, hm.cell h2 (by rw [block_add]; have := hA ad h1; omega), Dg.mod h3 hb hd hm⟩
/-- What Distinct returns: the numbers, the bytes and the position of the tape, the error. -/
def distOut (bs : List Nat) (n : Nat) (m : Int) (pos : Nat) : List Nat × List Nat × Nat × Nat :=
  if m < 0 ∨ (n : Int) < m then ([], [], 0, 3) else match dist (bitAt bs) (8 * bs.length) m.toNat (n - m.toNat) [] pos with
    | none => ([], [], 0, 36)
    | some (l, p) => (l, bs, p, 0)
/-- What Distinct leaves. -/
def DOut (o : List Nat × List Nat × Nat × Nat) (w : World) (e : Ending) (w' : World) : Prop :=
  Ext w w' ∧ ∃ B d A c, e = .returned (.tuple #[.slice B o.1.length d, .agg #[.slice A o.2.1.length c, .int .i64 (o.2.2.1 : Int)], .int .i64 (o.2.2.2 : Int)]) ∧ Ns w' B o.1.length (fun i => o.1.getD i 0) ∧ By w' (.slice A o.2.1.length c) o.2.1 ∧ ∀ ad, B = some ad → w.heap.size ≤ ad.block
theorem Distinct_out {w : World} {u t : Value} {n pos : Nat} {m : Int} {bs : List Nat} (hu : Nv w u n) (hn : n ≤ 255) (hm : m < 9223372036854775808) (ht : Tp w t bs pos) (hp : pos ≤ 8 * bs.length) :
    Calls Try.prog 16 #[u, .int .i64 m, t] w (DOut (distOut bs n m pos) w) := by
  unfold distOut
  by_cases h1 : m < 0
  · rw [if_pos (.inl h1)]
    refine (distinct_neg h1 ht).mono ?_
    rintro e w' ⟨rfl, he⟩
    exact ⟨he, none, 0, none, 0, rfl, (fun i hi => by simp at hi), By.nil w', (fun ad h => by cases h)⟩
  · obtain ⟨k, rfl⟩ := Int.eq_ofNat_of_zero_le (show 0 ≤ m by omega)
    by_cases h2 : (n : Int) < (k : Int)
    · rw [if_pos (.inr h2)]
      refine (distinct_big hu (by omega) (by omega) ht).mono ?_
      rintro e w' ⟨rfl, he⟩
      exact ⟨he, none, 0, none, 0, rfl, (fun i hi => by simp at hi), By.nil w', (fun ad h => by cases h)⟩
    · rw [if_neg (by omega), Int.toNat_natCast]
      refine (distinct_any hu hn (by omega) ht hp).mono ?_
      intro e w' h
      generalize dist (bitAt bs) (8 * bs.length) k (n - k) [] pos = R at *
      rcases R with _ | ⟨l, p⟩
      · obtain ⟨he, rfl⟩ := h
        exact ⟨he, none, 0, none, 0, rfl, (fun i hi => by simp at hi), By.nil w', (fun ad h => by cases h)⟩
      · obtain ⟨he, B, d, A, c, rfl, hl, hb, hbl⟩ := h
        exact ⟨he, B, d, A, c, rfl, hl, hb, hbl⟩
theorem dist_cases (bs : List Nat) (n : Nat) (m : Int) (pos : Nat) : (distOut bs n m pos = ([], [], 0, 3)) ∨ (distOut bs n m pos = ([], [], 0, 36)) ∨ ∃ l p, (∀ y ∈ l, y < n) ∧ (l.length : Int) = m ∧ l.length ≤ n ∧ distOut bs n m pos = (l, bs, p, 0) := by
  unfold distOut
  by_cases h : m < 0 ∨ (n : Int) < m
  · rw [if_pos h]
    exact .inl rfl
  · rw [if_neg h]
    rcases hu : dist (bitAt bs) (8 * bs.length) m.toNat (n - m.toNat) [] pos with _ | ⟨l, p⟩
    · exact .inr (.inl rfl)
    · have h1 := dist_okX (k := 0) ⟨List.Pairwise.nil, fun _ h => (by simp at h), rfl⟩ hu
      exact .inr (.inr ⟨l, p, fun y hy => by have := h1.lt y hy; omega, by have := h1.len; omega, by have := h1.len; omega, rfl⟩)
/-- The rows at the positions drawn. -/
def SrsPost (rs : List (List R.Vl)) (o : List Nat × List Nat × Nat × Nat) (w : World) (e : Ending) (w' : World) : Prop :=
  Ext w w' ∧ ∃ A c A' c' ys, e = .returned (.tuple #[.slice A o.1.length c, .agg #[.slice A' o.2.1.length c', .int .i64 (o.2.2.1 : Int)], .int .i64 (o.2.2.2 : Int)]) ∧ By w' (.slice A' o.2.1.length c') o.2.1 ∧ R.Sl R.rdRow (fun q => w.heap.size ≤ q) w' (.slice A o.1.length c) ys ∧ ys = o.1.map (fun k => rs.getD k [])
set_option maxRecDepth 20000 in
set_option maxHeartbeats 3200000 in
theorem srows_any {F : Nat → Prop} {w : World} {v t : Value} {rs : List (List R.Vl)} {pos : Nat} {m : Int} {bs : List Nat} (hA : R.ArV F w v rs) (hn : rs.length ≤ 255) (hm : m < 9223372036854775808) (hr : ∀ x ∈ rs, x.length ≤ 1048576) (ht : Tp w t bs (pos : Int)) (hp : pos ≤ 8 * bs.length) :
    Calls Try.prog 15 #[.iface 32 v, .int .i64 m, t] w (SrsPost rs (distOut bs rs.length m pos) w) := by
  obtain ⟨s, rfl, hs⟩ := ht
  obtain ⟨A, c, rfl, -⟩ := hs.parts
  obtain ⟨AR, cR, rfl, hsl⟩ := hA
  have k0 := Bk.new w 25 [.slice A bs.length c, .int .i64 (pos : Int)]
  have k1 := Bk.new (w.alloc (.cells #[.slice A bs.length c, .int .i64 (pos : Int)] 25)) 25 [.slice none 0 0, .int .i64 0]
  have hx : Ext w ((w.alloc (.cells #[.slice A bs.length c, .int .i64 (pos : Int)] 25)).alloc (.cells #[.slice none 0 0, .int .i64 0] 25)) := ((Ext.refl w).alloc _).alloc _
  replace k0 := k0.alloc (.cells #[.slice none 0 0, .int .i64 0] 25)
  change Bk ((w.alloc (.cells #[.slice A bs.length c, .int .i64 (pos : Int)] 25)).alloc (.cells #[.slice none 0 0, .int .i64 0] 25)) _ _ _ at k1
  change Bk ((w.alloc (.cells #[.slice A bs.length c, .int .i64 (pos : Int)] 25)).alloc (.cells #[.slice none 0 0, .int .i64 0] 25)) _ _ _ at k0
  rw [World.size_alloc] at k1
  obtain ⟨n, hnq⟩ : ∃ n, n = rs.length := ⟨_, rfl⟩
  rw [← hnq] at hn hsl ⊢
  obtain ⟨uo, huo⟩ : ∃ uo, uo = distOut bs n m pos := ⟨_, rfl⟩
  have hcs := dist_cases bs n m pos
  have HSL := Lib.hid hsl; have HNQ := Lib.hid hnq; have HR := Lib.hid hr; have HS := Lib.hid hs
  rw [← huo] at hcs ⊢
  have HU := Lib.hid (fun (V : World) (u t : Value) (h1 : Nz V u n) (h2 : Tp V t bs (pos : Nat)) => (Distinct_out (m := m) h1.nv hn hm h2 hp))
  rw [← huo] at HU
  have HAR : Hid (∀ V : World, Ext w V → R.ArV F V (.agg #[.slice AR n cR, .slice none 0 0]) rs) := Lib.hid (fun V hV => ⟨AR, cR, by rw [hnq], by rw [← hnq]; exact hsl.ext hV⟩)
  have HLN := Lib.hid (fun (V : World) (hV : Ext w V) => len_o (HAR.out V hV) (by omega))
  rw [← hnq] at HLN
  clear hsl hnq hr huo hs
  have HCS := Lib.hid hcs
  clear hcs
  have hm1 := meth_len; have hm2 := meth_at; have hm3 := ahead_at
  go_enter Try.func15, Try.ntmps15
  go_upto_region 3 with fail
  generalize ((w.alloc (.cells #[.slice A bs.length c, .int .i64 (pos : Int)] 25)).alloc (.cells #[.slice none 0 0, .int .i64 0] 25)) = w1 at *
  have hlt1 := k1.lt
  have d0 := k0.cell (i := 0) (by simp)
  have d1 := k0.cell (i := 1) (by simp)
  simp only [List.getElem_cons_zero, List.getElem_cons_succ] at d0 d1
  have HX := Lib.hid hx; have HK1 := Lib.hid k1
  have HSW : Hid (∀ V : World, Ext w1 V → By V (.slice A bs.length c) bs) := Lib.hid (fun V hV => HS.out.ext (hx.trans hV))
  clear k0 k1 hx
  go_cut [9, 10, 11] (fun sa sb sc wx => ∃ (g : Nat) (B : Option Addr) (d : Nat) (A' : Option Addr) (c' : Nat), w1.heap.size ≤ g ∧ sa = .slice B uo.1.length d ∧ sb = .pointer (some ⟨g, 0, none⟩) ∧ sc = .int .i64 (uo.2.2.2 : Int) ∧ Bk wx g 25 [.slice A' uo.2.1.length c', .int .i64 (uo.2.2.1 : Int)] ∧ By wx (.slice A' uo.2.1.length c') uo.2.1 ∧ Ns wx B uo.1.length (fun i => uo.1.getD i 0) ∧ Ext w1 wx)
  case first =>
    go_region_held3 (fun V => Ext w1 V ∧ V.cell? ⟨w.heap.size, 0, none⟩ = some (.slice A bs.length c) ∧ V.cell? ⟨w.heap.size, 1, none⟩ = some (.int .i64 (pos : Int)))
      ((refine (fun he => ⟨he, Ext.cell he d0, Ext.cell he d1⟩) ?_; repeat (first | exact Ext.refl _ | exact (Ext.refl _).drew | refine Ext.alloc ?_ _ | refine Ext.drew ?_ | refine Ext.setCell ?_ (by first | exact Nat.le_refl _ | (have := Ext.size hea; simp at this ⊢; omega)) _ | refine Ext.trans ?_ (by assumption))))
      (first
        | (go_at_call 10; refine (HLN.out _ (HX.out.trans (And.left (by assumption)))).mono ?_; rintro e wa ⟨o, rfl, hea, hoa⟩)
        | (go_at_call 16; refine (HU.out _ _ _ ?_ ?_).mono ?_; (first | exact hoa | exact hoa.ext ((Ext.refl _).alloc _)); exact ⟨_, rfl, HSW.out _ (And.left (by assumption))⟩; rintro e wb ⟨heb, B, d, A', c', rfl, hv, hs', hbl⟩; have HBL := Lib.hid hbl; clear hbl
           first
             | (have nb : Bk wb w1.heap.size 25 [.slice none 0 0, .int .i64 0] := (Bk.new w1.drew 25 [.slice none 0 0, .int .i64 0]).ext (Ext.trans hea heb); have g0 := nb.cell (i := 0) (by simp); have g1 := nb.cell (i := 1) (by simp); have f0 := nb.free 0; have f1 := nb.free 1)
             | (have nb : Bk wb wa.heap.size 25 [.slice none 0 0, .int .i64 0] := (Bk.new wa 25 [.slice none 0 0, .int .i64 0]).ext heb; have g0 := nb.cell (i := 0) (by simp); have g1 := nb.cell (i := 1) (by simp); have f0 := nb.free 0; have f1 := nb.free 1)
             | skip))
    all_goals
      have hfin := And.left (b := _ ∧ _) (by assumption)
      go_wp2_with fail
      go_meet
      first
        | exact ⟨wb.heap.size, B, d, A', c', Ext.size (Ext.trans ((Ext.refl _).drew.trans hea) heb), rfl, rfl, rfl, Bk.new wb _ [_, _], hs'.ext ((Ext.refl _).alloc _), hv.ext ((Ext.refl _).alloc _), hfin⟩
        | exact ⟨_, B, d, A', c', Nat.le_refl _, rfl, rfl, rfl, (nb.set 0 _).set 1 _, hs'.mod nb (by simp [U8]) (stored2 _ _ _ _), Ns.far hv nb (by simp [U32]) (stored2 _ _ _ _) (fun ad h => by first | (have := HBL.out ad h; simp at this; omega) | (have := HBL.out ad h; have h2 := Ext.size hea; simp at h2; omega)), hfin⟩
        | exact ⟨_, B, d, A', c', Ext.size ((Ext.refl _).drew.trans hea), rfl, rfl, rfl, (nb.set 0 _).set 1 _, hs'.mod nb (by simp [U8]) (stored2 _ _ _ _), Ns.far hv nb (by simp [U32]) (stored2 _ _ _ _) (fun ad h => by first | (have := HBL.out ad h; simp at this; omega) | (have := HBL.out ad h; have h2 := Ext.size hea; simp at h2; omega)), hfin⟩
  case rest =>
    obtain ⟨g, B, d, A', c', hg, rfl, rfl, rfl, hb, hby, hz, he⟩ := hcut
    have hk1 := HK1.out.ext he
    have HX2 := Lib.hid (HX.out.trans he)
    have HXE := Lib.hid he
    have e0 := hk1.cell (i := 0) (by simp); have e1 := hk1.cell (i := 1) (by simp)
    have f0 := hk1.free 0; have f1 := hk1.free 1
    simp only [List.getElem_cons_zero, List.getElem_cons_succ] at e0 e1
    have HK2 := Lib.hid hk1
    clear d0 d1 hk1 he
    rcases HCS.out with huo | huo | ⟨l, p, hln, -, hlm, huo⟩
    · subst huo
      have HK3 := Lib.hid ((HK2.out.set 0 (.slice none 0 0)).set 1 (.int .i64 0))
      have HF : Hid (Ext w ((wc.setCell ⟨w.heap.size + 1, 0, none⟩ (.slice none 0 0)).setCell ⟨w.heap.size + 1, 1, none⟩ (.int .i64 0))) := Lib.hid ((HX2.out.setCell (p := ⟨w.heap.size + 1, 0, none⟩) (by simp) _).setCell (p := ⟨w.heap.size + 1, 1, none⟩) (by simp) _)
      clear hb hby hz
      simp only [List.length_nil] at *
      go_wp2_with fail
      have r0 := HK3.out.cell (i := 0) (by simp); have r1 := HK3.out.cell (i := 1) (by simp)
      simp only [List.set_cons_zero, List.set_cons_succ, List.getElem_cons_zero, List.getElem_cons_succ] at r0 r1
      refine bodyPost_ret (v := .tuple #[.slice none 0 0, .agg #[.slice none 0 0, .int .i64 0], .int .i64 3]) ?_ rfl ⟨HF.out, none, 0, none, 0, [], rfl, By.nil _, R.Sl.nil _ _ _, rfl⟩
      simp [results, Try.results15, go_sem, r0, r1]
    · subst huo
      have HK3 := Lib.hid ((HK2.out.set 0 (.slice none 0 0)).set 1 (.int .i64 0))
      have HF : Hid (Ext w ((wc.setCell ⟨w.heap.size + 1, 0, none⟩ (.slice none 0 0)).setCell ⟨w.heap.size + 1, 1, none⟩ (.int .i64 0))) := Lib.hid ((HX2.out.setCell (p := ⟨w.heap.size + 1, 0, none⟩) (by simp) _).setCell (p := ⟨w.heap.size + 1, 1, none⟩) (by simp) _)
      clear hb hby hz
      simp only [List.length_nil] at *
      go_wp2_with fail
      have r0 := HK3.out.cell (i := 0) (by simp); have r1 := HK3.out.cell (i := 1) (by simp)
      simp only [List.set_cons_zero, List.set_cons_succ, List.getElem_cons_zero, List.getElem_cons_succ] at r0 r1
      refine bodyPost_ret (v := .tuple #[.slice none 0 0, .agg #[.slice none 0 0, .int .i64 0], .int .i64 36]) ?_ rfl ⟨HF.out, none, 0, none, 0, [], rfl, By.nil _, R.Sl.nil _ _ _, rfl⟩
      simp [results, Try.results15, go_sem, r0, r1]
    · subst huo
      simp only at hb hby hz
      have HBB := Lib.hid hb; have HBY := Lib.hid hby; have HZ := Lib.hid hz; have HLN' := Lib.hid hln
      obtain ⟨q, hq⟩ : ∃ q, q = l.length := ⟨_, rfl⟩
      have hqm : q ≤ 255 := by omega
      simp only [← hq] at hz HZ ⊢
      have HQL := Lib.hid hq
      obtain ⟨i0, hi0, hz0, hz1, hz2⟩ := info_parts R.info_row
      have HI0 := Lib.hid (And.intro hi0 (And.intro hz0 (And.intro hz1 hz2)))
      have hgw : w.heap.size < g := by omega
      obtain ⟨w2, rfl⟩ : ∃ w2 : World, w2 = wc := ⟨_, rfl⟩
      rw [show ((0 : Nat) : Int) = 0 from rfl]
      clear hi0 hz0 hz1 hz2 hb hby hz hln hlm hq e0 e1 f0 f1
      go_wp2_with fail
      go_loopw [12, 35] (fun o t wr => ∃ (i : Nat) (ys : List (List R.Vl)) (css : List (List Value)), i ≤ q ∧ t = .int .i64 (i : Int) ∧ R.Rw R.rdRow wr w2.heap.size 29 o i ys css ∧ Hid (ys = (l.take i).map (fun k => rs.getD k [])) ∧ Ext w2 wr) (fun _ t _ => q - (intOf t).toNat)
      case atStart => exact ⟨0, [], [], Nat.zero_le _, rfl, R.Rw.empty _ _ _ _, Lib.hid rfl, Ext.refl _⟩
      case round =>
        obtain ⟨i, ys, css, hi, rfl, hrw, HY, hxw⟩ := hrel
        obtain ⟨Ao, co, rfl⟩ := R.own_slice hrw.own
        obtain ⟨W, rfl⟩ : ∃ W : World, W = wr := ⟨_, rfl⟩
        have HRW := Lib.hid hrw; have HXW := Lib.hid hxw
        have hszW : w2.heap.size ≤ W.heap.size := hxw.size
        by_cases hlt : i < q
        · have i1 : (0 : Int) ≤ (i : Int) := by omega
          have i2 : (i : Int) < (q : Int) := by omega
          have hil : i < l.length := by have := HQL.out; omega
          obtain ⟨adB, Bk1, kk, dk, rfl, c0, hnz⟩ := HZ.out i hlt
          replace c0 := hxw.cell c0
          have hlx : l.getD i 0 < rs.length := by
            have h1 := HLN'.out _ (List.getElem_mem hil)
            have h2 := HNQ.out
            simp only [List.getD, List.getElem?_eq_getElem hil, Option.getD_some]
            omega
          have HNZ := Lib.hid hnz
          have HAT := Lib.hid (fun (V : World) (hV : Ext W V) => at_yes (HAR.out _ (HX2.out.trans (HXW.out.trans hV))) (by have := HNQ.out; omega) HR.out (HNZ.out.ext (HXW.out.trans hV)).nv hlx)
          have HRL := Lib.hid (HR.out _ (List.getElem_mem hlx))
          have HY2 : Hid (ys ++ [rs[l.getD i 0]'hlx] = (l.take (i + 1)).map (fun k => rs.getD k [])) := Lib.hid (by
            rw [List.take_succ_eq_append_getElem hil, List.map_append, ← HY.out]
            congr 1
            simp only [List.map_cons, List.map_nil]
            congr 1
            have e1 : l.getD i 0 = l[i] := by simp only [List.getD, List.getElem?_eq_getElem hil, Option.getD_some]
            rw [← e1, List.getD_eq_getElem?_getD (l := rs), List.getElem?_eq_getElem hlx]
            rfl)
          obtain ⟨x, hx⟩ : ∃ x, x = rs[l.getD i 0]'hlx := ⟨_, rfl⟩
          rw [← hx] at HAT HRL HY2
          obtain ⟨nx, hnx⟩ : ∃ k, k = x.length := ⟨_, rfl⟩
          rw [← hnx] at HAT HRL
          have HNX := Lib.hid hnx
          clear hnz hx hnx hrw hxw hlx
          go_upto_region 10 with fail
          go_region_held3 (fun V => Ext W V ∧ V.cell? (adB.add i) = some (.slice Bk1 kk dk))
            ((refine (fun he => ⟨he, Ext.cell he c0⟩) ?_; repeat (first | exact Ext.refl _ | exact (Ext.refl _).drew | refine Ext.drew ?_ | refine Ext.trans ?_ (by assumption))))
            (first
              | (go_at_call 11; (with_reducible refine (HAT.out _ (And.left (by assumption))).mono ?_); rintro e wi ⟨A3, c3, rfl, hs3, hei⟩))
          have hfin : Ext W wi := Ext.trans (Ext.refl W).drew hei
          obtain ⟨X, rfl⟩ : ∃ X : World, X = wi := ⟨_, rfl⟩
          have HS3 := Lib.hid hs3; have HXX := Lib.hid (HXW.out.trans hfin); have HRWX := Lib.hid (R.Rw.ext HRW.out hfin)
          have HCL := Lib.hid (fun (V : World) (hV : Ext X V) => R.clone_row (w := V) (R.Sl.ext HS3.out hV) HRL.out)
          clear hs3 hfin hei c0
          go_wp2_with fail
          refine (HCL.out _ (Ext.refl X)).mono ?_
          rintro e w5 ⟨y5, rfl, he5, A5, c5, rfl, hs5⟩
          have HRW5 := Lib.hid (R.Rw.ext HRWX.out he5)
          have HX5 := Lib.hid (HXX.out.trans he5)
          have hsz5 : X.heap.size ≤ w5.heap.size := Ext.size he5
          have hszX : w2.heap.size ≤ X.heap.size := HXX.out.size
          have HOWN : Hid (∀ b, (Value.slice Ao i co).ownBlock = some b → w2.heap.size ≤ b ∧ b < X.heap.size) := Lib.hid (fun b hb => HRWX.out.own.lt b hb)
          have HY5 : Hid (R.Sl R.rdVl (fun q => w2.heap.size ≤ q ∧ (Value.slice Ao i co).ownBlock ≠ some q) w5 (.slice A5 nx c5) x) := Lib.hid (hs5.mono (by decide) (fun k _ hk => ⟨by omega, fun e => by have := HOWN.out k e; omega⟩))
          clear he5 hs5
          go_wp2_with (first
            | (at_builtin; refine R.wpList_append_at rfl _ _ 22 rfl w2.heap.size 29 i0 (.slice none 0 0) 1 24 Try.underlying22 HI0.out.1 HI0.out.2.1 HI0.out.2.2.1 HI0.out.2.2.2 rfl (by omega) (.slice Ao i co) i css.flatten rfl (HRW5.out.own.alloc _) ⟨w5.heap.size, 0, none⟩ 1 1 [.slice A5 nx c5] rfl rfl (R.laid_news w5 _ _) (by simp [Value.oneCell']) (by simp only [maxLen]; omega) (by omega) (by simp; omega) ?_; intro v8 w8 hr8 hg8 hl8; obtain ⟨A8, c8, e8⟩ := R.own_slice hr8; subst e8; have hxa := (R.Ext.refl w5).alloc (.cells #[.slice A5 nx c5] 29); have HRW8 := Lib.hid (R.Rw.more (x := x) HRW5.out hxa ⟨_, rfl, HY5.out.ext hxa⟩ hr8 hg8 hl8); have HX8 := Lib.hid (R.Ext.grown (R.Ext.trans HX5.out hxa) hg8 (fun b hb => (HOWN.out b hb).1)); clear hxa hr8 hg8 hl8))
          go_roundw
          case rel => exact ⟨i + 1, _, _, by omega, by go_num, HRW8.out, HY2, HX8.out⟩
          case measure => simp [intOf]; omega
        · obtain rfl : i = q := by omega
          have hdi : ¬ (i : Int) < (i : Int) := by omega
          have hbW := HBB.out.ext hxw; have hkW := HK2.out.ext hxw
          have b0 := hbW.cell (i := 0) (by simp); have b1 := hbW.cell (i := 1) (by simp)
          have e0 := hkW.cell (i := 0) (by simp); have e1 := hkW.cell (i := 1) (by simp)
          have f0 := hkW.free 0; have f1 := hkW.free 1
          simp only [List.getElem_cons_zero, List.getElem_cons_succ] at b0 b1 e0 e1
          have HKW := Lib.hid hkW
          have HXR := Lib.hid (HX2.out.trans hxw); have HXR2 := Lib.hid hxw
          have HRS := Lib.hid (hrw.sl (by decide))
          have HYY : Hid (ys = l.map (fun k => rs.getD k [])) := Lib.hid (by rw [HY.out, List.take_of_length_le (by have := HQL.out; omega)])
          have hne : w.heap.size + 1 ≠ g := by omega
          clear hbW hkW hrw hxw
          go_upto_region 15 with fail
          go_region
          have HK5 := Lib.hid ((HKW.out.set 0 (.slice A' bs.length c')).set 1 (.int .i64 (p : Int)))
          have hst : R.Fr (fun k => k = w.heap.size + 1) W ((W.setCell ⟨w.heap.size + 1, 0, none⟩ (.slice A' bs.length c')).setCell ⟨w.heap.size + 1, 1, none⟩ (.int .i64 (p : Int))).drew := (((R.Fr.refl (fun k => k = w.heap.size + 1) W).setCell (p := ⟨w.heap.size + 1, 0, none⟩) (.inl rfl) _).setCell (p := ⟨w.heap.size + 1, 1, none⟩) (.inl rfl) _).drew
          have HS5 := Lib.hid (R.Sl.fr HRS.out hst (fun k hk e => by have := HXE.out.size; omega))
          have HF : Hid (Ext w ((W.setCell ⟨w.heap.size + 1, 0, none⟩ (.slice A' bs.length c')).setCell ⟨w.heap.size + 1, 1, none⟩ (.int .i64 (p : Int))).drew) := Lib.hid (((HXR.out.setCell (p := ⟨w.heap.size + 1, 0, none⟩) (by simp) _).setCell (p := ⟨w.heap.size + 1, 1, none⟩) (by simp) _).drew)
          have HB5 : Hid (By ((W.setCell ⟨w.heap.size + 1, 0, none⟩ (.slice A' bs.length c')).setCell ⟨w.heap.size + 1, 1, none⟩ (.int .i64 (p : Int))).drew (.slice A' bs.length c') bs) := Lib.hid (((HBY.out.ext HXR2.out).mod HKW.out (by simp [U8]) (stored2 _ _ _ _)).ext ((Ext.refl _).drew))
          clear hst
          go_wp2_with fail
          have r0 := HK5.out.drew.cell (i := 0) (by simp); have r1 := HK5.out.drew.cell (i := 1) (by simp)
          simp only [List.set_cons_zero, List.set_cons_succ, List.getElem_cons_zero, List.getElem_cons_succ] at r0 r1
          refine bodyPost_ret (v := .tuple #[.slice Ao i co, .agg #[.slice A' bs.length c', .int .i64 (p : Int)], .int .i64 0]) ?_ rfl ⟨HF.out, Ao, co, A', c', ys, by rw [HQL.out]; rfl, HB5.out, by rw [← HQL.out]; exact HS5.out.mono (by decide) (fun k _ hk => by have := HX2.out.size; omega), HYY.out⟩
          simp [results, Try.results15, go_sem, r0, r1]
theorem srows_nil {w : World} {t : Value} {pos : Int} {m : Int} {bs : List Nat} (ht : Tp w t bs pos) :
    Calls Try.prog 15 #[.nilIface, .int .i64 m, t] w (fun e w' => e = .returned (.tuple #[.slice none 0 0, .agg #[.slice none 0 0, .int .i64 0], .int .i64 1]) ∧ Ext w w') := by
  obtain ⟨s, rfl, hs⟩ := ht
  obtain ⟨A, c, rfl, -⟩ := hs.parts
  clear hs
  go_enter Try.func15, Try.ntmps15
  go_wp2_with fail
  refine bodyPost_ret (v := .tuple #[.slice none 0 0, .agg #[.slice none 0 0, .int .i64 0], .int .i64 1]) ?_ rfl ⟨rfl, ?_⟩
  · simp [results, Try.results15, go_sem]
  · exact ((Ext.refl w).alloc _).alloc _
end Go.Proofs.Ytjpkaljndfgkjaa
