/- Contracts: Relation.Delete. -/
import Derived.Test.YtmmmdinncmbjkaaGreatMf30
namespace Go.Proofs.YtmmmdinncmbjkaaGreat
open Go.RowKit Go.Maps
/-- The rows without the one at its place. -/
def delR (rows : List (List Vl)) (x : List Vl) : List (List Vl) := rows.take (lowR rows x) ++ rows.drop (lowR rows x + 1)
theorem has_at {rows : List (List Vl)} {x : List Vl} (h : SoR rows) (hx : hasR rows x = true) : ∃ hl : lowR rows x < rows.length, rows[lowR rows x] = x := by
  obtain ⟨hl, he⟩ := (has_low h).1 hx
  exact ⟨hl, (cmp_row.eq _ _).1 he⟩
theorem delR_mem {rows : List (List Vl)} {x r : List Vl} (h : SoR rows) (hx : hasR rows x = true) : r ∈ delR rows x ↔ r ∈ rows ∧ r ≠ x := by
  obtain ⟨hl, he⟩ := has_at h hx
  obtain ⟨h1, h2⟩ := low_split (r := x) h
  have hsp : rows = rows.take (lowR rows x) ++ x :: rows.drop (lowR rows x + 1) := by
    conv => lhs; rw [← List.take_append_drop (lowR rows x) rows, List.drop_eq_getElem_cons hl, he]
  have h3 : ∀ y ∈ rows.drop (lowR rows x + 1), y ≠ x := fun y hy e => by
    have h4 : SoR (rows.drop (lowR rows x)) := h.sublist (List.drop_sublist _ _)
    rw [List.drop_eq_getElem_cons hl, he] at h4
    have h5 := (List.pairwise_cons.1 h4).1 y hy
    rw [e, cmp_row.self] at h5
    omega
  have h4 : ∀ y ∈ rows.take (lowR rows x), y ≠ x := fun y hy e => by
    have h5 := h1 y hy
    rw [e, cmp_row.self] at h5
    omega
  unfold delR
  constructor
  · intro hr
    rcases List.mem_append.1 hr with hr | hr
    · exact ⟨List.mem_of_mem_take hr, h4 r hr⟩
    · exact ⟨List.mem_of_mem_drop hr, h3 r hr⟩
  · rintro ⟨hr, hne⟩
    rw [hsp] at hr
    rcases List.mem_append.1 hr with hr | hr
    · exact List.mem_append_left _ hr
    · rcases List.mem_cons.1 hr with hr | hr
      · exact absurd hr hne
      · exact List.mem_append_right _ hr
theorem delR_so {rows : List (List Vl)} {x : List Vl} (h : SoR rows) : SoR (delR rows x) := by
  refine h.sublist ?_
  unfold delR
  conv => rhs; rw [← List.take_append_drop (lowR rows x) rows]
  exact List.Sublist.append (List.Sublist.refl _) (List.drop_sublist_drop_left _ (Nat.le_succ _))
theorem delR_len {rows : List (List Vl)} {x : List Vl} (h : lowR rows x < rows.length) : (delR rows x).length + 1 = rows.length := by
  unfold delR
  rw [List.length_append, List.length_take, List.length_drop]
  omega
theorem own_mono {w : World} {b b' n sz : Nat} {E : TypeId} {v : Value} {xs : List Value} (h : w.ownsRow b E sz v n xs) (hb : b' ≤ b) : w.ownsRow b' E sz v n xs := by
  obtain ⟨h1, h2⟩ := h
  refine ⟨h1, ?_⟩
  rcases h2 with h2 | ⟨g, cap, cur, e, h3, h4⟩
  · exact .inl h2
  · exact .inr ⟨g, cap, cur, e, by omega, h4⟩
theorem Cl.take {F : Nat → Prop} {w : World} {A : Option Addr} {xs : List Value} (h : Cl F w A xs) (k : Nat) : Cl F w A (xs.take k) := by
  rcases h with rfl | ⟨ad, h1, h2, h3⟩
  · exact .inl (by simp)
  · exact .inr ⟨ad, h1, h2, fun j hj => by rw [List.getElem_take]; exact h3 j (by rw [List.length_take] at hj; omega)⟩
theorem Cl.drop {F : Nat → Prop} {w : World} {ad : Addr} {xs : List Value} (h : Cl F w (some ad) xs) (k : Nat) : Cl F w (some (ad.add k)) (xs.drop k) := by
  rcases h with rfl | ⟨ad', h1, h2, h3⟩
  · exact .inl (by simp)
  · injection h1 with h1
    subst h1
    exact .inr ⟨_, rfl, by rw [block_add]; exact h2, fun j hj => by rw [add_add, List.getElem_drop]; exact h3 (k + j) (by rw [List.length_drop] at hj; omega)⟩
theorem add_pos' (ad : Addr) (k : Nat) : ad.add (k + 1) = ⟨ad.block, ad.off + (k + 1), none⟩ := by unfold Addr.add; simp
/-- What Delete answers. -/
def DelPost (F : Nat → Prop) (a : Int) (A : Option Addr) (n c : Nat) (rows : List (List Vl)) (x : List Vl) (w : World) (e : Ending) (w' : World) : Prop :=
  Ext w w' ∧ ((accE a x ≠ 0 ∧ e = .returned (.tuple #[zrel, .bool false, .int .i64 (accE a x)])) ∨ (accE a x = 0 ∧ hasR rows x = false ∧ e = .returned (.tuple #[.agg #[.int .i64 a, .slice A n c], .bool false, .int .i64 0])) ∨
    (accE a x = 0 ∧ hasR rows x = true ∧ ∃ B k d, e = .returned (.tuple #[.agg #[.int .i64 a, .slice B k d], .bool true, .int .i64 0]) ∧ (B = none → d = 0) ∧ Sl rdRow (fun k => F k ∨ w.heap.size ≤ k) w' (.slice B k d) (delR rows x)))
set_option maxRecDepth 20000 in
set_option maxHeartbeats 3200000 in
theorem delete_any {F G : Nat → Prop} {w : World} {A B : Option Addr} {n c m d : Nat} {a : Int} {rows : List (List Vl)} {x : List Vl} (hS : SoR rows) (hA : Sl rdRow F w (.slice A n c) rows) (hB : Sl rdVl G w (.slice B m d) x) (hm : m ≤ 1048576) (hr : ∀ x ∈ rows, x.length ≤ 1048576) (hn : n ≤ 65536) (hz : ∀ v ∈ x, v.str.size ≤ maxLen) :
    Calls Tryz.prog 87 #[.agg #[.int .i64 a, .slice A n c], .slice B m d] w (DelPost F a A n c rows x w) := by
  have hnl := hA.cap.1
  have hnc : n ≤ c := hA.cap.2
  have k2 := two_blk w 54 54 [.int .i64 a, .slice A n c] [.int .i64 0, .slice none 0 0]
  have hx : Ext w ((w.alloc (.cells #[.int .i64 a, .slice A n c] 54)).alloc (.cells #[.int .i64 0, .slice none 0 0] 54)) := ((Ext.refl w).alloc _).alloc _
  have HAC := Lib.hid (fun (V : World) (hV : Ext w V) => accepts_any (a := a) (A := A) (n := n) (c := c) (hB.ext hV) hm hz)
  have HSE := Lib.hid (fun (V : World) (hV : Ext w V) => relsearch_any (a := a) hS (hA.ext hV) (hB.ext hV) hm hr (by omega))
  obtain ⟨us, hul, hucl, huone, hurd⟩ := hA.us
  have HS := Lib.hid hS; have HA := Lib.hid hA; have HNL := Lib.hid hnl; have HUL := Lib.hid hul; have HUC := Lib.hid hucl; have HUO := Lib.hid huone; have HUR := Lib.hid hurd
  obtain ⟨ea, hea⟩ : ∃ z, z = accE a x := ⟨_, rfl⟩
  rw [← hea] at HAC
  have HEA := Lib.hid hea
  have hlow := lowR_le rows x
  rw [← hnl] at hlow
  clear hS hA hB hr hz hnl hul hucl huone hurd hea
  go_enter Tryz.func87, Tryz.ntmps87
  go_upto_region 1 with fail
  change Bk ((w.alloc (.cells #[.int .i64 a, .slice A n c] 54)).alloc (.cells #[.int .i64 0, .slice none 0 0] 54)) _ _ _ ∧ Bk ((w.alloc (.cells #[.int .i64 a, .slice A n c] 54)).alloc (.cells #[.int .i64 0, .slice none 0 0] 54)) _ _ _ at k2
  generalize ((w.alloc (.cells #[.int .i64 a, .slice A n c] 54)).alloc (.cells #[.int .i64 0, .slice none 0 0] 54)) = w1 at *
  obtain ⟨ka, kb⟩ := k2
  have a0 := ka.cell (i := 0) (by simp); have a1 := ka.cell (i := 1) (by simp)
  simp only [List.getElem_cons_zero, List.getElem_cons_succ] at a0 a1
  have HKA := Lib.hid ka; have HKB := Lib.hid kb; have HX := Lib.hid hx
  clear ka kb hx
  go_wp2_with fail
  refine (HAC.out _ HX.out).mono ?_
  rintro e w2 ⟨y, rfl, he2, rfl⟩
  replace a0 := he2.cell a0; replace a1 := he2.cell a1
  have HX2 := Lib.hid (HX.out.trans he2); have HKA2 := Lib.hid (HKA.out.ext he2); have HKB2 := Lib.hid (HKB.out.ext he2)
  clear he2
  by_cases h0 : ea = 0
  · subst h0
    obtain ⟨q, hq⟩ : ∃ q, q = lowR rows x := ⟨_, rfl⟩
    obtain ⟨fb, hfb⟩ : ∃ q, q = hasR rows x := ⟨_, rfl⟩
    have HQ := Lib.hid hq; have HFB := Lib.hid hfb
    rw [← hq] at hlow
    go_wp2_with fail
    refine (HSE.out _ HX2.out).mono ?_
    rintro e w3 ⟨he3, rfl⟩
    rw [← hq, ← hfb]
    have HX3 := Lib.hid (HX2.out.trans he3); have HKB3 := Lib.hid (HKB2.out.ext he3)
    replace a0 := he3.cell a0; replace a1 := he3.cell a1
    have hlt3 : w.heap.size + 1 < w3.heap.size := HKB3.out.lt
    clear he3 hq hfb
    rcases fb with _ | _
    · have b0 := HKB3.out.cell (i := 0) (by simp); have b1 := HKB3.out.cell (i := 1) (by simp)
      have f0 := HKB3.out.free 0; have f1 := HKB3.out.free 1
      simp only [List.getElem_cons_zero, List.getElem_cons_succ] at b0 b1
      go_wp2_with fail
      have kz : Bk ((w3.setCell ⟨w.heap.size + 1, 0, none⟩ (.int .i64 a)).setCell ⟨w.heap.size + 1, 1, none⟩ (.slice A n c)) (w.heap.size + 1) 54 [.int .i64 a, .slice A n c] := (HKB3.out.set 0 _).set 1 _
      have hst : Fr (fun k => k = w.heap.size + 1) w3 ((w3.setCell ⟨w.heap.size + 1, 0, none⟩ (.int .i64 a)).setCell ⟨w.heap.size + 1, 1, none⟩ (.slice A n c)) := ((Fr.refl (fun k => k = w.heap.size + 1) w3).setCell (p := ⟨w.heap.size + 1, 0, none⟩) (.inl rfl) _).setCell (p := ⟨w.heap.size + 1, 1, none⟩) (.inl rfl) _
      generalize ((w3.setCell ⟨w.heap.size + 1, 0, none⟩ (.int .i64 a)).setCell ⟨w.heap.size + 1, 1, none⟩ (.slice A n c)) = wz at *
      have z0 := kz.cell (i := 0) (by simp); have z1 := kz.cell (i := 1) (by simp)
      simp only [List.getElem_cons_zero, List.getElem_cons_succ] at z0 z1
      exact bodyPost_ret (v := .tuple #[.agg #[.int .i64 a, .slice A n c], .bool false, .int .i64 0]) (by simp [results, Tryz.results87, go_sem, z0, z1]) rfl ⟨hst.new HX3.out (fun q hq => by omega), .inr (.inl ⟨HEA.out.symm, HFB.out.symm, rfl⟩)⟩
    · obtain ⟨hql0, -⟩ := has_at HS.out HFB.out.symm
      have hql : q < n := by have := HQ.out; have := HNL.out; omega
      have q0 : (0 : Int) ≤ (q : Int) := by omega
      have q1 : (q : Int) ≤ (n : Int) := by omega
      have q2 : (q : Int) ≤ (c : Int) := by omega
      have q3 : (0 : Int) ≤ (q : Int) + 1 := by omega
      have q4 : (q : Int) + 1 ≤ (n : Int) := by omega
      have q5 : (q : Int) + 1 ≤ (c : Int) := by omega
      have hs : IntKind.i64.wrap ((q : Int) + 1) = (q : Int) + 1 := IntWalk.i64_in _ (by omega)
      have hs2 : ((q : Int) + 1).toNat = q + 1 := by omega
      rcases A with _ | ad
      · exfalso
        have h1 := HUC.out
        rcases h1 with h1 | ⟨ad, e, -⟩
        · have h2 := HUL.out; have h3 := HNL.out
          rw [h1, List.length_nil] at h2
          omega
        · cases e
      clear hql0
      go_upto_region 7 with fail
      have HAL : Hid (Ext w3 w3.drew) := Lib.hid (Ext.refl w3).drew
      by_cases hcq : c = q + 1
      · obtain rfl : n = q + 1 := by omega
        subst hcq
        have q6 : (q : Int) ≤ (q : Int) + 1 := by omega
        have q7 : (q : Int) ≤ ((q + 1 : Nat) : Int) := by omega
        have q8 : q ≤ q + 1 := by omega
        have hdr : us.drop (q + 1) = [] := List.drop_of_length_le (by have := HUL.out; have := HNL.out; omega)
        have HDR := Lib.hid hdr
        clear hdr
        have HOWF : Hid (∀ (X : World) (v : Value) (k : Nat), X.ownsRow (w3.alloc (.cells #[.slice (some ad) q (q + 1), .slice (some ad) 0 0] 52)).drew.heap.size 81 1 v k (us.take q ++ []) → X.ownsRow (w.heap.size + 1 + 1) 81 1 v k (us.take q ++ us.drop (q + 1))) := Lib.hid (fun X v k h => by rw [HDR.out]; exact own_mono h (by simp; omega))
        have hcc := concat_rows (g := w3.heap.size) (((Bk.new w3 52 [.slice (some ad) q (q + 1), .slice (some ad) 0 0]).ext (Ext.refl _).drew : Bk (w3.alloc (.cells #[.slice (some ad) q (q + 1), .slice (some ad) 0 0] 52)).drew w3.heap.size _ _)) ((HUC.out.take q).ext ((HX3.out.alloc _).drew)) (show Cl F _ (some ad) [] from .inl rfl) (by have := HUL.out; have := HNL.out; rw [List.length_take]; omega) rfl (by omega) (by omega) (fun u hu => HUO.out u (List.mem_of_mem_take hu)) (fun u hu => by simp at hu) (by omega)
        change Calls Tryz.prog 111 _ (w3.alloc (.cells #[.slice (some ad) q (q + 1), .slice (some ad) 0 0] 52)).drew _ at hcc
        have HCC := Lib.hid hcc
        have HEW : Hid (Ext w3 (w3.alloc (.cells #[.slice (some ad) q (q + 1), .slice (some ad) 0 0] 52)).drew) := Lib.hid ((Ext.refl w3).alloc _).drew
        clear hcc
        go_region_held3 (fun V => Ext w3 V ∧ V.cell? ⟨w.heap.size, 1, none⟩ = some (.slice (some ad) (q + 1) (q + 1)))
          ((refine (fun he => ⟨he, Ext.cell he a1⟩) ?_; repeat (first | exact Ext.refl _ | exact (Ext.refl _).drew | refine Ext.drew ?_ | refine Ext.alloc ?_ _ | refine Ext.trans ?_ (by assumption))))
          (first
            | (go_at_call 111; (with_reducible refine HCC.out.mono ?_); rintro e wi ⟨y, rfl, hei0, hown⟩; have hei := Ext.trans HEW.out hei0; rw [Nat.add_zero] at hown))
        have hfin := hei
        obtain ⟨X, rfl⟩ : ∃ X : World, X = wi := ⟨_, rfl⟩
        obtain ⟨Ay, cy, rfl⟩ := own_slice hown
        have HXX := Lib.hid (HX3.out.trans hfin); have HOW := Lib.hid hown
        have HKX := Lib.hid (HKB3.out.ext hfin)
        replace a0 := hfin.cell a0
        have b0 := HKX.out.cell (i := 0) (by simp); have b1 := HKX.out.cell (i := 1) (by simp)
        have f0 := HKX.out.free 0; have f1 := HKX.out.free 1
        simp only [List.getElem_cons_zero, List.getElem_cons_succ] at b0 b1
        have hltX := HKX.out.lt
        have HSL : Hid (Sl rdRow (fun k => (F k ∨ w.heap.size ≤ k) ∧ k ≠ w.heap.size + 1) X (.slice Ay q cy) (delR rows x)) := Lib.hid (by
          have hlu := HUL.out
          have hlr := HNL.out
          have hd : delR rows x = rows.take q ++ rows.drop (q + 1) := by rw [HQ.out]; rfl
          rw [hd]
          have hw := HOWF.out _ _ _ HOW.out
          refine Sl.of_own hw ?_ (fun k hk => ⟨.inr (by omega), by omega⟩) (fun i hi hi' => ?_)
          · simp only [List.length_append, List.length_take, List.length_drop]
            omega
          · have hup : ∀ j (hj : j < us.length), Sl rdVl (fun k => (F k ∨ w.heap.size ≤ k) ∧ k ≠ w.heap.size + 1) X us[j] (rows[j]'(by omega)) := fun j hj =>
              (((HUR.out j (by omega) hj).mono (G := fun k => F k ∧ k < w.heap.size) (by decide) (fun k hk hf => ⟨hf, hk⟩)).ext HXX.out).mono (by decide) (fun k _ hk => ⟨.inl hk.1, by omega⟩)
            have hi3 : i + 1 < us.length := by
              simp only [List.length_append, List.length_take, List.length_drop] at hi'
              omega
            rcases Nat.lt_or_ge i q with h1 | h1
            · have e2 : (us.take q ++ us.drop (q + 1))[i] = us[i]'(by omega) := by
                rw [List.getElem_append_left (by rw [List.length_take]; omega), List.getElem_take]
              have e3 : (rows.take q ++ rows.drop (q + 1))[i] = rows[i]'(by omega) := by
                rw [List.getElem_append_left (by rw [List.length_take]; omega), List.getElem_take]
              rw [e2, e3]
              exact hup i (by omega)
            · have hl1 : (us.take q).length = q := by rw [List.length_take]; omega
              have hl2 : (rows.take q).length = q := by rw [List.length_take]; omega
              have e2 : (us.take q ++ us.drop (q + 1))[i] = us[i + 1]'hi3 := by
                rw [List.getElem_append_right (by omega)]
                simp only [hl1, List.getElem_drop]
                congr 1
                omega
              have e3 : (rows.take q ++ rows.drop (q + 1))[i] = rows[i + 1]'(by omega) := by
                rw [List.getElem_append_right (by omega)]
                simp only [hl2, List.getElem_drop]
                congr 1
                omega
              rw [e2, e3]
              exact hup (i + 1) hi3)
        have HNI : Hid (Ay = none → cy = 0) := Lib.hid (fun e => by
          rcases HOW.out.2 with ⟨h1, -⟩ | ⟨g, cap, cur, h1, -⟩
          · injection h1 with h1 h2 h3
          · injection h1 with h1
            rw [e] at h1
            cases h1)
        clear hfin hei hown a1
        go_wp2_with fail
        have kz : Bk ((X.setCell ⟨w.heap.size + 1, 0, none⟩ (.int .i64 a)).setCell ⟨w.heap.size + 1, 1, none⟩ (.slice Ay q cy)) (w.heap.size + 1) 54 [.int .i64 a, .slice Ay q cy] := (HKX.out.set 0 _).set 1 _
        have hst : Fr (fun k => k = w.heap.size + 1) X ((X.setCell ⟨w.heap.size + 1, 0, none⟩ (.int .i64 a)).setCell ⟨w.heap.size + 1, 1, none⟩ (.slice Ay q cy)) := ((Fr.refl (fun k => k = w.heap.size + 1) X).setCell (p := ⟨w.heap.size + 1, 0, none⟩) (.inl rfl) _).setCell (p := ⟨w.heap.size + 1, 1, none⟩) (.inl rfl) _
        generalize ((X.setCell ⟨w.heap.size + 1, 0, none⟩ (.int .i64 a)).setCell ⟨w.heap.size + 1, 1, none⟩ (.slice Ay q cy)) = wz at *
        have z0 := kz.cell (i := 0) (by simp); have z1 := kz.cell (i := 1) (by simp)
        simp only [List.getElem_cons_zero, List.getElem_cons_succ] at z0 z1
        exact bodyPost_ret (v := .tuple #[.agg #[.int .i64 a, .slice Ay q cy], .bool true, .int .i64 0]) (by simp [results, Tryz.results87, go_sem, z0, z1]) rfl ⟨hst.new HXX.out (fun q hq => by omega), .inr (.inr ⟨HEA.out.symm, HFB.out.symm, Ay, q, cy, rfl, HNI.out, (HSL.out.fr hst (fun q hq => hq.2)).mono (by decide) (fun q _ hq => hq.1)⟩)⟩
      · have HOWF : Hid (∀ (X : World) (v : Value) (k : Nat), X.ownsRow (w3.alloc (.cells #[.slice (some ad) q c, .slice (some ⟨ad.block, ad.off + (q + 1), none⟩) (n - (q + 1)) (c - (q + 1))] 52)).drew.heap.size 81 1 v k (us.take q ++ us.drop (q + 1)) → X.ownsRow (w.heap.size + 1 + 1) 81 1 v k (us.take q ++ us.drop (q + 1))) := Lib.hid (fun X v k h => own_mono h (by simp; omega))
        have hcc := concat_rows (g := w3.heap.size) (((Bk.new w3 52 [.slice (some ad) q c, .slice (some ⟨ad.block, ad.off + (q + 1), none⟩) (n - (q + 1)) (c - (q + 1))]).ext (Ext.refl _).drew : Bk (w3.alloc (.cells #[.slice (some ad) q c, .slice (some ⟨ad.block, ad.off + (q + 1), none⟩) (n - (q + 1)) (c - (q + 1))] 52)).drew w3.heap.size _ _)) ((HUC.out.take q).ext ((HX3.out.alloc _).drew)) (by rw [← add_pos']; exact (HUC.out.drop (q + 1)).ext ((HX3.out.alloc _).drew)) (by have := HUL.out; have := HNL.out; rw [List.length_take]; omega) (by have := HUL.out; have := HNL.out; rw [List.length_drop]; omega) (by omega) (by omega) (fun u hu => HUO.out u (List.mem_of_mem_take hu)) (fun u hu => HUO.out u (List.mem_of_mem_drop hu)) (by omega)
        change Calls Tryz.prog 111 _ (w3.alloc (.cells #[.slice (some ad) q c, .slice (some ⟨ad.block, ad.off + (q + 1), none⟩) (n - (q + 1)) (c - (q + 1))] 52)).drew _ at hcc
        have HCC := Lib.hid hcc
        have HEW : Hid (Ext w3 (w3.alloc (.cells #[.slice (some ad) q c, .slice (some ⟨ad.block, ad.off + (q + 1), none⟩) (n - (q + 1)) (c - (q + 1))] 52)).drew) := Lib.hid ((Ext.refl w3).alloc _).drew
        clear hcc
        go_region_held3 (fun V => Ext w3 V ∧ V.cell? ⟨w.heap.size, 1, none⟩ = some (.slice (some ad) n c))
          ((refine (fun he => ⟨he, Ext.cell he a1⟩) ?_; repeat (first | exact Ext.refl _ | exact (Ext.refl _).drew | refine Ext.drew ?_ | refine Ext.alloc ?_ _ | refine Ext.trans ?_ (by assumption))))
          (first
            | (go_at_call 111; (with_reducible refine HCC.out.mono ?_); rintro e wi ⟨y, rfl, hei0, hown⟩; have hei := Ext.trans HEW.out hei0))
        have hfin := hei
        obtain ⟨X, rfl⟩ : ∃ X : World, X = wi := ⟨_, rfl⟩
        obtain ⟨Ay, cy, rfl⟩ := own_slice hown
        have HXX := Lib.hid (HX3.out.trans hfin); have HOW := Lib.hid hown
        have HKX := Lib.hid (HKB3.out.ext hfin)
        replace a0 := hfin.cell a0
        have b0 := HKX.out.cell (i := 0) (by simp); have b1 := HKX.out.cell (i := 1) (by simp)
        have f0 := HKX.out.free 0; have f1 := HKX.out.free 1
        simp only [List.getElem_cons_zero, List.getElem_cons_succ] at b0 b1
        have hltX := HKX.out.lt
        have HSL : Hid (Sl rdRow (fun k => (F k ∨ w.heap.size ≤ k) ∧ k ≠ w.heap.size + 1) X (.slice Ay (q + (n - (q + 1))) cy) (delR rows x)) := Lib.hid (by
          have hlu := HUL.out
          have hlr := HNL.out
          have hd : delR rows x = rows.take q ++ rows.drop (q + 1) := by rw [HQ.out]; rfl
          rw [hd]
          have hw := HOWF.out _ _ _ HOW.out
          refine Sl.of_own hw ?_ (fun k hk => ⟨.inr (by omega), by omega⟩) (fun i hi hi' => ?_)
          · simp only [List.length_append, List.length_take, List.length_drop]
            omega
          · have hup : ∀ j (hj : j < us.length), Sl rdVl (fun k => (F k ∨ w.heap.size ≤ k) ∧ k ≠ w.heap.size + 1) X us[j] (rows[j]'(by omega)) := fun j hj =>
              (((HUR.out j (by omega) hj).mono (G := fun k => F k ∧ k < w.heap.size) (by decide) (fun k hk hf => ⟨hf, hk⟩)).ext HXX.out).mono (by decide) (fun k _ hk => ⟨.inl hk.1, by omega⟩)
            have hi3 : i + 1 < us.length := by
              simp only [List.length_append, List.length_take, List.length_drop] at hi'
              omega
            rcases Nat.lt_or_ge i q with h1 | h1
            · have e2 : (us.take q ++ us.drop (q + 1))[i] = us[i]'(by omega) := by
                rw [List.getElem_append_left (by rw [List.length_take]; omega), List.getElem_take]
              have e3 : (rows.take q ++ rows.drop (q + 1))[i] = rows[i]'(by omega) := by
                rw [List.getElem_append_left (by rw [List.length_take]; omega), List.getElem_take]
              rw [e2, e3]
              exact hup i (by omega)
            · have hl1 : (us.take q).length = q := by rw [List.length_take]; omega
              have hl2 : (rows.take q).length = q := by rw [List.length_take]; omega
              have e2 : (us.take q ++ us.drop (q + 1))[i] = us[i + 1]'hi3 := by
                rw [List.getElem_append_right (by omega)]
                simp only [hl1, List.getElem_drop]
                congr 1
                omega
              have e3 : (rows.take q ++ rows.drop (q + 1))[i] = rows[i + 1]'(by omega) := by
                rw [List.getElem_append_right (by omega)]
                simp only [hl2, List.getElem_drop]
                congr 1
                omega
              rw [e2, e3]
              exact hup (i + 1) hi3)
        have HNI : Hid (Ay = none → cy = 0) := Lib.hid (fun e => by
          rcases HOW.out.2 with ⟨h1, -⟩ | ⟨g, cap, cur, h1, -⟩
          · injection h1 with h1 h2 h3
          · injection h1 with h1
            rw [e] at h1
            cases h1)
        clear hfin hei hown a1
        go_wp2_with fail
        have kz : Bk ((X.setCell ⟨w.heap.size + 1, 0, none⟩ (.int .i64 a)).setCell ⟨w.heap.size + 1, 1, none⟩ (.slice Ay (q + (n - (q + 1))) cy)) (w.heap.size + 1) 54 [.int .i64 a, .slice Ay (q + (n - (q + 1))) cy] := (HKX.out.set 0 _).set 1 _
        have hst : Fr (fun k => k = w.heap.size + 1) X ((X.setCell ⟨w.heap.size + 1, 0, none⟩ (.int .i64 a)).setCell ⟨w.heap.size + 1, 1, none⟩ (.slice Ay (q + (n - (q + 1))) cy)) := ((Fr.refl (fun k => k = w.heap.size + 1) X).setCell (p := ⟨w.heap.size + 1, 0, none⟩) (.inl rfl) _).setCell (p := ⟨w.heap.size + 1, 1, none⟩) (.inl rfl) _
        generalize ((X.setCell ⟨w.heap.size + 1, 0, none⟩ (.int .i64 a)).setCell ⟨w.heap.size + 1, 1, none⟩ (.slice Ay (q + (n - (q + 1))) cy)) = wz at *
        have z0 := kz.cell (i := 0) (by simp); have z1 := kz.cell (i := 1) (by simp)
        simp only [List.getElem_cons_zero, List.getElem_cons_succ] at z0 z1
        exact bodyPost_ret (v := .tuple #[.agg #[.int .i64 a, .slice Ay (q + (n - (q + 1))) cy], .bool true, .int .i64 0]) (by simp [results, Tryz.results87, go_sem, z0, z1]) rfl ⟨hst.new HXX.out (fun q hq => by omega), .inr (.inr ⟨HEA.out.symm, HFB.out.symm, Ay, (q + (n - (q + 1))), cy, rfl, HNI.out, (HSL.out.fr hst (fun q hq => hq.2)).mono (by decide) (fun q _ hq => hq.1)⟩)⟩
  · have g1 : (ea != 0) = true := by simpa using h0
    have b0 := HKB2.out.cell (i := 0) (by simp); have b1 := HKB2.out.cell (i := 1) (by simp)
    have f0 := HKB2.out.free 0; have f1 := HKB2.out.free 1
    simp only [List.getElem_cons_zero, List.getElem_cons_succ] at b0 b1
    have hlt2 : w.heap.size + 1 < w2.heap.size := HKB2.out.lt
    clear a0 a1
    go_wp2_with fail
    have kz : Bk ((w2.setCell ⟨w.heap.size + 1, 0, none⟩ (.int .i64 0)).setCell ⟨w.heap.size + 1, 1, none⟩ (.slice none 0 0)) (w.heap.size + 1) 54 [.int .i64 0, .slice none 0 0] := (HKB2.out.set 0 _).set 1 _
    have hst : Fr (fun k => k = w.heap.size + 1) w2 ((w2.setCell ⟨w.heap.size + 1, 0, none⟩ (.int .i64 0)).setCell ⟨w.heap.size + 1, 1, none⟩ (.slice none 0 0)) := ((Fr.refl (fun k => k = w.heap.size + 1) w2).setCell (p := ⟨w.heap.size + 1, 0, none⟩) (.inl rfl) _).setCell (p := ⟨w.heap.size + 1, 1, none⟩) (.inl rfl) _
    generalize ((w2.setCell ⟨w.heap.size + 1, 0, none⟩ (.int .i64 0)).setCell ⟨w.heap.size + 1, 1, none⟩ (.slice none 0 0)) = wz at *
    have z0 := kz.cell (i := 0) (by simp); have z1 := kz.cell (i := 1) (by simp)
    simp only [List.getElem_cons_zero, List.getElem_cons_succ] at z0 z1
    exact bodyPost_ret (v := .tuple #[zrel, .bool false, .int .i64 ea]) (by simp [results, Tryz.results87, go_sem, z0, z1]) rfl ⟨hst.new HX2.out (fun q hq => by omega), .inl ⟨by rw [← HEA.out]; exact h0, by rw [HEA.out]⟩⟩
end Go.Proofs.YtmmmdinncmbjkaaGreat
