/- Contracts: Relation.Insert. -/
import Derived.Test.YtmmmdinncmbjkaaGreatMf29
namespace Go.Proofs.YtmmmdinncmbjkaaGreat
open Go.RowKit Go.Maps
/-- The rows with one more in its place. -/
def insR (rows : List (List Vl)) (x : List Vl) : List (List Vl) := rows.take (lowR rows x) ++ x :: rows.drop (lowR rows x)
theorem insR_mem {rows : List (List Vl)} {x r : List Vl} : r ∈ insR rows x ↔ r = x ∨ r ∈ rows := by
  unfold insR
  rw [List.mem_append, List.mem_cons]
  have h : r ∈ rows ↔ r ∈ rows.take (lowR rows x) ∨ r ∈ rows.drop (lowR rows x) := by
    rw [← List.mem_append, List.take_append_drop]
  rw [h]
  constructor
  · rintro (h | h | h)
    · exact .inr (.inl h)
    · exact .inl h
    · exact .inr (.inr h)
  · rintro (h | h | h)
    · exact .inr (.inl h)
    · exact .inl h
    · exact .inr (.inr h)
theorem insR_so {rows : List (List Vl)} {x : List Vl} (h : SoR rows) (hx : hasR rows x = false) : SoR (insR rows x) := by
  obtain ⟨h1, h2⟩ := low_split (r := x) h
  have h3 : SoR (rows.take (lowR rows x)) := h.sublist (List.take_sublist _ _)
  have h4 : SoR (rows.drop (lowR rows x)) := h.sublist (List.drop_sublist _ _)
  have h5 : ∀ y ∈ rows.drop (lowR rows x), cmpR x y < 0 := fun y hy => by
    have h6 := h2 y hy
    have h7 : cmpR y x ≠ 0 := fun e => by
      have : hasR rows x = true := hasR_iff.2 ((cmp_row.eq _ _).1 e ▸ List.mem_of_mem_drop hy)
      rw [hx] at this
      cases this
    have h8 := cmp_row.anti y x
    omega
  unfold insR SoR
  rw [List.pairwise_append]
  refine ⟨h3, List.pairwise_cons.2 ⟨h5, h4⟩, fun a ha b hb => ?_⟩
  rcases List.mem_cons.1 hb with rfl | hb
  · exact h1 a ha
  · exact cmp_row.trans _ _ _ (h1 a ha) (h5 b hb)
theorem insR_len (rows : List (List Vl)) (x : List Vl) : (insR rows x).length = rows.length + 1 := by
  have := lowR_le rows x
  unfold insR
  rw [List.length_append, List.length_cons, List.length_take, List.length_drop]
  omega
/-- The values of a slice of rows. -/
theorem Sl.us {F : Nat → Prop} {w : World} {A : Option Addr} {n c : Nat} {rows : List (List Vl)} (h : Sl rdRow F w (.slice A n c) rows) : ∃ us : List Value, us.length = rows.length ∧ Cl F w A us ∧ (∀ u ∈ us, u.oneCell' = true) ∧ ∀ i (h : i < rows.length) (h' : i < us.length), Sl rdVl F w us[i] rows[i] := by
  obtain ⟨A', c', e, hc, hh⟩ := h
  injection e with e1 e2 e3
  subst e1
  have key : ∀ k, k ≤ rows.length → ∃ us : List Value, us.length = k ∧ ∀ i (h' : i < us.length), ∃ ad, A = some ad ∧ F ad.block ∧ w.cell? (ad.add i) = some us[i] ∧ ∃ hi : i < rows.length, Sl rdVl F w us[i] rows[i] := by
    intro k
    induction k with
    | zero => exact fun _ => ⟨[], rfl, fun i h' => by simp at h'⟩
    | succ k ih =>
      intro hk
      obtain ⟨us, hl, hu⟩ := ih (by omega)
      obtain ⟨ad, cs, rfl, hF, ⟨u, rfl, hsl⟩, h4⟩ := hh k (by omega)
      have h5 := h4 0 (by simp)
      have e : k * rdRow.sz + 0 = k := by show k * 1 + 0 = k; omega
      rw [e] at h5
      refine ⟨us ++ [u], by simp [hl], fun i h' => ?_⟩
      rcases Nat.lt_or_ge i us.length with hx | hx
      · rw [List.getElem_append_left hx]
        exact hu i hx
      · have e2 : i = us.length := by simp at h'; omega
        subst e2
        rw [List.getElem_append_right (Nat.le_refl _)]
        simp only [Nat.sub_self, List.getElem_cons_zero, hl]
        exact ⟨ad, rfl, hF, h5, by omega, hsl⟩
  obtain ⟨us, hl, hu⟩ := key rows.length (Nat.le_refl _)
  refine ⟨us, hl, ?_, fun u hu' => ?_, fun i hi h' => ?_⟩
  · rcases us with _ | ⟨u, l⟩
    · exact .inl rfl
    · obtain ⟨ad, rfl, hF, -⟩ := hu 0 (by simp)
      refine .inr ⟨ad, rfl, hF, fun j hj => ?_⟩
      obtain ⟨ad', e, -, hcell, -⟩ := hu j hj
      injection e with e
      subst e
      exact hcell
  · obtain ⟨i, hi, rfl⟩ := List.getElem_of_mem hu'
    obtain ⟨-, -, -, -, hr, hsl⟩ := hu i hi
    obtain ⟨B, d, e⟩ := hsl.sl
    rw [e]
    rfl
  · obtain ⟨-, -, -, -, hr, hsl⟩ := hu i h'
    exact hsl
/-- Rows out of a slice of one's own. -/
theorem Sl.of_own {G : Nat → Prop} {w : World} {base n : Nat} {v : Value} {us : List Value} {rows : List (List Vl)} (h : w.ownsRow base 81 1 v n us) (hl : us.length = rows.length) (hg : ∀ k, base ≤ k → G k) (hr : ∀ i (h : i < rows.length) (h' : i < us.length), Sl rdVl G w us[i] rows[i]) : Sl rdRow G w v rows := by
  have hn : n = us.length := by have := h.1; omega
  obtain ⟨A, c, rfl, hc, hcl⟩ := Cl.of_own h
  refine ⟨A, c, by rw [hn, hl], by omega, fun i hi => ?_⟩
  have hi' : i < us.length := by omega
  obtain ⟨ad, rfl, hk, hcell⟩ := hcl.at' (j := i) (List.getElem?_eq_getElem hi')
  refine ⟨ad, [us[i]], rfl, hg _ hk.2, ⟨us[i], rfl, hr i hi hi'⟩, fun j hj => ?_⟩
  obtain rfl : j = 0 := by simp at hj; omega
  have e : i * rdRow.sz + 0 = i := by show i * 1 + 0 = i; omega
  rw [e]
  exact hcell
abbrev zrel : Value := .agg #[.int .i64 0, .slice none 0 0]
/-- What Insert answers, while there is room. -/
def InsPost (F : Nat → Prop) (a : Int) (A : Option Addr) (n c : Nat) (rows : List (List Vl)) (x : List Vl) (w : World) (e : Ending) (w' : World) : Prop :=
  Ext w w' ∧ ((accE a x ≠ 0 ∧ e = .returned (.tuple #[zrel, .bool false, .int .i64 (accE a x)])) ∨ (accE a x = 0 ∧ hasR rows x = true ∧ e = .returned (.tuple #[.agg #[.int .i64 a, .slice A n c], .bool false, .int .i64 0])) ∨
    (accE a x = 0 ∧ hasR rows x = false ∧ ∃ B d, e = .returned (.tuple #[.agg #[.int .i64 a, .slice (some B) (n + 1) d], .bool true, .int .i64 0]) ∧ Sl rdRow (fun k => F k ∨ w.heap.size ≤ k) w' (.slice (some B) (n + 1) d) (insR rows x)))
set_option maxRecDepth 20000 in
set_option maxHeartbeats 3200000 in
theorem insert_any {F G : Nat → Prop} {w : World} {A B : Option Addr} {n c m d : Nat} {a : Int} {rows : List (List Vl)} {x : List Vl} (hS : SoR rows) (hA : Sl rdRow F w (.slice A n c) rows) (hnil : A = none → c = 0) (hB : Sl rdVl G w (.slice B m d) x) (hm : m ≤ 1048576) (hr : ∀ x ∈ rows, x.length ≤ 1048576) (hn : n < 65536) (hz : ∀ v ∈ x, v.str.size ≤ maxLen) :
    Calls Tryz.prog 88 #[.agg #[.int .i64 a, .slice A n c], .slice B m d] w (InsPost F a A n c rows x w) := by
  have hnl := hA.cap.1
  have k2 := two_blk w 54 54 [.int .i64 a, .slice A n c] [.int .i64 0, .slice none 0 0]
  have hx : Ext w ((w.alloc (.cells #[.int .i64 a, .slice A n c] 54)).alloc (.cells #[.int .i64 0, .slice none 0 0] 54)) := ((Ext.refl w).alloc _).alloc _
  have HAC := Lib.hid (fun (V : World) (hV : Ext w V) => accepts_any (a := a) (A := A) (n := n) (c := c) (hB.ext hV) hm hz)
  have HSE := Lib.hid (fun (V : World) (hV : Ext w V) => relsearch_any (a := a) hS (hA.ext hV) (hB.ext hV) hm hr (by omega))
  have HCL := Lib.hid (fun (V : World) (hV : Ext w V) => clone_row (hB.ext hV) hm)
  obtain ⟨us, hul, hucl, huone, hurd⟩ := hA.us
  have HS := Lib.hid hS; have HA := Lib.hid hA; have HNL := Lib.hid hnl; have HUL := Lib.hid hul; have HUC := Lib.hid hucl; have HUO := Lib.hid huone; have HUR := Lib.hid hurd
  obtain ⟨ea, hea⟩ : ∃ z, z = accE a x := ⟨_, rfl⟩
  rw [← hea] at HAC
  have HEA := Lib.hid hea
  have hlow := lowR_le rows x
  rw [← hnl] at hlow
  clear hS hA hB hr hz hnl hul hucl huone hurd hea
  go_enter Tryz.func88, Tryz.ntmps88
  go_upto_region 1 with fail
  change Bk ((w.alloc (.cells #[.int .i64 a, .slice A n c] 54)).alloc (.cells #[.int .i64 0, .slice none 0 0] 54)) _ _ _ ∧ Bk ((w.alloc (.cells #[.int .i64 a, .slice A n c] 54)).alloc (.cells #[.int .i64 0, .slice none 0 0] 54)) _ _ _ at k2
  generalize ((w.alloc (.cells #[.int .i64 a, .slice A n c] 54)).alloc (.cells #[.int .i64 0, .slice none 0 0] 54)) = w1 at *
  obtain ⟨ka, kb⟩ := k2
  have a0 := ka.cell (i := 0) (by simp); have a1 := ka.cell (i := 1) (by simp)
  simp only [List.getElem_cons_zero, List.getElem_cons_succ] at a0 a1
  have HKA := Lib.hid ka; have HKB := Lib.hid kb; have HX := Lib.hid hx
  clear ka kb hx
  go_wp2_with fail
  refine (HAC.out _ HX.out).mono ?_
  rintro e w2 ⟨y, rfl, he2, rfl⟩
  replace a0 := he2.cell a0; replace a1 := he2.cell a1
  have HX2 := Lib.hid (HX.out.trans he2); have HKA2 := Lib.hid (HKA.out.ext he2); have HKB2 := Lib.hid (HKB.out.ext he2)
  clear he2
  by_cases h0 : ea = 0
  · subst h0
    obtain ⟨q, hq⟩ : ∃ q, q = lowR rows x := ⟨_, rfl⟩
    obtain ⟨fb, hfb⟩ : ∃ q, q = hasR rows x := ⟨_, rfl⟩
    have HQ := Lib.hid hq; have HFB := Lib.hid hfb
    rw [← hq] at hlow
    go_wp2_with fail
    refine (HSE.out _ HX2.out).mono ?_
    rintro e w3 ⟨he3, rfl⟩
    rw [← hq, ← hfb]
    have HX3 := Lib.hid (HX2.out.trans he3); have HKB3 := Lib.hid (HKB2.out.ext he3)
    replace a0 := he3.cell a0; replace a1 := he3.cell a1
    have b0 := HKB3.out.cell (i := 0) (by simp); have b1 := HKB3.out.cell (i := 1) (by simp)
    have f0 := HKB3.out.free 0; have f1 := HKB3.out.free 1
    simp only [List.getElem_cons_zero, List.getElem_cons_succ] at b0 b1
    have hlt3 : w.heap.size + 1 < w3.heap.size := HKB3.out.lt
    clear he3 hq hfb
    rcases fb with _ | _
    · have hlen : decide ((65536 : Int) ≤ (n : Int)) = false := decide_eq_false (by omega)
      clear b0 b1 f0 f1
      go_upto_region 9 with fail
      obtain ⟨p0, hp0, hx0, hx1, hx2⟩ := info_parts info_row
      obtain ⟨w4, hrun, hown, hgrow⟩ := run_make_own (P := Tryz.prog) w3 w3.heap.size 52 81 p0 (.slice none 0 0) 1 Tryz.underlying52 hp0 hx0 hx1 .i64 .i64 (n + 1) (by rw [hx2]; omega) (by simp only [maxLen]; omega) (Nat.le_refl _)
      rw [show ((n + 1 : Nat) : Int) = (n : Int) + 1 by omega] at hrun
      have HP0 := Lib.hid (And.intro hp0 (And.intro hx0 (And.intro hx1 hx2))); clear hp0 hx0 hx1 hx2
      have he4 : Ext w3 w4 := (Ext.refl w3).grown hgrow (fun k hk => by cases hk)
      have HX4 := Lib.hid (HX3.out.trans he4); have HOWN := Lib.hid hown; have HKB4 := Lib.hid (HKB3.out.ext he4)
      have a0' := he4.cell a0; have a1' := he4.cell a1
      have h34 : w3.heap.size ≤ w4.heap.size := he4.size
      have q0 : (0 : Int) ≤ (q : Int) := by omega
      have hnc : n ≤ c := HA.out.cap.2
      have q1 : (q : Int) ≤ (n : Int) := by omega
      have q2 : (q : Int) ≤ (c : Int) := by omega
      obtain ⟨B4, hB4⟩ : ∃ g, g = w3.heap.size := ⟨_, rfl⟩
      rw [← hB4] at HOWN hrun h34 hlt3
      have HB4 := Lib.hid hB4
      clear hown hgrow he4 hB4
      go_upto_region 10 with fail
      clear hrun a0 a1
      go_upto_region 11 with (first
        | (at_builtin; refine wpList_append_opt rfl _ _ 52 rfl B4 81 p0 (.slice none 0 0) 1 24 Tryz.underlying52 HP0.out.1 HP0.out.2.1 HP0.out.2.2.1 HP0.out.2.2.2 rfl (by omega) (.slice (some ⟨B4, 0, none⟩) 0 (n + 1)) 0 [] rfl HOWN.out A q c (us.take q) rfl (by have := HUL.out; have := HNL.out; rw [List.length_take]; omega) (fun j u hu => (HUC.out.ext HX4.out).news j u (by obtain ⟨h1, h2⟩ := List.getElem?_eq_some_iff.1 hu; rw [List.length_take] at h1; rw [← hu, List.getElem?_take_of_lt (by omega)])) (fun u hu => HUO.out u (List.mem_of_mem_take hu)) (by simp only [maxLen]; omega) (by omega) h34 ?_; intro v5 w5 hr5 hg5 hl5; rw [Nat.zero_add, List.nil_append] at hr5; obtain ⟨A5, c5, e5⟩ := own_slice hr5; subst e5; have HR5 := Lib.hid hr5; have hx5 : Ext w w5 := HX4.out.grown hg5 (fun b hb => by have := own_ge HOWN.out hb; have := HB4.out; have := HX3.out.size; omega); have HG5 := Lib.hid hg5; have HX5 := Lib.hid hx5; clear hr5 hg5 hl5 hx5))
      have hs5 : w4.heap.size ≤ w5.heap.size := HG5.out.size
      have HOWB : Hid (∀ k, (Value.slice A5 q c5).ownBlock = some k → B4 ≤ k ∧ k < w5.heap.size) := Lib.hid (fun k hk => HR5.out.lt k hk)
      have HKB5 := Lib.hid (HKB4.out.fr (grown_fr HG5.out) (fun e => by have h1 := own_ge HOWN.out e; omega))
      have a1 := Fr.cell (grown_fr HG5.out) a1' (fun e => by have h1 := own_ge HOWN.out e; have h2 : w.heap.size + 1 < B4 := hlt3; change B4 ≤ w.heap.size at h1; omega)
      have a0 := Fr.cell (grown_fr HG5.out) a0' (fun e => by have h1 := own_ge HOWN.out e; have h2 : w.heap.size + 1 < B4 := hlt3; change B4 ≤ w.heap.size at h1; omega)
      clear a0' a1'
      go_wp2_with fail
      refine (HCL.out _ HX5.out).mono ?_
      rintro e w6 ⟨y, rfl, he6, A6, c6, rfl, hy⟩
      have HR6 := Lib.hid (own_ext' HR5.out he6); have HX6 := Lib.hid (HX5.out.trans he6); have HKB6 := Lib.hid (HKB5.out.ext he6)
      replace a0 := he6.cell a0; replace a1 := he6.cell a1
      have hs6 : w5.heap.size ≤ w6.heap.size := he6.size
      have HY := Lib.hid (hy.mono (G := fun k => w5.heap.size ≤ k ∧ k < w6.heap.size) (by decide) (fun k hk hf => ⟨hf, hk⟩))
      clear he6 hy
      go_upto_region 12 with (first
        | (at_builtin; refine wpList_append_at rfl _ _ 52 rfl B4 81 p0 (.slice none 0 0) 1 24 Tryz.underlying52 HP0.out.1 HP0.out.2.1 HP0.out.2.2.1 HP0.out.2.2.2 rfl (by omega) (.slice A5 q c5) q (us.take q) rfl (HR6.out.alloc _) ⟨w6.heap.size, 0, none⟩ 1 1 [.slice A6 m c6] rfl rfl (laid_news w6 _ _) (by simp [Value.oneCell']) (by simp only [maxLen]; omega) (by omega) (by simp; omega) ?_; intro v7 w7 hr7 hg7 hl7; obtain ⟨A7, c7, e7⟩ := own_slice hr7; subst e7; have HR7 := Lib.hid hr7; have HG7 := Lib.hid hg7; have HL7 := Lib.hid hl7; clear hr7 hg7 hl7))
      have hx6a : Ext w6 (w6.alloc (.cells #[.slice A6 m c6] 81)) := (Ext.refl w6).alloc _
      have HX7 : Hid (Ext w w7) := Lib.hid ((HX6.out.trans hx6a).grown HG7.out (fun b hb => by have := own_ge HR6.out hb; have := HX3.out.size; have := HB4.out; omega))
      have hs7 : w6.heap.size < w7.heap.size := by have h1 := HG7.out.size; simp at h1; omega
      have HFG : Hid (Fr (fun k => (Value.slice A5 q c5).ownBlock = some k) w6 w7) := Lib.hid ((hx6a.fr _).trans (grown_fr HG7.out))
      replace a0 := Fr.cell HFG.out a0 (fun e => by have h1 := own_ge HR6.out e; change B4 ≤ w.heap.size at h1; omega)
      replace a1 := Fr.cell HFG.out a1 (fun e => by have h1 := own_ge HR6.out e; change B4 ≤ w.heap.size at h1; omega)
      have HKB7 := Lib.hid (HKB6.out.fr HFG.out (fun e => by have h1 := own_ge HR6.out e; omega))
      have HOWC : Hid (∀ k, (Value.slice A7 (q + 1) c7).ownBlock = some k → k < w5.heap.size ∧ B4 ≤ k ∨ w6.heap.size ≤ k) := Lib.hid (fun k hk => by
        have h1 := own_ge HR7.out hk
        rcases HL7.out with h2 | h2
        · rw [h2] at hk
          have h3 := HOWB.out k hk
          exact .inl ⟨h3.2, h3.1⟩
        · rw [h2] at hk
          injection hk with hk
          simp at hk
          exact .inr (by omega))
      clear hx6a
      have hin : (insR rows x) = rows.take q ++ x :: rows.drop q := by rw [HQ.out]; rfl
      have HIN := Lib.hid hin
      have HFIN := Lib.hid (fun (V : World) (A8 : Option Addr) (c8 : Nat) (hr : V.ownsRow B4 81 1 (.slice A8 (q + 1 + (n - q)) c8) (q + 1 + (n - q)) (us.take q ++ [.slice A6 m c6] ++ us.drop q)) (hg : w7.grownBy V (Value.slice A7 (q + 1) c7).ownBlock) => (show (∃ b, A8 = some b) ∧ Sl rdRow (fun k => (F k ∨ w.heap.size ≤ k) ∧ k ≠ w.heap.size + 1) V (.slice A8 (n + 1) c8) (insR rows x) ∧ Ext w V ∧ Bk V (w.heap.size + 1) 54 [.int .i64 0, .slice none 0 0] ∧ V.cell? ⟨w.heap.size, 0, none⟩ = some (.int .i64 a) from by
        have e1 : q + 1 + (n - q) = n + 1 := by omega
        rw [e1] at hr
        have hxv : Ext w V := HX7.out.grown hg (fun b hb => by have := own_ge HR7.out hb; have := HX3.out.size; have := HB4.out; omega)
        have hlu := HUL.out
        have hlr := HNL.out
        refine ⟨?_, ?_, hxv, HKB7.out.fr (grown_fr hg) (fun e => by have h1 := own_ge HR7.out e; omega), Fr.cell (grown_fr hg) a0 (fun e => by have h1 := own_ge HR7.out e; change B4 ≤ w.heap.size at h1; omega)⟩
        · rcases hr.2 with ⟨h0, h1⟩ | ⟨g, cap, cur, e, -⟩
          · omega
          · injection e with e
            exact ⟨_, e⟩
        · rw [HIN.out]
          refine Sl.of_own hr ?_ (fun k hk => ⟨.inr (by omega), by omega⟩) (fun i hi hi' => ?_)
          · simp only [List.length_append, List.length_take, List.length_drop, List.length_cons, List.length_nil]
            omega
          · have hup : ∀ j (hj : j < us.length), us[j] = us[j] → Sl rdVl (fun k => (F k ∨ w.heap.size ≤ k) ∧ k ≠ w.heap.size + 1) V us[j] (rows[j]'(by omega)) := fun j hj _ =>
              (((HUR.out j (by omega) hj).mono (G := fun k => F k ∧ k < w.heap.size) (by decide) (fun k hk hf => ⟨hf, hk⟩)).ext hxv).mono (by decide) (fun k _ hk => ⟨.inl hk.1, by omega⟩)
            rcases Nat.lt_or_ge i q with h1 | h1
            · have e2 : (us.take q ++ [Value.slice A6 m c6] ++ us.drop q)[i] = us[i]'(by omega) := by
                rw [List.getElem_append_left (by simp; omega), List.getElem_append_left (by simp; omega), List.getElem_take]
              have e3 : (rows.take q ++ x :: rows.drop q)[i] = rows[i]'(by omega) := by
                rw [List.getElem_append_left (by simp; omega), List.getElem_take]
              rw [e2, e3]
              exact hup i (by omega) rfl
            · rcases Nat.eq_or_lt_of_le h1 with h2 | h2
              · subst h2
                have e2 : (us.take q ++ [Value.slice A6 m c6] ++ us.drop q)[q] = Value.slice A6 m c6 := by
                  rw [List.getElem_append_left (by simp; omega), List.getElem_append_right (by simp; omega)]
                  simp only [List.length_take, Nat.min_eq_left (show q ≤ us.length by omega), Nat.sub_self, List.getElem_cons_zero]
                have e3 : (rows.take q ++ x :: rows.drop q)[q] = x := by
                  rw [List.getElem_append_right (by simp; omega)]
                  simp only [List.length_take, Nat.min_eq_left (show q ≤ rows.length by omega), Nat.sub_self, List.getElem_cons_zero]
                rw [e2, e3]
                refine (((HY.out.fr HFG.out (fun k hk e => by have := HOWB.out k e; omega)).fr (grown_fr hg) (fun k hk e => by rcases HOWC.out k e with h3 | h3 <;> omega))).mono (by decide) (fun k _ hk => ⟨.inr (by have := HX5.out.size; omega), by omega⟩)
              · have hl1 : (us.take q ++ [Value.slice A6 m c6]).length = q + 1 := by simp; omega
                have hl2 : (rows.take q).length = q := by simp; omega
                have hi3 : i < us.length + 1 := by
                  simp only [List.length_append, List.length_take, List.length_drop, List.length_cons, List.length_nil] at hi'
                  omega
                have e2 : (us.take q ++ [Value.slice A6 m c6] ++ us.drop q)[i] = us[i - 1]'(by omega) := by
                  rw [List.getElem_append_right (by omega)]
                  simp only [hl1, List.getElem_drop]
                  congr 1
                  omega
                have e3 : (rows.take q ++ x :: rows.drop q)[i] = rows[i - 1]'(by omega) := by
                  rw [List.getElem_append_right (by omega)]
                  simp only [hl2]
                  obtain ⟨p, hp⟩ : ∃ p, i - q = p + 1 := ⟨i - q - 1, by omega⟩
                  simp only [hp, List.getElem_cons_succ, List.getElem_drop]
                  congr 1
                  omega
                rw [e2, e3]
                exact hup (i - 1) (by omega) rfl))
      clear hin
      rcases A with _ | ad
      · have hc0 := hnil rfl
        obtain rfl : c = 0 := hc0
        obtain rfl : n = 0 := by omega
        obtain rfl : q = 0 := by omega
        clear hnil
        have hdr : us.drop 0 = [] := List.drop_of_length_le (by have := HUL.out; have := HNL.out; omega)
        have HDR := Lib.hid hdr
        clear hdr
        go_upto_region 13 with (first
          | (at_builtin; refine wpList_append_opt rfl _ _ 52 rfl B4 81 p0 (.slice none 0 0) 1 24 Tryz.underlying52 HP0.out.1 HP0.out.2.1 HP0.out.2.2.1 HP0.out.2.2.2 rfl (by omega) (.slice A7 1 c7) 1 (us.take 0 ++ [.slice A6 m c6]) rfl HR7.out none (0) (0) [] rfl rfl (fun j u hu => by simp at hu) (fun u hu => by simp at hu) (by simp only [maxLen]; omega) (by omega) (by omega) ?_; intro v8 w8 hr8 hg8 hl8; obtain ⟨A8, c8, e8⟩ := own_slice hr8; subst e8; have HR8 := Lib.hid hr8; have HG8 := Lib.hid hg8; clear hr8 hg8 hl8))
        obtain ⟨hsome, HSL, HXV, HKV, av⟩ := HFIN.out w8 A8 c8 (by rw [HDR.out]; exact HR8.out) HG8.out
        obtain ⟨b8, rfl⟩ := hsome
        have HSL := Lib.hid HSL; have HXV := Lib.hid HXV
        have b0 := HKV.cell (i := 0) (by simp); have b1 := HKV.cell (i := 1) (by simp)
        have f0 := HKV.free 0; have f1 := HKV.free 1
        simp only [List.getElem_cons_zero, List.getElem_cons_succ] at b0 b1
        have hlt8 := HKV.lt
        have HKV := Lib.hid HKV
        clear a0 a1
        go_wp2_with fail
        have kz : Bk ((w8.setCell ⟨w.heap.size + 1, 0, none⟩ (.int .i64 a)).setCell ⟨w.heap.size + 1, 1, none⟩ (.slice (some b8) 1 c8)) (w.heap.size + 1) 54 [.int .i64 a, .slice (some b8) 1 c8] := (HKV.out.set 0 _).set 1 _
        have hst : Fr (fun k => k = w.heap.size + 1) w8 ((w8.setCell ⟨w.heap.size + 1, 0, none⟩ (.int .i64 a)).setCell ⟨w.heap.size + 1, 1, none⟩ (.slice (some b8) 1 c8)) := ((Fr.refl (fun k => k = w.heap.size + 1) w8).setCell (p := ⟨w.heap.size + 1, 0, none⟩) (.inl rfl) _).setCell (p := ⟨w.heap.size + 1, 1, none⟩) (.inl rfl) _
        generalize ((w8.setCell ⟨w.heap.size + 1, 0, none⟩ (.int .i64 a)).setCell ⟨w.heap.size + 1, 1, none⟩ (.slice (some b8) 1 c8)) = wz at *
        have z0 := kz.cell (i := 0) (by simp); have z1 := kz.cell (i := 1) (by simp)
        simp only [List.getElem_cons_zero, List.getElem_cons_succ] at z0 z1
        exact bodyPost_ret (v := .tuple #[.agg #[.int .i64 a, .slice (some b8) 1 c8], .bool true, .int .i64 0]) (by simp [results, Tryz.results88, go_sem, z0, z1]) rfl ⟨hst.new HXV.out (fun q hq => by omega), .inr (.inr ⟨HEA.out.symm, HFB.out.symm, b8, c8, rfl, (HSL.out.fr hst (fun q hq => hq.2)).mono (by decide) (fun q _ hq => hq.1)⟩)⟩
      · clear hnil
        by_cases hcq : c = q
        · obtain rfl : q = n := by omega
          obtain rfl : c = q := by omega
          have hdr : us.drop c = [] := List.drop_of_length_le (by have := HUL.out; have := HNL.out; omega)
          have HDR := Lib.hid hdr
          clear hdr
          go_upto_region 13 with (first
            | (at_builtin; refine wpList_append_opt rfl _ _ 52 rfl B4 81 p0 (.slice none 0 0) 1 24 Tryz.underlying52 HP0.out.1 HP0.out.2.1 HP0.out.2.2.1 HP0.out.2.2.2 rfl (by omega) (.slice A7 (c + 1) c7) (c + 1) (us.take c ++ [.slice A6 m c6]) rfl HR7.out (some ad) (0) (0) [] rfl rfl (fun j u hu => by simp at hu) (fun u hu => by simp at hu) (by simp only [maxLen]; omega) (by omega) (by omega) ?_; intro v8 w8 hr8 hg8 hl8; obtain ⟨A8, c8, e8⟩ := own_slice hr8; subst e8; have HR8 := Lib.hid hr8; have HG8 := Lib.hid hg8; clear hr8 hg8 hl8))
          obtain ⟨hsome, HSL, HXV, HKV, av⟩ := HFIN.out w8 A8 c8 (by rw [HDR.out, Nat.sub_self]; exact HR8.out) HG8.out
          obtain ⟨b8, rfl⟩ := hsome
          have HSL := Lib.hid HSL; have HXV := Lib.hid HXV
          have b0 := HKV.cell (i := 0) (by simp); have b1 := HKV.cell (i := 1) (by simp)
          have f0 := HKV.free 0; have f1 := HKV.free 1
          simp only [List.getElem_cons_zero, List.getElem_cons_succ] at b0 b1
          have hlt8 := HKV.lt
          have HKV := Lib.hid HKV
          clear a0 a1
          go_wp2_with fail
          have kz : Bk ((w8.setCell ⟨w.heap.size + 1, 0, none⟩ (.int .i64 a)).setCell ⟨w.heap.size + 1, 1, none⟩ (.slice (some b8) (c + 1) c8)) (w.heap.size + 1) 54 [.int .i64 a, .slice (some b8) (c + 1) c8] := (HKV.out.set 0 _).set 1 _
          have hst : Fr (fun k => k = w.heap.size + 1) w8 ((w8.setCell ⟨w.heap.size + 1, 0, none⟩ (.int .i64 a)).setCell ⟨w.heap.size + 1, 1, none⟩ (.slice (some b8) (c + 1) c8)) := ((Fr.refl (fun k => k = w.heap.size + 1) w8).setCell (p := ⟨w.heap.size + 1, 0, none⟩) (.inl rfl) _).setCell (p := ⟨w.heap.size + 1, 1, none⟩) (.inl rfl) _
          generalize ((w8.setCell ⟨w.heap.size + 1, 0, none⟩ (.int .i64 a)).setCell ⟨w.heap.size + 1, 1, none⟩ (.slice (some b8) (c + 1) c8)) = wz at *
          have z0 := kz.cell (i := 0) (by simp); have z1 := kz.cell (i := 1) (by simp)
          simp only [List.getElem_cons_zero, List.getElem_cons_succ] at z0 z1
          exact bodyPost_ret (v := .tuple #[.agg #[.int .i64 a, .slice (some b8) (c + 1) c8], .bool true, .int .i64 0]) (by simp [results, Tryz.results88, go_sem, z0, z1]) rfl ⟨hst.new HXV.out (fun q hq => by omega), .inr (.inr ⟨HEA.out.symm, HFB.out.symm, b8, c8, rfl, (HSL.out.fr hst (fun q hq => hq.2)).mono (by decide) (fun q _ hq => hq.1)⟩)⟩
        · have hqc : (q : Int) < (c : Int) := by omega
          go_upto_region 13 with (first
            | (at_builtin; refine wpList_append_opt rfl _ _ 52 rfl B4 81 p0 (.slice none 0 0) 1 24 Tryz.underlying52 HP0.out.1 HP0.out.2.1 HP0.out.2.2.1 HP0.out.2.2.2 rfl (by omega) (.slice A7 (q + 1) c7) (q + 1) (us.take q ++ [.slice A6 m c6]) rfl HR7.out (some (ad.add q)) (n - q) (c - q) (us.drop q) rfl (by have := HUL.out; have := HNL.out; rw [List.length_drop]; omega) (fun j u hu => by obtain ⟨h1, h2⟩ := List.getElem?_eq_some_iff.1 hu; rw [List.getElem?_drop] at hu; obtain ⟨ad', e, hc⟩ := (HUC.out.ext HX7.out).news _ u hu; injection e with e; subst e; exact ⟨_, rfl, by rw [add_add]; exact hc⟩) (fun u hu => HUO.out u (List.mem_of_mem_drop hu)) (by simp only [maxLen]; omega) (by omega) (by omega) ?_; intro v8 w8 hr8 hg8 hl8; obtain ⟨A8, c8, e8⟩ := own_slice hr8; subst e8; have HR8 := Lib.hid hr8; have HG8 := Lib.hid hg8; clear hr8 hg8 hl8))
          obtain ⟨hsome, HSL, HXV, HKV, av⟩ := HFIN.out w8 A8 c8 HR8.out HG8.out
          have hqn : q + 1 + (n - q) = n + 1 := by omega
          rw [hqn]
          clear hqn
          obtain ⟨b8, rfl⟩ := hsome
          have HSL := Lib.hid HSL; have HXV := Lib.hid HXV
          have b0 := HKV.cell (i := 0) (by simp); have b1 := HKV.cell (i := 1) (by simp)
          have f0 := HKV.free 0; have f1 := HKV.free 1
          simp only [List.getElem_cons_zero, List.getElem_cons_succ] at b0 b1
          have hlt8 := HKV.lt
          have HKV := Lib.hid HKV
          clear a0 a1
          go_wp2_with fail
          have kz : Bk ((w8.setCell ⟨w.heap.size + 1, 0, none⟩ (.int .i64 a)).setCell ⟨w.heap.size + 1, 1, none⟩ (.slice (some b8) (n + 1) c8)) (w.heap.size + 1) 54 [.int .i64 a, .slice (some b8) (n + 1) c8] := (HKV.out.set 0 _).set 1 _
          have hst : Fr (fun k => k = w.heap.size + 1) w8 ((w8.setCell ⟨w.heap.size + 1, 0, none⟩ (.int .i64 a)).setCell ⟨w.heap.size + 1, 1, none⟩ (.slice (some b8) (n + 1) c8)) := ((Fr.refl (fun k => k = w.heap.size + 1) w8).setCell (p := ⟨w.heap.size + 1, 0, none⟩) (.inl rfl) _).setCell (p := ⟨w.heap.size + 1, 1, none⟩) (.inl rfl) _
          generalize ((w8.setCell ⟨w.heap.size + 1, 0, none⟩ (.int .i64 a)).setCell ⟨w.heap.size + 1, 1, none⟩ (.slice (some b8) (n + 1) c8)) = wz at *
          have z0 := kz.cell (i := 0) (by simp); have z1 := kz.cell (i := 1) (by simp)
          simp only [List.getElem_cons_zero, List.getElem_cons_succ] at z0 z1
          exact bodyPost_ret (v := .tuple #[.agg #[.int .i64 a, .slice (some b8) (n + 1) c8], .bool true, .int .i64 0]) (by simp [results, Tryz.results88, go_sem, z0, z1]) rfl ⟨hst.new HXV.out (fun q hq => by omega), .inr (.inr ⟨HEA.out.symm, HFB.out.symm, b8, c8, rfl, (HSL.out.fr hst (fun q hq => hq.2)).mono (by decide) (fun q _ hq => hq.1)⟩)⟩
    · go_wp2_with fail
      have kz : Bk ((w3.setCell ⟨w.heap.size + 1, 0, none⟩ (.int .i64 a)).setCell ⟨w.heap.size + 1, 1, none⟩ (.slice A n c)) (w.heap.size + 1) 54 [.int .i64 a, .slice A n c] := (HKB3.out.set 0 _).set 1 _
      have hst : Fr (fun k => k = w.heap.size + 1) w3 ((w3.setCell ⟨w.heap.size + 1, 0, none⟩ (.int .i64 a)).setCell ⟨w.heap.size + 1, 1, none⟩ (.slice A n c)) := ((Fr.refl (fun k => k = w.heap.size + 1) w3).setCell (p := ⟨w.heap.size + 1, 0, none⟩) (.inl rfl) _).setCell (p := ⟨w.heap.size + 1, 1, none⟩) (.inl rfl) _
      generalize ((w3.setCell ⟨w.heap.size + 1, 0, none⟩ (.int .i64 a)).setCell ⟨w.heap.size + 1, 1, none⟩ (.slice A n c)) = wz at *
      have z0 := kz.cell (i := 0) (by simp); have z1 := kz.cell (i := 1) (by simp)
      simp only [List.getElem_cons_zero, List.getElem_cons_succ] at z0 z1
      exact bodyPost_ret (v := .tuple #[.agg #[.int .i64 a, .slice A n c], .bool false, .int .i64 0]) (by simp [results, Tryz.results88, go_sem, z0, z1]) rfl ⟨hst.new HX3.out (fun q hq => by omega), .inr (.inl ⟨HEA.out.symm, HFB.out.symm, rfl⟩)⟩
  · have g1 : (ea != 0) = true := by simpa using h0
    have b0 := HKB2.out.cell (i := 0) (by simp); have b1 := HKB2.out.cell (i := 1) (by simp)
    have f0 := HKB2.out.free 0; have f1 := HKB2.out.free 1
    simp only [List.getElem_cons_zero, List.getElem_cons_succ] at b0 b1
    have hlt2 : w.heap.size + 1 < w2.heap.size := HKB2.out.lt
    clear a0 a1
    go_wp2_with fail
    have kz : Bk ((w2.setCell ⟨w.heap.size + 1, 0, none⟩ (.int .i64 0)).setCell ⟨w.heap.size + 1, 1, none⟩ (.slice none 0 0)) (w.heap.size + 1) 54 [.int .i64 0, .slice none 0 0] := (HKB2.out.set 0 _).set 1 _
    have hst : Fr (fun k => k = w.heap.size + 1) w2 ((w2.setCell ⟨w.heap.size + 1, 0, none⟩ (.int .i64 0)).setCell ⟨w.heap.size + 1, 1, none⟩ (.slice none 0 0)) := ((Fr.refl (fun k => k = w.heap.size + 1) w2).setCell (p := ⟨w.heap.size + 1, 0, none⟩) (.inl rfl) _).setCell (p := ⟨w.heap.size + 1, 1, none⟩) (.inl rfl) _
    generalize ((w2.setCell ⟨w.heap.size + 1, 0, none⟩ (.int .i64 0)).setCell ⟨w.heap.size + 1, 1, none⟩ (.slice none 0 0)) = wz at *
    have z0 := kz.cell (i := 0) (by simp); have z1 := kz.cell (i := 1) (by simp)
    simp only [List.getElem_cons_zero, List.getElem_cons_succ] at z0 z1
    exact bodyPost_ret (v := .tuple #[zrel, .bool false, .int .i64 ea]) (by simp [results, Tryz.results88, go_sem, z0, z1]) rfl ⟨hst.new HX2.out (fun q hq => by omega), .inl ⟨by rw [← HEA.out]; exact h0, by rw [HEA.out]⟩⟩
end Go.Proofs.YtmmmdinncmbjkaaGreat
