/- Words for rows of atoms; contracts: ordinalref25.Same, without. -/
import Derived.Test.YtehklbdgkppmeaaDoorQv
import Derived.Test.YtehklbdgkppmeaaDoorQf
namespace Go.Proofs.YtehklbdgkppmeaaDoor
open Go.RowKit Go.Maps

theorem acells_length : ∀ {xs : List At} {vs : List Value}, vs.length = xs.length → (acells xs vs).length = xs.length * 3
  | [], [], _ => rfl
  | a :: xs, v :: vs, h => by
    simp only [acells, List.length_cons]
    rw [acells_length (xs := xs) (vs := vs) (by simpa using h)]
    omega
  | [], v :: vs, h => by simp at h
  | a :: xs, [], h => by simp at h
theorem acells_append : ∀ {xs : List At} {vs : List Value} (ys : List At) (us : List Value), vs.length = xs.length → acells (xs ++ ys) (vs ++ us) = acells xs vs ++ acells ys us
  | [], [], _, _, _ => rfl
  | a :: xs, v :: vs, ys, us, h => by
    simp only [acells, List.cons_append]
    rw [acells_append (xs := xs) (vs := vs) ys us (by simpa using h)]
  | [], v :: vs, _, _, h => by simp at h
  | a :: xs, [], _, _, h => by simp at h
theorem acells_take {xs : List At} {vs : List Value} (i : Nat) (h : vs.length = xs.length) (hi : i ≤ xs.length) : (acells xs vs).take (i * 3) = acells (xs.take i) (vs.take i) := by
  have hl : (vs.take i).length = (xs.take i).length := by simp [h]
  have e := acells_append (xs.drop i) (vs.drop i) hl
  rw [List.take_append_drop, List.take_append_drop] at e
  have h3 := acells_length hl
  rw [e, List.take_append_of_le_length (by rw [h3]; simp; omega), List.take_of_length_le (by rw [h3]; simp; omega)]
theorem acells_drop {xs : List At} {vs : List Value} (i : Nat) (h : vs.length = xs.length) (hi : i ≤ xs.length) : (acells xs vs).drop (i * 3) = acells (xs.drop i) (vs.drop i) := by
  have hl : (vs.take i).length = (xs.take i).length := by simp [h]
  have e := acells_append (xs.drop i) (vs.drop i) hl
  rw [List.take_append_drop, List.take_append_drop] at e
  have h3 := acells_length hl
  rw [e, List.drop_append_of_le_length (by rw [h3]; simp; omega), List.drop_of_length_le (by rw [h3]; simp; omega), List.nil_append]
theorem acells_one : ∀ {xs : List At} {vs : List Value}, (∀ u ∈ vs, u.oneCell' = true) → ∀ u ∈ acells xs vs, u.oneCell' = true
  | [], _, _, u, hu => by simp [acells] at hu
  | a :: xs, [], _, u, hu => by simp [acells] at hu
  | a :: xs, v :: vs, h, u, hu => by
    simp only [acells, List.mem_cons] at hu
    rcases hu with rfl | rfl | rfl | hu
    · rfl
    · rfl
    · exact h _ (by simp)
    · exact acells_one (fun w hw => h w (by simp [hw])) u hu
/-- A row of atoms of its own (above base), its terms below. -/
structure AtV (w : World) (base : Nat) (v : Value) (n : Nat) (xs : List At) (vs : List Value) : Prop where
  len : vs.length = xs.length
  row : w.ownsRow base 39 3 v n (acells xs vs)
  ts : ∀ i (_ : i < xs.length) (h' : i < vs.length), Ts (fun k => k < base) w vs[i] xs[i].terms
def AtR (w : World) (base : Nat) (v : Value) (n : Nat) (xs : List At) : Prop := ∃ vs, AtV w base v n xs vs
theorem AtV.num {w : World} {base n : Nat} {v : Value} {xs : List At} {vs : List Value} (h : AtV w base v n xs vs) : n = xs.length := by
  have := h.row.1
  rw [acells_length h.len] at this
  omega
theorem AtR.num {w : World} {base n : Nat} {v : Value} {xs : List At} (h : AtR w base v n xs) : n = xs.length := let ⟨_, h⟩ := h; h.num
theorem AtR.sl {w : World} {base n : Nat} {v : Value} {xs : List At} (h : AtR w base v n xs) : ∃ A c, v = .slice A n c := let ⟨_, h⟩ := h; own_slice h.row
theorem AtR.ats {w : World} {base n : Nat} {v : Value} {xs : List At} (h : AtR w base v n xs) : Ats (fun _ => True) w v xs := by
  have hn := h.num
  obtain ⟨vs, hl, hr, ht⟩ := h
  subst hn
  obtain ⟨A, c, rfl, hc, hcl⟩ := Cl.of_own hr
  exact ⟨A, c, vs, rfl, hc, hl, hcl.mono (fun _ _ _ => trivial), fun i h h' => (ht i h h').mono (fun _ _ _ => trivial)⟩
theorem AtV.ext {w w' : World} {base n : Nat} {v : Value} {xs : List At} {vs : List Value} (h : AtV w base v n xs vs) (he : Ext w w') : AtV w' base v n xs vs := ⟨h.len, own_ext' h.row he, fun i hi h' => (h.ts i hi h').ext he⟩
theorem AtR.ext {w w' : World} {base n : Nat} {v : Value} {xs : List At} (h : AtR w base v n xs) (he : Ext w w') : AtR w' base v n xs := let ⟨vs, h⟩ := h; ⟨vs, h.ext he⟩
theorem Ts.one {F : Nat → Prop} {w : World} {v : Value} {ts : List Tm} (h : Ts F w v ts) : v.oneCell' = true := by
  obtain ⟨A, c, rfl, _⟩ := h; rfl
theorem AtR.nil (w : World) (base : Nat) : AtR w base (.slice none 0 0) 0 [] := ⟨[], rfl, World.ownsRow_nil _ _ _ _, fun i h => by simp at h⟩
theorem AtV.more {wr wb w9 : World} {base n : Nat} {v v9 va : Value} {xs : List At} {vs : List Value} {a : At} (h : AtV wr base v n xs vs) (he : Ext wr wb) (ht : Ts (fun k => k < base) wr va a.terms) (hr : w9.ownsRow base 39 3 v9 (n + 1) (acells xs vs ++ [.bool a.neg, .string a.rel, va])) (hg : wb.grownBy w9 v.ownBlock) : AtV w9 base v9 (n + 1) (xs ++ [a]) (vs ++ [va]) := by
  refine ⟨by simp [h.len], by rw [acells_append _ _ h.len]; exact hr, fun i hi hi' => ?_⟩
  have hup : ∀ {u : Value} {ts : List Tm}, Ts (fun k => k < base) wr u ts → Ts (fun k => k < base) w9 u ts := fun hu => (hu.ext he).fr (grown_fr hg) (fun k hk e => by have := own_ge h.row e; omega)
  rcases Nat.lt_or_ge i xs.length with hx | hx
  · rw [List.getElem_append_left hx, List.getElem_append_left (by rw [h.len]; exact hx)]
    exact hup (h.ts i hx (by rw [h.len]; exact hx))
  · have e : i = xs.length := by simp at hi; omega
    subst e
    rw [List.getElem_append_right (Nat.le_refl _), List.getElem_append_right (by rw [h.len]; exact Nat.le_refl _)]
    simp only [h.len, Nat.sub_self, List.getElem_cons_zero]
    exact hup ht
/-- Atom i of a slice in a known place. -/
theorem Ats.at2 {F : Nat → Prop} {w : World} {A : Option Addr} {n c : Nat} {xs : List At} (h : Ats F w (.slice A n c) xs) : ∀ i (hi : i < xs.length), ∃ ad B d, A = some ad ∧ F ad.block ∧
    w.cell? (ad.add (i * 3)) = some (.bool xs[i].neg) ∧ w.cell? ⟨(ad.add (i * 3)).block, (ad.add (i * 3)).off + 1, none⟩ = some (.string xs[i].rel) ∧ w.cell? ⟨(ad.add (i * 3)).block, (ad.add (i * 3)).off + 2, none⟩ = some (.slice B xs[i].terms.length d) ∧ xs[i].terms.length ≤ d ∧ Cl F w B (tcells xs[i].terms) := by
  obtain ⟨A', c', e, -, hh⟩ := h.at'
  injection e with e1 e2 e3
  subst e1
  exact hh
theorem allT_bd {xs : List At} {b : Nat} (h : ∀ a ∈ xs, a.terms.length ≤ b) : (allT xs).length ≤ xs.length * b := by
  induction xs with
  | nil => simp [allT]
  | cons a xs ih =>
    have e : allT (a :: xs) = a.terms ++ allT xs := by simp [allT]
    rw [e, List.length_append, List.length_cons, Nat.add_mul]
    have h1 := h a (by simp)
    have h2 := ih (fun c hc => h c (by simp [hc]))
    omega
theorem Ts.old {F : Nat → Prop} {w : World} {v : Value} {ts : List Tm} (h : Ts F w v ts) : Ts (fun k => k < w.heap.size) w v ts := h.mono (fun _ hk _ => hk)
def bare (a : At) : ByteArray × List Tm := (a.rel, a.terms)
def sameL (xs ys : List At) : Bool := decide (xs.map bare = ys.map bare)
theorem sameL_iff {xs ys : List At} : sameL xs ys = true ↔ xs.map bare = ys.map bare := by simp [sameL]

set_option maxRecDepth 20000 in
set_option maxHeartbeats 1600000 in
theorem sames25 {F G : Nat → Prop} {w : World} {vX vY : Value} {xs ys : List At} (hX : Ats F w vX xs) (hY : Ats G w vY ys) (hl : xs.length ≤ 1048576) (hla : (allT xs).length ≤ 1048576) :
    Calls Tryd.prog 13 #[vX, vY] w (Ret (fun x _ => x = .bool (sameL xs ys)) w) := by
  obtain ⟨A, cA, rfl, hcA, hatA⟩ := hX.at'
  obtain ⟨D, cD, rfl, hcD, hatD⟩ := hY.at'
  obtain ⟨n, hn⟩ : ∃ n, n = xs.length := ⟨_, rfl⟩
  obtain ⟨m, hm⟩ : ∃ n, n = ys.length := ⟨_, rfl⟩
  rw [← hn] at hcA hl ⊢
  rw [← hm] at hcD ⊢
  have HN := Lib.hid hn; have HM := Lib.hid hm; have HAT := Lib.hid hatA; have HDT := Lib.hid hatD; have HLA := Lib.hid hla
  clear hn hm hatA hatD hla hX hY
  by_cases hlen : n = m
  · subst hlen
    go_enter Tryd.func13, Tryd.ntmps13
    go_wp2_with fail
    go_loopw [5] (fun q wr => ∃ i : Nat, i ≤ n ∧ q = .int .i64 (i : Int) ∧ (∀ j (h : j < xs.length) (h' : j < ys.length), j < i → bare xs[j] = bare ys[j]) ∧ Ext w wr) (fun q _ => n - (intOf q).toNat)
    case atStart => exact ⟨0, Nat.zero_le _, rfl, fun _ _ _ h => absurd h (by omega), Ext.refl _⟩
    case round =>
      obtain ⟨i, hi, rfl, hok, hext⟩ := hrel
      have HOK := Lib.hid hok; have HEX := Lib.hid hext
      clear hok
      by_cases hlt : i < n
      · have i1 : (0 : Int) ≤ (i : Int) := by omega
        have i2 : (i : Int) < (n : Int) := by omega
        have hix : i < xs.length := by have := HN.out; omega
        have hiy : i < ys.length := by have := HM.out; omega
        obtain ⟨adX, BX, dX, rfl, -, c0, c1, c2, hdX, hclX⟩ := HAT.out i hix
        obtain ⟨adY, BY, dY, rfl, -, e0, e1, e2, hdY, hclY⟩ := HDT.out i hiy
        replace c0 := hext.cell c0; replace c1 := hext.cell c1; replace c2 := hext.cell c2
        replace e0 := hext.cell e0; replace e1 := hext.cell e1; replace e2 := hext.cell e2
        have htl := terms_le hix
        obtain ⟨x, hx⟩ : ∃ x, x = xs[i] := ⟨_, rfl⟩
        rw [← hx] at c0 c1 c2 hdX hclX htl
        obtain ⟨y, hy⟩ : ∃ y, y = ys[i] := ⟨_, rfl⟩
        rw [← hy] at e0 e1 e2 hdY hclY
        obtain ⟨nx, hnx⟩ : ∃ k, k = x.terms.length := ⟨_, rfl⟩
        obtain ⟨ny, hny⟩ : ∃ k, k = y.terms.length := ⟨_, rfl⟩
        obtain ⟨ng, hng⟩ : ∃ k, k = x.neg := ⟨_, rfl⟩
        obtain ⟨nh, hnh⟩ : ∃ k, k = y.neg := ⟨_, rfl⟩
        obtain ⟨rx, hrx⟩ : ∃ k, k = x.rel := ⟨_, rfl⟩
        obtain ⟨ry, hry⟩ : ∃ k, k = y.rel := ⟨_, rfl⟩
        obtain ⟨b, hb⟩ : ∃ b, b = sameA x y := ⟨_, rfl⟩
        have HSAME : Hid (∀ V : World, Ext wr V → Calls Tryd.prog 36 #[.agg #[.bool ng, .string rx, .slice BX nx dX], .agg #[.bool nh, .string ry, .slice BY ny dY]] V (Ret (fun z _ => z = .bool b) V)) := Lib.hid (fun V hV => by
          have h := same25 (na := ng) (nb := nh) (ra := rx) (rb := ry) (hclX.ext (hext.trans hV)) (hclY.ext (hext.trans hV)) hdX hdY (by have := HLA.out; omega)
          rw [hb, sameA, ← hrx, ← hry, hnx, hny]
          exact h)
        have HB : Hid (b = decide (bare xs[i] = bare ys[i])) := Lib.hid (by rw [hb, ← hx, ← hy, sameA]; simp [bare])
        rw [← hng, ] at c0
        rw [← hrx] at c1
        rw [← hnx] at c2
        rw [← hnh] at e0
        rw [← hry] at e1
        rw [← hny] at e2
        clear hdX hclX htl hdY hclY hnx hny hng hnh hrx hry hb hx hy hext
        go_upto_region 6 with fail
        go_region_held3 (fun V => Ext wr V ∧ V.cell? (adX.add (i * 3)) = some (.bool ng) ∧ V.cell? ⟨(adX.add (i * 3)).block, (adX.add (i * 3)).off + 1, none⟩ = some (.string rx) ∧ V.cell? ⟨(adX.add (i * 3)).block, (adX.add (i * 3)).off + 2, none⟩ = some (.slice BX nx dX) ∧ V.cell? (adY.add (i * 3)) = some (.bool nh) ∧ V.cell? ⟨(adY.add (i * 3)).block, (adY.add (i * 3)).off + 1, none⟩ = some (.string ry) ∧ V.cell? ⟨(adY.add (i * 3)).block, (adY.add (i * 3)).off + 2, none⟩ = some (.slice BY ny dY))
          ((refine (fun he => ⟨he, Ext.cell he c0, Ext.cell he c1, Ext.cell he c2, Ext.cell he e0, Ext.cell he e1, Ext.cell he e2⟩) ?_; repeat (first | exact Ext.refl _ | exact (Ext.refl _).drew | refine Ext.drew ?_ | refine Ext.trans ?_ (by assumption))))
          (first
            | (go_at_call 36; (with_reducible refine (HSAME.out _ (And.left (by assumption))).mono ?_); rintro e wi ⟨yv, rfl, hei, rfl⟩))
        have HFIN := Lib.hid (And.left (b := _ ∧ _) (by assumption))
        clear c0 c1 c2 e0 e1 e2
        rcases b with _ | _
        · go_wp2_with fail
          go_ret
          refine Ret.mk (HEX.out.trans HFIN.out) ?_
          have hne : ¬ xs.map bare = ys.map bare := fun e => by
            have h := HB.out
            have e2 : (xs.map bare)[i]? = (ys.map bare)[i]? := by rw [e]
            rw [List.getElem?_map, List.getElem?_map, List.getElem?_eq_getElem hix, List.getElem?_eq_getElem hiy] at e2
            simp only [Option.map_some, Option.some.injEq] at e2
            rw [decide_eq_true e2] at h
            cases h
          rw [sameL, decide_eq_false hne]
          rfl
        · go_wp2_with fail
          go_roundw
          case rel =>
            refine ⟨i + 1, by omega, by go_num, fun j hj hj2 hji => ?_, HEX.out.trans HFIN.out⟩
            rcases Nat.lt_or_ge j i with h | h
            · exact HOK.out j hj hj2 h
            · obtain rfl : j = i := by omega
              exact of_decide_eq_true HB.out.symm
          case measure => simp [intOf]; omega
      · obtain rfl : i = n := by omega
        have hdn : ¬ (i : Int) < (i : Int) := by omega
        clear hext
        go_wp2_with fail
        go_ret
        refine Ret.mk HEX.out ?_
        have e : xs.map bare = ys.map bare := List.ext_getElem (by rw [List.length_map, List.length_map, ← HN.out, ← HM.out]) (fun j h1 h2 => by
          rw [List.getElem_map, List.getElem_map]
          have h3 : j < xs.length := by simpa using h1
          exact HOK.out j h3 (by simpa using h2) (by have := HN.out; omega))
        rw [sameL, decide_eq_true e]
        rfl
  · have hlen2 : ¬ (n : Int) = (m : Int) := by omega
    have HNL : Hid (¬ xs.map bare = ys.map bare) := Lib.hid (fun e => hlen (by
      have := congrArg List.length e
      rw [List.length_map, List.length_map] at this
      rw [HN.out, HM.out, this]))
    clear hlen
    go_enter Tryd.func13, Tryd.ntmps13
    go_wp2_with fail
    all_goals first
      | contradiction
      | (go_ret
         refine Ret.mk (Ext.refl w) ?_
         rw [sameL, decide_eq_false HNL.out]
         rfl)

set_option maxRecDepth 20000 in
set_option maxHeartbeats 1600000 in
theorem without25 {F : Nat → Prop} {w : World} {vX : Value} {xs : List At} {i : Nat} (hX : Ats F w vX xs) (hl : xs.length ≤ 1048576) (hi : i < xs.length) :
    Calls Tryd.prog 37 #[vX, .int .i64 (i : Int)] w (Ret (fun x w' => AtR w' w.heap.size x (xs.eraseIdx i).length (xs.eraseIdx i)) w) := by
  obtain ⟨A, c, vs, rfl, hc, hvs, hcl, hts⟩ := hX
  obtain ⟨n, hn⟩ : ∃ n, n = xs.length := ⟨_, rfl⟩
  rw [← hn] at hc hl hi ⊢
  obtain ⟨ad, rfl⟩ : ∃ ad, A = some ad := by
    obtain ⟨ad, h, -⟩ := hcl.atom (i := 0) (by omega) (by omega)
    exact ⟨ad, h⟩
  have i1 : (0 : Int) ≤ (i : Int) := by omega
  have i2 : (i : Int) ≤ (c : Int) := by omega
  have i3 : (i : Int) + 1 ≤ (n : Int) := by omega
  have i4 : (i : Int) < (n : Int) := by omega
  have i5 : (n : Int) ≤ (c : Int) := by omega
  have i6 : ((i : Int) + 1).toNat = i + 1 := by omega
  obtain ⟨i0, hi0, hz0, hz1, hz2⟩ := info_parts info_atom
  have HI0 := Lib.hid (And.intro hi0 (And.intro hz0 (And.intro hz1 hz2))); clear hi0 hz0 hz1 hz2
  have HN := Lib.hid hn; have HVS := Lib.hid hvs; have HCL := Lib.hid hcl; have HTS := Lib.hid hts
  clear hn hvs hcl hts
  have HN1 : Hid (∀ V : World, Ext w V → ∀ j u, (acells (xs.take i) (vs.take i))[j]? = some u → ∃ a, some ad = some a ∧ V.cell? (a.add j) = some u) := Lib.hid (fun V hV j u hu => by
    rw [← acells_take i HVS.out (by have := HN.out; omega), List.getElem?_take] at hu
    split at hu
    · exact (HCL.out.ext hV).news j u hu
    · cases hu)
  have HN2 : Hid (∀ V : World, Ext w V → ∀ j u, (acells (xs.drop (i + 1)) (vs.drop (i + 1)))[j]? = some u → ∃ a, some (ad.add ((i + 1) * 3)) = some a ∧ V.cell? (a.add j) = some u) := Lib.hid (fun V hV j u hu => by
    rw [← acells_drop (i + 1) HVS.out (by have := HN.out; omega), List.getElem?_drop] at hu
    obtain ⟨a, h1, h2⟩ := (HCL.out.ext hV).news _ u hu
    injection h1 with h1
    subst h1
    exact ⟨_, rfl, by rw [add_add]; exact h2⟩)
  have HO : Hid (∀ u ∈ vs, u.oneCell' = true) := Lib.hid (fun u hu => by
    obtain ⟨k, hk, rfl⟩ := List.getElem_of_mem hu
    exact (HTS.out k (by have := HVS.out; omega) hk).one)
  have HO1 : Hid (∀ u ∈ acells (xs.take i) (vs.take i), u.oneCell' = true) := Lib.hid (acells_one (fun u hu => HO.out u (List.mem_of_mem_take hu)))
  have HO2 : Hid (∀ u ∈ acells (xs.drop (i + 1)) (vs.drop (i + 1)), u.oneCell' = true) := Lib.hid (acells_one (fun u hu => HO.out u (List.mem_of_mem_drop hu)))
  have HL1 : Hid ((acells (xs.take i) (vs.take i)).length = i * 3) := Lib.hid (by rw [acells_length (by simp [HVS.out])]; simp; have := HN.out; omega)
  have HL2 : Hid ((acells (xs.drop (i + 1)) (vs.drop (i + 1))).length = (n - (i + 1)) * 3) := Lib.hid (by rw [acells_length (by simp [HVS.out])]; simp; have := HN.out; omega)
  have HER : Hid (∀ W v, Ext w W → W.ownsRow w.heap.size 39 3 v (i + (n - (i + 1))) (acells (xs.take i) (vs.take i) ++ acells (xs.drop (i + 1)) (vs.drop (i + 1))) → AtR W w.heap.size v (xs.eraseIdx i).length (xs.eraseIdx i)) := Lib.hid (fun W v hW hr => by
    have hlx := HN.out
    refine ⟨vs.eraseIdx i, by rw [List.length_eraseIdx, List.length_eraseIdx, HVS.out], ?_, fun k hk hk' => ?_⟩
    · rw [List.length_eraseIdx, if_pos (by omega), List.eraseIdx_eq_take_drop_succ, List.eraseIdx_eq_take_drop_succ, acells_append _ _ (by simp [HVS.out])]
      rw [show xs.length - 1 = i + (n - (i + 1)) by omega]
      exact hr
    · rw [List.getElem_eraseIdx, List.getElem_eraseIdx]
      rw [List.length_eraseIdx, if_pos (by omega)] at hk
      split
      · exact (HTS.out k (by omega) (by have := HVS.out; omega)).old.ext hW
      · exact (HTS.out (k + 1) (by omega) (by have := HVS.out; omega)).old.ext hW)
  have i8 : (0 : Int) ≤ (i : Int) + 1 := by omega
  have hwr : IntKind.i64.wrap ((i : Int) + 1) = (i : Int) + 1 := IntWalk.i64_in _ (by omega)
  by_cases hcap : c = i + 1
  · subst hcap
    have i7 : (i : Int) ≤ (i : Int) + 1 := by omega
    go_enter Tryd.func37, Tryd.ntmps37
    go_wp2_with fail
    go_region_law (first
      | (refine step_append_opt (by rfl) _ _ _ (by rfl) w.heap.size 39 i0 (.agg #[.bool false, .string ⟨#[]⟩, .slice none 0 0]) 3 48 Tryd.underlying22 HI0.out.1 HI0.out.2.1 HI0.out.2.2.1 HI0.out.2.2.2 rfl (by omega) (.slice (some ⟨w.heap.size, 0, none⟩) 0 0) 0 [] (by rfl) (by exact own_ext' (World.ownsRow_made w #[] 0 (Nat.le_refl _) (Nat.zero_le _) rfl) (Ext.refl _).drew) (some ad) i _ (acells (xs.take i) (vs.take i)) (by rfl) HL1.out (by exact HN1.out _ ((Ext.refl w).alloc _).drew) HO1.out (by simp only [maxLen]; omega) (by omega) (by simp) ?_; intro v9 w9 hr9 hg9 hl9; rw [Nat.zero_add, List.nil_append] at hr9; obtain ⟨A9, c9, rfl⟩ := own_slice hr9; have HR9 := Lib.hid hr9; have HE9 : Hid (Ext w w9) := Lib.hid (((Ext.refl w).alloc _).drew.grown hg9 (fun q hq => by simp [Value.ownBlock] at hq; omega)); have hw9 : w.heap.size ≤ w9.heap.size := HE9.out.size; clear hr9 hg9 hl9; go_wp2_with fail)
      | (refine step_append_opt (by rfl) _ _ _ (by rfl) w.heap.size 39 i0 (.agg #[.bool false, .string ⟨#[]⟩, .slice none 0 0]) 3 48 Tryd.underlying22 HI0.out.1 HI0.out.2.1 HI0.out.2.2.1 HI0.out.2.2.2 rfl (by omega) (.slice A9 i c9) i (acells (xs.take i) (vs.take i)) (by rfl) (by exact HR9.out) (some ad) 0 0 [] (by rfl) rfl (by intro j u hu; simp at hu) (by simp) (by simp only [maxLen]; omega) (by omega) (by omega) ?_; intro v8 w8 hr8 hg8 hl8; obtain ⟨A8, c8, rfl⟩ := own_slice hr8; have HR8 := Lib.hid hr8; have HE8 : Hid (Ext w w8) := Lib.hid (HE9.out.grown hg8 (fun q hq => own_ge HR9.out hq)); clear hr8 hg8 hl8; go_wp2_with fail))
    all_goals
      go_wp2_with fail
      go_ret
      exact Ret.mk HE8.out (HER.out _ _ HE8.out (by have h := HR8.out; have e : xs.drop (i + 1) = [] := List.drop_eq_nil_of_le (by have := HN.out; omega); rw [e, show n - (i + 1) = 0 by omega]; exact h))
  · go_enter Tryd.func37, Tryd.ntmps37
    go_wp2_with fail
    go_region_law (first
      | (refine step_append_opt (by rfl) _ _ _ (by rfl) w.heap.size 39 i0 (.agg #[.bool false, .string ⟨#[]⟩, .slice none 0 0]) 3 48 Tryd.underlying22 HI0.out.1 HI0.out.2.1 HI0.out.2.2.1 HI0.out.2.2.2 rfl (by omega) (.slice (some ⟨w.heap.size, 0, none⟩) 0 0) 0 [] (by rfl) (by exact own_ext' (World.ownsRow_made w #[] 0 (Nat.le_refl _) (Nat.zero_le _) rfl) (Ext.refl _).drew) (some ad) i _ (acells (xs.take i) (vs.take i)) (by rfl) HL1.out (by exact HN1.out _ ((Ext.refl w).alloc _).drew) HO1.out (by simp only [maxLen]; omega) (by omega) (by simp) ?_; intro v9 w9 hr9 hg9 hl9; rw [Nat.zero_add, List.nil_append] at hr9; obtain ⟨A9, c9, rfl⟩ := own_slice hr9; have HR9 := Lib.hid hr9; have HE9 : Hid (Ext w w9) := Lib.hid (((Ext.refl w).alloc _).drew.grown hg9 (fun q hq => by simp [Value.ownBlock] at hq; omega)); have hw9 : w.heap.size ≤ w9.heap.size := HE9.out.size; clear hr9 hg9 hl9; go_wp2_with fail)
      | (refine step_append_opt (by rfl) _ _ _ (by rfl) w.heap.size 39 i0 (.agg #[.bool false, .string ⟨#[]⟩, .slice none 0 0]) 3 48 Tryd.underlying22 HI0.out.1 HI0.out.2.1 HI0.out.2.2.1 HI0.out.2.2.2 rfl (by omega) (.slice A9 i c9) i (acells (xs.take i) (vs.take i)) (by rfl) (by exact HR9.out) (some (ad.add ((i + 1) * 3))) (n - (i + 1)) (c - (i + 1)) (acells (xs.drop (i + 1)) (vs.drop (i + 1))) (by rfl) HL2.out (by exact HN2.out _ HE9.out) HO2.out (by simp only [maxLen]; omega) (by omega) (by omega) ?_; intro v8 w8 hr8 hg8 hl8; obtain ⟨A8, c8, rfl⟩ := own_slice hr8; have HR8 := Lib.hid hr8; have HE8 : Hid (Ext w w8) := Lib.hid (HE9.out.grown hg8 (fun q hq => own_ge HR9.out hq)); clear hr8 hg8 hl8; go_wp2_with fail))
    all_goals
      go_wp2_with fail
      go_ret
      exact Ret.mk HE8.out (HER.out _ _ HE8.out (HR8.out))
end Go.Proofs.YtehklbdgkppmeaaDoor
