/- DERIVED: THE SHELF's CONTRACTS AT THIS DUMP, IN PLAIN WORDS (tools/lay-plain.mjs out of 'TryzLay.lean', which tools/lay-shelf.mjs wrote): THE SAME DECLARATIONS UNDER THE SAME NAMES: 'import', 'namespace', 'open', 'def', 'theorem' AND NOTHING ELSE: no command of the shelf's: FOR A HAND-IN. Each laying: the table of numbers ('.._ren') and one theorem, a field a fact of the dump's own or the kernel's comparison; each contract: ONE APPLICATION. Contracts: row.Search. Contracts: slices.IsSortedFunc and slices.SortFunc at rows of one's own. -/
import Derived.Shelf.SlGeneric
import Derived.Shelf.SlSorted.Search
import Derived.Ground.SlsoProg
import Derived.Shelf.SlSortCmp.Whole1
import Derived.Ground.SlsfProg
import Derived.Shelf.SlCmpFuncs.IsSortedFunc
import Derived.Ground.SlsgProg
import Derived.Shelf.SlicesE.DeleteFunc
import Derived.Ground.SlgfProg
import Derived.Test.YtmmmdinncmbjkaaGreatProg
import Derived.Test.YtmmmdinncmbjkaaGreatMf25
namespace Go.Proofs
open Go.Shelf
def Tryz.laySearch_ren : Go.Shelf.Ren := ⟨fun | 16 => 67 | n => n, fun | 3 => 3 | 35 => 176 | 4 => 4 | 38 => 200 | n => n, fun | n => n⟩
theorem Tryz.laySearch : Go.Proofs.SlLaysO.n16 Tryz.prog Tryz.laySearch_ren := {
  mixed := by kernel_rfl
  f16 := Tryz.func67.trans (congrArg some (by kernel_rfl))
  t3 := Tryz.underlying3
  a3 := Tryz.isAgg3
  z3 := Tryz.sizeOf3
  v3 := Tryz.zeroValue3
  t4 := Tryz.underlying4
  a4 := Tryz.isAgg4
  z4 := Tryz.sizeOf4
  v4 := Tryz.zeroValue4
  t35 := Tryz.underlying176
  a35 := Tryz.isAgg176
  z35 := Tryz.sizeOf176
  v35 := Tryz.zeroValue176
  t38 := Tryz.underlying200
  a38 := Tryz.isAgg200
  z38 := Tryz.sizeOf200
  v38 := Tryz.zeroValue200 }
def Tryz.laySortRow_ren : Go.Shelf.Ren := ⟨fun | 6 => 105 | 15 => 96 | 14 => 133 | 28 => 128 | 29 => 129 | 20 => 146 | 21 => 147 | 22 => 148 | 23 => 149 | 24 => 150 | 25 => 151 | 26 => 152 | 27 => 153 | 46 => 156 | 47 => 139 | 48 => 140 | 49 => 157 | 50 => 158 | 57 => 159 | n => n, fun | 22 => 52 | 24 => 81 | 25 => 201 | 3 => 3 | 39 => 200 | 0 => 0 | 53 => 229 | 55 => 231 | 4 => 4 | 46 => 222 | 45 => 221 | 50 => 91 | 5 => 5 | 9 => 9 | 66 => 241 | 70 => 245 | 76 => 253 | 77 => 254 | n => n, fun | n => n⟩
theorem Tryz.laySortRow : Go.Proofs.SlLaysF.n6 Tryz.prog Tryz.laySortRow_ren := {
  mixed := by kernel_rfl
  f6 := ⟨Tryz.f105.name, by decide, Tryz.func105.trans (congrArg some (by kernel_rfl))⟩
  f14 := ⟨Tryz.f133.name, by decide, Tryz.func133.trans (congrArg some (by kernel_rfl))⟩
  f15 := Tryz.func96.trans (congrArg some (by kernel_rfl))
  f20 := ⟨Tryz.f146.name, by decide, Tryz.func146.trans (congrArg some (by kernel_rfl))⟩
  f21 := ⟨Tryz.f147.name, by decide, Tryz.func147.trans (congrArg some (by kernel_rfl))⟩
  f22 := ⟨Tryz.f148.name, by decide, Tryz.func148.trans (congrArg some (by kernel_rfl))⟩
  f23 := ⟨Tryz.f149.name, by decide, Tryz.func149.trans (congrArg some (by kernel_rfl))⟩
  f24 := ⟨Tryz.f150.name, by decide, Tryz.func150.trans (congrArg some (by kernel_rfl))⟩
  f25 := ⟨Tryz.f151.name, by decide, Tryz.func151.trans (congrArg some (by kernel_rfl))⟩
  f26 := ⟨Tryz.f152.name, by decide, Tryz.func152.trans (congrArg some (by kernel_rfl))⟩
  f27 := ⟨Tryz.f153.name, by decide, Tryz.func153.trans (congrArg some (by kernel_rfl))⟩
  f28 := Tryz.func128.trans (congrArg some (by kernel_rfl))
  f29 := Tryz.func129.trans (congrArg some (by kernel_rfl))
  f46 := ⟨Tryz.f156.name, by decide, Tryz.func156.trans (congrArg some (by kernel_rfl))⟩
  f47 := Tryz.func139.trans (congrArg some (by kernel_rfl))
  f48 := Tryz.func140.trans (congrArg some (by kernel_rfl))
  f49 := ⟨Tryz.f157.name, by decide, Tryz.func157.trans (congrArg some (by kernel_rfl))⟩
  f50 := ⟨Tryz.f158.name, by decide, Tryz.func158.trans (congrArg some (by kernel_rfl))⟩
  f57 := ⟨Tryz.f159.name, by decide, Tryz.func159.trans (congrArg some (by kernel_rfl))⟩
  t0 := Tryz.underlying0
  a0 := Tryz.isAgg0
  z0 := Tryz.sizeOf0
  v0 := Tryz.zeroValue0
  t3 := Tryz.underlying3
  a3 := Tryz.isAgg3
  z3 := Tryz.sizeOf3
  v3 := Tryz.zeroValue3
  t4 := Tryz.underlying4
  a4 := Tryz.isAgg4
  z4 := Tryz.sizeOf4
  v4 := Tryz.zeroValue4
  t5 := Tryz.underlying5
  a5 := Tryz.isAgg5
  z5 := Tryz.sizeOf5
  v5 := Tryz.zeroValue5
  t9 := Tryz.underlying9
  a9 := Tryz.isAgg9
  z9 := Tryz.sizeOf9
  v9 := Tryz.zeroValue9
  t22 := Tryz.underlying52
  a22 := Tryz.isAgg52
  z22 := Tryz.sizeOf52
  v22 := Tryz.zeroValue52
  a24 := Tryz.isAgg81
  z24 := Tryz.sizeOf81
  t25 := Tryz.underlying201
  a25 := Tryz.isAgg201
  z25 := Tryz.sizeOf201
  v25 := Tryz.zeroValue201
  t39 := Tryz.underlying200
  a39 := Tryz.isAgg200
  z39 := Tryz.sizeOf200
  v39 := Tryz.zeroValue200
  t45 := Tryz.underlying221
  a45 := Tryz.isAgg221
  z45 := Tryz.sizeOf221
  v45 := Tryz.zeroValue221
  t46 := Tryz.underlying222
  a46 := Tryz.isAgg222
  z46 := Tryz.sizeOf222
  v46 := Tryz.zeroValue222
  t50 := Tryz.underlying91
  a50 := Tryz.isAgg91
  z50 := Tryz.sizeOf91
  v50 := Tryz.zeroValue91
  t53 := Tryz.underlying229
  a53 := Tryz.isAgg229
  z53 := Tryz.sizeOf229
  v53 := Tryz.zeroValue229
  t55 := Tryz.underlying231
  a55 := Tryz.isAgg231
  z55 := Tryz.sizeOf231
  v55 := Tryz.zeroValue231
  t66 := Tryz.underlying241
  a66 := Tryz.isAgg241
  z66 := Tryz.sizeOf241
  v66 := Tryz.zeroValue241
  t70 := Tryz.underlying245
  a70 := Tryz.isAgg245
  z70 := Tryz.sizeOf245
  v70 := Tryz.zeroValue245
  t76 := Tryz.underlying253
  a76 := Tryz.isAgg253
  z76 := Tryz.sizeOf253
  v76 := Tryz.zeroValue253
  t77 := Tryz.underlying254
  a77 := Tryz.isAgg254
  z77 := Tryz.sizeOf254
  v77 := Tryz.zeroValue254 }
def Tryz.layIsSortedRow_ren : Go.Shelf.Ren := ⟨fun | 7 => 104 | n => n, fun | 22 => 52 | 24 => 81 | 25 => 201 | 4 => 4 | 3 => 3 | 0 => 0 | n => n, fun | n => n⟩
theorem Tryz.layIsSortedRow : Go.Proofs.SlLaysG2.n7 Tryz.prog Tryz.layIsSortedRow_ren := {
  mixed := by kernel_rfl
  f7 := ⟨Tryz.f104.name, by decide, Tryz.func104.trans (congrArg some (by kernel_rfl))⟩
  t0 := Tryz.underlying0
  a0 := Tryz.isAgg0
  z0 := Tryz.sizeOf0
  v0 := Tryz.zeroValue0
  t3 := Tryz.underlying3
  a3 := Tryz.isAgg3
  z3 := Tryz.sizeOf3
  v3 := Tryz.zeroValue3
  t4 := Tryz.underlying4
  a4 := Tryz.isAgg4
  z4 := Tryz.sizeOf4
  v4 := Tryz.zeroValue4
  t22 := Tryz.underlying52
  a22 := Tryz.isAgg52
  z22 := Tryz.sizeOf52
  v22 := Tryz.zeroValue52
  a24 := Tryz.isAgg81
  z24 := Tryz.sizeOf81
  t25 := Tryz.underlying201
  a25 := Tryz.isAgg201
  z25 := Tryz.sizeOf201
  v25 := Tryz.zeroValue201 }
end Go.Proofs
namespace Go.Proofs.YtmmmdinncmbjkaaGreat
open Go.RowKit Go.Maps
theorem Sl.row {F : Nat → Prop} {w : World} {A : Option Addr} {n c : Nat} {xs : List (List Vl)} (h : Sl rdRow F w (.slice A n c) xs) {i : Nat} (hi : i < xs.length) : ∃ ad B d, A = some ad ∧ F ad.block ∧ w.cell? (ad.add i) = some (.slice B xs[i].length d) ∧ Sl rdVl F w (.slice B xs[i].length d) xs[i] := by
  obtain ⟨A', c', e, hc, hh⟩ := h
  injection e with e1 e2 e3
  subst e1
  obtain ⟨ad, cs, rfl, hF, ⟨u, rfl, hu⟩, h4⟩ := hh i hi
  obtain ⟨B, d, rfl⟩ := hu.sl
  have h5 := h4 0 (by simp)
  have e : i * rdRow.sz + 0 = i := by show i * 1 + 0 = i; omega
  rw [e] at h5
  exact ⟨ad, B, d, rfl, hF, h5, hu⟩
/-- Rows in strictly ascending order. -/
def SoR (l : List (List Vl)) : Prop := l.Pairwise (fun a b => cmpR a b < 0)
/-- The number of smaller rows. -/
def lowR (l : List (List Vl)) (r : List Vl) : Nat := l.countP (fun x => decide (cmpR x r < 0))
/-- Whether a row is among rows. -/
def hasR (l : List (List Vl)) (r : List Vl) : Bool := l.any (fun x => cmpR x r == 0)
theorem hasR_iff {l : List (List Vl)} {r : List Vl} : hasR l r = true ↔ r ∈ l := by
  unfold hasR
  rw [List.any_eq_true]
  constructor
  · rintro ⟨x, hx, h⟩
    rw [beq_iff_eq, cmp_row.eq] at h
    exact h ▸ hx
  · exact fun h => ⟨r, h, by rw [beq_iff_eq, cmp_row.eq]⟩
theorem count_range {α : Type} (q : α → Bool) (d : α) (l : List α) : l.countP q = (List.range l.length).countP (fun i => q (l.getD i d)) := by
  have e : l = (List.range l.length).map (fun i => l.getD i d) := by
    apply List.ext_getElem
    · simp
    · intro i h1 h2
      simp [List.getElem?_eq_getElem h1]
  conv => lhs; rw [e]
  rw [List.countP_map]
  rfl
theorem SoR.lt {l : List (List Vl)} (h : SoR l) {i j : Nat} (hij : i < j) (hj : j < l.length) : cmpR l[i] l[j] < 0 := List.pairwise_iff_getElem.1 h i j (by omega) hj hij
theorem lowR_le (l : List (List Vl)) (r : List Vl) : lowR l r ≤ l.length := List.countP_le_length
theorem lowR_cons (a : List Vl) (l : List (List Vl)) (r : List Vl) : lowR (a :: l) r = lowR l r + if cmpR a r < 0 then 1 else 0 := by
  unfold lowR
  rw [List.countP_cons]
  simp
theorem low_split : ∀ {l : List (List Vl)} {r : List Vl}, SoR l → (∀ x ∈ l.take (lowR l r), cmpR x r < 0) ∧ ∀ x ∈ l.drop (lowR l r), ¬ cmpR x r < 0
  | [], r, _ => by simp
  | a :: l, r, h => by
    have h1 : SoR l := (List.pairwise_cons.1 h).2
    have h2 : ∀ b ∈ l, cmpR a b < 0 := (List.pairwise_cons.1 h).1
    rw [lowR_cons]
    by_cases h0 : cmpR a r < 0
    · rw [if_pos h0, List.take_succ_cons, List.drop_succ_cons]
      obtain ⟨i1, i2⟩ := low_split (r := r) h1
      exact ⟨fun x hx => by
        rcases List.mem_cons.1 hx with rfl | hx
        · exact h0
        · exact i1 x hx, i2⟩
    · have h3 : lowR l r = 0 := by
        unfold lowR
        rw [List.countP_eq_zero]
        intro b hb
        have := h2 b hb
        simp only [decide_eq_true_eq]
        intro h4
        exact h0 (cmp_row.trans _ _ _ this h4)
      rw [if_neg h0, h3]
      exact ⟨fun x hx => by simp at hx, fun x hx => by
        simp at hx
        rcases hx with rfl | hx
        · exact h0
        · intro h4
          exact h0 (cmp_row.trans _ _ _ (h2 x hx) h4)⟩
theorem low_at {l : List (List Vl)} {r : List Vl} (h : SoR l) {i : Nat} (hi : i < l.length) : cmpR l[i] r < 0 ↔ i < lowR l r := by
  obtain ⟨h1, h2⟩ := low_split (r := r) h
  constructor
  · intro h3
    rcases Nat.lt_or_ge i (lowR l r) with h4 | h4
    · exact h4
    · exact absurd h3 (h2 _ (List.mem_drop_iff_getElem.2 ⟨i - lowR l r, by omega, by congr 1; omega⟩))
  · exact fun h3 => h1 _ (List.mem_take_iff_getElem.2 ⟨i, by omega, rfl⟩)
theorem has_low {l : List (List Vl)} {r : List Vl} (h : SoR l) : hasR l r = true ↔ ∃ hl : lowR l r < l.length, cmpR l[lowR l r] r = 0 := by
  rw [hasR_iff]
  constructor
  · intro hm
    obtain ⟨i, hi, rfl⟩ := List.getElem_of_mem hm
    have h1 : ¬ i < lowR l l[i] := fun h2 => by
      have h3 := (low_at h hi).2 h2
      rw [cmp_row.self] at h3
      omega
    have h2 : ¬ lowR l l[i] < i := fun h2 => by
      have h3 := h.lt h2 hi
      have h4 := (low_at (r := l[i]) h (by omega)).1 h3
      omega
    have h3 : lowR l l[i] = i := by omega
    refine ⟨by omega, ?_⟩
    simp only [h3]
    exact cmp_row.self _
  · rintro ⟨hl, he⟩
    rw [cmp_row.eq] at he
    rw [← he]
    exact List.getElem_mem hl
set_option maxRecDepth 20000 in
set_option maxHeartbeats 1600000 in
theorem searchf_any {F G : Nat → Prop} {w : World} {A B : Option Addr} {n c m d g0 g1 g2 : Nat} {rows : List (List Vl)} {r : List Vl} (k0 : Bk w g0 52 [.slice A n c]) (k1 : Bk w g1 81 [.slice B m d]) (k2 : Bk w g2 38 [.slice none 0 0]) (hA : Sl rdRow F w (.slice A n c) rows) (hB : Sl rdVl G w (.slice B m d) r) (hm : m ≤ 1048576) (hr : ∀ x ∈ rows, x.length ≤ 1048576) {i : Nat} (hi : i < n) (hn : n ≤ 1048576) :
    Calls Tryz.prog 68 #[.int .i64 (i : Int), .pointer (some ⟨g0, 0, none⟩), .pointer (some ⟨g1, 0, none⟩), .pointer (some ⟨g2, 0, none⟩)] w (fun e w' => e = .returned (.bool (decide (0 ≤ cmpR (rows.getD i []) r))) ∧ Gr w w') := by
  have hnl := hA.cap.1
  have hix : i < rows.length := by omega
  have i1 : (0 : Int) ≤ (i : Int) := by omega
  have i2 : (i : Int) < (n : Int) := by omega
  obtain ⟨ad, C, dc, rfl, -, a0, hrow⟩ := hA.row hix
  have hrl := hr _ (List.getElem_mem hix)
  have hgd : rows.getD i [] = rows[i] := by simp [List.getElem?_eq_getElem hix]
  rw [hgd]
  obtain ⟨x, hx⟩ : ∃ x, x = rows[i] := ⟨_, rfl⟩
  rw [← hx] at a0 hrow hrl ⊢
  have HC := Lib.hid (fun (V : World) (hV : Gr w V) => rcompby_any (w := V) (hrow.ext hV.ext) (hB.ext hV.ext) hrl hm)
  obtain ⟨z, hz⟩ : ∃ z, z = cmpR x r := ⟨_, rfl⟩
  rw [← hz] at HC ⊢
  obtain ⟨nx, hnx⟩ : ∃ z, z = x.length := ⟨_, rfl⟩
  rw [← hnx] at a0 HC
  have b0 := k0.cell (i := 0) (by simp); have b1 := k1.cell (i := 0) (by simp); have b2 := k2.cell (i := 0) (by simp)
  simp only [List.getElem_cons_zero] at b0 b1 b2
  clear k0 k1 k2 hA hB hr hnl hix hrl hgd hx hrow hz hnx
  go_enter Tryz.func68, Tryz.ntmps68
  go_upto_region 1 with fail
  go_region_held3 (fun V => Gr w V ∧ V.cell? ⟨g0, 0, none⟩ = some (.slice (some ad) n c) ∧ V.cell? ⟨g1, 0, none⟩ = some (.slice B m d) ∧ V.cell? ⟨g2, 0, none⟩ = some (.slice none 0 0) ∧ V.cell? (ad.add i) = some (.slice C nx dc))
    ((refine (fun he => ⟨he, Gr.cell he b0, Gr.cell he b1, Gr.cell he b2, Gr.cell he a0⟩) ?_; repeat (first | exact Gr.refl _ | exact (Gr.refl _).drew | refine Gr.drew ?_ | refine Gr.trans ?_ (by assumption))))
    (first
      | (go_at_call 69; (with_reducible refine (HC.out _ (And.left (by assumption))).mono ?_); rintro e wi ⟨rfl, hei⟩))
  have hfin := And.left (b := _ ∧ _) (by assumption)
  have HX := Lib.hid hfin
  clear hfin hei b0 b1 b2 a0
  go_wp2_with fail
  go_ret
  exact ⟨rfl, HX.out⟩
/-- What a search among rows answers. -/
def SrPost (l : List (List Vl)) (r : List Vl) (w : World) (e : Ending) (w' : World) : Prop := Ext w w' ∧ e = .returned (.tuple #[.int .i64 (lowR l r : Int), .bool (hasR l r)])
theorem searchn_any {F G : Nat → Prop} {w : World} {A B : Option Addr} {n c m d g0 g1 g2 : Nat} {rows : List (List Vl)} {r : List Vl} (hS : SoR rows) (k0 : Bk w g0 52 [.slice A n c]) (k1 : Bk w g1 81 [.slice B m d]) (k2 : Bk w g2 38 [.slice none 0 0]) (hA : Sl rdRow F w (.slice A n c) rows) (hB : Sl rdVl G w (.slice B m d) r) (hm : m ≤ 1048576) (hr : ∀ x ∈ rows, x.length ≤ 1048576) (hn : n ≤ 1048576) :
    Calls Tryz.prog 67 #[.int .i64 (n : Int), .func (.func 68) #[] #[.pointer (some ⟨g0, 0, none⟩), .pointer (some ⟨g1, 0, none⟩), .pointer (some ⟨g2, 0, none⟩)]] w (fun e w' => e = .returned (.int .i64 (lowR rows r : Int)) ∧ Gr w w') := by
  have hnl := hA.cap.1
  have hc := Any.sort_Search Tryz.laySearch 68 #[.pointer (some ⟨g0, 0, none⟩), .pointer (some ⟨g1, 0, none⟩), .pointer (some ⟨g2, 0, none⟩)] n (fun i => decide (0 ≤ cmpR (rows.getD i []) r)) w (enters_of Tryz.func68 (by kernel_rfl) rfl) (by omega)
    (fun q os i hi => searchf_any (w := Go.Sort.grow (w.drewN q) os) (k0.ext (Gr.ext ⟨q, os, rfl⟩)) (k1.ext (Gr.ext ⟨q, os, rfl⟩)) (k2.ext (Gr.ext ⟨q, os, rfl⟩)) (hA.ext (Gr.ext ⟨q, os, rfl⟩)) (hB.ext (Gr.ext ⟨q, os, rfl⟩)) hm hr hi hn)
    (fun a b hab hb hp => by
      have ha : a < rows.length := by omega
      have hb' : b < rows.length := by omega
      have e1 : rows.getD a [] = rows[a] := by simp [List.getElem?_eq_getElem ha]
      have e2 : rows.getD b [] = rows[b] := by simp [List.getElem?_eq_getElem hb']
      simp only [e1, e2, decide_eq_true_eq] at hp ⊢
      have h1 := low_at (r := r) hS ha
      have h2 := low_at (r := r) hS hb'
      omega)
  change Calls Tryz.prog 67 _ _ _ at hc
  refine hc.mono ?_
  rintro e w' ⟨rfl, hg⟩
  refine ⟨?_, hg⟩
  congr 2
  unfold lowR
  rw [count_range _ [] rows, ← hnl]
  congr 2
  funext i
  by_cases h : cmpR (rows.getD i []) r < 0
  · rw [decide_eq_false (show ¬ 0 ≤ cmpR (rows.getD i []) r by omega), decide_eq_true h]; rfl
  · rw [decide_eq_true (show 0 ≤ cmpR (rows.getD i []) r by omega), decide_eq_false h]; rfl
set_option maxRecDepth 20000 in
set_option maxHeartbeats 1600000 in
theorem rsearch_any {F G : Nat → Prop} {w : World} {A B : Option Addr} {n c m d : Nat} {rows : List (List Vl)} {r : List Vl} (hS : SoR rows) (hA : Sl rdRow F w (.slice A n c) rows) (hB : Sl rdVl G w (.slice B m d) r) (hm : m ≤ 1048576) (hr : ∀ x ∈ rows, x.length ≤ 1048576) (hn : n ≤ 1048576) :
    Calls Tryz.prog 47 #[.slice A n c, .slice B m d, .slice none 0 0] w (SrPost rows r w) := by
  have hnl := hA.cap.1
  have k3 := three_blk w 52 81 38 [.slice A n c] [.slice B m d] [.slice none 0 0]
  have hx : Ext w (((w.alloc (.cells #[.slice A n c] 52)).alloc (.cells #[.slice B m d] 81)).alloc (.cells #[.slice none 0 0] 38)) := (((Ext.refl w).alloc _).alloc _).alloc _
  have HA := Lib.hid hA; have HB := Lib.hid hB; have HR := Lib.hid hr; have HS := Lib.hid hS; have HNL := Lib.hid hnl
  have hlow := lowR_le rows r
  rw [← hnl] at hlow
  clear hA hB hr hS hnl
  go_enter Tryz.func47, Tryz.ntmps47
  go_upto_region 1 with fail
  change Bk (((w.alloc (.cells #[.slice A n c] 52)).alloc (.cells #[.slice B m d] 81)).alloc (.cells #[.slice none 0 0] 38)) _ _ _ ∧ Bk (((w.alloc (.cells #[.slice A n c] 52)).alloc (.cells #[.slice B m d] 81)).alloc (.cells #[.slice none 0 0] 38)) _ _ _ ∧ Bk (((w.alloc (.cells #[.slice A n c] 52)).alloc (.cells #[.slice B m d] 81)).alloc (.cells #[.slice none 0 0] 38)) _ _ _ at k3
  generalize (((w.alloc (.cells #[.slice A n c] 52)).alloc (.cells #[.slice B m d] 81)).alloc (.cells #[.slice none 0 0] 38)) = w1 at *
  obtain ⟨ka, kb, kc⟩ := k3
  have HC := Lib.hid (searchn_any HS.out ka kb kc (HA.out.ext hx) (HB.out.ext hx) hm HR.out hn)
  have a0 := ka.cell (i := 0) (by simp); have b0 := kb.cell (i := 0) (by simp)
  simp only [List.getElem_cons_zero] at a0 b0
  have HX := Lib.hid hx
  clear ka kb kc hx
  go_wp2_with fail
  refine HC.out.mono ?_
  rintro e w2 ⟨rfl, hg⟩
  replace a0 := hg.cell a0; replace b0 := hg.cell b0
  have HX2 := Lib.hid (HX.out.trans hg.ext)
  obtain ⟨q, hq⟩ : ∃ q, q = lowR rows r := ⟨_, rfl⟩
  have HQ := Lib.hid hq
  rw [← hq] at hlow ⊢
  clear hg hq
  by_cases hlt : q < n
  · have hix : q < rows.length := by have := HNL.out; omega
    have i1 : (0 : Int) ≤ (q : Int) := by omega
    have i2 : (q : Int) < (n : Int) := by omega
    obtain ⟨ad, C, dc, rfl, -, c0, hrow⟩ := HA.out.row hix
    have hrl := HR.out _ (List.getElem_mem hix)
    have HAS : Hid (hasR rows r = (cmpR rows[q] r == 0)) := Lib.hid (by
      have h1 := has_low (r := r) HS.out
      have e := HQ.out
      subst e
      apply bool_iff
      rw [h1, beq_iff_eq]
      exact ⟨fun ⟨_, h⟩ => h, fun h => ⟨hix, h⟩⟩)
    obtain ⟨x, hx⟩ : ∃ x, x = rows[q] := ⟨_, rfl⟩
    rw [← hx] at c0 hrow hrl HAS
    obtain ⟨nx, hnx⟩ : ∃ z, z = x.length := ⟨_, rfl⟩
    have HE := Lib.hid (fun (V : World) (hV : Ext w2 V) => requal_any (w := V) (hrow.ext (HX2.out.trans hV)) (HB.out.ext (HX2.out.trans hV)) hrl hm)
    rw [← hnx] at c0 HE
    replace c0 := HX2.out.cell c0
    obtain ⟨z, hz⟩ : ∃ z, z = (cmpR x r == 0) := ⟨_, rfl⟩
    rw [← hz] at HE HAS
    clear hx hrow hrl hnx hz
    go_upto_region 2 with fail
    go_region_held3 (fun V => Ext w2 V ∧ V.cell? ⟨w.heap.size, 0, none⟩ = some (.slice (some ad) n c) ∧ V.cell? ⟨w.heap.size + 1, 0, none⟩ = some (.slice B m d) ∧ V.cell? (ad.add q) = some (.slice C nx dc))
      ((refine (fun he => ⟨he, Ext.cell he a0, Ext.cell he b0, Ext.cell he c0⟩) ?_; repeat (first | exact Ext.refl _ | exact (Ext.refl _).drew | refine Ext.drew ?_ | refine Ext.trans ?_ (by assumption))))
      (first
        | (go_at_call 70; (with_reducible refine (HE.out _ (And.left (by assumption))).mono ?_); rintro e wi ⟨rfl, hgi⟩; have hei := Gr.ext hgi))
    have hfin := And.left (b := _ ∧ _) (by assumption)
    have HXF := Lib.hid (HX2.out.trans hfin)
    clear hfin hei hgi a0 b0 c0
    go_wp2_with fail
    go_ret2
    exact ⟨HXF.out, by rw [HAS.out, ← HQ.out]; rfl⟩
  · have i2 : ¬ (q : Int) < (n : Int) := by omega
    have HAS : Hid (hasR rows r = false) := Lib.hid (by
      cases h : hasR rows r with
      | false => rfl
      | true =>
        obtain ⟨hl, -⟩ := (has_low HS.out).1 h
        have := HQ.out; have := HNL.out
        omega)
    go_upto_region 2 with fail
    go_quiet (fail)
    have HXQ := Lib.hid (HX2.out.drewN nq)
    generalize (w2.drewN nq) = Y at *
    clear a0 b0
    go_wp2_with fail
    go_ret2
    exact ⟨HXQ.out, by rw [HAS.out, ← HQ.out]; rfl⟩
end Go.Proofs.YtmmmdinncmbjkaaGreat
namespace Go.Proofs.YtmmmdinncmbjkaaGreat
open Go.RowKit Go.Maps
/-- Rows in a slice of one's own: the slices in its block, what they hold elsewhere. -/
structure OwR (F : Nat → Prop) (w : World) (base : Nat) (v : Value) (n : Nat) (us : List Value) (rows : List (List Vl)) : Prop where
  own : w.ownsRow base 81 1 v n us
  len : us.length = rows.length
  rd : ∀ i (h : i < rows.length) (h' : i < us.length), Sl rdVl (fun k => F k ∧ v.ownBlock ≠ some k) w us[i] rows[i]
theorem OwR.num {F : Nat → Prop} {w : World} {base n : Nat} {v : Value} {us : List Value} {rows : List (List Vl)} (h : OwR F w base v n us rows) : n = us.length := by
  have := h.own.1
  omega
theorem OwR.ext {F : Nat → Prop} {w w' : World} {base n : Nat} {v : Value} {us : List Value} {rows : List (List Vl)} (h : OwR F w base v n us rows) (he : Ext w w') : OwR F w' base v n us rows := ⟨own_ext' h.own he, h.len, fun i hi h' => (h.rd i hi h').ext he⟩
theorem OwR.fr {F S : Nat → Prop} {w w' : World} {base n : Nat} {v : Value} {us : List Value} {rows : List (List Vl)} (h : OwR F w base v n us rows) (hf : Fr S w w') (h1 : ∀ k, v.ownBlock = some k → ¬ S k) (h2 : ∀ k, F k → ¬ S k) : OwR F w' base v n us rows := ⟨own_fr h.own hf h1, h.len, fun i hi h' => (h.rd i hi h').fr hf (fun k hk => h2 k hk.1)⟩
theorem OwR.sl {F G : Nat → Prop} {w : World} {base n : Nat} {v : Value} {us : List Value} {rows : List (List Vl)} (h : OwR F w base v n us rows) (hg : ∀ k, v.ownBlock = some k → G k) (hF : ∀ k, F k → G k) : Sl rdRow G w v rows := by
  have hn := h.num
  have hl := h.len
  obtain ⟨A, c, rfl, hc, hcl⟩ := Cl.of_own h.own
  refine ⟨A, c, by rw [hn, hl], by omega, fun i hi => ?_⟩
  have hi' : i < us.length := by omega
  obtain ⟨ad, rfl, hk, hcell⟩ := hcl.at' (j := i) (List.getElem?_eq_getElem hi')
  refine ⟨ad, [us[i]], rfl, hg _ hk.1, ⟨us[i], rfl, (h.rd i hi hi').mono (by decide) (fun k _ hk => hF k hk.1)⟩, fun j hj => ?_⟩
  obtain rfl : j = 0 := by simp at hj; omega
  have e : i * rdRow.sz + 0 = i := by show i * 1 + 0 = i; omega
  rw [e]
  exact hcell
section
variable {F : Nat → Prop} {w : World} {g : Nat}
/-- A slice and the row that it reads as, outside of block g. -/
def PrV (F : Nat → Prop) (w : World) (g : Nat) : Type := { p : Value × List Vl // Sl rdVl (fun k => F k ∧ some g ≠ some k) w p.1 p.2 ∧ p.2.length ≤ 1048576 }
instance : Inhabited (PrV F w g) := ⟨⟨(.slice none 0 0, []), Sl.nil _ _ _, by simp⟩⟩
def PrV.enc (p : PrV F w g) : Value := p.1.1
def PrV.row (p : PrV F w g) : List Vl := p.1.2
def PrV.cf (p q : PrV F w g) : Int := cmpR p.row q.row
theorem PrV.one : Go.Proofs.OneCell (PrV.enc (F := F) (w := w) (g := g)) := fun p => by
  obtain ⟨A, c, e⟩ := p.2.1.sl
  unfold PrV.enc
  rw [e]
  rfl
theorem PrV.swo : Go.Sort.SWO (Go.Proofs.ltOf (PrV.cf (F := F) (w := w) (g := g))) where
  irrefl x := by
    unfold Go.Proofs.ltOf PrV.cf
    rw [cmp_row.self]
    rfl
  trans x y z h1 h2 := by
    unfold Go.Proofs.ltOf PrV.cf at *
    rw [decide_eq_true_eq] at *
    exact cmp_row.trans _ _ _ h1 h2
  ntrans x y z h1 h2 := by
    unfold Go.Proofs.ltOf PrV.cf at *
    rw [decide_eq_false_iff_not] at *
    intro h3
    have a1 := cmp_row.anti x.row y.row
    have a2 := cmp_row.anti y.row z.row
    have a3 := cmp_row.anti x.row z.row
    have := cmp_row.le_trans (a := z.row) (b := y.row) (d := x.row) (by omega) (by omega)
    omega
theorem fr_sorted {α : Type} [Inhabited α] (enc : α → Value) (n : Nat) (d : Array α) (os : Array Obj) : w.grownBy (Go.Sort.grow (Go.Sort.putRow enc (Go.Sort.ahead w n) g 0 d) os) (some g) := by
  refine ⟨rfl, rfl, rfl, by simp, fun k hk hne => ?_⟩
  rw [Go.Sort.heap_grow_old _ _ (by simpa using hk)]
  have : g ≠ k := fun e => hne (by rw [e])
  simp [Go.Sort.putRow, Go.Sort.mapBlock, Go.Sort.ahead, Array.getElem?_modify, this]
theorem PrV.lays {size : Nat} : Go.Proofs.CmpLays1 Tryz.prog 98 #[] (PrV.enc (F := F) (w := w) (g := g)) PrV.cf g 0 size w := by
  intro m os dk _ x y
  have hf := grown_fr (fr_sorted (w := w) (g := g) PrV.enc m dk os)
  obtain ⟨⟨v1, r1⟩, h1, l1⟩ := x
  obtain ⟨⟨v2, r2⟩, h2, l2⟩ := y
  simp only at h1 l1 h2 l2
  have k1 := h1.fr hf (fun k hk e => hk.2 e)
  have k2 := h2.fr hf (fun k hk e => hk.2 e)
  obtain ⟨A, c, rfl⟩ := k1.sl
  obtain ⟨B, d, rfl⟩ := k2.sl
  exact rcomp_any k1 k2 l1 l2
end
theorem own_sorted {α : Type} [Inhabited α] (enc : α → Value) {w : World} {base g cap n m : Nat} {e : TypeId} {os : Array Obj} {cur : Array Value} {d : Array α} (hm : d.size = m) (hbase : base ≤ g) (hb : w.heap[g]? = some (.cells cur e (0, 0))) (h1 : m ≤ cap) (h2 : cap ≤ maxLen) (h3 : cur.size = cap * 1) :
    (Go.Sort.grow (Go.Sort.putRow enc (Go.Sort.ahead w n) g 0 d) os).ownsRow base e 1 (.slice (some ⟨g, 0, none⟩) m cap) m (d.toList.map enc) := by
  have hg : g < w.heap.size := (Array.getElem?_eq_some_iff.1 hb).1
  have hh : (Go.Sort.grow (Go.Sort.putRow enc (Go.Sort.ahead w n) g 0 d) os).heap[g]? = some (.cells (Go.Sort.putCells enc 0 d cur) e (0, 0)) := by
    rw [Go.Sort.heap_grow_old _ _ (by simpa using hg)]
    simp [Go.Sort.putRow, Go.Sort.mapBlock, Go.Sort.ahead, Array.getElem?_modify, hb, Go.Sort.onCells]
  refine ⟨by simp [hm], .inr ⟨g, cap, _, rfl, hbase, hh, h1, h2, by simp [Go.Sort.putCells, h3], ?_⟩⟩
  apply List.ext_getElem?
  intro j
  by_cases hj : j < d.size
  · rw [List.getElem?_take_of_lt (by omega), Array.getElem?_toList]
    simp [Go.Sort.putCells, hj, show j < cur.size by omega]
  · rw [List.getElem?_take_eq_none (by omega), List.getElem?_eq_none (by simp; omega)]
theorem holds_own {α : Type} [Inhabited α] (enc : α → Value) {w : World} {g : Nat} {cur : Array Value} {e : TypeId} {l : List α} (hb : w.heap[g]? = some (.cells cur e (0, 0))) (ht : cur.toList.take l.length = l.map enc) : Go.Sort.Holds enc w g 0 l.toArray := by
  intro j hj
  have hj' : j < l.length := by simpa using hj
  refine ⟨?_, by simp [World.frozen?, hb]⟩
  have h1 : (cur.toList.take l.length)[j]? = (l.map enc)[j]? := by rw [ht]
  rw [List.getElem?_take_of_lt hj'] at h1
  simp only [World.cell?, hb, Nat.zero_add]
  simp only [Option.isSome_none, Bool.false_eq_true, if_false]
  rw [← Array.getElem?_toList, h1]
  simp [hj']
/-- The pairs of slices and rows. -/
theorem OwR.prs {F : Nat → Prop} {w : World} {base n g cap : Nat} {us : List Value} {rows : List (List Vl)} (h : OwR F w base (.slice (some ⟨g, 0, none⟩) n cap) n us rows) (hr : ∀ x ∈ rows, x.length ≤ 1048576) : ∃ l : List (PrV F w g), l.map PrV.enc = us ∧ l.map PrV.row = rows := by
  obtain ⟨f, hf⟩ : ∃ f : Fin rows.length → PrV F w g, ∀ i, PrV.enc (f i) = us[i.1]'(by have := h.len; omega) ∧ PrV.row (f i) = rows[i.1] := ⟨fun i => ⟨(us[i.1]'(by have := h.len; omega), rows[i.1]), h.rd i.1 i.2 (by have := h.len; omega), hr _ (List.getElem_mem i.2)⟩, fun i => ⟨rfl, rfl⟩⟩
  refine ⟨List.ofFn f, ?_, ?_⟩
  · apply List.ext_getElem
    · rw [List.length_map, List.length_ofFn, h.len]
    · intro i h1 h2
      rw [List.getElem_map, List.getElem_ofFn, (hf _).1]
  · apply List.ext_getElem
    · rw [List.length_map, List.length_ofFn]
    · intro i h1 h2
      rw [List.getElem_map, List.getElem_ofFn, (hf _).2]
/-- Rows in ascending order. -/
def AscR (l : List (List Vl)) : Prop := l.Pairwise (fun a b => cmpR a b ≤ 0)
theorem asc_adj {l : List (List Vl)} (h : ∀ i, i + 1 < l.length → cmpR (l.getD i []) (l.getD (i + 1) []) ≤ 0) : AscR l := by
  unfold AscR
  rw [List.pairwise_iff_getElem]
  intro i j hi hj hij
  have key : ∀ k, i + (k + 1) < l.length → cmpR (l.getD i []) (l.getD (i + (k + 1)) []) ≤ 0 := by
    intro k
    induction k with
    | zero => exact fun hk => h i hk
    | succ k ih => exact fun hk => cmp_row.le_trans (ih (by omega)) (h (i + (k + 1)) (by omega))
  have h1 := key (j - i - 1) (by omega)
  rw [show i + (j - i - 1 + 1) = j by omega] at h1
  simpa [List.getElem?_eq_getElem hi, List.getElem?_eq_getElem hj] using h1
theorem getD_map {α : Type} [Inhabited α] (f : α → List Vl) (l : List α) {i : Nat} (hi : i < l.length) : (l.map f).getD i [] = f (l.toArray[i]!) := by
  simp [List.getElem?_eq_getElem, hi]
theorem issorted_own {F : Nat → Prop} {w : World} {base n g cap : Nat} {us : List Value} {rows : List (List Vl)} (h : OwR F w base (.slice (some ⟨g, 0, none⟩) n cap) n us rows) (hr : ∀ x ∈ rows, x.length ≤ 1048576) (hn : n ≤ 1048576) :
    Calls Tryz.prog 104 #[.slice (some ⟨g, 0, none⟩) n cap, .func (.func 98) #[] #[]] w (fun e w' => ∃ b, e = .returned (.bool b) ∧ (b = true → AscR rows) ∧ Gr w w') := by
  obtain ⟨l, hl1, hl2⟩ := h.prs hr
  have hnu := h.num
  have hll : l.length = n := by rw [hnu, ← hl1, List.length_map]
  rcases h.own.2 with ⟨h0, -⟩ | ⟨g', cap', cur, e, hb, hc, h1, h2, h3, h4⟩
  · cases h0
  injection e with e1 e2 e3
  injection e1 with e1
  injection e1 with e1
  subst e1 e3
  rw [Nat.mul_one] at h4
  have hh := holds_own (l := l) PrV.enc hc (by rw [hll, hl1, ← h4])
  have hlt : g < w.heap.size := (Array.getElem?_eq_some_iff.1 hc).1
  have hcon := Any.slices_IsSortedFunc Tryz.layIsSortedRow PrV.enc PrV.one PrV.cf 98 #[] g 0 cap l.toArray w (enters_of Tryz.func98 (by kernel_rfl) rfl) PrV.lays hh hlt (by simp; omega)
  change Calls Tryz.prog 104 _ _ _ at hcon
  rw [show l.toArray.size = n by simp [hll]] at hcon
  refine hcon.mono ?_
  rintro e w' ⟨rfl, m, os, rfl⟩
  refine ⟨_, rfl, fun hb => ?_, m, os, ?_⟩
  · rw [Lib.downOK_iff] at hb
    apply asc_adj
    intro i hi
    rw [← hl2, List.length_map] at hi
    have h5 := hb i (by omega)
    rw [← hl2, getD_map _ _ (by omega), getD_map _ _ (by omega)]
    unfold Go.Proofs.ltOf PrV.cf at h5
    rw [decide_eq_false_iff_not] at h5
    have := cmp_row.anti (PrV.row l.toArray[i]!) (PrV.row l.toArray[i + 1]!)
    omega
  · have hh2 : Go.Sort.Holds PrV.enc (Go.Sort.ahead w m) g 0 l.toArray := hh
    unfold sortWorld
    rw [Go.Sort.putRow_self _ _ _ _ _ hh2]
    rfl
theorem sort_own_rows {F : Nat → Prop} {w : World} {base n g cap : Nat} {us : List Value} {rows : List (List Vl)} (h : OwR F w base (.slice (some ⟨g, 0, none⟩) n cap) n us rows) (hr : ∀ x ∈ rows, x.length ≤ 1048576) (hn : n ≤ 1048576) :
    Calls Tryz.prog 105 #[.slice (some ⟨g, 0, none⟩) n cap, .func (.func 98) #[] #[]] w (fun e w' => e = .returned (.tuple #[]) ∧ w.grownBy w' (some g) ∧ ∃ us' rows', AscR rows' ∧ rows'.Perm rows ∧ OwR F w' base (.slice (some ⟨g, 0, none⟩) n cap) n us' rows') := by
  obtain ⟨l, hl1, hl2⟩ := h.prs hr
  have hnu := h.num
  have hll : l.length = n := by rw [hnu, ← hl1, List.length_map]
  rcases h.own.2 with ⟨h0, -⟩ | ⟨g', cap', cur, e, hb, hc, h1, h2, h3, h4⟩
  · cases h0
  injection e with e1 e2 e3
  injection e1 with e1
  injection e1 with e1
  subst e1 e3
  rw [Nat.mul_one] at h4
  have hh := holds_own (l := l) PrV.enc hc (by rw [hll, hl1, ← h4])
  have hlt : g < w.heap.size := (Array.getElem?_eq_some_iff.1 hc).1
  have hcon := Any.slices_SortFunc Tryz.laySortRow PrV.enc PrV.one PrV.cf PrV.swo 98 #[] g 0 cap l.toArray w (enters_of Tryz.func98 (by kernel_rfl) rfl) PrV.lays hh hlt (by simp; omega)
  change Calls Tryz.prog 105 _ _ _ at hcon
  rw [show l.toArray.size = n by simp [hll]] at hcon
  refine hcon.mono ?_
  rintro e w' ⟨rfl, d', m, os, ⟨hsz, -, hperm⟩, hsort, rfl⟩
  have hds : d'.size = n := by rw [hsz]; simp [hll]
  have hx1 : (d'.extract 0 n).toList = d'.toList := by rw [← hds]; simp
  have hx2 : (l.toArray.extract 0 n).toList = l := by rw [← hll]; simp
  rw [hx1, hx2] at hperm
  have hg : w.grownBy (sortWorld PrV.enc w g 0 m d' os) (some g) := fr_sorted _ _ _ _
  refine ⟨rfl, hg, d'.toList.map PrV.enc, d'.toList.map PrV.row, ?_, ?_, own_sorted _ hds hb hc h1 h2 h3, by simp, fun i hi hi' => ?_⟩
  · unfold AscR
    rw [List.pairwise_iff_getElem]
    intro i j hi hj hij
    rw [List.length_map, Array.length_toList] at hi hj
    have h5 := hsort i j (Nat.zero_le _) hij (by omega)
    rw [getElem!_pos d' i (by omega), getElem!_pos d' j (by omega)] at h5
    unfold Go.Proofs.ltOf PrV.cf at h5
    rw [decide_eq_false_iff_not] at h5
    rw [List.getElem_map, List.getElem_map, Array.getElem_toList, Array.getElem_toList]
    have := cmp_row.anti (PrV.row d'[i]) (PrV.row d'[j])
    omega
  · rw [← hl2]
    exact hperm.map _
  · rw [List.getElem_map, List.getElem_map]
    exact (d'.toList[i]'(by simpa using hi)).2.1.fr (grown_fr hg) (fun k hk e => hk.2 e)
end Go.Proofs.YtmmmdinncmbjkaaGreat
