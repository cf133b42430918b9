/- Contracts of homomorphism.Apply, slices.Clone at conditions; plain laws of homomorphisms. -/
import Derived.Test.YtehklbdgkppmeaaDoorQa
import Derived.BigQuiet
import Derived.Deep.AppendLies
import Derived.Deep.CutBlock
import Derived.Deep.DeepCutAuto
import Derived.Deep.QuietTactic
import Derived.Deep.RegionHeld3
import Derived.Deep.RegionLaw
import Derived.Deep.Upon
import Derived.KernelRfl
import Derived.Laws.BytesString
import Derived.Laws.EntriesVeiled
import Derived.Lib.AppendStr
import Derived.Lib.Hide
import Derived.Lib.ItoaLen
import Derived.Maps.OwnOps
import Derived.Maps.OwnSet
import Derived.Maps.Views
import Derived.Shelf.Slices.Clone
import Derived.WalkKit
import Derived.WalkLawsBesides
import Derived.WalkSpells
namespace Go.Proofs.YtehklbdgkppmeaaDoor
open Go.RowKit Go.Maps

/-- The term that numbers looks for: a variable's constant is struck. -/
def Tm.key (t : Tm) : Tm := if t.var = ⟨#[]⟩ then t else ⟨t.var, 0, 0, ⟨#[]⟩⟩
def addT (ts : List Tm) (t : Tm) : List Tm := if t.key ∈ ts then ts else ts ++ [t.key]
def numT (ts : List Tm) (t : Tm) : Int := if t.var = ⟨#[]⟩ then 1 + ((addT ts t).idxOf t.key : Int) else -1 - ((addT ts t).idxOf t.key : Int)
/-- The table behind a list of terms. -/
def tabT (ts : List Tm) (l : List Tm) : List Tm := l.foldl addT ts
/-- The atoms in numbers, by a table. -/
def rat (ts : List Tm) (a : At) : RAt := ⟨a.rel, a.terms.map (numT ts)⟩
def allR (l : List RAt) : List Int := l.flatMap (·.terms)
/-- The numbers' atoms of a rule by itself. -/
def rats (xs : List At) : List RAt := xs.map (rat (tabT [] (allT xs)))
structure Small (xs : List At) (nc : Nat) : Prop where
  len : xs.length ≤ 5
  terms : ∀ a ∈ xs, a.terms.length ≤ 6 ∧ a.rel.size ≤ 60
  str : ∀ a ∈ xs, ∀ t ∈ a.terms, t.var.size + t.str.size ≤ 60 ∧ t.Ok
  conds : nc ≤ 5
  vars : (termsL true (allR (rats xs))).length ≤ 4
  all : (termsL false (allR (rats xs))).length ≤ 6
theorem pcells_get : ∀ {l : List (ByteArray × Tm)} {i : Nat} (hi : i < l.length) (j : Nat), j < 5 → (pcells l)[5 * i + j]? = (pairC l[i].1 l[i].2)[j]?
  | p :: l, 0, _, j, hj => by
    simp only [pcells, List.flatMap_cons, Nat.mul_zero, Nat.zero_add, List.getElem_cons_zero]
    rw [List.getElem?_append_left (by simpa [pairC] using hj)]
  | p :: l, i + 1, hi, j, hj => by
    have ih := pcells_get (l := l) (i := i) (by simpa using hi) j hj
    simp only [pcells, List.flatMap_cons, List.getElem_cons_succ] at ih ⊢
    rw [List.getElem?_append_right (by simp [pairC]; omega)]
    rw [← ih]
    congr 1
    simp [pairC]; omega
/-- A slice of pairs. -/
def Prs (F : Nat → Prop) (w : World) (v : Value) (ps : List (ByteArray × Tm)) : Prop := ∃ A c, v = .slice A ps.length c ∧ ps.length ≤ c ∧ Cl F w A (pcells ps)
theorem Prs.ext {F : Nat → Prop} {w w' : World} {v : Value} {ps : List (ByteArray × Tm)} (h : Prs F w v ps) (he : Ext w w') : Prs F w' v ps := let ⟨A, c, h1, h2, h3⟩ := h; ⟨A, c, h1, h2, h3.ext he⟩
theorem Cl.pair {F : Nat → Prop} {w : World} {A : Option Addr} {ps : List (ByteArray × Tm)} (h : Cl F w A (pcells ps)) {i : Nat} (hi : i < ps.length) : ∃ ad, A = some ad ∧ F ad.block ∧ w.cell? (ad.add (i * 5)) = some (.string ps[i].1) ∧ w.cell? ⟨(ad.add (i * 5)).block, (ad.add (i * 5)).off + 1, none⟩ = some (.string ps[i].2.var) ∧ w.cell? ⟨(ad.add (i * 5)).block, (ad.add (i * 5)).off + 2, none⟩ = some (.int .i64 ps[i].2.kind) ∧ w.cell? ⟨(ad.add (i * 5)).block, (ad.add (i * 5)).off + 3, none⟩ = some (.int .i64 ps[i].2.int) ∧ w.cell? ⟨(ad.add (i * 5)).block, (ad.add (i * 5)).off + 4, none⟩ = some (.string ps[i].2.str) := by
  obtain ⟨ad, h1, h2, c0⟩ := h.at' ((pcells_get hi 0 (by omega)).trans rfl)
  obtain ⟨ad1, e1, _, c1⟩ := h.at' ((pcells_get hi 1 (by omega)).trans rfl)
  obtain ⟨ad2, e2, _, c2⟩ := h.at' ((pcells_get hi 2 (by omega)).trans rfl)
  obtain ⟨ad3, e3, _, c3⟩ := h.at' ((pcells_get hi 3 (by omega)).trans rfl)
  obtain ⟨ad4, e4, _, c4⟩ := h.at' ((pcells_get hi 4 (by omega)).trans rfl)
  subst h1
  injection e1 with e1; injection e2 with e2; injection e3 with e3; injection e4 with e4
  subst e1 e2 e3 e4
  rw [show 5 * i + 0 = i * 5 by omega] at c0
  rw [show 5 * i + 1 = i * 5 + (0 + 1) by omega, add_succ'] at c1
  rw [show 5 * i + 2 = i * 5 + (1 + 1) by omega, add_succ'] at c2
  rw [show 5 * i + 3 = i * 5 + (2 + 1) by omega, add_succ'] at c3
  rw [show 5 * i + 4 = i * 5 + (3 + 1) by omega, add_succ'] at c4
  exact ⟨ad, rfl, h2, c0, c1, c2, c3, c4⟩
/-- The first pair of a variable counts. -/
def addP (im : ByteArray → Option Tm) (p : ByteArray × Tm) : ByteArray → Option Tm := if (im p.1).isSome = true then im else updT im p.1 (some p.2)
def firstP (ps : List (ByteArray × Tm)) : ByteArray → Option Tm := ps.foldl addP (fun _ => none)
theorem firstP_snoc (ps : List (ByteArray × Tm)) (p : ByteArray × Tm) : firstP (ps ++ [p]) = addP (firstP ps) p := by simp [firstP]
set_option maxRecDepth 20000 in
set_option maxHeartbeats 1600000 in
theorem first_any {F : Nat → Prop} {w : World} {v : Value} {ps : List (ByteArray × Tm)} (h : Prs F w v ps) (hl : ps.length ≤ 1048576) (hs : ∀ p ∈ ps, p.1.size ≤ maxLen) :
    Calls Tryd.prog 47 #[v] w (fun e w' => e = .returned (.map (some w.heap.size)) ∧ Ext w w' ∧ ∃ n, n ≤ ps.length ∧ MapV w' w.heap.size n (imF (firstP ps))) := by
  obtain ⟨A, c, rfl, hc, hcl⟩ := h
  obtain ⟨n, hn⟩ : ∃ n, n = ps.length := ⟨_, rfl⟩
  rw [← hn] at hc hl ⊢
  have HN := Lib.hid hn; have HCL := Lib.hid hcl; have HS := Lib.hid hs
  clear hn hcl hs
  have hmk := @run_makeMap Tryd.prog
  go_enter Tryd.func47, Tryd.ntmps47
  go_wp2_with fail
  have HM0 : Hid (MapV (w.alloc (.map #[] 0)) w.heap.size 0 (imF (firstP (ps.take 0)))) := Lib.hid (by
    have e : imF (firstP (ps.take 0)) = fun _ => none := by funext t; simp [firstP, imF]
    rw [e]; exact MapV.made w)
  have HX0 : Hid (Ext w (w.alloc (.map #[] 0))) := Lib.hid ((Ext.refl w).alloc _)
  generalize (w.alloc (.map #[] 0)) = w1 at *
  clear hmk
  go_loopw [11] (fun q wr => ∃ i : Nat, i ≤ n ∧ q = .int .i64 (i : Int) ∧ MapV wr w.heap.size i (imF (firstP (ps.take i))) ∧ Ext w wr) (fun q _ => n - (intOf q).toNat)
  case atStart => exact ⟨0, Nat.zero_le _, rfl, HM0.out, HX0.out⟩
  case round =>
    obtain ⟨i, hi, rfl, hmi, hext⟩ := hrel
    by_cases hlt : i < n
    · have i1 : (0 : Int) ≤ (i : Int) := by omega
      have i2 : (i : Int) < (n : Int) := by omega
      have hip : i < ps.length := by have := HN.out; omega
      obtain ⟨ad, rfl, -, c0, c1, c2, c3, c4⟩ := HCL.out.pair (i := i) hip
      replace c0 := hext.cell c0
      replace c1 := hext.cell c1
      replace c2 := hext.cell c2
      replace c3 := hext.cell c3
      replace c4 := hext.cell c4
      have hsv := HS.out _ (List.getElem_mem hip)
      have efp : firstP (ps.take (i + 1)) = addP (firstP (ps.take i)) ps[i] := by rw [List.take_succ_eq_append_getElem hip, firstP_snoc]
      obtain ⟨p, hp⟩ : ∃ p, p = ps[i] := ⟨_, rfl⟩
      rw [← hp] at c0 c1 c2 c3 c4 hsv efp
      obtain ⟨im, him⟩ : ∃ im, im = firstP (ps.take i) := ⟨_, rfl⟩
      rw [← him] at hmi efp
      obtain ⟨s, x⟩ := p
      simp only at c0 c1 c2 c3 c4 hsv
      have HEF := Lib.hid efp; have HMI := Lib.hid hmi; have HE := Lib.hid hext
      have hxa : Ext wr (wr.alloc (.cells #[.string s, .string x.var, .int .i64 x.kind, .int .i64 x.int, .string x.str] 102)) := (Ext.refl wr).alloc _
      have HXA := Lib.hid hxa; have HMA := Lib.hid (hmi.ext hxa)
      clear efp hmi hext hp him hxa
      rcases hims : im s with _ | z
      · have HIMS := Lib.hid hims
        have HADD : Hid (addP im (s, x) = updT im s (some x)) := Lib.hid (by rw [addP]; simp [hims])
        clear hims
        go_wp2_with (first
          | (at_lookup; refine wpList_lookup_okV rfl _ _ 87 66 rfl Tryd.underlying87 (.agg #[.string ⟨#[]⟩, .int .i64 0, .int .i64 0, .string ⟨#[]⟩]) (zero_term _) w.heap.size i (imF im) rfl HMA.out s rfl hsv (.agg #[.string ⟨#[]⟩, .int .i64 0, .int .i64 0, .string ⟨#[]⟩]) (by rw [imF, HIMS.out]; rfl) false (by rw [imF, HIMS.out]; rfl) ?_)
          | (at_mapUpdate; refine wpList_update_V rfl _ _ _ 87 66 rfl Tryd.underlying87 w.heap.size i (imF im) rfl (HMA.out.ext ((Ext.refl _).alloc _)) (by simp only [maxLen]; omega) s (.agg #[.string x.var, .int .i64 x.kind, .int .i64 x.int, .string x.str]) rfl hsv rfl ?_; intro w3 hm3 hg3; have HM3 : Hid (MapV w3 w.heap.size (i + 1) (imF (updT im s (some x)))) := Lib.hid (by rw [imF_upd]; exact hm3); have HE3 := Lib.hid (((HE.out.trans HXA.out).alloc _).grown hg3 (fun b e => by injection e with e; omega)); clear hm3 hg3))
        go_roundw
        case rel => exact ⟨i + 1, by omega, by go_num, by rw [HEF.out, HADD.out]; exact HM3.out, HE3.out⟩
        case measure => simp [intOf]; omega
      · have HIMS := Lib.hid hims
        have HADD : Hid (addP im (s, x) = im) := Lib.hid (by rw [addP]; simp [hims])
        clear hims
        go_wp2_with (first
          | (at_lookup; refine wpList_lookup_okV rfl _ _ 87 66 rfl Tryd.underlying87 (.agg #[.string ⟨#[]⟩, .int .i64 0, .int .i64 0, .string ⟨#[]⟩]) (zero_term _) w.heap.size i (imF im) rfl HMA.out s rfl hsv (.agg #[.string z.var, .int .i64 z.kind, .int .i64 z.int, .string z.str]) (by rw [imF, HIMS.out]; rfl) true (by rw [imF, HIMS.out]; rfl) ?_))
        go_roundw
        case rel => exact ⟨i + 1, by omega, by go_num, by rw [HEF.out, HADD.out]; exact (HMA.out.ext ((Ext.refl _).alloc _)).mono (by omega), (HE.out.trans HXA.out).alloc _⟩
        case measure => simp [intOf]; omega
    · obtain rfl : i = n := by omega
      have hdn : ¬ (i : Int) < (i : Int) := by omega
      have HMI := Lib.hid hmi; have HE := Lib.hid hext
      clear hmi hext
      go_wp2_with fail
      go_ret
      have et : ps.take i = ps := by rw [HN.out]; exact List.take_length
      have h := HMI.out
      rw [et] at h
      exact ⟨rfl, HE.out, i, Nat.le_refl _, h⟩
theorem three_new (w : World) (o0 o1 o2 : List Value) (t0 t1 t2 : TypeId) (W : World) (hW : W = ((w.alloc (.cells o0.toArray t0)).alloc (.cells o1.toArray t1)).alloc (.cells o2.toArray t2)) :
    Bk W w.heap.size t0 o0 ∧ Bk W (w.heap.size + 1) t1 o1 ∧ Bk W (w.heap.size + 1 + 1) t2 o2 ∧ Ext w W := by
  subst hW
  have k0 := Bk.new w t0 o0
  have k1 := Bk.new (w.alloc (.cells o0.toArray t0)) t1 o1
  have k2 := Bk.new ((w.alloc (.cells o0.toArray t0)).alloc (.cells o1.toArray t1)) t2 o2
  rw [show (w.alloc (.cells o0.toArray t0)).heap.size = w.heap.size + 1 by simp] at k1
  rw [show ((w.alloc (.cells o0.toArray t0)).alloc (.cells o1.toArray t1)).heap.size = w.heap.size + 1 + 1 by simp] at k2
  exact ⟨(k0.alloc _).alloc _, k1.alloc _, k2, ((((Ext.refl w).alloc _).alloc _).alloc _)⟩
/-- The image of a term. -/
def repT (im : ByteArray → Option Tm) (t : Tm) : Tm := if t.var = ⟨#[]⟩ then t else (im t.var).getD t
/-- After j terms. -/
structure ReI (w wr : World) (g : Nat) (ng : Bool) (rl : ByteArray) (l : List Tm) (v : Value) (m : Nat) : Prop where
  bk : Bk wr g 39 [.bool ng, .string rl, v]
  row : wr.ownsRow w.heap.size 66 4 v m (tcells l)
  ext : Ext w wr
theorem ReI.fore {w wr w' : World} {g : Nat} {ng : Bool} {rl : ByteArray} {l : List Tm} {v : Value} {m : Nat} (h : ReI w wr g ng rl l v m) (he : Ext wr w') : ReI w w' g ng rl l v m := ⟨h.bk.ext he, own_fr h.row (he.fr (fun _ => False)) (fun _ _ h => h), h.ext.trans he⟩
theorem ReI.step {w wr wb w9 : World} {g : Nat} {ng : Bool} {rl : ByteArray} {l : List Tm} {v v9 : Value} {m : Nat} {x : Tm} (h : ReI w wr g ng rl l v m) (hg : w.heap.size ≤ g) (he : Ext wr wb) (hr : w9.ownsRow w.heap.size 66 4 v9 (m + 1) (tcells l ++ x.cells)) (hgr : wb.grownBy w9 v.ownBlock) :
    ReI w (w9.setCell ⟨g, 2, none⟩ v9) g ng rl (l ++ [x]) v9 (m + 1) := by
  have hb := (h.bk.ext he).fr (grown_fr hgr) (fun e => own_bk h.row h.bk (by decide) e rfl)
  have hset : Fr (fun k => k = g) w9 (w9.setCell ⟨g, 2, none⟩ v9) := Fr.setCell (S := fun k => k = g) (Fr.refl _ w9) (p := ⟨g, 2, none⟩) (.inl rfl) _
  refine ⟨hb.set 2 _, ?_, ?_⟩
  · rw [tcells_append]
    have e : tcells [x] = x.cells := by simp [tcells]
    rw [e]
    exact own_fr hr hset (fun k hk e => by subst e; exact own_bk hr hb (by decide) hk rfl)
  · exact Fr.new ((h.ext.trans he).grown hgr (fun k hk => (h.row.lt k hk).1)) hset (fun k hk => by omega)
theorem ReI.far {w wr w' : World} {g b : Nat} {ng : Bool} {rl : ByteArray} {l : List Tm} {v : Value} {m : Nat} (h : ReI w wr g ng rl l v m) (hf : Fr (fun k => k = b) wr w') (hb : w.heap.size ≤ b) (hne : g ≠ b) (hv : v.ownBlock ≠ some b) : ReI w w' g ng rl l v m :=
  ⟨h.bk.fr hf hne, own_fr h.row hf (fun k hk e => hv (by rw [hk, e])), hf.new h.ext (fun k hk => by omega)⟩
set_option maxRecDepth 20000 in
set_option maxHeartbeats 1600000 in
theorem replaced_any {F : Nat → Prop} {w : World} {ng : Bool} {rl : ByteArray} {B : Option Addr} {d bm n : Nat} {ts : List Tm} {im : ByteArray → Option Tm} (hcl : Cl F w B (tcells ts)) (hd : ts.length ≤ d) (hl : ts.length ≤ 1048576) (hs : ∀ t ∈ ts, t.var.size ≤ maxLen) (hm : MapV w bm n (imF im)) :
    Calls Tryd.prog 48 #[.agg #[.bool ng, .string rl, .slice B ts.length d], .map (some bm)] w (fun e w' => Ext w w' ∧ ∃ v, e = .returned (.agg #[.bool ng, .string rl, v]) ∧ w'.ownsRow w.heap.size 66 4 v ts.length (tcells (ts.map (repT im)))) := by
  obtain ⟨nt, hnt⟩ : ∃ nt, nt = ts.length := ⟨_, rfl⟩
  rw [← hnt] at hd hl ⊢
  have HNT := Lib.hid hnt; have HCL := Lib.hid hcl; have HS := Lib.hid hs; have HM := Lib.hid hm
  clear hnt hcl hs hm
  obtain ⟨i0, hi0, hz0, hz1, hz2⟩ := info_parts info_term
  have HI0 := Lib.hid (And.intro hi0 (And.intro hz0 (And.intro hz1 hz2))); clear hi0 hz0 hz1 hz2
  go_enter Tryd.func48, Tryd.ntmps48
  go_wp2_with fail
  have h3 := three_new w [.bool ng, .string rl, .slice B nt d] [.bool false, .string ⟨#[]⟩, .slice none 0 0] [.bool ng, .string rl, .slice none 0 0] 39 39 39 _ rfl
  change Bk (((w.alloc (.cells #[.bool ng, .string rl, .slice B nt d] 39)).alloc (.cells #[.bool false, .string ⟨#[]⟩, .slice none 0 0] 39)).alloc (.cells #[.bool ng, .string rl, .slice none 0 0] 39)) _ _ _ ∧ Bk (((w.alloc (.cells #[.bool ng, .string rl, .slice B nt d] 39)).alloc (.cells #[.bool false, .string ⟨#[]⟩, .slice none 0 0] 39)).alloc (.cells #[.bool ng, .string rl, .slice none 0 0] 39)) _ _ _ ∧ Bk (((w.alloc (.cells #[.bool ng, .string rl, .slice B nt d] 39)).alloc (.cells #[.bool false, .string ⟨#[]⟩, .slice none 0 0] 39)).alloc (.cells #[.bool ng, .string rl, .slice none 0 0] 39)) _ _ _ ∧ Ext w (((w.alloc (.cells #[.bool ng, .string rl, .slice B nt d] 39)).alloc (.cells #[.bool false, .string ⟨#[]⟩, .slice none 0 0] 39)).alloc (.cells #[.bool ng, .string rl, .slice none 0 0] 39)) at h3
  generalize (((w.alloc (.cells #[.bool ng, .string rl, .slice B nt d] 39)).alloc (.cells #[.bool false, .string ⟨#[]⟩, .slice none 0 0] 39)).alloc (.cells #[.bool ng, .string rl, .slice none 0 0] 39)) = w1 at *
  have H3 := Lib.hid h3
  clear h3
  go_loopw [18] (fun q wr => ∃ (j : Nat) (v : Value), j ≤ nt ∧ q = .int .i64 (j : Int) ∧ ReI w wr (w.heap.size + 1 + 1) ng rl ((ts.take j).map (repT im)) v j ∧ Bk wr (w.heap.size + 1) 39 [.bool false, .string ⟨#[]⟩, .slice none 0 0]) (fun q _ => nt - (intOf q).toNat)
  case atStart => exact ⟨0, .slice none 0 0, Nat.zero_le _, rfl, ⟨H3.out.2.2.1, World.ownsRow_nil _ _ _ _, H3.out.2.2.2⟩, H3.out.2.1⟩
  case round =>
    obtain ⟨j, v, hj, rfl, hJ, hz⟩ := hrel
    obtain ⟨Av, cv, rfl⟩ := own_slice hJ.row
    by_cases hlt : j < nt
    · have j1 : (0 : Int) ≤ (j : Int) := by omega
      have j2 : (j : Int) < (nt : Int) := by omega
      have hjt : j < ts.length := by have := HNT.out; omega
      obtain ⟨ad, rfl, -, d0, d1, d2, d3⟩ := HCL.out.term (i := j) hjt
      replace d0 := hJ.ext.cell d0
      replace d1 := hJ.ext.cell d1
      replace d2 := hJ.ext.cell d2
      replace d3 := hJ.ext.cell d3
      have hsv := HS.out _ (List.getElem_mem hjt)
      obtain ⟨x, hx⟩ : ∃ x, x = ts[j] := ⟨_, rfl⟩
      rw [← hx] at d0 d1 d2 d3 hsv
      have etk : (ts.take (j + 1)).map (repT im) = (ts.take j).map (repT im) ++ [repT im x] := by rw [List.take_succ_eq_append_getElem hjt, List.map_append, hx]; rfl
      have HETK := Lib.hid etk; have HJ := Lib.hid hJ; have HZ := Lib.hid hz
      have HMR := Lib.hid (HM.out.ext hJ.ext)
      have hww : w.heap.size ≤ wr.heap.size := hJ.ext.size
      clear hx etk hJ hz
      go_upto_region 5 with fail
      have hx2 : Ext wr (wr.alloc (.cells #[.string x.var, .int .i64 x.kind, .int .i64 x.int, .string x.str] 66)) := (Ext.refl wr).alloc _
      have k7 := Bk.new wr 66 [.string x.var, .int .i64 x.kind, .int .i64 x.int, .string x.str]
      change Bk (wr.alloc (.cells #[.string x.var, .int .i64 x.kind, .int .i64 x.int, .string x.str] 66)) _ _ _ at k7
      have s0 := k7.cell (i := 0) (by simp)
      have s1 := k7.cell (i := 1) (by simp)
      have s2 := k7.cell (i := 2) (by simp)
      have s3 := k7.cell (i := 3) (by simp)
      have r0 := k7.free 0
      have r1 := k7.free 1
      have r2 := k7.free 2
      have r3 := k7.free 3
      have hlt7 := k7.lt
      simp only [List.getElem_cons_zero, List.getElem_cons_succ] at s0 s1 s2 s3
      have HX2 := Lib.hid hx2; have HK7 := Lib.hid k7
      clear hx2 k7 d0 d1 d2 d3
      generalize (wr.alloc (.cells #[.string x.var, .int .i64 x.kind, .int .i64 x.int, .string x.str] 66)) = w2 at *
      rcases him : im x.var with _ | z
      · have HIM := Lib.hid him
        have HREP : Hid (repT im x = x) := Lib.hid (by unfold repT; split; rfl; rw [him]; rfl)
        clear him
        have HE3 : Hid (Ext wr (w2.alloc (.cells #[.string ⟨#[]⟩, .int .i64 0, .int .i64 0, .string ⟨#[]⟩] 66))) := Lib.hid (HX2.out.alloc _)
        have hln := laid_news (w2.alloc (.cells #[.string ⟨#[]⟩, .int .i64 0, .int .i64 0, .string ⟨#[]⟩] 66)) 66 [.string x.var, .int .i64 x.kind, .int .i64 x.int, .string x.str]
        rw [show (w2.alloc (.cells #[.string ⟨#[]⟩, .int .i64 0, .int .i64 0, .string ⟨#[]⟩] 66)).heap.size = w2.heap.size + 1 by simp] at hln
        have HLN := Lib.hid hln
        clear hln
        have HJ3 := Lib.hid (HJ.out.fore HE3.out)
        have g2 := HJ3.out.bk.cell (i := 2) (by simp)
        have hg2 := HJ3.out.bk.lt
        simp only [List.getElem_cons_zero, List.getElem_cons_succ] at g2
        go_wp2_with (first
          | (at_lookup; refine wpList_lookup_okV rfl _ _ 87 66 rfl Tryd.underlying87 (.agg #[.string ⟨#[]⟩, .int .i64 0, .int .i64 0, .string ⟨#[]⟩]) (zero_term _) bm n (imF im) rfl (HMR.out.ext HX2.out) x.var rfl hsv (.agg #[.string ⟨#[]⟩, .int .i64 0, .int .i64 0, .string ⟨#[]⟩]) (by rw [imF, HIM.out]; rfl) false (by rw [imF, HIM.out]; rfl) ?_)
          | (at_builtin; refine wpList_append_at rfl _ _ 37 rfl w.heap.size 66 i0 (.agg #[.string ⟨#[]⟩, .int .i64 0, .int .i64 0, .string ⟨#[]⟩]) 4 48 Tryd.underlying37 HI0.out.1 HI0.out.2.1 HI0.out.2.2.1 HI0.out.2.2.2 rfl (by omega) _ j (tcells ((ts.take j).map (repT im))) rfl (HJ3.out.row.alloc _) ⟨w2.heap.size + 1, 0, none⟩ 1 1 [.string x.var, .int .i64 x.kind, .int .i64 x.int, .string x.str] rfl rfl HLN.out (by simp [Value.oneCell']) (by simp only [maxLen]; omega) (by omega) (by have := HE3.out.size; simp at this ⊢; omega) ?_; intro v9 w9 hr9 hg9 hl9; obtain ⟨A9, c9, rfl⟩ := own_slice hr9; have hb9 : Bk w9 (w.heap.size + 1 + 1) 39 [.bool ng, .string rl, .slice Av j cv] := Bk.fr (HJ3.out.bk.alloc _) (grown_fr hg9) (fun e => own_bk HJ3.out.row HJ3.out.bk (by decide) e rfl); have b9 := hb9.cell (i := 2) (by simp); have f9 := hb9.free 2; simp only [List.getElem_cons_zero, List.getElem_cons_succ] at b9; have HZ9 := Lib.hid (((HZ.out.ext HE3.out).alloc _).fr (grown_fr hg9) (fun e => own_bk HJ3.out.row (HZ.out.ext HE3.out) (by decide) e rfl)); have HS9 := Lib.hid (ReI.step (x := x) HJ3.out (by omega) ((Ext.refl _).alloc _) hr9 hg9); clear hr9 hg9 hl9 hb9))
        go_roundw
        case rel => exact ⟨j + 1, .slice A9 (j + 1) c9, by omega, by go_num, by rw [HETK.out, HREP.out]; exact HS9.out, HZ9.out.far (by simp) _⟩
        case measure => simp [intOf]; omega
      · have HIM := Lib.hid him
        by_cases hv : x.var = ⟨#[]⟩
        · have HREP : Hid (repT im x = x) := Lib.hid (by unfold repT; rw [if_pos hv])
          have hve := var_eq hv
          clear him hv
          have HE3 : Hid (Ext wr (w2.alloc (.cells #[.string z.var, .int .i64 z.kind, .int .i64 z.int, .string z.str] 66))) := Lib.hid (HX2.out.alloc _)
          have hln := laid_news (w2.alloc (.cells #[.string z.var, .int .i64 z.kind, .int .i64 z.int, .string z.str] 66)) 66 [.string x.var, .int .i64 x.kind, .int .i64 x.int, .string x.str]
          rw [show (w2.alloc (.cells #[.string z.var, .int .i64 z.kind, .int .i64 z.int, .string z.str] 66)).heap.size = w2.heap.size + 1 by simp] at hln
          have HLN := Lib.hid hln
          clear hln
          have HJ3 := Lib.hid (HJ.out.fore HE3.out)
          have g2 := HJ3.out.bk.cell (i := 2) (by simp)
          have hg2 := HJ3.out.bk.lt
          simp only [List.getElem_cons_zero, List.getElem_cons_succ] at g2
          go_wp2_with (first
            | (at_lookup; refine wpList_lookup_okV rfl _ _ 87 66 rfl Tryd.underlying87 (.agg #[.string ⟨#[]⟩, .int .i64 0, .int .i64 0, .string ⟨#[]⟩]) (zero_term _) bm n (imF im) rfl (HMR.out.ext HX2.out) x.var rfl hsv (.agg #[.string z.var, .int .i64 z.kind, .int .i64 z.int, .string z.str]) (by rw [imF, HIM.out]; rfl) true (by rw [imF, HIM.out]; rfl) ?_)
            | (at_builtin; refine wpList_append_at rfl _ _ 37 rfl w.heap.size 66 i0 (.agg #[.string ⟨#[]⟩, .int .i64 0, .int .i64 0, .string ⟨#[]⟩]) 4 48 Tryd.underlying37 HI0.out.1 HI0.out.2.1 HI0.out.2.2.1 HI0.out.2.2.2 rfl (by omega) _ j (tcells ((ts.take j).map (repT im))) rfl (HJ3.out.row.alloc _) ⟨w2.heap.size + 1, 0, none⟩ 1 1 [.string x.var, .int .i64 x.kind, .int .i64 x.int, .string x.str] rfl rfl HLN.out (by simp [Value.oneCell']) (by simp only [maxLen]; omega) (by omega) (by have := HE3.out.size; simp at this ⊢; omega) ?_; intro v9 w9 hr9 hg9 hl9; obtain ⟨A9, c9, rfl⟩ := own_slice hr9; have hb9 : Bk w9 (w.heap.size + 1 + 1) 39 [.bool ng, .string rl, .slice Av j cv] := Bk.fr (HJ3.out.bk.alloc _) (grown_fr hg9) (fun e => own_bk HJ3.out.row HJ3.out.bk (by decide) e rfl); have b9 := hb9.cell (i := 2) (by simp); have f9 := hb9.free 2; simp only [List.getElem_cons_zero, List.getElem_cons_succ] at b9; have HZ9 := Lib.hid (((HZ.out.ext HE3.out).alloc _).fr (grown_fr hg9) (fun e => own_bk HJ3.out.row (HZ.out.ext HE3.out) (by decide) e rfl)); have HS9 := Lib.hid (ReI.step (x := x) HJ3.out (by omega) ((Ext.refl _).alloc _) hr9 hg9); clear hr9 hg9 hl9 hb9))
          go_roundw
          case rel => exact ⟨j + 1, .slice A9 (j + 1) c9, by omega, by go_num, by rw [HETK.out, HREP.out]; exact HS9.out, HZ9.out.far (by simp) _⟩
          case measure => simp [intOf]; omega
        · have HREP : Hid (repT im x = z) := Lib.hid (by unfold repT; rw [if_neg hv, him]; rfl)
          have hve := var_ne hv
          clear him hv
          go_upto_if 34 with (first
            | (at_lookup; refine wpList_lookup_okV rfl _ _ 87 66 rfl Tryd.underlying87 (.agg #[.string ⟨#[]⟩, .int .i64 0, .int .i64 0, .string ⟨#[]⟩]) (zero_term _) bm n (imF im) rfl (HMR.out.ext HX2.out) x.var rfl hsv (.agg #[.string z.var, .int .i64 z.kind, .int .i64 z.int, .string z.str]) (by rw [imF, HIM.out]; rfl) true (by rw [imF, HIM.out]; rfl) ?_))
          have HE3 : Hid (Ext wr (w2.alloc (.cells #[.string z.var, .int .i64 z.kind, .int .i64 z.int, .string z.str] 66))) := Lib.hid (HX2.out.alloc _)
          have k73 := HK7.out.alloc (.cells #[.string z.var, .int .i64 z.kind, .int .i64 z.int, .string z.str] 66)
          have k8 := Bk.new w2 66 [.string z.var, .int .i64 z.kind, .int .i64 z.int, .string z.str]
          change Bk (w2.alloc (.cells #[.string z.var, .int .i64 z.kind, .int .i64 z.int, .string z.str] 66)) _ _ _ at k8
          generalize (w2.alloc (.cells #[.string z.var, .int .i64 z.kind, .int .i64 z.int, .string z.str] 66)) = w3 at *
          have HK73 := Lib.hid k73
          have q0 := k8.cell (i := 0) (by simp)
          have q1 := k8.cell (i := 1) (by simp)
          have q2 := k8.cell (i := 2) (by simp)
          have q3 := k8.cell (i := 3) (by simp)
          have m0 := k73.cell (i := 0) (by simp)
          have m1 := k73.cell (i := 1) (by simp)
          have m2 := k73.cell (i := 2) (by simp)
          have m3 := k73.cell (i := 3) (by simp)
          simp only [List.getElem_cons_zero, List.getElem_cons_succ] at q0 q1 q2 q3 m0 m1 m2 m3
          have n0 := k73.free 0
          have n1 := k73.free 1
          have n2 := k73.free 2
          have n3 := k73.free 3
          clear k73 k8 s0 s1 s2 s3 r0 r1 r2 r3
          go_cut [34, 35] (fun s34 s35 wx => s34 = .bool true ∧ Bk wx wr.heap.size 66 [.string z.var, .int .i64 z.kind, .int .i64 z.int, .string z.str] ∧ Fr (fun k => k = wr.heap.size) w3 wx)
          case first =>
            go_wp2_with fail
            go_meet
            exact ⟨rfl, (((HK73.out.set 0 _).set 1 _).set 2 _).set 3 _, (((Fr.refl (fun k => k = wr.heap.size) w3).setCell (p := ⟨wr.heap.size, 0, none⟩) (.inl rfl) _).setCell (p := ⟨wr.heap.size, 1, none⟩) (.inl rfl) _).setCell (p := ⟨wr.heap.size, 2, none⟩) (.inl rfl) _ |>.setCell (p := ⟨wr.heap.size, 3, none⟩) (.inl rfl) _⟩
          case rest =>
            obtain ⟨rfl, k74, hf4⟩ := hcut
            obtain ⟨w4, rfl⟩ : ∃ w4 : World, w4 = wc := ⟨_, rfl⟩
            have hgw : w.heap.size + 1 + 1 < wr.heap.size := HJ.out.bk.lt
            have HJ3 := Lib.hid ((HJ.out.fore HE3.out).far hf4 (by omega) (by omega) (fun e => by have := (HJ.out.row.lt _ e).2; omega))
            have HZ3 := Lib.hid ((HZ.out.ext HE3.out).fr hf4 (by omega))
            have g2 := HJ3.out.bk.cell (i := 2) (by simp)
            have p0 := k74.cell (i := 0) (by simp)
            have p1 := k74.cell (i := 1) (by simp)
            have p2 := k74.cell (i := 2) (by simp)
            have p3 := k74.cell (i := 3) (by simp)
            simp only [List.getElem_cons_zero, List.getElem_cons_succ] at g2 p0 p1 p2 p3
            have hw4 : w.heap.size ≤ w4.heap.size := HJ3.out.ext.size
            clear hf4 k74 q0 q1 q2 q3 m0 m1 m2 m3 n0 n1 n2 n3
            go_wp2_with (first
              | (at_builtin; refine wpList_append_at rfl _ _ 37 rfl w.heap.size 66 i0 (.agg #[.string ⟨#[]⟩, .int .i64 0, .int .i64 0, .string ⟨#[]⟩]) 4 48 Tryd.underlying37 HI0.out.1 HI0.out.2.1 HI0.out.2.2.1 HI0.out.2.2.2 rfl (by omega) _ j (tcells ((ts.take j).map (repT im))) rfl (HJ3.out.row.alloc _) ⟨w4.heap.size, 0, none⟩ 1 1 [.string z.var, .int .i64 z.kind, .int .i64 z.int, .string z.str] rfl rfl (laid_news w4 _ _) (by simp [Value.oneCell']) (by simp only [maxLen]; omega) (by omega) (by simp; omega) ?_; intro v9 w9 hr9 hg9 hl9; obtain ⟨A9, c9, rfl⟩ := own_slice hr9; have hb9 : Bk w9 (w.heap.size + 1 + 1) 39 [.bool ng, .string rl, .slice Av j cv] := Bk.fr (HJ3.out.bk.alloc _) (grown_fr hg9) (fun e => own_bk HJ3.out.row HJ3.out.bk (by decide) e rfl); have b9 := hb9.cell (i := 2) (by simp); have f9 := hb9.free 2; simp only [List.getElem_cons_zero, List.getElem_cons_succ] at b9; have HZ9 := Lib.hid ((HZ3.out.alloc _).fr (grown_fr hg9) (fun e => own_bk HJ3.out.row HZ3.out (by decide) e rfl)); have HS9 := Lib.hid (ReI.step (x := z) HJ3.out (by omega) ((Ext.refl _).alloc _) hr9 hg9); clear hr9 hg9 hl9 hb9))
            go_roundw
            case rel => exact ⟨j + 1, .slice A9 (j + 1) c9, by omega, by go_num, by rw [HETK.out, HREP.out]; exact HS9.out, HZ9.out.far (by simp) _⟩
            case measure => simp [intOf]; omega
    · obtain rfl : j = nt := by omega
      have hdn : ¬ (j : Int) < (j : Int) := by omega
      have HJ := Lib.hid hJ; have HZ := Lib.hid hz
      have u0 := hJ.bk.cell (i := 0) (by simp)
      have u1 := hJ.bk.cell (i := 1) (by simp)
      have u2 := hJ.bk.cell (i := 2) (by simp)
      have v0 := hz.cell (i := 0) (by simp)
      have v1 := hz.cell (i := 1) (by simp)
      have v2 := hz.cell (i := 2) (by simp)
      have f0 := hz.free 0
      have f1 := hz.free 1
      have f2 := hz.free 2
      simp only [List.getElem_cons_zero, List.getElem_cons_succ] at u0 u1 u2 v0 v1 v2
      clear hJ hz
      go_wp2_with fail
      have kz := ((HZ.out.set 0 (.bool ng)).set 1 (.string rl)).set 2 (.slice Av j cv)
      have hfz : Fr (fun k => k = w.heap.size + 1) wr (((wr.setCell ⟨w.heap.size + 1, 0, none⟩ (.bool ng)).setCell ⟨w.heap.size + 1, 1, none⟩ (.string rl)).setCell ⟨w.heap.size + 1, 2, none⟩ (.slice Av j cv)) := (((Fr.refl (fun k => k = w.heap.size + 1) wr).setCell (p := ⟨w.heap.size + 1, 0, none⟩) (.inl rfl) _).setCell (p := ⟨w.heap.size + 1, 1, none⟩) (.inl rfl) _).setCell (p := ⟨w.heap.size + 1, 2, none⟩) (.inl rfl) _
      have hJz := HJ.out.far hfz (by omega) (by omega) (fun e => own_bk HJ.out.row HZ.out (by decide) e rfl)
      have r0 := kz.cell (i := 0) (by simp)
      have r1 := kz.cell (i := 1) (by simp)
      have r2 := kz.cell (i := 2) (by simp)
      simp only [List.set_cons_zero, List.set_cons_succ, List.getElem_cons_zero, List.getElem_cons_succ] at r0 r1 r2
      generalize (((wr.setCell ⟨w.heap.size + 1, 0, none⟩ (.bool ng)).setCell ⟨w.heap.size + 1, 1, none⟩ (.string rl)).setCell ⟨w.heap.size + 1, 2, none⟩ (.slice Av j cv)) = wz at *
      refine bodyPost_ret (v := .agg #[.bool ng, .string rl, .slice Av j cv]) ?_ rfl ⟨hJz.ext, .slice Av j cv, rfl, ?_⟩
      · simp [results, Tryd.results48, go_sem, r0, r1, r2]
      · have et : ts.take j = ts := by rw [HNT.out]; exact List.take_length
        have h := hJz.row
        rwa [et] at h
theorem own_ge {w : World} {b s n k : Nat} {e : TypeId} {v : Value} {xs : List Value} (h : w.ownsRow b e s v n xs) (hk : v.ownBlock = some k) : b ≤ k := by
  rcases h.2 with ⟨rfl, rfl⟩ | ⟨g, cap, cur, rfl, hb, -⟩
  · simp [Value.ownBlock] at hk
  · simp [Value.ownBlock] at hk; omega
theorem info_u8 : (Tryd.prog.info? 5).map (fun i => (i.zero, i.size, i.bytes)) = some (some (.int .u8 0), 1, 1) := by kernel_rfl
/-- append(b, s...). -/
theorem wpList_append_str {w : World} {ops : Array Oper} {rest : List Oper} {o : Oper} {a : Act} {Q : Exit → Act → World → Prop} (hgd : o.guard = none) (s y : Operand)
    (ho : o.op = .call { callee := .builtin .append, args := #[s, y], argTypes := #[105, 9] })
    (base : Nat) (v : Value) (n : Nat) (xs : List Value) (hs : a.eval s = v) (hown : w.ownsRow base 5 1 v n xs) (x : ByteArray) (hx : a.eval y = .string x)
    (h63 : n + x.size ≤ maxLen) (hbytes : n + x.size ≤ 140737488355328) (hbase : base ≤ w.heap.size)
    (h : ∀ v' w', w'.ownsRow base 5 1 v' (n + x.size) (xs ++ Lib.strCells x) → w.grownBy w' v.ownBlock → wpList Tryd.prog ops Q rest (a.put o.dst v') w') : wpList Tryd.prog ops Q (o :: rest) a w :=
  wpList_plain hgd fun K hK => by
    obtain ⟨i0, hi0, hz0, hz1, hz2⟩ := info_parts info_u8
    obtain ⟨v', w', hr, h2, h3, _⟩ := Lib.run_append_own_string (P := Tryd.prog) w base 105 9 o.type 5 i0 Tryd.underlying105 Tryd.underlying9 hi0 hz0 hz1 hz2 v n xs hown x h63 hbytes hbase
    unfold Oper.wp execOp
    simp only [ho, resolve, invoke, builtin, Sem.run_bind, Sem.run_pure, Result.andThen_ok, List.map_toArray, List.map_cons, List.map_nil, hs, hx, hr]
    exact hK _ _ (h v' w' h2 h3)
def boolT (b : Bool) : List UInt8 := if b = true then [116, 114, 117, 101] else [102, 97, 108, 115, 101]
set_option maxRecDepth 20000 in
theorem appendBool {w : World} (b : Bool) : Calls Tryd.prog 58 #[.slice none 0 0, .bool b] w (Ret (fun x w' => w'.ownsRow w.heap.size 5 1 x (boolT b).length (Lib.byteCells (boolT b))) w) := by
  have HIN : Hid (Calls Tryd.prog 78 #[.slice none 0 0, .bool b] w (Ret (fun x w' => w'.ownsRow w.heap.size 5 1 x (boolT b).length (Lib.byteCells (boolT b))) w)) := Lib.hid (by
    cases b
    · go_enter Tryd.func78, Tryd.ntmps78
      go_wp2_with (first | (at_builtin; refine wpList_append_str rfl _ _ rfl w.heap.size (.slice none 0 0) 0 [] rfl (World.ownsRow_nil _ _ _ _) ⟨#[102, 97, 108, 115, 101]⟩ rfl (by decide) (by decide) (Nat.le_refl _) ?_; intro v' w' hr hg; have HR := Lib.hid hr; have HG := Lib.hid ((Ext.refl w).grown hg (fun k hk => by simp [Value.ownBlock] at hk)); clear hr hg))
      go_ret
      exact Ret.mk HG.out HR.out
    · go_enter Tryd.func78, Tryd.ntmps78
      go_wp2_with (first | (at_builtin; refine wpList_append_str rfl _ _ rfl w.heap.size (.slice none 0 0) 0 [] rfl (World.ownsRow_nil _ _ _ _) ⟨#[116, 114, 117, 101]⟩ rfl (by decide) (by decide) (Nat.le_refl _) ?_; intro v' w' hr hg; have HR := Lib.hid hr; have HG := Lib.hid ((Ext.refl w).grown hg (fun k hk => by simp [Value.ownBlock] at hk)); clear hr hg))
      go_ret
      exact Ret.mk HG.out HR.out)
  go_enter Tryd.func58, Tryd.ntmps58
  go_wp2_with fail
  refine HIN.out.mono ?_
  rintro e w2 ⟨x, rfl, he, hr⟩
  have HE := Lib.hid he; have HR := Lib.hid hr
  clear he hr
  go_wp2_with fail
  go_ret
  exact Ret.mk HE.out HR.out
/-- The table that strconv reads, in every world that only grew. -/
def TabE (w : World) : Prop := Lib.TabBelow Tryd.prog w.heap.size w "internal/strconv.uint64pow10" .u64 Lib.pow10Tab
theorem TabE.fore {w w' : World} (h : TabE w) (he : Ext w w') : TabE w' := fun w'' h'' => h w'' (he.trans h'')
/-- The buffer of key: the captured variable, and the row. -/
structure KeI (w wr : World) (g : Nat) (v : Value) (bs : List UInt8) : Prop where
  bk : Bk wr g 105 [v]
  row : wr.ownsRow w.heap.size 5 1 v bs.length (Lib.byteCells bs)
  ext : Ext w wr
/-- What is neither the variable nor a row of bytes stays. -/
def KF (g : Nat) (w w' : World) : Prop := ∀ k t l, k ≠ g → t ≠ 5 → Bk w k t l → Bk w' k t l
theorem KF.refl (g : Nat) (w : World) : KF g w w := fun _ _ _ _ _ h => h
theorem KF.trans {g : Nat} {a b c : World} (h : KF g a b) (k : KF g b c) : KF g a c := fun i t l h1 h2 h3 => k i t l h1 h2 (h i t l h1 h2 h3)
theorem KF.of_ext {g : Nat} {w w' : World} (h : Ext w w') : KF g w w' := fun _ _ _ _ _ hb => hb.ext h
theorem KF.of_others {g : Nat} {w w' : World} (h : Lib.OthersKept 5 none w w') : KF g w w' := fun k t l _ h2 hb => h k _ hb (by simp) (fun c fz e => by injection e with _ e _; exact h2 e)
theorem KF.of_own {g base n : Nat} {w w' : World} {v : Value} {xs : List Value} (hr : w.ownsRow base 5 1 v n xs) (hg : w.grownBy w' v.ownBlock) : KF g w w' := fun k t l _ h2 hb => hb.fr (grown_fr hg) (fun e => own_bk hr hb (fun e' => h2 e'.symm) e rfl)
theorem KF.set (g : Nat) (w : World) (u : Value) : KF g w (w.setCell ⟨g, 0, none⟩ u) := fun k t l h1 _ hb => hb.far (p := ⟨g, 0, none⟩) h1 u
theorem KeI.upd {w X : World} {g : Nat} {v0 v' : Value} {bs : List UInt8} (hb : Bk X g 105 [v0]) (hr : X.ownsRow w.heap.size 5 1 v' bs.length (Lib.byteCells bs)) (he : Ext w X) (hg : w.heap.size ≤ g) : KeI w (X.setCell ⟨g, 0, none⟩ v') g v' bs :=
  have hset : Fr (fun k => k = g) X (X.setCell ⟨g, 0, none⟩ v') := Fr.setCell (S := fun k => k = g) (Fr.refl _ X) (p := ⟨g, 0, none⟩) (.inl rfl) _
  ⟨hb.set 0 _, own_fr hr hset (fun k hk e => by subst e; exact own_bk hr hb (by decide) hk rfl), hset.new he (fun k hk => by omega)⟩
theorem bytes_app (a b : List UInt8) : Lib.byteCells (a ++ b) = Lib.byteCells a ++ Lib.byteCells b := by simp [Lib.byteCells]
def textB (s : ByteArray) : List UInt8 := Lib.itoa (s.size : Int) ++ [58] ++ s.data.toList
theorem strC (s : ByteArray) : Lib.strCells s = Lib.byteCells s.data.toList := rfl
set_option maxRecDepth 20000 in
set_option maxHeartbeats 1600000 in
theorem key1_any {w wr : World} {g : Nat} {v : Value} {bs : List UInt8} {s : ByteArray} (h : KeI w wr g v bs) (htab : TabE w) (hg : w.heap.size ≤ g) (hl : bs.length ≤ 1000000000000) (hs : s.size ≤ 1048576) :
    Calls Tryd.prog 59 #[.string s, .pointer (some ⟨g, 0, none⟩)] wr (fun e w' => e = .returned (.tuple #[]) ∧ KF g wr w' ∧ ∃ v', KeI w w' g v' (bs ++ textB s)) := by
  obtain ⟨A, c, rfl⟩ := own_slice h.row
  have d0 := h.bk.cell (i := 0) (by simp)
  simp only [List.getElem_cons_zero] at d0
  have HH := Lib.hid h; have HT := Lib.hid htab
  have hwr : w.heap.size ≤ wr.heap.size := h.ext.size
  have hil : (Lib.itoa (s.size : Int)).length ≤ 21 := Lib.itoa_length_le _ (by omega) (by omega)
  obtain ⟨nb, hnb⟩ : ∃ nb, nb = bs.length := ⟨_, rfl⟩
  rw [← hnb] at d0 hl
  have HNB := Lib.hid hnb
  obtain ⟨ns, hns⟩ : ∃ ns, ns = s.size := ⟨_, rfl⟩
  have hnI : (s.size : Int) = (ns : Int) := by rw [hns]
  rw [← hns] at hs
  have HNS := Lib.hid hns
  clear h htab hnb hns
  obtain ⟨i0, hi0, hz0, hz1, hz2⟩ := info_parts info_u8
  have HI0 := Lib.hid (And.intro hi0 (And.intro hz0 (And.intro hz1 hz2))); clear hi0 hz0 hz1 hz2
  go_enter Tryd.func59, Tryd.ntmps59
  go_wp2_with fail
  refine (Tryd.strconv_AppendInt_10 w.heap.size nb (ns : Int) (by omega) (by omega) (.slice A nb c) (Lib.byteCells bs) wr (by rw [HNB.out]; exact HH.out.row) hwr (by omega) (HT.out.on HH.out.ext)).mono ?_
  rintro e w1 ⟨v1, rfl, hr1, hb1, ho1⟩
  obtain ⟨A1, c1, rfl⟩ := own_slice hr1
  have hx1 : Ext w w1 := Below.trans HH.out.ext hb1
  have kf1 : KF g wr w1 := KF.of_others ho1
  have bk1 : Bk w1 g 105 [.slice A nb c] := ho1 g _ (by rw [HNB.out]; exact HH.out.bk) (by simp) (fun c fz e => by injection e with _ e _; exact absurd e (by decide))
  obtain ⟨t1, ht1⟩ : ∃ t1, t1 = Lib.itoa (ns : Int) := ⟨_, rfl⟩
  rw [← ht1] at hr1 ⊢
  rw [hnI, ← ht1] at hil
  have HT1 := Lib.hid ht1
  obtain ⟨m1, hm1⟩ : ∃ m1, m1 = nb + t1.length := ⟨_, rfl⟩
  rw [← hm1] at hr1 ⊢
  have hr1' : w1.ownsRow w.heap.size 5 1 (.slice A1 m1 c1) (bs ++ t1).length (Lib.byteCells (bs ++ t1)) := by
    rw [bytes_app, List.length_append, ← HNB.out, ← hm1]; exact hr1
  have K1 := KeI.upd bk1 hr1' hx1 hg
  have HKF1 := Lib.hid (kf1.trans (KF.set g w1 (.slice A1 m1 c1)))
  have e0 := bk1.cell (i := 0) (by simp)
  have f0 := bk1.free 0
  simp only [List.getElem_cons_zero] at e0
  have hm1b : m1 ≤ 1000000000100 := by omega
  have HM1 := Lib.hid hm1
  have HK1 := Lib.hid K1
  clear ht1 hr1 hr1' hb1 ho1 hx1 kf1 bk1 hm1 K1 d0 hnI
  go_upto_region 1 with fail
  generalize w1.setCell ⟨g, 0, none⟩ (.slice A1 m1 c1) = X1 at *
  clear e0 f0
  have d1 := HK1.out.bk.cell (i := 0) (by simp)
  simp only [List.getElem_cons_zero] at d1
  have hX1 : w.heap.size ≤ X1.heap.size := HK1.out.ext.size
  have hgX : g < X1.heap.size := HK1.out.bk.lt
  have HM1L : Hid (m1 = (bs ++ t1).length) := Lib.hid (by rw [List.length_append, ← HNB.out]; exact HM1.out)
  have HR1m : Hid (X1.ownsRow w.heap.size 5 1 (.slice A1 m1 c1) m1 (Lib.byteCells (bs ++ t1))) := Lib.hid (by have h := HK1.out.row; rw [← HM1L.out] at h; exact h)
  go_upto_region 2 with (first | (at_builtin; refine wpList_append_at rfl _ _ 105 rfl w.heap.size 5 i0 (.int .u8 0) 1 1 Tryd.underlying105 HI0.out.1 HI0.out.2.1 HI0.out.2.2.1 HI0.out.2.2.2 rfl (by omega) _ m1 (Lib.byteCells (bs ++ t1)) rfl (HR1m.out.alloc _) ⟨X1.heap.size, 0, none⟩ 1 1 [.int .u8 58] rfl rfl (laid_news X1 _ _) (by simp [Value.oneCell']) (by simp only [maxLen]; omega) (by omega) (by simp; omega) ?_; intro v2 w2 hr2 hg2 hl2; obtain ⟨A2, c2, rfl⟩ := own_slice hr2; have bk2 : Bk w2 g 105 [.slice A1 m1 c1] := Bk.fr (HK1.out.bk.alloc _) (grown_fr hg2) (fun e => own_bk HK1.out.row HK1.out.bk (by decide) e rfl); have b2 := bk2.cell (i := 0) (by simp); have f2 := bk2.free 0; simp only [List.getElem_cons_zero] at b2; have HR2 := Lib.hid hr2; have HG2 := Lib.hid hg2; have HB2 := Lib.hid bk2; clear hr2 hg2 hl2 bk2))
  have hr2' : w2.ownsRow w.heap.size 5 1 (.slice A2 (m1 + 1) c2) (bs ++ t1 ++ [58]).length (Lib.byteCells (bs ++ t1 ++ [58])) := by
    have h := HR2.out
    rw [bytes_app, List.length_append, ← HM1L.out]; exact h
  have hx2 : Ext w w2 := (HK1.out.ext.alloc _).grown HG2.out (fun k hk => (HK1.out.row.lt k hk).1)
  have K2 := KeI.upd HB2.out hr2' hx2 hg
  have HKF2 := Lib.hid (((HKF1.out.trans (KF.of_ext ((Ext.refl X1).alloc _))).trans (KF.of_own (g := g) (HK1.out.row.alloc _) HG2.out)).trans (KF.set g w2 (.slice A2 (m1 + 1) c2)))
  have HK2 := Lib.hid K2
  clear hr2' hx2 K2 b2 f2 d1 hX1 hgX
  generalize w2.setCell ⟨g, 0, none⟩ (.slice A2 (m1 + 1) c2) = X2 at *
  have d2 := HK2.out.bk.cell (i := 0) (by simp)
  simp only [List.getElem_cons_zero] at d2
  have hX2 : w.heap.size ≤ X2.heap.size := HK2.out.ext.size
  have HM2L : Hid (m1 + 1 = (bs ++ t1 ++ [58]).length) := Lib.hid (by rw [List.length_append, ← HM1L.out]; rfl)
  have HR2m : Hid (X2.ownsRow w.heap.size 5 1 (.slice A2 (m1 + 1) c2) (m1 + 1) (Lib.byteCells (bs ++ t1 ++ [58]))) := Lib.hid (by have h := HK2.out.row; rw [← HM2L.out] at h; exact h)
  have hns2 : s.size ≤ 1048576 := by rw [← HNS.out]; exact hs
  go_wp2_with (first | (at_builtin; refine wpList_append_str rfl _ _ rfl w.heap.size _ (m1 + 1) (Lib.byteCells (bs ++ t1 ++ [58])) rfl HR2m.out s rfl (by simp only [maxLen]; omega) (by omega) hX2 ?_; intro v3 w3 hr3 hg3; obtain ⟨A3, c3, rfl⟩ := own_slice hr3; have bk3 : Bk w3 g 105 [.slice A2 (m1 + 1) c2] := Bk.fr HK2.out.bk (grown_fr hg3) (fun e => own_bk HK2.out.row HK2.out.bk (by decide) e rfl); have b3 := bk3.cell (i := 0) (by simp); have f3 := bk3.free 0; simp only [List.getElem_cons_zero] at b3; have HR3 := Lib.hid hr3; have HG3 := Lib.hid hg3; have HB3 := Lib.hid bk3; clear hr3 hg3 bk3))
  have hr3' : w3.ownsRow w.heap.size 5 1 (.slice A3 (m1 + 1 + s.size) c3) (bs ++ textB s).length (Lib.byteCells (bs ++ textB s)) := by
    have h := HR3.out
    rw [strC, ← bytes_app] at h
    have e : bs ++ textB s = bs ++ t1 ++ [58] ++ s.data.toList := by rw [textB, ← HNS.out, ← HT1.out]; simp [List.append_assoc]
    have el : (bs ++ t1 ++ [58] ++ s.data.toList).length = m1 + 1 + s.size := by rw [List.length_append, ← HM2L.out, Array.length_toList]; rfl
    rw [e, el]; exact h
  have hx3 : Ext w w3 := HK2.out.ext.grown HG3.out (fun k hk => (HK2.out.row.lt k hk).1)
  refine bodyPost_end (results_none rfl _ _ _) rfl ⟨rfl, ?_, _, KeI.upd HB3.out hr3' hx3 hg⟩
  exact (HKF2.out.trans (KF.of_own (g := g) HK2.out.row HG3.out)).trans (KF.set g w3 _)
/-- The text of an atom. -/
def termB (t : Tm) : List UInt8 := textB t.var ++ textB t.str ++ Lib.itoa t.kind ++ [44] ++ Lib.itoa t.int ++ [59]
def keyB (ng : Bool) (rl : ByteArray) (ts : List Tm) : List UInt8 := boolT ng ++ textB rl ++ ts.flatMap termB
/-- A number, appended. -/
theorem KeI.num {w wr : World} {g : Nat} {A : Option Addr} {m c : Nat} {bs : List UInt8} {i : Int} (h : KeI w wr g (.slice A m c) bs) (htab : TabE w) (hg : w.heap.size ≤ g) (hl : bs.length ≤ 1000000000000) (h0 : -9223372036854775808 ≤ i) (h1 : i ≤ 9223372036854775807) :
    Calls Tryd.prog 60 #[.slice A m c, .int .i64 i, .int .i64 10] wr (fun e w' => ∃ v', e = .returned v' ∧ Bk w' g 105 [.slice A m c] ∧ KF g wr w' ∧ (∃ A' m' c', v' = .slice A' m' c') ∧ KeI w (w'.setCell ⟨g, 0, none⟩ v') g v' (bs ++ Lib.itoa i)) := by
  have hm : m = bs.length := by
    obtain ⟨A', c', e⟩ := own_slice h.row
    injection e
  refine (Tryd.strconv_AppendInt_10 w.heap.size m i h0 h1 (.slice A m c) (Lib.byteCells bs) wr (by rw [hm]; rw [hm] at h; exact h.row) h.ext.size (by omega) (htab.on h.ext)).mono ?_
  rintro e w1 ⟨v1, rfl, hr1, hb1, ho1⟩
  obtain ⟨A1, c1, rfl⟩ := own_slice hr1
  have bk1 : Bk w1 g 105 [.slice A m c] := ho1 g _ h.bk (by simp) (fun c fz e => by injection e with _ e _; exact absurd e (by decide))
  refine ⟨_, rfl, bk1, KF.of_others ho1, ⟨_, _, _, rfl⟩, KeI.upd bk1 ?_ (Below.trans h.ext hb1) hg⟩
  rw [bytes_app, List.length_append, ← hm]; exact hr1
theorem KeI.chr {w X w2 : World} {g m c A2m c2 : Nat} {A A2 : Option Addr} {bs : List UInt8} {ch : UInt8} (h : KeI w X g (.slice A m c) bs) (hg : w.heap.size ≤ g) (o : Obj) (hm : A2m = m + 1) (hr : w2.ownsRow w.heap.size 5 1 (.slice A2 A2m c2) (m + 1) (Lib.byteCells bs ++ [.int .u8 (ch.toNat : Int)])) (hgr : (X.alloc o).grownBy w2 (Value.slice A m c).ownBlock) :
    Bk w2 g 105 [.slice A m c] ∧ KF g X (w2.setCell ⟨g, 0, none⟩ (.slice A2 A2m c2)) ∧ KeI w (w2.setCell ⟨g, 0, none⟩ (.slice A2 A2m c2)) g (.slice A2 A2m c2) (bs ++ [ch]) := by
  have hmb : m = bs.length := by
    obtain ⟨A', c', e⟩ := own_slice h.row
    injection e
  have hrow : (X.alloc o).ownsRow w.heap.size 5 1 (.slice A m c) bs.length (Lib.byteCells bs) := h.row.alloc o
  have bk2 : Bk w2 g 105 [.slice A m c] := Bk.fr (h.bk.alloc o) (grown_fr hgr) (fun e => own_bk h.row h.bk (by decide) e rfl)
  refine ⟨bk2, ((KF.of_ext ((Ext.refl X).alloc o)).trans (KF.of_own (g := g) hrow hgr)).trans (KF.set g w2 _), KeI.upd bk2 ?_ ((h.ext.alloc o).grown hgr (fun k hk => (h.row.lt k hk).1)) hg⟩
  rw [bytes_app, List.length_append, ← hmb]
  exact hr
theorem KeI.len {w X : World} {g m c : Nat} {A : Option Addr} {bs : List UInt8} (h : KeI w X g (.slice A m c) bs) : m = bs.length := by
  obtain ⟨A', c', e⟩ := own_slice h.row
  injection e
theorem KeI.fore {w X X' : World} {g : Nat} {v : Value} {bs : List UInt8} (h : KeI w X g v bs) (he : Ext X X') : KeI w X' g v bs := ⟨h.bk.ext he, own_fr h.row (he.fr (fun _ => False)) (fun _ _ h => h), h.ext.trans he⟩
theorem KeI.sl {w X : World} {g : Nat} {v : Value} {bs : List UInt8} (h : KeI w X g v bs) : ∃ A c, v = .slice A bs.length c := own_slice h.row
/-- What key wants of a term. -/
structure TOk (t : Tm) : Prop where
  var : t.var.size ≤ 1048576
  str : t.str.size ≤ 1048576
  k0 : -9223372036854775808 ≤ t.kind
  k1 : t.kind ≤ 9223372036854775807
  i0 : -9223372036854775808 ≤ t.int
  i1 : t.int ≤ 9223372036854775807
theorem textB_len {s : ByteArray} (h : s.size ≤ 1048576) : (textB s).length ≤ 1048600 := by
  have h1 := Lib.itoa_length_le (s.size : Int) (by omega) (by omega)
  have h2 : s.data.toList.length = s.size := Array.length_toList
  simp only [textB, List.length_append, h2, List.length_cons, List.length_nil]
  omega
theorem termB_len {t : Tm} (h : TOk t) : (termB t).length ≤ 2200000 := by
  have h1 := textB_len h.var
  have h2 := textB_len h.str
  have h3 := Lib.itoa_length_le t.kind h.k0 h.k1
  have h4 := Lib.itoa_length_le t.int h.i0 h.i1
  simp only [termB, List.length_append, List.length_cons, List.length_nil]
  omega
theorem terms_len : ∀ {l : List Tm}, (∀ t ∈ l, TOk t) → (l.flatMap termB).length ≤ l.length * 2200000
  | [], _ => by simp
  | t :: l, h => by
    have h1 := termB_len (h t (by simp))
    have h2 := terms_len (l := l) (fun u hu => h u (by simp [hu]))
    simp only [List.flatMap_cons, List.length_append, List.length_cons]
    omega
theorem push_fold : ∀ (l : List UInt8) (r : ByteArray), (l.map (fun b => (b.toNat : Int))).foldl (fun r n => r.push (UInt8.ofNat n.toNat)) r = ⟨r.data ++ l.toArray⟩
  | [], r => by simp
  | b :: l, r => by
    simp only [List.map_cons, List.foldl_cons]
    rw [push_fold l]
    simp [ByteArray.push]
theorem conv_bytes {w : World} {base c : Nat} {A : Option Addr} {bs : List UInt8} (h : w.ownsRow base 5 1 (.slice A bs.length c) bs.length (Lib.byteCells bs)) (hne : 0 < bs.length) :
    (convert 105 9 (.slice A bs.length c)).run Tryd.prog w = .ok (.string ⟨bs.toArray⟩) w := by
  rw [run_convert_bytes_string _ _ _ 5 _ _ _ Tryd.underlying105 Tryd.underlying5 Tryd.underlying9]
  rcases h.2 with ⟨e, e2⟩ | ⟨g, cap, cur, e, -, hc, -⟩
  · omega
  · injection e with e1 e2 e3
    subst e1 e3
    have hcells := h.cells (g := g) rfl
    have hb : Lib.byteCells bs = (bs.map (fun b => (b.toNat : Int))).map (Value.int .u8) := by simp [Lib.byteCells]
    rw [hb] at hcells
    have hl := run_loadCells_list (P := Tryd.prog) w ⟨g, 0, none⟩ ((bs.map (fun b => (b.toNat : Int))).map (Value.int .u8)) hcells
    rw [List.length_map, List.length_map] at hl
    rw [run_bytesToString _ _ _ _ (bs.map (fun b => (b.toNat : Int))) hl, push_fold]
    simp
set_option maxRecDepth 20000 in
set_option maxHeartbeats 3200000 in
theorem key_any {F : Nat → Prop} {w : World} {ng : Bool} {rl : ByteArray} {B : Option Addr} {d : Nat} {ts : List Tm} (hcl : Cl F w B (tcells ts)) (hd : ts.length ≤ d) (hl : ts.length ≤ 1000) (hrl : rl.size ≤ 1048576) (ht : ∀ t ∈ ts, TOk t) (htab : TabE w) :
    Calls Tryd.prog 49 #[.agg #[.bool ng, .string rl, .slice B ts.length d]] w (Ret (fun x _ => x = .string ⟨(keyB ng rl ts).toArray⟩) w) := by
  obtain ⟨nt, hnt⟩ : ∃ nt, nt = ts.length := ⟨_, rfl⟩
  rw [← hnt] at hd hl ⊢
  have HNT := Lib.hid hnt; have HCL := Lib.hid hcl; have HTS := Lib.hid ht; have HTAB := Lib.hid htab
  clear hnt hcl ht htab
  obtain ⟨i0, hi0, hz0, hz1, hz2⟩ := info_parts info_u8
  have HI0 := Lib.hid (And.intro hi0 (And.intro hz0 (And.intro hz1 hz2))); clear hi0 hz0 hz1 hz2
  go_enter Tryd.func49, Tryd.ntmps49
  go_wp2_with fail
  have hx1 : Ext w (w.alloc (.cells #[.bool ng, .string rl, .slice B nt d] 39)) := (Ext.refl w).alloc _
  have kx := Bk.new w 39 [.bool ng, .string rl, .slice B nt d]
  change Bk (w.alloc (.cells #[.bool ng, .string rl, .slice B nt d] 39)) _ _ _ at kx
  generalize (w.alloc (.cells #[.bool ng, .string rl, .slice B nt d] 39)) = w1 at *
  refine (appendBool ng).mono ?_
  rintro e w2 ⟨v2, rfl, he2, hr2⟩
  obtain ⟨A2, c2, rfl⟩ := own_slice hr2
  have kx2 := kx.ext he2
  have a1 := kx2.cell (i := 1) (by simp)
  have hlt2 := kx2.lt
  simp only [List.getElem_cons_zero, List.getElem_cons_succ] at a1
  obtain ⟨m2, hm2⟩ : ∃ m2, m2 = (boolT ng).length := ⟨_, rfl⟩
  have HM2 := Lib.hid hm2
  rw [← hm2]
  have HKX2 := Lib.hid kx2
  have K2 : KeI w (w2.alloc (.cells #[.slice A2 m2 c2] 105)) w2.heap.size (.slice A2 m2 c2) (boolT ng) := by
    refine ⟨Bk.new w2 _ [.slice A2 m2 c2], ?_, (hx1.trans he2).alloc _⟩
    rw [hm2]
    exact (own_base hr2 hx1.size).alloc _
  have HK2 := Lib.hid K2
  have hgw : w.heap.size ≤ w2.heap.size := (hx1.trans he2).size
  clear hx1 kx he2 hr2 kx2 K2 hm2
  go_wp2_with fail
  have kx3 := HKX2.out.alloc (.cells #[.slice A2 m2 c2] 105)
  generalize (w2.alloc (.cells #[.slice A2 m2 c2] 105)) = w3 at *
  obtain ⟨g, hg⟩ : ∃ g, g = w2.heap.size := ⟨_, rfl⟩
  rw [← hg] at HK2 hgw hlt2 ⊢
  clear hg
  have hbl : (boolT ng).length ≤ 5 := by cases ng <;> decide
  refine (key1_any HK2.out HTAB.out hgw (by omega) hrl).mono ?_
  rintro e w4 ⟨rfl, hkf4, v4, hk4⟩
  have kx4 := hkf4 w.heap.size _ _ (by omega) (by decide) kx3
  have b2 := kx4.cell (i := 2) (by simp)
  simp only [List.getElem_cons_zero, List.getElem_cons_succ] at b2
  have HK4 := Lib.hid hk4
  clear kx3 hkf4 hk4 a1 kx4
  go_wp2_with fail
  clear b2
  go_loopw [18] (fun q wr => ∃ (j : Nat) (v : Value), j ≤ nt ∧ q = .int .i64 (j : Int) ∧ KeI w wr g v (boolT ng ++ textB rl ++ (ts.take j).flatMap termB)) (fun q _ => nt - (intOf q).toNat)
  case atStart => exact ⟨0, v4, Nat.zero_le _, rfl, by simpa using HK4.out⟩
  case round =>
    obtain ⟨j, v, hj, rfl, hJ⟩ := hrel
    by_cases hlt : j < nt
    · have j1 : (0 : Int) ≤ (j : Int) := by omega
      have j2 : (j : Int) < (nt : Int) := by omega
      have hjt : j < ts.length := by have := HNT.out; omega
      obtain ⟨ad, rfl, -, d0, d1, d2, d3⟩ := HCL.out.term (i := j) hjt
      replace d0 := hJ.ext.cell d0
      replace d1 := hJ.ext.cell d1
      replace d2 := hJ.ext.cell d2
      replace d3 := hJ.ext.cell d3
      have hto := HTS.out _ (List.getElem_mem hjt)
      have etk : (ts.take (j + 1)).flatMap termB = (ts.take j).flatMap termB ++ termB ts[j] := by rw [List.take_succ_eq_append_getElem hjt, List.flatMap_append]; simp
      obtain ⟨x, hx⟩ : ∃ x, x = ts[j] := ⟨_, rfl⟩
      rw [← hx] at d0 d1 d2 d3 hto etk
      obtain ⟨bs, hbs⟩ : ∃ bs, bs = boolT ng ++ textB rl ++ (ts.take j).flatMap termB := ⟨_, rfl⟩
      have hbl2 : bs.length ≤ 3000000000 := by
        have h1 := textB_len hrl
        have h2 := terms_len (l := ts.take j) (fun t ht => HTS.out t (List.mem_of_mem_take ht))
        rw [hbs]
        simp only [List.length_append, List.length_take] at h2 ⊢
        omega
      rw [← hbs] at hJ
      have HNEXT : Hid (boolT ng ++ textB rl ++ (ts.take (j + 1)).flatMap termB = bs ++ termB x) := Lib.hid (by rw [etk, hbs]; simp only [List.append_assoc])
      have HJ := Lib.hid hJ; have HTO := Lib.hid hto
      have kt := Bk.new wr 66 [.string x.var, .int .i64 x.kind, .int .i64 x.int, .string x.str]
      change Bk (wr.alloc (.cells #[.string x.var, .int .i64 x.kind, .int .i64 x.int, .string x.str] 66)) _ _ _ at kt
      have HJ1 := Lib.hid (hJ.fore ((Ext.refl wr).alloc (.cells #[.string x.var, .int .i64 x.kind, .int .i64 x.int, .string x.str] 66)))
      have hgr : g < wr.heap.size := hJ.bk.lt
      clear hx etk hbs hJ hto
      go_wp2_with fail
      generalize (wr.alloc (.cells #[.string x.var, .int .i64 x.kind, .int .i64 x.int, .string x.str] 66)) = X0 at *
      obtain ⟨h6, hh6⟩ : ∃ h6, h6 = wr.heap.size := ⟨_, rfl⟩
      rw [← hh6] at kt hgr ⊢
      clear hh6 d0 d1 d2 d3
      refine (key1_any HJ1.out HTAB.out hgw (by omega) HTO.out.var).mono ?_
      rintro e X1 ⟨rfl, hkf1, v1, hk1⟩
      replace kt := hkf1 h6 _ _ (by omega) (by decide) kt
      have s3 := kt.cell (i := 3) (by simp)
      simp only [List.getElem_cons_zero, List.getElem_cons_succ] at s3
      have hv1 := textB_len HTO.out.var
      have HK1 := Lib.hid hk1
      clear hkf1 hk1
      go_wp2_with fail
      refine (key1_any HK1.out HTAB.out hgw (by rw [List.length_append]; omega) HTO.out.str).mono ?_
      rintro e X2 ⟨rfl, hkf2, v2', hk2⟩
      replace kt := hkf2 h6 _ _ (by omega) (by decide) kt
      have s1 := kt.cell (i := 1) (by simp)
      obtain ⟨A3, c3, rfl⟩ := hk2.sl
      have z2 := hk2.bk.cell (i := 0) (by simp)
      simp only [List.getElem_cons_zero, List.getElem_cons_succ] at s1 z2
      have hv2 := textB_len HTO.out.str
      obtain ⟨b2, hb2⟩ : ∃ b2, b2 = bs ++ textB x.var ++ textB x.str := ⟨_, rfl⟩
      rw [← hb2] at hk2 z2
      have hl2 : b2.length ≤ 4000000000 := by rw [hb2]; simp only [List.length_append]; omega
      obtain ⟨m2', hm2'⟩ : ∃ m2', m2' = b2.length := ⟨_, rfl⟩
      rw [← hm2'] at hk2 z2
      have HK2' := Lib.hid hk2; have HB2 := Lib.hid hb2
      clear hkf2 hk2 hb2 hm2' s3
      go_wp2_with fail
      refine (HK2'.out.num HTAB.out hgw (by omega) HTO.out.k0 HTO.out.k1).mono ?_
      rintro e X3 ⟨v3, rfl, bk3, hkf3, ⟨A4, m4, c4, rfl⟩, hk3⟩
      have z3 := bk3.cell (i := 0) (by simp)
      have f3 := bk3.free 0
      simp only [List.getElem_cons_zero] at z3
      have HK3 := Lib.hid hk3
      have HKT3 := Lib.hid ((hkf3.trans (KF.set g X3 (.slice A4 m4 c4))) h6 _ _ (by omega) (by decide) kt)
      clear hk3 hkf3 bk3 kt s1 z2
      go_upto_region 10 with fail
      generalize X3.setCell ⟨g, 0, none⟩ (.slice A4 m4 c4) = Y3 at *
      have hkl := Lib.itoa_length_le x.kind HTO.out.k0 HTO.out.k1
      obtain ⟨b3, hb3⟩ : ∃ b3, b3 = b2 ++ Lib.itoa x.kind := ⟨_, rfl⟩
      rw [← hb3] at HK3
      have hl3 : b3.length ≤ 4000000100 := by rw [hb3, List.length_append]; omega
      have HB3 := Lib.hid hb3
      have hm4 : m4 = b3.length := HK3.out.len
      have HR3 : Hid (Y3.ownsRow w.heap.size 5 1 (.slice A4 m4 c4) m4 (Lib.byteCells b3)) := Lib.hid (by have h := HK3.out.row; rw [← hm4] at h; exact h)
      have hm4b : m4 ≤ 4000000100 := by omega
      have y3 := HK3.out.bk.cell (i := 0) (by simp)
      simp only [List.getElem_cons_zero] at y3
      have hY3 : w.heap.size ≤ Y3.heap.size := HK3.out.ext.size
      have hgY3 : g < Y3.heap.size := HK3.out.bk.lt
      clear hb3 hm4 z3 f3
      go_upto_region 11 with (first | (at_builtin; refine wpList_append_at rfl _ _ 105 rfl w.heap.size 5 i0 (.int .u8 0) 1 1 Tryd.underlying105 HI0.out.1 HI0.out.2.1 HI0.out.2.2.1 HI0.out.2.2.2 rfl (by omega) _ m4 (Lib.byteCells b3) rfl (HR3.out.alloc _) ⟨Y3.heap.size, 0, none⟩ 1 1 [.int .u8 44] rfl rfl (laid_news Y3 _ _) (by simp [Value.oneCell']) (by simp only [maxLen]; omega) (by omega) (by simp; omega) ?_; intro vq wq hrq hgq hlq; obtain ⟨A5, c5, rfl⟩ := own_slice hrq; obtain ⟨bkq, kfq, keq⟩ := KeI.chr (ch := 44) HK3.out hgw _ rfl hrq hgq; have zq := bkq.cell (i := 0) (by simp); have fq := bkq.free 0; simp only [List.getElem_cons_zero] at zq; have HKQ := Lib.hid keq; have HFQ := Lib.hid kfq; clear hrq hgq hlq bkq kfq keq))
      have HKT4 := Lib.hid (HFQ.out h6 _ _ (by omega) (by decide) HKT3.out)
      generalize wq.setCell ⟨g, 0, none⟩ (.slice A5 (m4 + 1) c5) = Y4 at *
      have y4 := HKQ.out.bk.cell (i := 0) (by simp)
      have s2 := HKT4.out.cell (i := 2) (by simp)
      simp only [List.getElem_cons_zero, List.getElem_cons_succ] at y4 s2
      clear y3 zq fq hY3 hgY3
      go_wp2_with fail
      refine (HKQ.out.num HTAB.out hgw (by rw [List.length_append]; simp; omega) HTO.out.i0 HTO.out.i1).mono ?_
      rintro e X5 ⟨v5, rfl, bk5, hkf5, ⟨A6, m6, c6, rfl⟩, hk5⟩
      have z5 := bk5.cell (i := 0) (by simp)
      have f5 := bk5.free 0
      simp only [List.getElem_cons_zero] at z5
      have HK5 := Lib.hid hk5
      clear hk5 hkf5 bk5 s2 y4
      go_upto_region 12 with fail
      generalize X5.setCell ⟨g, 0, none⟩ (.slice A6 m6 c6) = Y5 at *
      have hil := Lib.itoa_length_le x.int HTO.out.i0 HTO.out.i1
      obtain ⟨b5, hb5⟩ : ∃ b5, b5 = b3 ++ [44] ++ Lib.itoa x.int := ⟨_, rfl⟩
      rw [← hb5] at HK5
      have hl5 : b5.length ≤ 4000000200 := by rw [hb5, List.length_append, List.length_append]; simp; omega
      have HB5 := Lib.hid hb5
      have hm6 : m6 = b5.length := HK5.out.len
      have HR5 : Hid (Y5.ownsRow w.heap.size 5 1 (.slice A6 m6 c6) m6 (Lib.byteCells b5)) := Lib.hid (by have h := HK5.out.row; rw [← hm6] at h; exact h)
      have hm6b : m6 ≤ 4000000200 := by omega
      have y5 := HK5.out.bk.cell (i := 0) (by simp)
      simp only [List.getElem_cons_zero] at y5
      have hY5 : w.heap.size ≤ Y5.heap.size := HK5.out.ext.size
      clear hb5 hm6 z5 f5
      go_wp2_with (first | (at_builtin; refine wpList_append_at rfl _ _ 105 rfl w.heap.size 5 i0 (.int .u8 0) 1 1 Tryd.underlying105 HI0.out.1 HI0.out.2.1 HI0.out.2.2.1 HI0.out.2.2.2 rfl (by omega) _ m6 (Lib.byteCells b5) rfl (HR5.out.alloc _) ⟨Y5.heap.size, 0, none⟩ 1 1 [.int .u8 59] rfl rfl (laid_news Y5 _ _) (by simp [Value.oneCell']) (by simp only [maxLen]; omega) (by omega) (by simp; omega) ?_; intro vr wz hrq hgq hlq; obtain ⟨A7, c7, rfl⟩ := own_slice hrq; obtain ⟨bkq, kfq, keq⟩ := KeI.chr (ch := 59) HK5.out hgw _ rfl hrq hgq; have zq := bkq.cell (i := 0) (by simp); have fq := bkq.free 0; simp only [List.getElem_cons_zero] at zq; have HKZ := Lib.hid keq; clear hrq hgq hlq bkq kfq keq))
      go_roundw
      case rel =>
        refine ⟨j + 1, .slice A7 (m6 + 1) c7, by omega, by go_num, ?_⟩
        rw [HNEXT.out]
        have e : bs ++ termB x = b5 ++ [59] := by rw [HB5.out, HB3.out, HB2.out, termB]; simp only [List.append_assoc]
        rw [e]
        exact HKZ.out
      case measure => simp [intOf]; omega
    · obtain rfl : j = nt := by omega
      have hdn : ¬ (j : Int) < (j : Int) := by omega
      have et : ts.take j = ts := by rw [HNT.out]; exact List.take_length
      rw [et] at hJ
      obtain ⟨bs, hbs⟩ : ∃ bs, bs = boolT ng ++ textB rl ++ ts.flatMap termB := ⟨_, rfl⟩
      rw [← hbs] at hJ
      have hne : 0 < bs.length := by rw [hbs]; simp only [List.length_append]; have : 4 ≤ (boolT ng).length := by cases ng <;> decide
                                     omega
      obtain ⟨Av, cv, rfl⟩ := hJ.sl
      have hconv := conv_bytes hJ.row hne
      have y0 := hJ.bk.cell (i := 0) (by simp)
      simp only [List.getElem_cons_zero] at y0
      have HJ := Lib.hid hJ; have HBS := Lib.hid hbs
      generalize bs.length = nb at *
      clear hJ hbs et hne
      go_wp2_with fail
      go_ret
      exact Ret.mk HJ.out.ext (by rw [keyB, ← HBS.out]; rfl)
def keyS (ng : Bool) (rl : ByteArray) (ts : List Tm) : ByteArray := ⟨(keyB ng rl ts).toArray⟩
def At.keyS (a : At) : ByteArray := Go.Proofs.YtehklbdgkppmeaaDoor.keyS a.neg a.rel a.terms
def repA (im : ByteArray → Option Tm) (a : At) : At := ⟨a.neg, a.rel, a.terms.map (repT im)⟩
def SeenI (ps : List (ByteArray × Tm)) (vs : List ByteArray) (i : Nat) : Prop := ∀ v ∈ vs.take i, (firstP ps v).isSome = true
theorem SeenI.step {ps : List (ByteArray × Tm)} {vs : List ByteArray} {i : Nat} (h : SeenI ps vs i) (hi : i < vs.length) (h1 : (firstP ps vs[i]).isSome = true) : SeenI ps vs (i + 1) := by
  intro v hv
  rw [List.take_succ_eq_append_getElem hi, List.mem_append] at hv
  rcases hv with hv | hv
  · exact h v hv
  · simp at hv; rw [hv]; exact h1
def HitI (ps : List (ByteArray × Tm)) (xs ys : List At) (i : Nat) : Prop := ∀ a ∈ xs.take i, (repA (firstP ps) a).keyS ∈ ys.map At.keyS
theorem HitI.step {ps : List (ByteArray × Tm)} {xs ys : List At} {i : Nat} (h : HitI ps xs ys i) (hi : i < xs.length) (h1 : (repA (firstP ps) xs[i]).keyS ∈ ys.map At.keyS) : HitI ps xs ys (i + 1) := by
  intro v hv
  rw [List.take_succ_eq_append_getElem hi, List.mem_append] at hv
  rcases hv with hv | hv
  · exact h v hv
  · simp at hv; rw [hv]; exact h1
/-- What the contracts below want of atoms. -/
structure AOk (xs : List At) : Prop where
  bd : Bd xs
  small : ∀ a ∈ xs, a.terms.length ≤ 1000
  terms : ∀ a ∈ xs, ∀ t ∈ a.terms, TOk t
theorem keyS_size {ng : Bool} {rl : ByteArray} {ts : List Tm} (hl : ts.length ≤ 1000) (hr : rl.size ≤ 1048576) (ht : ∀ t ∈ ts, TOk t) : (keyS ng rl ts).size ≤ maxLen := by
  have h1 := textB_len hr
  have h2 := terms_len ht
  have h3 : (boolT ng).length ≤ 5 := by cases ng <;> decide
  have e : (keyS ng rl ts).size = (keyB ng rl ts).length := by show (keyB ng rl ts).toArray.size = _; simp
  rw [e, keyB]
  simp only [List.length_append, maxLen]
  omega
theorem repT_ok {im : ByteArray → Option Tm} (him : ∀ s t, im s = some t → TOk t) {t : Tm} (h : TOk t) : TOk (repT im t) := by
  unfold repT
  split
  · exact h
  · rcases hi : im t.var with _ | u
    · exact h
    · exact him _ _ hi
theorem Cl.bk {w : World} {g : Nat} {t : TypeId} {xs : List Value} (h : Bk w g t xs) : Cl (fun _ => True) w (some ⟨g, 0, none⟩) xs := .inr ⟨_, rfl, trivial, fun j hj => by rw [add_own]; exact h.cell hj⟩
theorem firstP_mem {ps : List (ByteArray × Tm)} {s : ByteArray} {t : Tm} (h : firstP ps s = some t) : (s, t) ∈ ps := by
  have h0 : ∀ (ps : List (ByteArray × Tm)) (f : ByteArray → Option Tm), ps.foldl addP f s = some t → f s = some t ∨ (s, t) ∈ ps := by
    intro ps
    induction ps with
    | nil => intro f h; exact .inl h
    | cons p ps ih =>
      intro f h
      rcases ih (addP f p) h with h1 | h1
      · unfold addP at h1
        split at h1
        · exact .inl h1
        · unfold updT at h1
          split at h1
          · rename_i e; injection h1 with h1; subst e h1; exact .inr (by simp)
          · exact .inl h1
      · exact .inr (by simp [h1])
  rcases h0 ps _ h with h1 | h1
  · cases h1
  · exact h1
def Hom (im : ByteArray → Option Tm) (xs ys : List At) : Prop := ∀ a ∈ xs, ∃ b ∈ ys, a.rel = b.rel ∧ a.terms.map (repT im) = b.terms
def Sub (im im' : ByteArray → Option Tm) : Prop := ∀ s t, im s = some t → im' s = some t
theorem zip_full {im : ByteArray → Option Tm} : ∀ {ta tb : List Tm}, ta.length = tb.length → (∀ t ∈ ta, imgT im t = some (repT im t)) → (ta.zip tb).all (fun p => okB im p.1 p.2) = true → ta.map (repT im) = tb
  | [], [], _, _, _ => rfl
  | [], _ :: _, h, _, _ => by simp at h
  | _ :: _, [], h, _, _ => by simp at h
  | t :: ta, u :: tb, h, hi, hz => by
    simp only [List.zip_cons_cons, List.all_cons, Bool.and_eq_true] at hz
    have h1 := hz.1
    rw [okB, hi t (by simp)] at h1
    rw [List.map_cons, zip_full (by simpa using h) (fun t ht => hi t (by simp [ht])) hz.2, of_decide_eq_true h1]
theorem ag_full {im : ByteArray → Option Tm} {a b : At} (h : agB im a.rel a.terms b.rel b.terms = true) (hv : ∀ t ∈ a.terms, t.var ≠ ⟨#[]⟩ → (im t.var).isSome = true) : a.rel = b.rel ∧ a.terms.map (repT im) = b.terms := by
  unfold agB at h
  simp only [Bool.and_eq_true, decide_eq_true_eq] at h
  refine ⟨h.1.1, zip_full h.1.2 (fun t ht => ?_) h.2⟩
  unfold imgT repT
  by_cases e : t.var = ⟨#[]⟩
  · rw [if_pos e, if_pos e]
  · rw [if_neg e, if_neg e]
    obtain ⟨u, hu⟩ := Option.isSome_iff_exists.1 (hv t ht e)
    rw [hu]; rfl
theorem zip_of {im im' : ByteArray → Option Tm} (hs : Sub im im') : ∀ ta : List Tm, (ta.zip (ta.map (repT im'))).all (fun p => okB im p.1 p.2) = true
  | [] => rfl
  | t :: ta => by
    simp only [List.map_cons, List.zip_cons_cons, List.all_cons, Bool.and_eq_true]
    refine ⟨?_, zip_of hs ta⟩
    unfold okB imgT repT
    by_cases e : t.var = ⟨#[]⟩
    · rw [if_pos e, if_pos e]; simp
    · rw [if_neg e, if_neg e]
      rcases h : im t.var with _ | u
      · rfl
      · rw [hs _ _ h]; simp
theorem ag_of {im im' : ByteArray → Option Tm} (hs : Sub im im') {a b : At} (h1 : a.rel = b.rel) (h2 : a.terms.map (repT im') = b.terms) : agB im a.rel a.terms b.rel b.terms = true := by
  unfold agB
  rw [← h2, decide_eq_true h1, zip_of hs]
  simp
theorem poss_of {im im' : ByteArray → Option Tm} (hs : Sub im im') {xs ys : List At} (hh : Hom im' xs ys) (v : ByteArray) : possB im xs ys v = true := by
  unfold possB
  rw [List.all_eq_true]
  intro a ha
  obtain ⟨b, hb, h1, h2⟩ := hh a ha
  have : anyAg im a ys = true := List.any_eq_true.2 ⟨b, hb, ag_of hs h1 h2⟩
  rw [this]; simp
theorem foldV_mem {s : ByteArray} : ∀ (l : List Tm) (vs : List ByteArray), s ∈ l.foldl (fun vs t => addV vs t.var) vs ↔ s ∈ vs ∨ ∃ t ∈ l, t.var = s ∧ s ≠ ⟨#[]⟩
  | [], vs => by simp
  | t :: l, vs => by
    rw [List.foldl_cons, foldV_mem l (addV vs t.var)]
    have hA : s ∈ addV vs t.var ↔ s ∈ vs ∨ (t.var = s ∧ s ≠ ⟨#[]⟩) := by
      unfold addV
      by_cases e : t.var = ⟨#[]⟩ ∨ t.var ∈ vs
      · rw [if_pos e]
        constructor
        · exact .inl
        · rintro (h | ⟨h1, h2⟩)
          · exact h
          · rcases e with e | e
            · exact absurd (h1.symm.trans e) h2
            · rwa [h1] at e
      · rw [if_neg e, List.mem_append, List.mem_singleton]
        constructor
        · rintro (h | h)
          · exact .inl h
          · exact .inr ⟨h.symm, fun e2 => e (.inl (h.symm.trans e2))⟩
        · rintro (h | ⟨h1, _⟩)
          · exact .inl h
          · exact .inr h1.symm
    rw [hA]
    clear hA
    constructor
    · rintro ((h | h) | ⟨u, hu, h⟩)
      · exact .inl h
      · exact .inr ⟨t, by simp, h⟩
      · exact .inr ⟨u, by simp [hu], h⟩
    · rintro (h | ⟨u, hu, h⟩)
      · exact .inl (.inl h)
      · rcases List.mem_cons.1 hu with rfl | hu
        · exact .inl (.inr h)
        · exact .inr ⟨u, hu, h⟩
theorem varsT_iff {l : List Tm} {s : ByteArray} : s ∈ varsT l ↔ ∃ t ∈ l, t.var = s ∧ s ≠ ⟨#[]⟩ := by
  unfold varsT; rw [foldV_mem]; simp
theorem allT_iff {xs : List At} {t : Tm} : t ∈ allT xs ↔ ∃ a ∈ xs, t ∈ a.terms := by unfold allT; simp
theorem distT_iff {l : List Tm} {t : Tm} : t ∈ distT l ↔ t ∈ l := by
  have h : ∀ (l ts : List Tm), t ∈ l.foldl addD ts ↔ t ∈ ts ∨ t ∈ l := by
    intro l
    induction l with
    | nil => simp
    | cons u l ih =>
      intro ts
      rw [List.foldl_cons, ih]
      unfold addD
      split
      · rename_i e
        constructor
        · rintro (h | h)
          · exact .inl h
          · exact .inr (by simp [h])
        · rintro (h | h)
          · exact .inl h
          · rcases List.mem_cons.1 h with rfl | h
            · exact .inl e
            · exact .inr h
      · simp [or_assoc]
  unfold distT; rw [h]; simp
theorem firstP_map (g : ByteArray → Tm) (s : ByteArray) (vs : List ByteArray) : firstP (vs.map (fun v => (v, g v))) s = if s ∈ vs then some (g s) else none := by
  have h : ∀ (vs : List ByteArray) (f : ByteArray → Option Tm), (vs.map (fun v => (v, g v))).foldl addP f s = if (f s).isSome = true then f s else if s ∈ vs then some (g s) else none := by
    intro vs
    induction vs with
    | nil => intro f; rcases h : f s with _ | u <;> simp [h]
    | cons v vs ih =>
      intro f
      rw [List.map_cons, List.foldl_cons, ih]
      unfold addP
      by_cases e : (f v).isSome = true
      · rw [if_pos e]
        by_cases e2 : (f s).isSome = true
        · rw [if_pos e2, if_pos e2]
        · rw [if_neg e2, if_neg e2]
          have : s ≠ v := fun h => e2 (h ▸ e)
          simp [this]
      · rw [if_neg e]
        by_cases e3 : s = v
        · subst e3
          have : f s = none := by simpa using e
          simp [updT, this]
        · simp [updT, e3]
  unfold firstP
  rw [h]; simp
theorem rep_congr {im im' : ByteArray → Option Tm} {t : Tm} (h : t.var ≠ ⟨#[]⟩ → im t.var = im' t.var) : repT im t = repT im' t := by
  unfold repT
  by_cases e : t.var = ⟨#[]⟩
  · rw [if_pos e, if_pos e]
  · rw [if_neg e, if_neg e, h e]
theorem hom_cands {xs ys : List At} {im : ByteArray → Option Tm} (hh : Hom im xs ys) (ht : ∀ v ∈ varsT (allT xs), (im v).isSome = true) : ∀ v ∈ varsT (allT xs), ∃ t ∈ distT (allT ys), im v = some t := by
  intro v hv
  obtain ⟨t, htt, hv1, hv2⟩ := varsT_iff.1 hv
  obtain ⟨a, ha, hta⟩ := allT_iff.1 htt
  obtain ⟨b, hb, h1, h2⟩ := hh a ha
  obtain ⟨u, hu⟩ := Option.isSome_iff_exists.1 (ht v hv)
  refine ⟨u, distT_iff.2 (allT_iff.2 ⟨b, hb, ?_⟩), hu⟩
  rw [← h2]
  refine List.mem_map.2 ⟨t, hta, ?_⟩
  unfold repT
  rw [if_neg (by rw [hv1]; exact hv2), hv1, hu]; rfl
theorem hom_id {xs : List At} (hp : ∀ a ∈ xs, a.Good) : Hom (fun v => some (varT v)) xs xs := fun a ha => ⟨a, ha, rfl, by
  have h : a.terms.map (repT (fun v => some (varT v))) = a.terms.map id := List.map_congr_left (fun t ht => by
    unfold repT
    by_cases e : t.var = ⟨#[]⟩
    · rw [if_pos e]; rfl
    · rw [if_neg e]
      rcases (hp a ha).2 t ht with h | ⟨h1, h2, h3⟩
      · exact absurd h e
      · rcases t with ⟨v, k, i, s⟩
        simp only at h1 h2 h3
        subst h1 h2 h3; rfl)
  rw [h, List.map_id]⟩
def compI (f h : ByteArray → Option Tm) : ByteArray → Option Tm := fun v => (f v).map (repT h)
theorem hom_comp {xs ys zs : List At} {f h : ByteArray → Option Tm} (hf : Hom f xs ys) (hh : Hom h ys zs) (ht : ∀ v ∈ varsT (allT xs), (f v).isSome = true) : Hom (compI f h) xs zs := by
  intro a ha
  obtain ⟨b, hb, h1, h2⟩ := hf a ha
  obtain ⟨c, hc, h3, h4⟩ := hh b hb
  refine ⟨c, hc, h1.trans h3, ?_⟩
  rw [← h4, ← h2, List.map_map]
  refine List.map_congr_left (fun t htt => ?_)
  show repT (compI f h) t = repT h (repT f t)
  by_cases e : t.var = ⟨#[]⟩
  · have e1 : ∀ im, repT im t = t := fun im => by unfold repT; rw [if_pos e]
    rw [e1, e1, e1]
  · obtain ⟨u, hu⟩ := Option.isSome_iff_exists.1 (ht t.var (varsT_iff.2 ⟨t, allT_iff.2 ⟨a, ha, htt⟩, rfl, e⟩))
    have e1 : repT (compI f h) t = repT h u := by unfold repT compI; rw [if_neg e, hu]; rfl
    have e2 : repT f t = u := by unfold repT; rw [if_neg e, hu]; rfl
    rw [e1, e2]
theorem hom_congr {xs ys : List At} {f h : ByteArray → Option Tm} (hf : Hom f xs ys) (he : ∀ v ∈ varsT (allT xs), h v = f v) : Hom h xs ys := by
  intro a ha
  obtain ⟨b, hb, h1, h2⟩ := hf a ha
  refine ⟨b, hb, h1, ?_⟩
  rw [← h2]
  exact List.map_congr_left (fun t ht => rep_congr (fun e => he _ (varsT_iff.2 ⟨t, allT_iff.2 ⟨a, ha, ht⟩, rfl, e⟩)))
/-- What the frame knows of a rule's atoms. -/
structure Rg (xs : List At) : Prop where
  bd : Bd xs
  rng : ∀ a ∈ xs, ∀ t ∈ a.terms, -9223372036854775808 ≤ t.kind ∧ t.kind ≤ 9223372036854775807 ∧ -9223372036854775808 ≤ t.int ∧ t.int ≤ 9223372036854775807
/-- A small pure rule. -/
structure Sp (xs : List At) : Prop where
  rg : Rg xs
  sm : Small xs 0
  ng : ∀ a ∈ xs, a.neg = false
theorem Sp.good {xs : List At} (h : Sp xs) : ∀ a ∈ xs, a.Good := fun a ha => ⟨h.ng a ha, fun t ht => (h.sm.str a ha t ht).2⟩
/-- The search without pruning. -/
noncomputable def uns (good : (ByteArray → Option Tm) → Bool) (cs : List Tm) : List ByteArray → (ByteArray → Option Tm) → Option (ByteArray → Option Tm)
  | [], im => if good im = true then some im else none
  | v :: vs, im => cs.findSome? (fun t => uns good cs vs (updT im v (some t)))
def GoodI (xs ys : List At) (fx : List ByteArray) (im : ByteArray → Option Tm) : Prop := Hom im xs ys ∧ ∀ v ∈ varsT (allT xs), v ∈ fx → im v = some (varT v)
open Classical in
noncomputable def goodB (xs ys : List At) (fx : List ByteArray) (im : ByteArray → Option Tm) : Bool := decide (GoodI xs ys fx im)
theorem goodB_iff {xs ys : List At} {fx : List ByteArray} {im : ByteArray → Option Tm} : goodB xs ys fx im = true ↔ GoodI xs ys fx im := @decide_eq_true_iff _ (Classical.propDecidable _)
theorem uns_out {good : (ByteArray → Option Tm) → Bool} {cs : List Tm} : ∀ (vs : List ByteArray) (im im' : ByteArray → Option Tm), vs.Nodup → uns good cs vs im = some im' → good im' = true ∧ (∀ s, s ∉ vs → im' s = im s) ∧ ∀ s ∈ vs, ∃ t ∈ cs, im' s = some t
  | [], im, im', _, h => by
    unfold uns at h
    split at h
    · rename_i hg
      injection h with h
      subst h
      exact ⟨hg, fun _ _ => rfl, fun _ h => by simp at h⟩
    · cases h
  | v :: vs, im, im', hn, h => by
    unfold uns at h
    obtain ⟨t, ht, h⟩ := List.exists_of_findSome?_eq_some h
    obtain ⟨hv, hn⟩ := List.nodup_cons.1 hn
    obtain ⟨h1, h2, h3⟩ := uns_out vs _ _ hn h
    refine ⟨h1, fun s hs => ?_, fun s hs => ?_⟩
    · simp only [List.mem_cons, not_or] at hs
      rw [h2 s hs.2, updT, if_neg hs.1]
    · rcases List.mem_cons.1 hs with rfl | hs
      · exact ⟨t, ht, by rw [h2 s hv, updT, if_pos rfl]⟩
      · exact h3 s hs
theorem agB_congr {im im' : ByteArray → Option Tm} {ra rb : ByteArray} {ta tb : List Tm} (h : ∀ t ∈ ta, t.var ≠ ⟨#[]⟩ → im t.var = im' t.var) : agB im ra ta rb tb = agB im' ra ta rb tb := by
  unfold agB
  congr 1
  rw [Bool.eq_iff_iff, List.all_eq_true, List.all_eq_true]
  have key : ∀ p ∈ ta.zip tb, okB im p.1 p.2 = okB im' p.1 p.2 := fun p hp => by
    have h1 : p.1 ∈ ta := (List.of_mem_zip (a := p.1) (b := p.2) hp).1
    unfold okB imgT
    by_cases hv : p.1.var = ⟨#[]⟩
    · rw [if_pos hv, if_pos hv]
    · rw [if_neg hv, if_neg hv, h _ h1 hv]
  exact ⟨fun hh p hp => by rw [← key p hp]; exact hh p hp, fun hh p hp => by rw [key p hp]; exact hh p hp⟩
theorem anyAg_congr {im im' : ByteArray → Option Tm} {a : At} {ys : List At} (h : ∀ t ∈ a.terms, t.var ≠ ⟨#[]⟩ → im t.var = im' t.var) : anyAg im a ys = anyAg im' a ys := by
  unfold anyAg
  congr 1
  funext b
  exact agB_congr h
structure InvA (xs ys : List At) (fx : List ByteArray) (vs : List ByteArray) (im : ByteArray → Option Tm) : Prop where
  asd : ∀ v ∈ varsT (allT xs), v ∉ vs → (im v).isSome = true ∧ (v ∈ fx → im v = some (varT v))
  hit : ∀ a ∈ xs, (∀ t ∈ a.terms, t.var ≠ ⟨#[]⟩ → t.var ∉ vs) → anyAg im a ys = true
  sub : ∀ v ∈ vs, v ∈ varsT (allT xs)
theorem asg_uns {xs ys : List At} {fx : List ByteArray} {cs : List Tm} : ∀ (vs : List ByteArray) (im : ByteArray → Option Tm), vs.Nodup → (∀ v ∈ vs, im v = none) → InvA xs ys fx vs im →
    asg (fun im v => possB im xs ys v) (fun s => decide (s ∈ fx)) cs vs im = uns (goodB xs ys fx) cs vs im
  | [], im, _, _, hI => by
    unfold asg uns
    have hg : goodB xs ys fx im = true := goodB_iff.2 ⟨fun a ha => by
      have h := hI.hit a ha (fun _ _ _ h => by simp at h)
      obtain ⟨b, hb, hab⟩ := List.any_eq_true.1 h
      exact ⟨b, hb, ag_full hab (fun t ht hv => (hI.asd t.var (varsT_iff.2 ⟨t, allT_iff.2 ⟨a, ha, ht⟩, rfl, hv⟩) (by simp)).1)⟩, fun v hv hf => (hI.asd v hv (by simp)).2 hf⟩
    rw [hg]; rfl
  | v :: vs, im, hn, hnone, hI => by
    unfold asg uns
    obtain ⟨hv, hn⟩ := List.nodup_cons.1 hn
    have hvv : v ∈ varsT (allT xs) := hI.sub v (by simp)
    have hve : v ≠ ⟨#[]⟩ := by obtain ⟨_, _, _, h⟩ := varsT_iff.1 hvv; exact h
    congr 1
    funext t
    have hsub : ∀ im', (∀ s, s ∉ vs → im' s = updT im v (some t) s) → Sub (updT im v (some t)) im' := fun im' h s u hs => by
      by_cases hm : s ∈ vs
      · have hsv : s ≠ v := fun e => hv (e ▸ hm)
        rw [updT, if_neg hsv, hnone s (by simp [hm])] at hs
        cases hs
      · rw [h s hm]; exact hs
    split
    · rename_i hp
      symm
      cases hu : uns (goodB xs ys fx) cs vs (updT im v (some t)) with
      | none => rfl
      | some im' =>
        obtain ⟨h1, h2, -⟩ := uns_out vs _ _ hn hu
        have h3 := (goodB_iff.1 h1).2 v hvv (of_decide_eq_true hp.1)
        rw [h2 v hv, updT, if_pos rfl] at h3
        injection h3 with h3
        exact absurd h3 hp.2
    · rename_i hp
      split
      · rename_i hpos
        refine asg_uns vs _ hn (fun s hs => ?_) ⟨fun u hu hun => ?_, fun a ha hall => ?_, fun s hs => hI.sub s (by simp [hs])⟩
        · have hsv : s ≠ v := fun e => hv (e ▸ hs)
          rw [updT, if_neg hsv]; exact hnone s (by simp [hs])
        · by_cases huv : u = v
          · subst huv
            rw [updT, if_pos rfl]
            exact ⟨rfl, fun hf => by
              by_cases e : t = varT u
              · rw [e]
              · exact absurd ⟨decide_eq_true hf, e⟩ hp⟩
          · rw [updT, if_neg huv]
            exact hI.asd u hu (by simp [huv, hun])
        · by_cases hm : mentB a.terms v = true
          · have h := List.all_eq_true.1 hpos a ha
            have hma : matters v a = true := by unfold matters; rw [hm]; simp
            rw [hma] at h
            simpa using h
          · have hnm : ∀ u ∈ a.terms, u.var ≠ v := fun u hu e => hm (List.any_eq_true.2 ⟨u, hu, decide_eq_true e⟩)
            rw [anyAg_congr (im' := im) (fun u hu _ => by rw [updT, if_neg (hnm u hu)])]
            exact hI.hit a ha (fun u hu hue => by simp [hnm u hu, hall u hu hue])
      · rename_i hpos
        symm
        cases hu : uns (goodB xs ys fx) cs vs (updT im v (some t)) with
        | none => rfl
        | some im' =>
          obtain ⟨h1, h2, -⟩ := uns_out vs _ _ hn hu
          exact absurd (poss_of (hsub im' h2) (goodB_iff.1 h1).1 v) hpos
theorem findS_uns (xs ys : List At) (fx : List ByteArray) : findS xs ys fx = uns (goodB xs ys fx) (distT (allT ys)) (varsT (allT xs)) (fun _ => none) := by
  unfold findS
  split
  · rename_i hp
    refine asg_uns _ _ (varsT_nodup _) (fun _ _ => rfl) ⟨fun v hv hn => absurd hv hn, fun a ha hall => ?_, fun _ h => h⟩
    have h := List.all_eq_true.1 hp a ha
    have hma : matters ⟨#[]⟩ a = true := by unfold matters; simp
    rw [hma] at h
    simpa using h
  · rename_i hp
    symm
    cases hu : uns (goodB xs ys fx) (distT (allT ys)) (varsT (allT xs)) (fun _ => none) with
    | none => rfl
    | some im' =>
      obtain ⟨h1, -, -⟩ := uns_out _ _ _ (varsT_nodup _) hu
      exact absurd (poss_of (im' := im') (fun _ _ h => by cases h) (goodB_iff.1 h1).1 _) hp
theorem varT_ok (v : ByteArray) : (varT v).Ok := .inr ⟨rfl, rfl, rfl⟩
theorem ok_var {t : Tm} (h : t.Ok) (hv : t.var ≠ ⟨#[]⟩) : t = varT t.var := by
  rcases h with h | ⟨h1, h2, h3⟩
  · exact absurd h hv
  · cases t; simp at h1 h2 h3; subst h1 h2 h3; rfl
section
variable {T : List Tm} {xs ys : List At} {fx : List ByteArray}
end
theorem Ras.mono {F G : Nat → Prop} {w : World} {v : Value} {xs : List RAt} (h : Ras F w v xs) (hs : ∀ k, k < w.heap.size → F k → G k) : Ras G w v xs :=
  let ⟨A, c, vs, h1, h2, h3, h4, h5⟩ := h; ⟨A, c, vs, h1, h2, h3, h4.mono hs, fun i h h' => (h5 i h h').mono hs⟩
theorem Prs.fr {S F : Nat → Prop} {w w' : World} {v : Value} {ps : List (ByteArray × Tm)} (h : Prs F w v ps) (hf : Fr S w w') (hs : ∀ k, F k → ¬ S k) : Prs F w' v ps := let ⟨A, c, h1, h2, h3⟩ := h; ⟨A, c, h1, h2, h3.fr hf hs⟩
theorem Prs.mono {F G : Nat → Prop} {w : World} {v : Value} {ps : List (ByteArray × Tm)} (h : Prs F w v ps) (hs : ∀ k, k < w.heap.size → F k → G k) : Prs G w v ps := let ⟨A, c, h1, h2, h3⟩ := h; ⟨A, c, h1, h2, h3.mono hs⟩
theorem Strs.ext {F : Nat → Prop} {w w' : World} {v : Value} {l : List ByteArray} (h : Strs F w v l) (he : Ext w w') : Strs F w' v l := let ⟨A, c, h1, h2, h3⟩ := h; ⟨A, c, h1, h2, h3.ext he⟩
theorem Strs.fr {S F : Nat → Prop} {w w' : World} {v : Value} {l : List ByteArray} (h : Strs F w v l) (hf : Fr S w w') (hs : ∀ k, F k → ¬ S k) : Strs F w' v l := let ⟨A, c, h1, h2, h3⟩ := h; ⟨A, c, h1, h2, h3.fr hf hs⟩
theorem Strs.mono {F G : Nat → Prop} {w : World} {v : Value} {l : List ByteArray} (h : Strs F w v l) (hs : ∀ k, k < w.heap.size → F k → G k) : Strs G w v l := let ⟨A, c, h1, h2, h3⟩ := h; ⟨A, c, h1, h2, h3.mono hs⟩
/-- A block that is neither the numbers' cell nor their row. -/
structure Far (g : Nat) (v : Value) (w : World) (k : Nat) : Prop where
  ne : k ≠ g
  row : v.ownBlock ≠ some k
  lt : k < w.heap.size
theorem Far.step {g : Nat} {v v' : Value} {w w' : World} {S : Nat → Prop} {k : Nat} (h : Far g v w k) (hf : Fr S w w') (hl : v'.ownBlock = v.ownBlock ∨ ∀ k, v'.ownBlock = some k → w.heap.size ≤ k) : Far g v' w' k :=
  ⟨h.ne, fun e => by
    rcases hl with hl | hl
    · exact h.row (hl ▸ e)
    · have := hl k e; have := h.lt; omega, Nat.lt_of_lt_of_le h.lt hf.size⟩
theorem Far.ext {g : Nat} {v : Value} {w w' : World} {k : Nat} (h : Far g v w k) (he : Ext w w') : Far g v w' k := h.step (he.fr (fun _ => False)) (.inl rfl)
theorem two_new (w : World) (o0 o1 : List Value) (t0 t1 : TypeId) (W : World) (hW : W = (w.alloc (.cells o0.toArray t0)).alloc (.cells o1.toArray t1)) :
    Bk W w.heap.size t0 o0 ∧ Bk W (w.heap.size + 1) t1 o1 ∧ Ext w W := by
  subst hW
  have k0 := Bk.new w t0 o0
  have k1 := Bk.new (w.alloc (.cells o0.toArray t0)) t1 o1
  rw [show (w.alloc (.cells o0.toArray t0)).heap.size = w.heap.size + 1 by simp] at k1
  exact ⟨k0.alloc _, k1, (((Ext.refl w).alloc _).alloc _)⟩
/-- The two boxes. -/
structure Bx2 (w wr : World) (la lb : List Value) : Prop where
  a : Bk wr w.heap.size 25 la
  b : Bk wr (w.heap.size + 1) 25 lb
  ext : Ext w wr
theorem Bx2.fore {w wr w' : World} {la lb : List Value} (h : Bx2 w wr la lb) (he : Ext wr w') : Bx2 w w' la lb := ⟨h.a.ext he, h.b.ext he, h.ext.trans he⟩
theorem fold_addP (s : ByteArray) : ∀ (ps : List (ByteArray × Tm)) (f : ByteArray → Option Tm), ps.foldl addP f s = if (f s).isSome = true then f s else ps.foldl addP (fun _ => none) s
  | [], f => by rcases h : f s with _ | u <;> simp [h]
  | p :: ps, f => by
    rw [List.foldl_cons, List.foldl_cons, fold_addP s ps (addP f p), fold_addP s ps (addP (fun _ => none) p)]
    by_cases e : s = p.1
    · rcases hf : f s with _ | u
      · have h1 : addP f p s = some p.2 := by unfold addP; rw [← e, hf]; simp [updT]
        have h2 : addP (fun _ => none) p s = some p.2 := by unfold addP; simp [updT, e]
        rw [h1, h2]; simp
      · have h1 : addP f p s = some u := by unfold addP; rw [← e, hf]; simp [hf]
        rw [h1]; simp
    · have h1 : addP f p s = f s := by unfold addP; split; rfl; simp [updT, e]
      have h2 : addP (fun _ => none) p s = none := by unfold addP; simp [updT, e]
      rw [h1, h2]; simp
theorem firstP_cons (p : ByteArray × Tm) (ps : List (ByteArray × Tm)) (s : ByteArray) : firstP (p :: ps) s = if s = p.1 then some p.2 else firstP ps s := by
  unfold firstP
  rw [List.foldl_cons, fold_addP]
  by_cases e : s = p.1
  · have h2 : addP (fun _ => none) p s = some p.2 := by unfold addP; simp [updT, e]
    rw [h2, if_pos e]; rfl
  · have h2 : addP (fun _ => none) p s = none := by unfold addP; simp [updT, e]
    rw [h2, if_neg e]; rfl
theorem split_at {α : Type} {c : α} : ∀ {l1 l2 x y : List α}, c ∉ l1 → c ∉ l2 → l1 ++ c :: x = l2 ++ c :: y → l1 = l2 ∧ x = y
  | [], [], _, _, _, _, h => by simp at h; exact ⟨rfl, h⟩
  | [], b :: l2, _, _, _, h2, h => by simp at h; simp [h.1] at h2
  | a :: l1, [], _, _, h1, _, h => by simp at h; simp [h.1] at h1
  | a :: l1, b :: l2, x, y, h1, h2, h => by
    simp only [List.cons_append, List.cons.injEq] at h
    simp only [List.mem_cons, not_or] at h1 h2
    obtain ⟨e, h3⟩ := split_at h1.2 h2.2 h.2
    exact ⟨by rw [h.1, e], h3⟩
def digVal (l : List UInt8) : Nat := l.foldl (fun a d => 10 * a + (d.toNat - 48)) 0
theorem digVal_dec (u : Nat) : digVal (Lib.decDigits u) = u := by
  induction u using Nat.strongRecOn with
  | _ u ih =>
    by_cases h : u < 10
    · rw [Lib.decDigits, dif_pos h]
      simp only [digVal, List.foldl_cons, List.foldl_nil, UInt8.toNat_ofNat']
      omega
    · rw [Lib.decDigits, dif_neg h]
      have h1 := ih (u / 10) (by omega)
      unfold digVal at h1 ⊢
      rw [List.foldl_append, h1]
      simp only [List.foldl_cons, List.foldl_nil, UInt8.toNat_ofNat']
      omega
theorem dec_inj {a b : Nat} (h : Lib.decDigits a = Lib.decDigits b) : a = b := by rw [← digVal_dec a, h, digVal_dec]
theorem dec_mem (u : Nat) : ∀ d ∈ Lib.decDigits u, 48 ≤ d.toNat ∧ d.toNat ≤ 57 := by
  induction u using Nat.strongRecOn with
  | _ u ih =>
    intro d hd
    by_cases h : u < 10
    · rw [Lib.decDigits, dif_pos h] at hd
      rw [List.mem_singleton.1 hd]
      simp only [UInt8.toNat_ofNat']
      omega
    · rw [Lib.decDigits, dif_neg h] at hd
      rcases List.mem_append.1 hd with hd | hd
      · exact ih (u / 10) (by omega) d hd
      · rw [List.mem_singleton.1 hd]
        simp only [UInt8.toNat_ofNat']
        omega
theorem itoa_mem (n : Int) : ∀ d ∈ Lib.itoa n, d.toNat = 45 ∨ (48 ≤ d.toNat ∧ d.toNat ≤ 57) := by
  intro d hd
  unfold Lib.itoa at hd
  split at hd
  · rcases List.mem_cons.1 hd with hd | hd
    · exact .inl (by rw [hd]; rfl)
    · exact .inr (dec_mem _ d hd)
  · exact .inr (dec_mem _ d hd)
theorem itoa_no {n : Int} {c : UInt8} (h : c.toNat ≠ 45) (h2 : 57 < c.toNat ∨ c.toNat < 48) : c ∉ Lib.itoa n := fun hc => by
  rcases itoa_mem n c hc with e | e <;> omega
theorem itoa_inj {a b : Int} (h : Lib.itoa a = Lib.itoa b) : a = b := by
  have hd : ∀ (u : Nat) (l : List UInt8), 45 :: l ≠ Lib.decDigits u := fun u l e => by
    have := dec_mem u 45 (by rw [← e]; simp)
    have h45 : (45 : UInt8).toNat = 45 := rfl
    omega
  unfold Lib.itoa at h
  split at h <;> split at h
  · injection h with _ h
    have := dec_inj h; omega
  · exact absurd h (hd _ _)
  · exact absurd h.symm (hd _ _)
  · have := dec_inj h; omega
theorem itoa_split {a b : Int} {c : UInt8} {x y : List UInt8} (h1 : c.toNat ≠ 45) (h2 : 57 < c.toNat ∨ c.toNat < 48) (h : Lib.itoa a ++ c :: x = Lib.itoa b ++ c :: y) : a = b ∧ x = y := by
  obtain ⟨e, h3⟩ := split_at (itoa_no h1 h2) (itoa_no h1 h2) h
  exact ⟨itoa_inj e, h3⟩
theorem data_len' (s : ByteArray) : s.data.toList.length = s.size := by rw [Array.length_toList]; rfl
theorem textB_inj {s s' : ByteArray} {x y : List UInt8} (h : textB s ++ x = textB s' ++ y) : s = s' ∧ x = y := by
  unfold textB at h
  simp only [List.append_assoc, List.cons_append, List.nil_append] at h
  obtain ⟨e, h2⟩ := itoa_split (c := 58) (by decide) (by decide) h
  have e : s.size = s'.size := by omega
  obtain ⟨h3, h4⟩ := List.append_inj h2 (by rw [data_len', data_len', e])
  refine ⟨?_, h4⟩
  cases s; cases s'
  simp only at h3
  congr 1
  exact Array.toList_inj.1 h3
theorem termB_inj {t t' : Tm} {x y : List UInt8} (h : termB t ++ x = termB t' ++ y) : t = t' ∧ x = y := by
  unfold termB at h
  simp only [List.append_assoc, List.cons_append, List.nil_append] at h
  obtain ⟨e1, h⟩ := textB_inj h
  obtain ⟨e2, h⟩ := textB_inj h
  obtain ⟨e3, h⟩ := itoa_split (c := 44) (by decide) (by decide) h
  obtain ⟨e4, h9⟩ := itoa_split (c := 59) (by decide) (by decide) h
  cases t; cases t'
  simp only at e1 e2 e3 e4
  subst e1 e2 e3 e4
  exact ⟨rfl, h9⟩
theorem termB_pos (t : Tm) (x : List UInt8) : termB t ++ x ≠ [] := by
  unfold termB
  intro h
  simp at h
theorem terms_inj : ∀ {l m : List Tm}, l.flatMap termB = m.flatMap termB → l = m
  | [], [], _ => rfl
  | [], t :: m, h => by rw [List.flatMap_cons] at h; exact absurd h.symm (termB_pos _ _)
  | t :: l, [], h => by rw [List.flatMap_cons] at h; exact absurd h (termB_pos _ _)
  | t :: l, u :: m, h => by
    rw [List.flatMap_cons, List.flatMap_cons] at h
    obtain ⟨e, h⟩ := termB_inj h
    rw [e, terms_inj h]
theorem keyB_inj {n n' : Bool} {r r' : ByteArray} {l l' : List Tm} (h : keyB n r l = keyB n' r' l') : n = n' ∧ r = r' ∧ l = l' := by
  unfold keyB at h
  simp only [List.append_assoc] at h
  have hn : n = n' := by
    cases n <;> cases n' <;> first | rfl | (simp [boolT] at h)
  subst hn
  have h := List.append_cancel_left h
  obtain ⟨e, h⟩ := textB_inj h
  exact ⟨rfl, e, terms_inj h⟩
theorem keyS_inj {a b : At} (h : a.keyS = b.keyS) : a = b := by
  unfold At.keyS keyS at h
  injection h with h
  have h : keyB a.neg a.rel a.terms = keyB b.neg b.rel b.terms := by have := congrArg Array.toList h; simpa using this
  obtain ⟨e1, e2, e3⟩ := keyB_inj h
  cases a; cases b
  simp only at e1 e2 e3
  subst e1 e2 e3
  rfl
/-- A slice of n conditions. -/
def Cns (F : Nat → Prop) (w : World) (v : Value) (n : Nat) : Prop := ∃ A c xs, v = .slice A n c ∧ n ≤ c ∧ xs.length = n * 5 ∧ Cl F w A xs ∧ (∀ u ∈ xs, u.oneCell' = true) ∧ (A = none → n = 0 ∧ c = 0)
theorem Cns.ext {F : Nat → Prop} {w w' : World} {v : Value} {n : Nat} (h : Cns F w v n) (he : Ext w w') : Cns F w' v n := let ⟨A, c, xs, h1, h2, h3, h4, h5, h6⟩ := h; ⟨A, c, xs, h1, h2, h3, h4.ext he, h5, h6⟩
theorem Cns.fr {S F : Nat → Prop} {w w' : World} {v : Value} {n : Nat} (h : Cns F w v n) (hf : Fr S w w') (hs : ∀ k, F k → ¬ S k) : Cns F w' v n := let ⟨A, c, xs, h1, h2, h3, h4, h5, h6⟩ := h; ⟨A, c, xs, h1, h2, h3, h4.fr hf hs, h5, h6⟩
theorem Cns.nil (F : Nat → Prop) (w : World) : Cns F w (.slice none 0 0) 0 := ⟨none, 0, [], rfl, Nat.le_refl _, rfl, .inl rfl, by simp, fun _ => ⟨rfl, rfl⟩⟩
theorem Cns.mono {F G : Nat → Prop} {w : World} {v : Value} {n : Nat} (h : Cns F w v n) (hs : ∀ k, k < w.heap.size → F k → G k) : Cns G w v n := let ⟨A, c, xs, h1, h2, h3, h4, h5, h6⟩ := h; ⟨A, c, xs, h1, h2, h3, h4.mono hs, h5, h6⟩
theorem info_cond : (Tryd.prog.info? 93).map (fun i => (i.zero, i.size, i.bytes)) = some (some (.agg #[.string ⟨#[]⟩, .int .i64 0, .int .i64 0, .int .i64 0, .string ⟨#[]⟩]), 5, 56) := by kernel_rfl
set_option maxRecDepth 20000 in
set_option maxHeartbeats 800000 in
theorem clone_cond {F : Nat → Prop} {w : World} {v : Value} {n : Nat} (h : Cns F w v n) (hn : n ≤ 1048576) :
    Calls Tryd.prog 50 #[v] w (fun e w' => Ext w w' ∧ ∃ A' c', e = .returned (.slice A' n c') ∧ Cns (fun k => w.heap.size ≤ k) w' (.slice A' n c') n) := by
  obtain ⟨A, c, xs, rfl, hc, hl, hcl, hone, hnil⟩ := h
  have q22 : ∀ (w : World) (a : Option Addr) (n c n' c' : Nat), (binOp .eql 23 (.slice a n c) (.slice none n' c')).run Tryd.prog w = .ok (.bool a.isNone) w := fun w a n c n' c' => Lib.run_eql_slice_nil w _ _ a n c n' c' Tryd.underlying23
  have HL := Lib.hid hl; have HCL := Lib.hid hcl; have HONE := Lib.hid hone
  clear hl hcl hone
  obtain ⟨i0, hi0, hz0, hz1, hz2⟩ := info_parts info_cond
  have HI0 := Lib.hid (And.intro hi0 (And.intro hz0 (And.intro hz1 hz2)))
  clear hi0 hz0 hz1 hz2
  go_enter Tryd.func50, Tryd.ntmps50
  rcases A with _ | a
  · obtain ⟨rfl, rfl⟩ := hnil rfl
    clear hnil
    go_wp2_with fail
    go_ret
    exact ⟨Ext.refl _, none, 0, rfl, Cns.nil _ _⟩
  · clear hnil
    have HNW : Hid (∀ j u, xs[j]? = some u → (w.alloc (.cells #[] 93)).cell? (a.add j) = some u) := Lib.hid (fun j u hj => by
      obtain ⟨ad, e, -, h3⟩ := HCL.out.at' hj
      injection e with e
      subst e
      exact ((Ext.refl w).alloc _).cell h3)
    go_wp2_with (first | (at_builtin; refine wpList_append_at rfl _ _ 23 rfl w.heap.size 93 i0 (.agg #[.string ⟨#[]⟩, .int .i64 0, .int .i64 0, .int .i64 0, .string ⟨#[]⟩]) 5 56 Tryd.underlying23 HI0.out.1 HI0.out.2.1 HI0.out.2.2.1 HI0.out.2.2.2 rfl (by omega) _ 0 [] rfl (World.ownsRow_made w #[] 0 (Nat.le_refl _) (Nat.zero_le _) rfl) a n c xs rfl HL.out HNW.out HONE.out (by simp only [maxLen]; omega) (by omega) (by simp) ?_; intro v9 w9 hr9 hg9 hld9; have HR9 := Lib.hid hr9; have HG9 := Lib.hid hg9; obtain ⟨A9, c9, rfl⟩ := own_slice hr9; clear hr9 hg9 hld9))
    go_ret
    have hr := HR9.out
    simp only [Nat.zero_add, List.nil_append] at hr
    refine ⟨((Ext.refl w).alloc _).grown HG9.out (fun k hk => by have hk : some w.heap.size = some k := hk; injection hk with hk; omega), A9, c9, rfl, ?_⟩
    obtain ⟨A', c', e, hc', hcl'⟩ := Cl.of_own hr
    injection e with e1 _ e3
    subst e1 e3
    refine ⟨A9, c9, xs, rfl, hc', HL.out, hcl'.mono (fun k _ hk => hk.2), HONE.out, fun he => ?_⟩
    subst he
    rcases hr.2 with ⟨e, rfl⟩ | ⟨g, cap, cur, e, -⟩
    · injection e with _ _ e; exact ⟨rfl, e⟩
    · injection e with e _ _; cases e
/-- A row of atoms grows by one. -/
theorem acells_snoc : ∀ {xs : List At} {vs : List Value} {a : At} {v : Value}, vs.length = xs.length → acells (xs ++ [a]) (vs ++ [v]) = acells xs vs ++ [.bool a.neg, .string a.rel, v]
  | [], [], _, _, _ => rfl
  | b :: xs, u :: vs, a, v, h => by
    have := acells_snoc (xs := xs) (vs := vs) (a := a) (v := v) (by simpa using h)
    simp [acells, this]
  | [], _ :: _, _, _, h => by simp at h
  | _ :: _, [], _, _, h => by simp at h
theorem info_atom : (Tryd.prog.info? 39).map (fun i => (i.zero, i.size, i.bytes)) = some (some (.agg #[.bool false, .string ⟨#[]⟩, .slice none 0 0]), 3, 48) := by kernel_rfl
/-- The image of a rule's atoms, without doubles. -/
def addA (l : List At) (a : At) : List At := if a.keyS ∈ l.map At.keyS then l else l ++ [a]
def appL (im : ByteArray → Option Tm) (xs : List At) : List At := xs.foldl (fun l a => addA l (repA im a)) []
theorem appL_snoc (im : ByteArray → Option Tm) (xs : List At) (a : At) : appL im (xs ++ [a]) = addA (appL im xs) (repA im a) := by simp [appL]
theorem appL_length (im : ByteArray → Option Tm) (xs : List At) : (appL im xs).length ≤ xs.length := by
  suffices h : ∀ (xs l : List At), (xs.foldl (fun l a => addA l (repA im a)) l).length ≤ l.length + xs.length by
    have := h xs []; simpa [appL] using this
  intro xs
  induction xs with
  | nil => simp
  | cons a xs ih =>
    intro l
    have h1 := ih (addA l (repA im a))
    have h2 : (addA l (repA im a)).length ≤ l.length + 1 := by unfold addA; split <;> simp
    simp only [List.foldl_cons, List.length_cons]
    omega
/-- After some atoms: the result's box, its row, the set of keys. -/
structure ApH (w wr : World) (g bS n : Nat) (l : List At) (v : Value) (ws : List Value) : Prop where
  bk : Bk wr g 25 [v, .slice none 0 0]
  row : wr.ownsRow w.heap.size 39 3 v l.length (acells l ws)
  len : ws.length = l.length
  ts : ∀ j (h : j < l.length) (h' : j < ws.length), Ts (fun k => w.heap.size ≤ k ∧ v.ownBlock ≠ some k ∧ k ≠ g ∧ k ≠ bS) wr ws[j] l[j].terms
  map : MapV wr bS n (pinF (fun t => decide (t ∈ l.map At.keyS)))
  ext : Ext w wr
theorem ApH.fore {w wr wr' : World} {g bS n : Nat} {l : List At} {v : Value} {ws : List Value} (h : ApH w wr g bS n l v ws) (he : Ext wr wr') : ApH w wr' g bS n l v ws :=
  ⟨h.bk.ext he, own_fr h.row (he.fr (fun _ => False)) (fun _ _ h => h), h.len, fun j h1 h2 => (h.ts j h1 h2).ext he, h.map.ext he, h.ext.trans he⟩
/-- The key is noted, the atom appended, the box set. -/
theorem ApH.step {w wr wu wb w9 : World} {g bS n : Nat} {l : List At} {v v9 vt : Value} {ws : List Value} {a : At} (h : ApH w wr g bS n l v ws) (hg : w.heap.size ≤ g) (hb : w.heap.size ≤ bS)
    (ht : Ts (fun k => w.heap.size ≤ k ∧ v.ownBlock ≠ some k ∧ k ≠ g ∧ k ≠ bS) wr vt a.terms) (hn : a.keyS ∉ l.map At.keyS)
    (hmu : MapV wu bS (n + 1) (updV (pinF (fun t => decide (t ∈ l.map At.keyS))) a.keyS (some (.bool true)))) (hgu : wr.grownBy wu (some bS)) (he : Ext wu wb)
    (hr : w9.ownsRow w.heap.size 39 3 v9 (l.length + 1) (acells l ws ++ [.bool a.neg, .string a.rel, vt])) (hgr : wb.grownBy w9 v.ownBlock) (hL : Lands wb v v9) :
    ApH w (w9.setCell ⟨g, 0, none⟩ v9) g bS (n + 1) (addA l a) v9 (ws ++ [vt]) := by
  have el : addA l a = l ++ [a] := by rw [addA, if_neg hn]
  have hgb : g ≠ bS := h.map.ne h.bk
  have hfu : Fr (fun k => k = bS) wr wu := (grown_fr hgu).mono (fun k _ e => by injection e with e; exact e.symm)
  have hvb : ∀ k, v.ownBlock = some k → k ≠ bS := fun k hk => h.map.ne_own h.row hk
  have hvg : ∀ k, v.ownBlock = some k → k ≠ g := fun k hk => own_bk h.row h.bk (by decide) hk
  have s1 := hfu.size; have s2 := he.size; have s3 := hgr.size
  have hbk0 : Bk wb g 25 [v, .slice none 0 0] := (h.bk.fr hfu hgb).ext he
  have hbk9 : Bk w9 g 25 [v, .slice none 0 0] := hbk0.fr (grown_fr hgr) (fun e => hvg g e rfl)
  have hset : Fr (fun k => k = g) w9 (w9.setCell ⟨g, 0, none⟩ v9) := Fr.setCell (S := fun k => k = g) (Fr.refl _ w9) (p := ⟨g, 0, none⟩) (.inl rfl) v9
  have hm9 : MapV w9 bS (n + 1) (updV (pinF (fun t => decide (t ∈ l.map At.keyS))) a.keyS (some (.bool true))) := (hmu.ext he).fr (grown_fr hgr) (fun e => hvb bS e rfl)
  have hv9 : ∀ k, k < wr.heap.size → v.ownBlock ≠ some k → v9.ownBlock ≠ some k := fun k hk hv e => by
    rcases hL with hl | hl
    · exact hv (hl ▸ e)
    · rw [hl] at e; injection e with e; omega
  have hts : ∀ (u : Value) (m : List Tm), Ts (fun k => w.heap.size ≤ k ∧ v.ownBlock ≠ some k ∧ k ≠ g ∧ k ≠ bS) wr u m → Ts (fun k => w.heap.size ≤ k ∧ v9.ownBlock ≠ some k ∧ k ≠ g ∧ k ≠ bS) (w9.setCell ⟨g, 0, none⟩ v9) u m := fun u m hu =>
    (((((hu.mono (G := fun k => (w.heap.size ≤ k ∧ v.ownBlock ≠ some k ∧ k ≠ g ∧ k ≠ bS) ∧ k < wr.heap.size) (fun k hk hh => ⟨hh, hk⟩)).fr hfu (fun k hk => hk.1.2.2.2)).ext he).fr (grown_fr hgr) (fun k hk => hk.1.2.1)).fr hset (fun k hk => hk.1.2.2.1)).mono
      (fun k _ hk => ⟨hk.1.1, hv9 k hk.2 hk.1.2.1, hk.1.2.2.1, hk.1.2.2.2⟩)
  rw [el]
  refine ⟨hbk9.set 0 v9, ?_, by simp [h.len], fun j h1 h2 => ?_, ?_, ?_⟩
  · rw [acells_snoc h.len, List.length_append, List.length_singleton]
    exact own_fr hr hset (fun k hk e => own_bk hr hbk9 (by decide) hk e)
  · rcases Nat.lt_or_ge j l.length with hj | hj
    · rw [List.getElem_append_left (by have := h.len; omega), List.getElem_append_left hj]
      exact hts _ _ (h.ts j hj (by have := h.len; omega))
    · have hjl : j = l.length := by simp at h1; omega
      subst hjl
      rw [List.getElem_append_right (by have := h.len; omega), List.getElem_append_right (by omega)]
      simp only [h.len, Nat.sub_self, List.getElem_singleton]
      exact hts _ _ ht
  · rw [List.map_append, List.map_singleton, ← pinF_snoc]
    exact hm9.fr hset (fun e => hgb e.symm)
  · refine (((hfu.new h.ext (fun k hk => by omega)).trans he).grown hgr (fun k hk => own_ge h.row hk)).setCell (p := ⟨g, 0, none⟩) hg _
set_option maxRecDepth 100000 in
set_option maxHeartbeats 3200000 in
theorem happly_any {F G H : Nat → Prop} {w : World} {sv vc vm : Value} {nc : Nat} {xs : List At} {ps : List (ByteArray × Tm)} (hX : Ats F w sv xs) (hC : Cns G w vc nc) (hM : Prs H w vm ps) (hax : AOk xs) (hnc : nc ≤ 1048576)
    (hps : Hid (∀ p ∈ ps, p.1.size ≤ maxLen)) (hpl : ps.length ≤ 1000000) (htab : TabE w) (him : Hid (∀ s t, firstP ps s = some t → TOk t)) :
    Calls Tryd.prog 29 #[.agg #[sv, vc], vm] w (fun e w' => Ext w w' ∧ ∃ A' n' c' B' d', e = .returned (.agg #[.slice A' n' c', .slice B' nc d']) ∧ Ats (fun k => w.heap.size ≤ k) w' (.slice A' n' c') (appL (firstP ps) xs) ∧ Cns (fun k => w.heap.size ≤ k) w' (.slice B' nc d') nc) := by
  have HX := Lib.hid hX; have HC := Lib.hid hC; have HM := Lib.hid hM; have HAX := Lib.hid hax; have HTAB := Lib.hid htab
  obtain ⟨A1, c1, n1, h1, hn1⟩ : ∃ A c n, sv = .slice A n c ∧ n = xs.length := by obtain ⟨A, c, vs, hv, _⟩ := hX; exact ⟨A, c, _, hv, rfl⟩
  obtain ⟨A2, c2, h2⟩ : ∃ A c, vc = .slice A nc c := by obtain ⟨A, c, _, hv, _⟩ := hC; exact ⟨A, c, hv⟩
  obtain ⟨A3, c3, n3, h3, hn3⟩ : ∃ A c n, vm = .slice A n c ∧ n = ps.length := by obtain ⟨A, c, hv, _⟩ := hM; exact ⟨A, c, _, hv, rfl⟩
  subst h1 h2 h3
  rw [← hn3] at hpl
  have hl1 : n1 ≤ 1048576 := by rw [hn1]; exact hax.bd.len
  have HN1 := Lib.hid hn1; have HN3 := Lib.hid hn3
  clear hX hC hM hax htab hn1 hn3
  have hmk := @run_makeMap Tryd.prog
  go_enter Tryd.func29, Tryd.ntmps29
  go_wp2_with fail
  have h3 := two_new w [.slice A1 n1 c1, .slice A2 nc c2] [.slice none 0 0, .slice none 0 0] 25 25 _ rfl
  change Bk ((w.alloc (.cells #[.slice A1 n1 c1, .slice A2 nc c2] 25)).alloc (.cells #[.slice none 0 0, .slice none 0 0] 25)) _ _ _ ∧ Bk ((w.alloc (.cells #[.slice A1 n1 c1, .slice A2 nc c2] 25)).alloc (.cells #[.slice none 0 0, .slice none 0 0] 25)) _ _ _ ∧ Ext w ((w.alloc (.cells #[.slice A1 n1 c1, .slice A2 nc c2] 25)).alloc (.cells #[.slice none 0 0, .slice none 0 0] 25)) at h3
  generalize ((w.alloc (.cells #[.slice A1 n1 c1, .slice A2 nc c2] 25)).alloc (.cells #[.slice none 0 0, .slice none 0 0] 25)) = w1 at *
  obtain ⟨kr, kz, hx⟩ := h3
  refine (first_any (HM.out.ext hx) (by rw [← HN3.out]; omega) hps.out).mono ?_
  rintro e w4 ⟨rfl, he4, n4, hn4, hm4⟩
  obtain ⟨bi, hbi⟩ : ∃ bi, bi = w1.heap.size := ⟨_, rfl⟩
  rw [← hbi] at hm4 ⊢
  replace hx := hx.trans he4
  replace kr := kr.ext he4
  replace kz := kz.ext he4
  have HM4 := Lib.hid hm4; have HX4 := Lib.hid hx; have HKR := Lib.hid kr; have HKZ := Lib.hid kz
  have hw4 : w.heap.size ≤ w4.heap.size := hx.size
  have r0 := ((kr.alloc (.cells #[.slice none 0 0, .slice none 0 0] 25)).alloc (.map #[] 0)).cell (i := 0) (by simp)
  simp only [List.getElem_cons_zero] at r0
  clear he4 hm4 hbi hx kr kz hn4
  go_wp2_with fail
  clear r0 hmk
  have k5 : Bk ((w4.alloc (.cells #[.slice none 0 0, .slice none 0 0] 25)).alloc (.map #[] 0)) w4.heap.size 25 [.slice none 0 0, .slice none 0 0] := (Bk.new w4 25 [.slice none 0 0, .slice none 0 0]).alloc _
  have m5 : MapV ((w4.alloc (.cells #[.slice none 0 0, .slice none 0 0] 25)).alloc (.map #[] 0)) (w4.heap.size + 1) 0 (fun _ => none) := by
    have h := MapV.made (w4.alloc (.cells #[.slice none 0 0, .slice none 0 0] 25))
    rw [show (w4.alloc (.cells #[.slice none 0 0, .slice none 0 0] 25)).heap.size = w4.heap.size + 1 by simp] at h
    exact h
  have hx5 : Ext w4 ((w4.alloc (.cells #[.slice none 0 0, .slice none 0 0] 25)).alloc (.map #[] 0)) := ((Ext.refl w4).alloc _).alloc _
  generalize ((w4.alloc (.cells #[.slice none 0 0, .slice none 0 0] 25)).alloc (.map #[] 0)) = w5 at *
  have hpin0 : pinF (fun t => decide (t ∈ ([] : List At).map At.keyS)) = fun _ => none := by funext t; simp [pinF]
  have HS : Hid (ApH w4 w5 w4.heap.size (w4.heap.size + 1) 0 [] (.slice none 0 0) []) := Lib.hid ⟨k5, World.ownsRow_nil _ _ _ _, rfl, fun j h => by simp at h, by rw [hpin0]; exact m5, hx5⟩
  clear k5 m5 hx5 hpin0
  obtain ⟨g, hg⟩ : ∃ g, g = w4.heap.size := ⟨_, rfl⟩
  obtain ⟨bS, hbS⟩ : ∃ bS, bS = g + 1 := ⟨_, rfl⟩
  rw [← hg, ← hbS] at HS ⊢
  have hgw : w4.heap.size ≤ g := by omega
  have hbw : w4.heap.size ≤ bS := by omega
  obtain ⟨AT2, ct2, eAT, hct, hAT⟩ := HX.out.at'
  injection eAT with e1 e2 e3
  subst e1 e3
  have HATT := Lib.hid hAT
  clear hAT e2 hct
  obtain ⟨i0, hi0, hz0, hz1, hz2⟩ := info_parts info_atom
  have HI0 := Lib.hid (And.intro hi0 (And.intro hz0 (And.intro hz1 hz2)))
  clear hi0 hz0 hz1 hz2
  clear hg hbS
  go_loopw [18] (fun q wr => ∃ (i n : Nat) (v : Value) (ws : List Value), i ≤ n1 ∧ q = .int .i64 (i : Int) ∧ n ≤ i ∧ ApH w4 wr g bS n (appL (firstP ps) (xs.take i)) v ws) (fun q _ => n1 - (intOf q).toNat)
  case atStart => exact ⟨0, 0, _, _, Nat.zero_le _, rfl, Nat.le_refl _, HS.out⟩
  case round =>
    obtain ⟨i, n, v, ws, hi, rfl, hn, hI⟩ := hrel
    obtain ⟨l, hl⟩ : ∃ l, l = appL (firstP ps) (xs.take i) := ⟨_, rfl⟩
    rw [← hl] at hI
    have HL := Lib.hid hl
    obtain ⟨Av, cv, rfl⟩ := own_slice hI.row
    obtain ⟨m, hm⟩ : ∃ m, m = l.length := ⟨_, rfl⟩
    have hmb : m ≤ 1048576 := by rw [hm, hl]; exact Nat.le_trans (appL_length _ _) (by simp; omega)
    rw [← hm] at hI
    have HM0 := Lib.hid hm
    have HI := Lib.hid hI
    have hxw : Ext w wr := HX4.out.trans hI.ext
    clear hl hm
    by_cases hlt : i < n1
    · have i1 : (0 : Int) ≤ (i : Int) := by omega
      have i2 : (i : Int) < (n1 : Int) := by omega
      have hix : i < xs.length := by have := HN1.out; omega
      obtain ⟨ad, B, d, rfl, hGa, c0, c1, c2, hd, htc⟩ := HATT.out i hix
      replace c0 := hxw.cell c0
      replace c1 := hxw.cell c1
      replace c2 := hxw.cell c2
      have hts := HAX.out.small _ (List.getElem_mem hix)
      have htr := HAX.out.bd.rel _ (List.getElem_mem hix)
      have hto := HAX.out.terms _ (List.getElem_mem hix)
      have hsn : appL (firstP ps) (xs.take (i + 1)) = addA l (repA (firstP ps) xs[i]) := by rw [List.take_succ_eq_append_getElem hix, appL_snoc, HL.out]
      obtain ⟨a, ha⟩ : ∃ a, a = xs[i] := ⟨_, rfl⟩
      rw [← ha] at c0 c1 c2 hd htc hts htr hto hsn
      obtain ⟨nt, hnt⟩ : ∃ nt, nt = a.terms.length := ⟨_, rfl⟩
      rw [← hnt] at c2
      have HNT := Lib.hid hnt; have HTC := Lib.hid htc; have HD := Lib.hid hd; have HTS := Lib.hid hts; have HTR := Lib.hid htr; have HTO := Lib.hid hto; have HSN := Lib.hid hsn; have HXW := Lib.hid hxw
      clear hnt htc hd hts htr hto hsn hxw ha hGa hI
      go_wp2_with fail
      have hx8 : Ext wr (wr.alloc (.cells #[.bool a.neg, .string a.rel, .slice B nt d] 39)) := (Ext.refl wr).alloc _
      generalize (wr.alloc (.cells #[.bool a.neg, .string a.rel, .slice B nt d] 39)) = w9 at *
      have HI9 := Lib.hid (HI.out.fore hx8); have HX9 := Lib.hid (HXW.out.trans hx8)
      clear hx8 c0 c1 c2
      rw [HNT.out]
      refine (replaced_any (HTC.out.ext HX9.out) HD.out (Nat.le_trans HTS.out (by omega)) (fun t ht => Nat.le_trans (HTO.out t ht).var (by simp [maxLen])) (HM4.out.ext HI9.out.ext)).mono ?_
      rintro e w10 ⟨he10, v10, rfl, hr10⟩
      rw [← HNT.out] at hr10
      obtain ⟨A10, c10, rfl⟩ := own_slice hr10
      have HX10 := Lib.hid (HX9.out.trans he10); have HI10 := Lib.hid (HI9.out.fore he10)
      have hvr := HI9.out.row.lt; have hg9 := HI9.out.bk.lt; have hb9 := HI9.out.map.lt; have hw49 := HI9.out.ext.size
      have hT10 : Ts (fun k => w4.heap.size ≤ k ∧ (Value.slice Av m cv).ownBlock ≠ some k ∧ k ≠ g ∧ k ≠ bS) w10 (.slice A10 nt c10) (repA (firstP ps) a).terms := by
        obtain ⟨A', c', e, hc', hcl'⟩ := Cl.of_own hr10
        injection e with e1 _ e3
        subst e1 e3
        refine ⟨A10, c10, by simp [repA, HNT.out], by simp only [repA, List.length_map, ← HNT.out]; exact hc', hcl'.mono (fun k _ hk => ⟨by omega, fun e => by have := (hvr k e).2; omega, by omega, by omega⟩)⟩
      have HT10 := Lib.hid hT10
      clear hr10 he10 hT10 hvr hg9 hb9 hw49
      go_wp2_with fail
      have kx := Bk.new w10 39 [.bool a.neg, .string a.rel, .slice A10 nt c10]
      change Bk (w10.alloc (.cells #[.bool a.neg, .string a.rel, .slice A10 nt c10] 39)) _ _ _ at kx
      have hxx : Ext w10 (w10.alloc (.cells #[.bool a.neg, .string a.rel, .slice A10 nt c10] 39)) := (Ext.refl w10).alloc _
      generalize (w10.alloc (.cells #[.bool a.neg, .string a.rel, .slice A10 nt c10] 39)) = w11 at *
      have HX11 := Lib.hid (HX10.out.trans hxx); have HI11 := Lib.hid (HI10.out.fore hxx); have HT11 := Lib.hid (HT10.out.ext hxx); have HKX := Lib.hid kx
      clear hxx kx
      have hrl : (a.terms.map (repT (firstP ps))).length = nt := by rw [HNT.out]; simp
      have hkc := key_any (ng := a.neg) (rl := a.rel) (ts := a.terms.map (repT (firstP ps))) (B := A10) (d := c10) (F := fun _ => True) (w := w11) (by
        obtain ⟨A', c', e, hc', hcl'⟩ := HT11.out
        injection e with e1 _ e3
        subst e1 e3
        exact hcl'.mono (fun _ _ _ => trivial)) (by
        obtain ⟨A', c', e, hc', hcl'⟩ := HT11.out
        injection e with e1 _ e3
        subst e1 e3
        exact hc') (by rw [hrl, HNT.out]; exact HTS.out) HTR.out (fun t ht => by obtain ⟨t0, h0, rfl⟩ := List.mem_map.1 ht; exact repT_ok him.out (HTO.out t0 h0)) (HTAB.out.fore HX11.out)
      rw [hrl] at hkc
      refine hkc.mono ?_
      rintro e w12 ⟨y, rfl, he12, rfl⟩
      have hks : (repA (firstP ps) a).keyS.size ≤ maxLen := keyS_size (by simp only [repA, hrl]; rw [HNT.out]; exact HTS.out) HTR.out (fun t ht => by obtain ⟨t0, h0, rfl⟩ := List.mem_map.1 ht; exact repT_ok him.out (HTO.out t0 h0))
      have HX12 := Lib.hid (HX11.out.trans he12); have HI12 := Lib.hid (HI11.out.fore he12); have HT12 := Lib.hid (HT11.out.ext he12); have HKX12 := Lib.hid (HKX.out.ext he12)
      clear he12 hkc hrl
      by_cases hin : (repA (firstP ps) a).keyS ∈ l.map At.keyS
      · have HADD : Hid (addA l (repA (firstP ps) a) = l) := Lib.hid (by rw [addA, if_pos hin])
        have HPV : Hid ((pinF (fun t => decide (t ∈ l.map At.keyS)) (repA (firstP ps) a).keyS).getD (.bool false) = .bool true) := Lib.hid (by rw [pinF, if_pos (decide_eq_true hin)]; rfl)
        clear hin
        go_wp2_with (first | (at_lookup; refine wpList_lookup_V rfl _ _ 68 4 rfl Tryd.underlying68 (.bool false) (zero_bool _) bS n (pinF (fun t => decide (t ∈ l.map At.keyS))) rfl HI12.out.map (repA (firstP ps) a).keyS rfl hks (.bool true) HPV.out ?_))
        go_roundw
        case rel => exact ⟨i + 1, n, _, ws, by omega, by go_num, by omega, by rw [HSN.out, HADD.out]; exact HI12.out⟩
        case measure => simp [intOf]; omega
      · have HIN := Lib.hid hin
        have HPV : Hid ((pinF (fun t => decide (t ∈ l.map At.keyS)) (repA (firstP ps) a).keyS).getD (.bool false) = .bool false) := Lib.hid (by rw [pinF, if_neg (by simp only [decide_eq_true_eq]; exact hin)]; rfl)
        clear hin
        go_wp2_with (first
          | (at_lookup; refine wpList_lookup_V rfl _ _ 68 4 rfl Tryd.underlying68 (.bool false) (zero_bool _) bS n (pinF (fun t => decide (t ∈ l.map At.keyS))) rfl HI12.out.map (repA (firstP ps) a).keyS rfl hks (.bool false) HPV.out ?_)
          | (at_mapUpdate; refine wpList_update_V rfl _ _ _ 68 4 rfl Tryd.underlying68 bS n (pinF (fun t => decide (t ∈ l.map At.keyS))) rfl HI12.out.map (by simp only [maxLen]; omega) (repA (firstP ps) a).keyS (.bool true) rfl hks rfl ?_; intro wq hmq hgq; have hfq : Fr (fun k => k = bS) w12 wq := (grown_fr hgq).mono (fun k _ e => by injection e with e; exact e.symm); have kg := HI12.out.bk.fr hfq (HI12.out.map.ne HI12.out.bk); have q0 := kg.cell (i := 0) (by simp); have kx := HKX12.out.fr hfq (HI12.out.map.ne HKX12.out); have x0 := kx.cell (i := 0) (by simp); have x1 := kx.cell (i := 1) (by simp); have x2 := kx.cell (i := 2) (by simp); simp only [List.getElem_cons_zero, List.getElem_cons_succ] at q0 x0 x1 x2; have HKG := Lib.hid kg; have hrq := own_fr HI12.out.row hfq (fun k hk e => HI12.out.map.ne_own HI12.out.row hk e); rw [← HM0.out] at hrq; have HRQ := Lib.hid hrq; have hwq : w4.heap.size ≤ wq.heap.size := Nat.le_trans HI12.out.ext.size hfq.size; have hgq2 : g < wq.heap.size := kg.lt; have HMQ := Lib.hid hmq; have HGQ := Lib.hid hgq; clear hmq hgq hfq kg kx hrq)
          | (at_builtin; refine wpList_append_at rfl _ _ 22 rfl w4.heap.size 39 i0 (.agg #[.bool false, .string ⟨#[]⟩, .slice none 0 0]) 3 48 Tryd.underlying22 HI0.out.1 HI0.out.2.1 HI0.out.2.2.1 HI0.out.2.2.2 rfl (by omega) (.slice Av m cv) m (acells l ws) rfl (HRQ.out.alloc _) ⟨wq.heap.size, 0, none⟩ 1 1 [.bool a.neg, .string a.rel, .slice A10 nt c10] rfl rfl (laid_news wq _ _) (by simp [Value.oneCell']) (by simp only [maxLen]; omega) (by omega) (by simp; omega) ?_; intro v9 wf hr9 hgr9 hld9; obtain ⟨A9, c9, rfl⟩ := own_slice hr9; have hb9 := (HKG.out.alloc _).fr (grown_fr hgr9) (fun e => own_bk HRQ.out HKG.out (by decide) e rfl); have q9 := hb9.cell (i := 0) (by simp); have f9 := hb9.free 0; simp only [List.getElem_cons_zero] at q9; have hg9' : g < wf.heap.size := hb9.lt; have HR9 := Lib.hid hr9; have HG9 := Lib.hid hgr9; have HL9 := Lib.hid hld9; clear hr9 hgr9 hld9 hb9))
        go_roundw
        case rel =>
          refine ⟨i + 1, n + 1, .slice A9 (m + 1) c9, ws ++ [.slice A10 nt c10], by omega, by go_num, by omega, ?_⟩
          rw [HSN.out]
          exact ApH.step HI12.out hgw hbw HT12.out HIN.out HMQ.out HGQ.out ((Ext.refl wq).alloc _) (by rw [← HM0.out]; exact HR9.out) HG9.out HL9.out
        case measure => simp [intOf]; omega
    · obtain rfl : i = n1 := by omega
      have hdn : ¬ (i : Int) < (i : Int) := by omega
      have et : xs.take i = xs := by rw [HN1.out]; exact List.take_length
      have HLX : Hid (l = appL (firstP ps) xs) := Lib.hid (by rw [HL.out, et])
      have r1 := (HKR.out.ext hI.ext).cell (i := 1) (by simp)
      simp only [List.getElem_cons_zero, List.getElem_cons_succ] at r1
      have HXW := Lib.hid hxw
      clear hI et hxw
      go_wp2_with fail
      refine (clone_cond (HC.out.ext HXW.out) hnc).mono ?_
      rintro e wf ⟨hef, A', c', rfl, hcn⟩
      have HIF := Lib.hid (HI.out.fore hef)
      have g0 := HIF.out.bk.cell (i := 0) (by simp); have g1 := HIF.out.bk.cell (i := 1) (by simp); have gf1 := HIF.out.bk.free 1; have gf0 := HIF.out.bk.free 0
      have z0 := ((HKZ.out.ext HIF.out.ext)).cell (i := 0) (by simp); have z1 := ((HKZ.out.ext HIF.out.ext)).cell (i := 1) (by simp); have zf0 := ((HKZ.out.ext HIF.out.ext)).free 0; have zf1 := ((HKZ.out.ext HIF.out.ext)).free 1
      simp only [List.getElem_cons_zero, List.getElem_cons_succ] at g0 g1 z0 z1
      have HCN := Lib.hid hcn
      have hgz : g ≠ w.heap.size + 1 := by have := HKZ.out.lt; omega
      have hgl := HIF.out.bk.lt
      have hzl := (HKZ.out.ext HIF.out.ext).lt
      clear hef hcn r1
      go_wp2_with fail
      have hfz : Fr (fun k => k = g ∨ k = w.heap.size + 1) wf (((wf.setCell ⟨g, 1, none⟩ (.slice A' nc c')).setCell ⟨w.heap.size + 1, 0, none⟩ (.slice Av m cv)).setCell ⟨w.heap.size + 1, 1, none⟩ (.slice A' nc c')) := (((Fr.refl (fun k => k = g ∨ k = w.heap.size + 1) wf).setCell (p := ⟨g, 1, none⟩) (.inl (.inl rfl)) _).setCell (p := ⟨w.heap.size + 1, 0, none⟩) (.inl (.inr rfl)) _).setCell (p := ⟨w.heap.size + 1, 1, none⟩) (.inl (.inr rfl)) _
      have kz := ((((HKZ.out.ext HIF.out.ext).far (p := ⟨g, 1, none⟩) (fun e => hgz e.symm) (.slice A' nc c')).set 0 (.slice Av m cv)).set 1 (.slice A' nc c'))
      have s0 := kz.cell (i := 0) (by simp)
      have s1 := kz.cell (i := 1) (by simp)
      simp only [List.set_cons_zero, List.set_cons_succ, List.getElem_cons_zero, List.getElem_cons_succ] at s0 s1
      have hzk : w.heap.size + 1 < w4.heap.size := HKZ.out.lt
      have hgr : g < wr.heap.size := HI.out.bk.lt
      have hw4r := HI.out.ext.size
      have hez := hfz.new (HX4.out.trans HIF.out.ext) (fun k hk => by omega)
      have hrz := own_fr HIF.out.row hfz (fun k hk e => by
        rcases e with e | e
        · exact own_bk HIF.out.row HIF.out.bk (by decide) hk e
        · have := own_ge HIF.out.row hk; omega)
      have hcz := HCN.out.fr hfz (fun k hk e => by omega)
      have htz : ∀ j (h : j < l.length) (h' : j < ws.length), Ts (fun k => w.heap.size ≤ k) (((wf.setCell ⟨g, 1, none⟩ (.slice A' nc c')).setCell ⟨w.heap.size + 1, 0, none⟩ (.slice Av m cv)).setCell ⟨w.heap.size + 1, 1, none⟩ (.slice A' nc c')) ws[j] l[j].terms := fun j h h' => ((HIF.out.ts j h h').fr hfz (fun k hk e => by
        rcases e with e | e
        · exact hk.2.2.1 e
        · omega)).mono (fun k _ hk => by omega)
      generalize (((wf.setCell ⟨g, 1, none⟩ (.slice A' nc c')).setCell ⟨w.heap.size + 1, 0, none⟩ (.slice Av m cv)).setCell ⟨w.heap.size + 1, 1, none⟩ (.slice A' nc c')) = wz at *
      refine bodyPost_ret (v := .agg #[.slice Av m cv, .slice A' nc c']) ?_ rfl ⟨hez, Av, m, cv, A', c', rfl, ?_, hcz.mono (fun k _ hk => by omega)⟩
      · simp [results, Tryd.results29, go_sem, s0, s1]
      · rw [← HLX.out]
        obtain ⟨A9, c9, e, hc9, hcl9⟩ := Cl.of_own hrz
        injection e with e1 e2 e3
        subst e1 e3
        exact ⟨Av, cv, ws, by rw [HM0.out], hc9, HIF.out.len, hcl9.mono (fun k _ hk => by omega), htz⟩
end Go.Proofs.YtehklbdgkppmeaaDoor
