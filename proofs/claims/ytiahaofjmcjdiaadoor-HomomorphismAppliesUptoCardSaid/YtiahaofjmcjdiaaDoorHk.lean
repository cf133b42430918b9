/- Contracts: homomorphism.first, homomorphism.replaced, ordinallaw24.atom. -/
import Derived.Test.YtiahaofjmcjdiaaDoorHf
namespace Go.Proofs.YtiahaofjmcjdiaaDoor
open Go.RowKit Go.Maps

theorem pcells_length (l : List (ByteArray × Tm)) : (pcells l).length = l.length * 5 := by
  induction l with
  | nil => rfl
  | cons p l ih => simp [pcells, pairC] at ih ⊢; omega
theorem pcells_get : ∀ {l : List (ByteArray × Tm)} {i : Nat} (hi : i < l.length) (j : Nat), j < 5 → (pcells l)[5 * i + j]? = (pairC l[i].1 l[i].2)[j]?
  | p :: l, 0, _, j, hj => by
    simp only [pcells, List.flatMap_cons, Nat.mul_zero, Nat.zero_add, List.getElem_cons_zero]
    rw [List.getElem?_append_left (by simpa [pairC] using hj)]
  | p :: l, i + 1, hi, j, hj => by
    have ih := pcells_get (l := l) (i := i) (by simpa using hi) j hj
    simp only [pcells, List.flatMap_cons, List.getElem_cons_succ] at ih ⊢
    rw [List.getElem?_append_right (by simp [pairC]; omega)]
    rw [← ih]
    congr 1
    simp [pairC]; omega
/-- A slice of pairs. -/
def Prs (F : Nat → Prop) (w : World) (v : Value) (ps : List (ByteArray × Tm)) : Prop := ∃ A c, v = .slice A ps.length c ∧ ps.length ≤ c ∧ Cl F w A (pcells ps)
theorem Prs.ext {F : Nat → Prop} {w w' : World} {v : Value} {ps : List (ByteArray × Tm)} (h : Prs F w v ps) (he : Ext w w') : Prs F w' v ps := let ⟨A, c, h1, h2, h3⟩ := h; ⟨A, c, h1, h2, h3.ext he⟩
theorem Cl.pair {F : Nat → Prop} {w : World} {A : Option Addr} {ps : List (ByteArray × Tm)} (h : Cl F w A (pcells ps)) {i : Nat} (hi : i < ps.length) : ∃ ad, A = some ad ∧ F ad.block ∧ w.cell? (ad.add (i * 5)) = some (.string ps[i].1) ∧ w.cell? ⟨(ad.add (i * 5)).block, (ad.add (i * 5)).off + 1, none⟩ = some (.string ps[i].2.var) ∧ w.cell? ⟨(ad.add (i * 5)).block, (ad.add (i * 5)).off + 2, none⟩ = some (.int .i64 ps[i].2.kind) ∧ w.cell? ⟨(ad.add (i * 5)).block, (ad.add (i * 5)).off + 3, none⟩ = some (.int .i64 ps[i].2.int) ∧ w.cell? ⟨(ad.add (i * 5)).block, (ad.add (i * 5)).off + 4, none⟩ = some (.string ps[i].2.str) := by
  obtain ⟨ad, h1, h2, c0⟩ := h.at' ((pcells_get hi 0 (by omega)).trans rfl)
  obtain ⟨ad1, e1, _, c1⟩ := h.at' ((pcells_get hi 1 (by omega)).trans rfl)
  obtain ⟨ad2, e2, _, c2⟩ := h.at' ((pcells_get hi 2 (by omega)).trans rfl)
  obtain ⟨ad3, e3, _, c3⟩ := h.at' ((pcells_get hi 3 (by omega)).trans rfl)
  obtain ⟨ad4, e4, _, c4⟩ := h.at' ((pcells_get hi 4 (by omega)).trans rfl)
  subst h1
  injection e1 with e1; injection e2 with e2; injection e3 with e3; injection e4 with e4
  subst e1 e2 e3 e4
  rw [show 5 * i + 0 = i * 5 by omega] at c0
  rw [show 5 * i + 1 = i * 5 + (0 + 1) by omega, add_succ'] at c1
  rw [show 5 * i + 2 = i * 5 + (1 + 1) by omega, add_succ'] at c2
  rw [show 5 * i + 3 = i * 5 + (2 + 1) by omega, add_succ'] at c3
  rw [show 5 * i + 4 = i * 5 + (3 + 1) by omega, add_succ'] at c4
  exact ⟨ad, rfl, h2, c0, c1, c2, c3, c4⟩

/-- The first pair of a variable counts. -/
def addP (im : ByteArray → Option Tm) (p : ByteArray × Tm) : ByteArray → Option Tm := if (im p.1).isSome = true then im else updT im p.1 (some p.2)
def firstP (ps : List (ByteArray × Tm)) : ByteArray → Option Tm := ps.foldl addP (fun _ => none)
theorem firstP_snoc (ps : List (ByteArray × Tm)) (p : ByteArray × Tm) : firstP (ps ++ [p]) = addP (firstP ps) p := by simp [firstP]

set_option maxRecDepth 20000 in
set_option maxHeartbeats 1600000 in
theorem first_any {F : Nat → Prop} {w : World} {v : Value} {ps : List (ByteArray × Tm)} (h : Prs F w v ps) (hl : ps.length ≤ 1048576) (hs : ∀ p ∈ ps, p.1.size ≤ maxLen) :
    Calls Tryd.prog 34 #[v] w (fun e w' => e = .returned (.map (some w.heap.size)) ∧ Ext w w' ∧ ∃ n, n ≤ ps.length ∧ MapV w' w.heap.size n (imF (firstP ps))) := by
  obtain ⟨A, c, rfl, hc, hcl⟩ := h
  obtain ⟨n, hn⟩ : ∃ n, n = ps.length := ⟨_, rfl⟩
  rw [← hn] at hc hl ⊢
  have HN := Lib.hid hn; have HCL := Lib.hid hcl; have HS := Lib.hid hs
  clear hn hcl hs
  have hmk := @run_makeMap Tryd.prog
  go_enter Tryd.func34, Tryd.ntmps34
  go_wp2_with fail
  have HM0 : Hid (MapV (w.alloc (.map #[] 0)) w.heap.size 0 (imF (firstP (ps.take 0)))) := Lib.hid (by
    have e : imF (firstP (ps.take 0)) = fun _ => none := by funext t; simp [firstP, imF]
    rw [e]; exact MapV.made w)
  have HX0 : Hid (Ext w (w.alloc (.map #[] 0))) := Lib.hid ((Ext.refl w).alloc _)
  generalize (w.alloc (.map #[] 0)) = w1 at *
  clear hmk
  go_loopw [11] (fun q wr => ∃ i : Nat, i ≤ n ∧ q = .int .i64 (i : Int) ∧ MapV wr w.heap.size i (imF (firstP (ps.take i))) ∧ Ext w wr) (fun q _ => n - (intOf q).toNat)
  case atStart => exact ⟨0, Nat.zero_le _, rfl, HM0.out, HX0.out⟩
  case round =>
    obtain ⟨i, hi, rfl, hmi, hext⟩ := hrel
    by_cases hlt : i < n
    · have i1 : (0 : Int) ≤ (i : Int) := by omega
      have i2 : (i : Int) < (n : Int) := by omega
      have hip : i < ps.length := by have := HN.out; omega
      obtain ⟨ad, rfl, -, c0, c1, c2, c3, c4⟩ := HCL.out.pair (i := i) hip
      replace c0 := hext.cell c0
      replace c1 := hext.cell c1
      replace c2 := hext.cell c2
      replace c3 := hext.cell c3
      replace c4 := hext.cell c4
      have hsv := HS.out _ (List.getElem_mem hip)
      have efp : firstP (ps.take (i + 1)) = addP (firstP (ps.take i)) ps[i] := by rw [List.take_succ_eq_append_getElem hip, firstP_snoc]
      obtain ⟨p, hp⟩ : ∃ p, p = ps[i] := ⟨_, rfl⟩
      rw [← hp] at c0 c1 c2 c3 c4 hsv efp
      obtain ⟨im, him⟩ : ∃ im, im = firstP (ps.take i) := ⟨_, rfl⟩
      rw [← him] at hmi efp
      obtain ⟨s, x⟩ := p
      simp only at c0 c1 c2 c3 c4 hsv
      have HEF := Lib.hid efp; have HMI := Lib.hid hmi; have HE := Lib.hid hext
      have hxa : Ext wr (wr.alloc (.cells #[.string s, .string x.var, .int .i64 x.kind, .int .i64 x.int, .string x.str] 49)) := (Ext.refl wr).alloc _
      have HXA := Lib.hid hxa; have HMA := Lib.hid (hmi.ext hxa)
      clear efp hmi hext hp him hxa
      rcases hims : im s with _ | z
      · have HIMS := Lib.hid hims
        have HADD : Hid (addP im (s, x) = updT im s (some x)) := Lib.hid (by rw [addP]; simp [hims])
        clear hims
        go_wp2_with (first
          | (at_lookup; refine wpList_lookup_okV rfl _ _ 68 47 rfl Tryd.underlying68 (.agg #[.string ⟨#[]⟩, .int .i64 0, .int .i64 0, .string ⟨#[]⟩]) (zero_term _) w.heap.size i (imF im) rfl HMA.out s rfl hsv (.agg #[.string ⟨#[]⟩, .int .i64 0, .int .i64 0, .string ⟨#[]⟩]) (by rw [imF, HIMS.out]; rfl) false (by rw [imF, HIMS.out]; rfl) ?_)
          | (at_mapUpdate; refine wpList_update_V rfl _ _ _ 68 47 rfl Tryd.underlying68 w.heap.size i (imF im) rfl (HMA.out.ext ((Ext.refl _).alloc _)) (by simp only [maxLen]; omega) s (.agg #[.string x.var, .int .i64 x.kind, .int .i64 x.int, .string x.str]) rfl hsv rfl ?_; intro w3 hm3 hg3; have HM3 : Hid (MapV w3 w.heap.size (i + 1) (imF (updT im s (some x)))) := Lib.hid (by rw [imF_upd]; exact hm3); have HE3 := Lib.hid (((HE.out.trans HXA.out).alloc _).grown hg3 (fun b e => by injection e with e; omega)); clear hm3 hg3))
        go_roundw
        case rel => exact ⟨i + 1, by omega, by go_num, by rw [HEF.out, HADD.out]; exact HM3.out, HE3.out⟩
        case measure => simp [intOf]; omega
      · have HIMS := Lib.hid hims
        have HADD : Hid (addP im (s, x) = im) := Lib.hid (by rw [addP]; simp [hims])
        clear hims
        go_wp2_with (first
          | (at_lookup; refine wpList_lookup_okV rfl _ _ 68 47 rfl Tryd.underlying68 (.agg #[.string ⟨#[]⟩, .int .i64 0, .int .i64 0, .string ⟨#[]⟩]) (zero_term _) w.heap.size i (imF im) rfl HMA.out s rfl hsv (.agg #[.string z.var, .int .i64 z.kind, .int .i64 z.int, .string z.str]) (by rw [imF, HIMS.out]; rfl) true (by rw [imF, HIMS.out]; rfl) ?_))
        go_roundw
        case rel => exact ⟨i + 1, by omega, by go_num, by rw [HEF.out, HADD.out]; exact (HMA.out.ext ((Ext.refl _).alloc _)).mono (by omega), (HE.out.trans HXA.out).alloc _⟩
        case measure => simp [intOf]; omega
    · obtain rfl : i = n := by omega
      have hdn : ¬ (i : Int) < (i : Int) := by omega
      have HMI := Lib.hid hmi; have HE := Lib.hid hext
      clear hmi hext
      go_wp2_with fail
      go_ret
      have et : ps.take i = ps := by rw [HN.out]; exact List.take_length
      have h := HMI.out
      rw [et] at h
      exact ⟨rfl, HE.out, i, Nat.le_refl _, h⟩
theorem three_new (w : World) (o0 o1 o2 : List Value) (t0 t1 t2 : TypeId) (W : World) (hW : W = ((w.alloc (.cells o0.toArray t0)).alloc (.cells o1.toArray t1)).alloc (.cells o2.toArray t2)) :
    Bk W w.heap.size t0 o0 ∧ Bk W (w.heap.size + 1) t1 o1 ∧ Bk W (w.heap.size + 1 + 1) t2 o2 ∧ Ext w W := by
  subst hW
  have k0 := Bk.new w t0 o0
  have k1 := Bk.new (w.alloc (.cells o0.toArray t0)) t1 o1
  have k2 := Bk.new ((w.alloc (.cells o0.toArray t0)).alloc (.cells o1.toArray t1)) t2 o2
  rw [show (w.alloc (.cells o0.toArray t0)).heap.size = w.heap.size + 1 by simp] at k1
  rw [show ((w.alloc (.cells o0.toArray t0)).alloc (.cells o1.toArray t1)).heap.size = w.heap.size + 1 + 1 by simp] at k2
  exact ⟨(k0.alloc _).alloc _, k1.alloc _, k2, ((((Ext.refl w).alloc _).alloc _).alloc _)⟩
/-- The image of a term. -/
def repT (im : ByteArray → Option Tm) (t : Tm) : Tm := if t.var = ⟨#[]⟩ then t else (im t.var).getD t
/-- After j terms. -/
structure ReI (w wr : World) (g : Nat) (ng : Bool) (rl : ByteArray) (l : List Tm) (v : Value) (m : Nat) : Prop where
  bk : Bk wr g 61 [.bool ng, .string rl, v]
  row : wr.ownsRow w.heap.size 47 4 v m (tcells l)
  ext : Ext w wr
theorem ReI.fore {w wr w' : World} {g : Nat} {ng : Bool} {rl : ByteArray} {l : List Tm} {v : Value} {m : Nat} (h : ReI w wr g ng rl l v m) (he : Ext wr w') : ReI w w' g ng rl l v m := ⟨h.bk.ext he, own_fr h.row (he.fr (fun _ => False)) (fun _ _ h => h), h.ext.trans he⟩
theorem ReI.step {w wr wb w9 : World} {g : Nat} {ng : Bool} {rl : ByteArray} {l : List Tm} {v v9 : Value} {m : Nat} {x : Tm} (h : ReI w wr g ng rl l v m) (hg : w.heap.size ≤ g) (he : Ext wr wb) (hr : w9.ownsRow w.heap.size 47 4 v9 (m + 1) (tcells l ++ x.cells)) (hgr : wb.grownBy w9 v.ownBlock) :
    ReI w (w9.setCell ⟨g, 2, none⟩ v9) g ng rl (l ++ [x]) v9 (m + 1) := by
  have hb := (h.bk.ext he).fr (grown_fr hgr) (fun e => own_bk h.row h.bk (by decide) e rfl)
  have hset : Fr (fun k => k = g) w9 (w9.setCell ⟨g, 2, none⟩ v9) := Fr.setCell (S := fun k => k = g) (Fr.refl _ w9) (p := ⟨g, 2, none⟩) (.inl rfl) _
  refine ⟨hb.set 2 _, ?_, ?_⟩
  · rw [tcells_append]
    have e : tcells [x] = x.cells := by simp [tcells]
    rw [e]
    exact own_fr hr hset (fun k hk e => by subst e; exact own_bk hr hb (by decide) hk rfl)
  · exact Fr.new ((h.ext.trans he).grown hgr (fun k hk => (h.row.lt k hk).1)) hset (fun k hk => by omega)

theorem ReI.far {w wr w' : World} {g b : Nat} {ng : Bool} {rl : ByteArray} {l : List Tm} {v : Value} {m : Nat} (h : ReI w wr g ng rl l v m) (hf : Fr (fun k => k = b) wr w') (hb : w.heap.size ≤ b) (hne : g ≠ b) (hv : v.ownBlock ≠ some b) : ReI w w' g ng rl l v m :=
  ⟨h.bk.fr hf hne, own_fr h.row hf (fun k hk e => hv (by rw [hk, e])), hf.new h.ext (fun k hk => by omega)⟩

set_option maxRecDepth 20000 in
set_option maxHeartbeats 1600000 in
theorem replaced_any {F : Nat → Prop} {w : World} {ng : Bool} {rl : ByteArray} {B : Option Addr} {d bm n : Nat} {ts : List Tm} {im : ByteArray → Option Tm} (hcl : Cl F w B (tcells ts)) (hd : ts.length ≤ d) (hl : ts.length ≤ 1048576) (hs : ∀ t ∈ ts, t.var.size ≤ maxLen) (hm : MapV w bm n (imF im)) :
    Calls Tryd.prog 36 #[.agg #[.bool ng, .string rl, .slice B ts.length d], .map (some bm)] w (fun e w' => Ext w w' ∧ ∃ v, e = .returned (.agg #[.bool ng, .string rl, v]) ∧ w'.ownsRow w.heap.size 47 4 v ts.length (tcells (ts.map (repT im)))) := by
  obtain ⟨nt, hnt⟩ : ∃ nt, nt = ts.length := ⟨_, rfl⟩
  rw [← hnt] at hd hl ⊢
  have HNT := Lib.hid hnt; have HCL := Lib.hid hcl; have HS := Lib.hid hs; have HM := Lib.hid hm
  clear hnt hcl hs hm
  obtain ⟨i0, hi0, hz0, hz1, hz2⟩ := info_parts info_term
  have HI0 := Lib.hid (And.intro hi0 (And.intro hz0 (And.intro hz1 hz2))); clear hi0 hz0 hz1 hz2
  go_enter Tryd.func36, Tryd.ntmps36
  go_wp2_with fail
  have h3 := three_new w [.bool ng, .string rl, .slice B nt d] [.bool false, .string ⟨#[]⟩, .slice none 0 0] [.bool ng, .string rl, .slice none 0 0] 61 61 61 _ rfl
  change Bk (((w.alloc (.cells #[.bool ng, .string rl, .slice B nt d] 61)).alloc (.cells #[.bool false, .string ⟨#[]⟩, .slice none 0 0] 61)).alloc (.cells #[.bool ng, .string rl, .slice none 0 0] 61)) _ _ _ ∧ Bk (((w.alloc (.cells #[.bool ng, .string rl, .slice B nt d] 61)).alloc (.cells #[.bool false, .string ⟨#[]⟩, .slice none 0 0] 61)).alloc (.cells #[.bool ng, .string rl, .slice none 0 0] 61)) _ _ _ ∧ Bk (((w.alloc (.cells #[.bool ng, .string rl, .slice B nt d] 61)).alloc (.cells #[.bool false, .string ⟨#[]⟩, .slice none 0 0] 61)).alloc (.cells #[.bool ng, .string rl, .slice none 0 0] 61)) _ _ _ ∧ Ext w (((w.alloc (.cells #[.bool ng, .string rl, .slice B nt d] 61)).alloc (.cells #[.bool false, .string ⟨#[]⟩, .slice none 0 0] 61)).alloc (.cells #[.bool ng, .string rl, .slice none 0 0] 61)) at h3
  generalize (((w.alloc (.cells #[.bool ng, .string rl, .slice B nt d] 61)).alloc (.cells #[.bool false, .string ⟨#[]⟩, .slice none 0 0] 61)).alloc (.cells #[.bool ng, .string rl, .slice none 0 0] 61)) = w1 at *
  have H3 := Lib.hid h3
  clear h3
  go_loopw [18] (fun q wr => ∃ (j : Nat) (v : Value), j ≤ nt ∧ q = .int .i64 (j : Int) ∧ ReI w wr (w.heap.size + 1 + 1) ng rl ((ts.take j).map (repT im)) v j ∧ Bk wr (w.heap.size + 1) 61 [.bool false, .string ⟨#[]⟩, .slice none 0 0]) (fun q _ => nt - (intOf q).toNat)
  case atStart => exact ⟨0, .slice none 0 0, Nat.zero_le _, rfl, ⟨H3.out.2.2.1, World.ownsRow_nil _ _ _ _, H3.out.2.2.2⟩, H3.out.2.1⟩
  case round =>
    obtain ⟨j, v, hj, rfl, hJ, hz⟩ := hrel
    obtain ⟨Av, cv, rfl⟩ := own_slice hJ.row
    by_cases hlt : j < nt
    · have j1 : (0 : Int) ≤ (j : Int) := by omega
      have j2 : (j : Int) < (nt : Int) := by omega
      have hjt : j < ts.length := by have := HNT.out; omega
      obtain ⟨ad, rfl, -, d0, d1, d2, d3⟩ := HCL.out.term (i := j) hjt
      replace d0 := hJ.ext.cell d0
      replace d1 := hJ.ext.cell d1
      replace d2 := hJ.ext.cell d2
      replace d3 := hJ.ext.cell d3
      have hsv := HS.out _ (List.getElem_mem hjt)
      obtain ⟨x, hx⟩ : ∃ x, x = ts[j] := ⟨_, rfl⟩
      rw [← hx] at d0 d1 d2 d3 hsv
      have etk : (ts.take (j + 1)).map (repT im) = (ts.take j).map (repT im) ++ [repT im x] := by rw [List.take_succ_eq_append_getElem hjt, List.map_append, hx]; rfl
      have HETK := Lib.hid etk; have HJ := Lib.hid hJ; have HZ := Lib.hid hz
      have HMR := Lib.hid (HM.out.ext hJ.ext)
      have hww : w.heap.size ≤ wr.heap.size := hJ.ext.size
      clear hx etk hJ hz
      go_upto_region 5 with fail
      have hx2 : Ext wr (wr.alloc (.cells #[.string x.var, .int .i64 x.kind, .int .i64 x.int, .string x.str] 47)) := (Ext.refl wr).alloc _
      have k7 := Bk.new wr 47 [.string x.var, .int .i64 x.kind, .int .i64 x.int, .string x.str]
      change Bk (wr.alloc (.cells #[.string x.var, .int .i64 x.kind, .int .i64 x.int, .string x.str] 47)) _ _ _ at k7
      have s0 := k7.cell (i := 0) (by simp)
      have s1 := k7.cell (i := 1) (by simp)
      have s2 := k7.cell (i := 2) (by simp)
      have s3 := k7.cell (i := 3) (by simp)
      have r0 := k7.free 0
      have r1 := k7.free 1
      have r2 := k7.free 2
      have r3 := k7.free 3
      have hlt7 := k7.lt
      simp only [List.getElem_cons_zero, List.getElem_cons_succ] at s0 s1 s2 s3
      have HX2 := Lib.hid hx2; have HK7 := Lib.hid k7
      clear hx2 k7 d0 d1 d2 d3
      generalize (wr.alloc (.cells #[.string x.var, .int .i64 x.kind, .int .i64 x.int, .string x.str] 47)) = w2 at *
      rcases him : im x.var with _ | z
      · have HIM := Lib.hid him
        have HREP : Hid (repT im x = x) := Lib.hid (by unfold repT; split; rfl; rw [him]; rfl)
        clear him
        have HE3 : Hid (Ext wr (w2.alloc (.cells #[.string ⟨#[]⟩, .int .i64 0, .int .i64 0, .string ⟨#[]⟩] 47))) := Lib.hid (HX2.out.alloc _)
        have hln := laid_news (w2.alloc (.cells #[.string ⟨#[]⟩, .int .i64 0, .int .i64 0, .string ⟨#[]⟩] 47)) 47 [.string x.var, .int .i64 x.kind, .int .i64 x.int, .string x.str]
        rw [show (w2.alloc (.cells #[.string ⟨#[]⟩, .int .i64 0, .int .i64 0, .string ⟨#[]⟩] 47)).heap.size = w2.heap.size + 1 by simp] at hln
        have HLN := Lib.hid hln
        clear hln
        have HJ3 := Lib.hid (HJ.out.fore HE3.out)
        have g2 := HJ3.out.bk.cell (i := 2) (by simp)
        have hg2 := HJ3.out.bk.lt
        simp only [List.getElem_cons_zero, List.getElem_cons_succ] at g2
        go_wp2_with (first
          | (at_lookup; refine wpList_lookup_okV rfl _ _ 68 47 rfl Tryd.underlying68 (.agg #[.string ⟨#[]⟩, .int .i64 0, .int .i64 0, .string ⟨#[]⟩]) (zero_term _) bm n (imF im) rfl (HMR.out.ext HX2.out) x.var rfl hsv (.agg #[.string ⟨#[]⟩, .int .i64 0, .int .i64 0, .string ⟨#[]⟩]) (by rw [imF, HIM.out]; rfl) false (by rw [imF, HIM.out]; rfl) ?_)
          | (at_builtin; refine wpList_append_at rfl _ _ 33 rfl w.heap.size 47 i0 (.agg #[.string ⟨#[]⟩, .int .i64 0, .int .i64 0, .string ⟨#[]⟩]) 4 48 Tryd.underlying33 HI0.out.1 HI0.out.2.1 HI0.out.2.2.1 HI0.out.2.2.2 rfl (by omega) _ j (tcells ((ts.take j).map (repT im))) rfl (HJ3.out.row.alloc _) ⟨w2.heap.size + 1, 0, none⟩ 1 1 [.string x.var, .int .i64 x.kind, .int .i64 x.int, .string x.str] rfl rfl HLN.out (by simp [Value.oneCell']) (by simp only [maxLen]; omega) (by omega) (by have := HE3.out.size; simp at this ⊢; omega) ?_; intro v9 w9 hr9 hg9 hl9; obtain ⟨A9, c9, rfl⟩ := own_slice hr9; have hb9 : Bk w9 (w.heap.size + 1 + 1) 61 [.bool ng, .string rl, .slice Av j cv] := Bk.fr (HJ3.out.bk.alloc _) (grown_fr hg9) (fun e => own_bk HJ3.out.row HJ3.out.bk (by decide) e rfl); have b9 := hb9.cell (i := 2) (by simp); have f9 := hb9.free 2; simp only [List.getElem_cons_zero, List.getElem_cons_succ] at b9; have HZ9 := Lib.hid (((HZ.out.ext HE3.out).alloc _).fr (grown_fr hg9) (fun e => own_bk HJ3.out.row (HZ.out.ext HE3.out) (by decide) e rfl)); have HS9 := Lib.hid (ReI.step (x := x) HJ3.out (by omega) ((Ext.refl _).alloc _) hr9 hg9); clear hr9 hg9 hl9 hb9))
        go_roundw
        case rel => exact ⟨j + 1, .slice A9 (j + 1) c9, by omega, by go_num, by rw [HETK.out, HREP.out]; exact HS9.out, HZ9.out.far (by simp) _⟩
        case measure => simp [intOf]; omega
      · have HIM := Lib.hid him
        by_cases hv : x.var = ⟨#[]⟩
        · have HREP : Hid (repT im x = x) := Lib.hid (by unfold repT; rw [if_pos hv])
          have hve := var_eq hv
          clear him hv
          have HE3 : Hid (Ext wr (w2.alloc (.cells #[.string z.var, .int .i64 z.kind, .int .i64 z.int, .string z.str] 47))) := Lib.hid (HX2.out.alloc _)
          have hln := laid_news (w2.alloc (.cells #[.string z.var, .int .i64 z.kind, .int .i64 z.int, .string z.str] 47)) 47 [.string x.var, .int .i64 x.kind, .int .i64 x.int, .string x.str]
          rw [show (w2.alloc (.cells #[.string z.var, .int .i64 z.kind, .int .i64 z.int, .string z.str] 47)).heap.size = w2.heap.size + 1 by simp] at hln
          have HLN := Lib.hid hln
          clear hln
          have HJ3 := Lib.hid (HJ.out.fore HE3.out)
          have g2 := HJ3.out.bk.cell (i := 2) (by simp)
          have hg2 := HJ3.out.bk.lt
          simp only [List.getElem_cons_zero, List.getElem_cons_succ] at g2
          go_wp2_with (first
            | (at_lookup; refine wpList_lookup_okV rfl _ _ 68 47 rfl Tryd.underlying68 (.agg #[.string ⟨#[]⟩, .int .i64 0, .int .i64 0, .string ⟨#[]⟩]) (zero_term _) bm n (imF im) rfl (HMR.out.ext HX2.out) x.var rfl hsv (.agg #[.string z.var, .int .i64 z.kind, .int .i64 z.int, .string z.str]) (by rw [imF, HIM.out]; rfl) true (by rw [imF, HIM.out]; rfl) ?_)
            | (at_builtin; refine wpList_append_at rfl _ _ 33 rfl w.heap.size 47 i0 (.agg #[.string ⟨#[]⟩, .int .i64 0, .int .i64 0, .string ⟨#[]⟩]) 4 48 Tryd.underlying33 HI0.out.1 HI0.out.2.1 HI0.out.2.2.1 HI0.out.2.2.2 rfl (by omega) _ j (tcells ((ts.take j).map (repT im))) rfl (HJ3.out.row.alloc _) ⟨w2.heap.size + 1, 0, none⟩ 1 1 [.string x.var, .int .i64 x.kind, .int .i64 x.int, .string x.str] rfl rfl HLN.out (by simp [Value.oneCell']) (by simp only [maxLen]; omega) (by omega) (by have := HE3.out.size; simp at this ⊢; omega) ?_; intro v9 w9 hr9 hg9 hl9; obtain ⟨A9, c9, rfl⟩ := own_slice hr9; have hb9 : Bk w9 (w.heap.size + 1 + 1) 61 [.bool ng, .string rl, .slice Av j cv] := Bk.fr (HJ3.out.bk.alloc _) (grown_fr hg9) (fun e => own_bk HJ3.out.row HJ3.out.bk (by decide) e rfl); have b9 := hb9.cell (i := 2) (by simp); have f9 := hb9.free 2; simp only [List.getElem_cons_zero, List.getElem_cons_succ] at b9; have HZ9 := Lib.hid (((HZ.out.ext HE3.out).alloc _).fr (grown_fr hg9) (fun e => own_bk HJ3.out.row (HZ.out.ext HE3.out) (by decide) e rfl)); have HS9 := Lib.hid (ReI.step (x := x) HJ3.out (by omega) ((Ext.refl _).alloc _) hr9 hg9); clear hr9 hg9 hl9 hb9))
          go_roundw
          case rel => exact ⟨j + 1, .slice A9 (j + 1) c9, by omega, by go_num, by rw [HETK.out, HREP.out]; exact HS9.out, HZ9.out.far (by simp) _⟩
          case measure => simp [intOf]; omega
        · have HREP : Hid (repT im x = z) := Lib.hid (by unfold repT; rw [if_neg hv, him]; rfl)
          have hve := var_ne hv
          clear him hv
          go_upto_if 34 with (first
            | (at_lookup; refine wpList_lookup_okV rfl _ _ 68 47 rfl Tryd.underlying68 (.agg #[.string ⟨#[]⟩, .int .i64 0, .int .i64 0, .string ⟨#[]⟩]) (zero_term _) bm n (imF im) rfl (HMR.out.ext HX2.out) x.var rfl hsv (.agg #[.string z.var, .int .i64 z.kind, .int .i64 z.int, .string z.str]) (by rw [imF, HIM.out]; rfl) true (by rw [imF, HIM.out]; rfl) ?_))
          have HE3 : Hid (Ext wr (w2.alloc (.cells #[.string z.var, .int .i64 z.kind, .int .i64 z.int, .string z.str] 47))) := Lib.hid (HX2.out.alloc _)
          have k73 := HK7.out.alloc (.cells #[.string z.var, .int .i64 z.kind, .int .i64 z.int, .string z.str] 47)
          have k8 := Bk.new w2 47 [.string z.var, .int .i64 z.kind, .int .i64 z.int, .string z.str]
          change Bk (w2.alloc (.cells #[.string z.var, .int .i64 z.kind, .int .i64 z.int, .string z.str] 47)) _ _ _ at k8
          generalize (w2.alloc (.cells #[.string z.var, .int .i64 z.kind, .int .i64 z.int, .string z.str] 47)) = w3 at *
          have HK73 := Lib.hid k73
          have q0 := k8.cell (i := 0) (by simp)
          have q1 := k8.cell (i := 1) (by simp)
          have q2 := k8.cell (i := 2) (by simp)
          have q3 := k8.cell (i := 3) (by simp)
          have m0 := k73.cell (i := 0) (by simp)
          have m1 := k73.cell (i := 1) (by simp)
          have m2 := k73.cell (i := 2) (by simp)
          have m3 := k73.cell (i := 3) (by simp)
          simp only [List.getElem_cons_zero, List.getElem_cons_succ] at q0 q1 q2 q3 m0 m1 m2 m3
          have n0 := k73.free 0
          have n1 := k73.free 1
          have n2 := k73.free 2
          have n3 := k73.free 3
          clear k73 k8 s0 s1 s2 s3 r0 r1 r2 r3
          go_cut [34, 35] (fun s34 s35 wx => s34 = .bool true ∧ Bk wx wr.heap.size 47 [.string z.var, .int .i64 z.kind, .int .i64 z.int, .string z.str] ∧ Fr (fun k => k = wr.heap.size) w3 wx)
          case first =>
            go_wp2_with fail
            go_meet
            exact ⟨rfl, (((HK73.out.set 0 _).set 1 _).set 2 _).set 3 _, (((Fr.refl (fun k => k = wr.heap.size) w3).setCell (p := ⟨wr.heap.size, 0, none⟩) (.inl rfl) _).setCell (p := ⟨wr.heap.size, 1, none⟩) (.inl rfl) _).setCell (p := ⟨wr.heap.size, 2, none⟩) (.inl rfl) _ |>.setCell (p := ⟨wr.heap.size, 3, none⟩) (.inl rfl) _⟩
          case rest =>
            obtain ⟨rfl, k74, hf4⟩ := hcut
            obtain ⟨w4, rfl⟩ : ∃ w4 : World, w4 = wc := ⟨_, rfl⟩
            have hgw : w.heap.size + 1 + 1 < wr.heap.size := HJ.out.bk.lt
            have HJ3 := Lib.hid ((HJ.out.fore HE3.out).far hf4 (by omega) (by omega) (fun e => by have := (HJ.out.row.lt _ e).2; omega))
            have HZ3 := Lib.hid ((HZ.out.ext HE3.out).fr hf4 (by omega))
            have g2 := HJ3.out.bk.cell (i := 2) (by simp)
            have p0 := k74.cell (i := 0) (by simp)
            have p1 := k74.cell (i := 1) (by simp)
            have p2 := k74.cell (i := 2) (by simp)
            have p3 := k74.cell (i := 3) (by simp)
            simp only [List.getElem_cons_zero, List.getElem_cons_succ] at g2 p0 p1 p2 p3
            have hw4 : w.heap.size ≤ w4.heap.size := HJ3.out.ext.size
            clear hf4 k74 q0 q1 q2 q3 m0 m1 m2 m3 n0 n1 n2 n3
            go_wp2_with (first
              | (at_builtin; refine wpList_append_at rfl _ _ 33 rfl w.heap.size 47 i0 (.agg #[.string ⟨#[]⟩, .int .i64 0, .int .i64 0, .string ⟨#[]⟩]) 4 48 Tryd.underlying33 HI0.out.1 HI0.out.2.1 HI0.out.2.2.1 HI0.out.2.2.2 rfl (by omega) _ j (tcells ((ts.take j).map (repT im))) rfl (HJ3.out.row.alloc _) ⟨w4.heap.size, 0, none⟩ 1 1 [.string z.var, .int .i64 z.kind, .int .i64 z.int, .string z.str] rfl rfl (laid_news w4 _ _) (by simp [Value.oneCell']) (by simp only [maxLen]; omega) (by omega) (by simp; omega) ?_; intro v9 w9 hr9 hg9 hl9; obtain ⟨A9, c9, rfl⟩ := own_slice hr9; have hb9 : Bk w9 (w.heap.size + 1 + 1) 61 [.bool ng, .string rl, .slice Av j cv] := Bk.fr (HJ3.out.bk.alloc _) (grown_fr hg9) (fun e => own_bk HJ3.out.row HJ3.out.bk (by decide) e rfl); have b9 := hb9.cell (i := 2) (by simp); have f9 := hb9.free 2; simp only [List.getElem_cons_zero, List.getElem_cons_succ] at b9; have HZ9 := Lib.hid ((HZ3.out.alloc _).fr (grown_fr hg9) (fun e => own_bk HJ3.out.row HZ3.out (by decide) e rfl)); have HS9 := Lib.hid (ReI.step (x := z) HJ3.out (by omega) ((Ext.refl _).alloc _) hr9 hg9); clear hr9 hg9 hl9 hb9))
            go_roundw
            case rel => exact ⟨j + 1, .slice A9 (j + 1) c9, by omega, by go_num, by rw [HETK.out, HREP.out]; exact HS9.out, HZ9.out.far (by simp) _⟩
            case measure => simp [intOf]; omega
    · obtain rfl : j = nt := by omega
      have hdn : ¬ (j : Int) < (j : Int) := by omega
      have HJ := Lib.hid hJ; have HZ := Lib.hid hz
      have u0 := hJ.bk.cell (i := 0) (by simp)
      have u1 := hJ.bk.cell (i := 1) (by simp)
      have u2 := hJ.bk.cell (i := 2) (by simp)
      have v0 := hz.cell (i := 0) (by simp)
      have v1 := hz.cell (i := 1) (by simp)
      have v2 := hz.cell (i := 2) (by simp)
      have f0 := hz.free 0
      have f1 := hz.free 1
      have f2 := hz.free 2
      simp only [List.getElem_cons_zero, List.getElem_cons_succ] at u0 u1 u2 v0 v1 v2
      clear hJ hz
      go_wp2_with fail
      have kz := ((HZ.out.set 0 (.bool ng)).set 1 (.string rl)).set 2 (.slice Av j cv)
      have hfz : Fr (fun k => k = w.heap.size + 1) wr (((wr.setCell ⟨w.heap.size + 1, 0, none⟩ (.bool ng)).setCell ⟨w.heap.size + 1, 1, none⟩ (.string rl)).setCell ⟨w.heap.size + 1, 2, none⟩ (.slice Av j cv)) := (((Fr.refl (fun k => k = w.heap.size + 1) wr).setCell (p := ⟨w.heap.size + 1, 0, none⟩) (.inl rfl) _).setCell (p := ⟨w.heap.size + 1, 1, none⟩) (.inl rfl) _).setCell (p := ⟨w.heap.size + 1, 2, none⟩) (.inl rfl) _
      have hJz := HJ.out.far hfz (by omega) (by omega) (fun e => own_bk HJ.out.row HZ.out (by decide) e rfl)
      have r0 := kz.cell (i := 0) (by simp)
      have r1 := kz.cell (i := 1) (by simp)
      have r2 := kz.cell (i := 2) (by simp)
      simp only [List.set_cons_zero, List.set_cons_succ, List.getElem_cons_zero, List.getElem_cons_succ] at r0 r1 r2
      generalize (((wr.setCell ⟨w.heap.size + 1, 0, none⟩ (.bool ng)).setCell ⟨w.heap.size + 1, 1, none⟩ (.string rl)).setCell ⟨w.heap.size + 1, 2, none⟩ (.slice Av j cv)) = wz at *
      refine bodyPost_ret (v := .agg #[.bool ng, .string rl, .slice Av j cv]) ?_ rfl ⟨hJz.ext, .slice Av j cv, rfl, ?_⟩
      · simp [results, Tryd.results36, go_sem, r0, r1, r2]
      · have et : ts.take j = ts := by rw [HNT.out]; exact List.take_length
        have h := hJz.row
        rwa [et] at h
end Go.Proofs.YtiahaofjmcjdiaaDoor
