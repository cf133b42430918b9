/- The walk of HomomorphismFinds. -/
import Derived.Test.YtiahaofjmcjdiaaDoorRh
namespace Go.Proofs.YtiahaofjmcjdiaaDoor
open Go.RowKit

theorem Ras.mono {F G : Nat → Prop} {w : World} {v : Value} {xs : List RAt} (h : Ras F w v xs) (hs : ∀ k, k < w.heap.size → F k → G k) : Ras G w v xs :=
  let ⟨A, c, vs, h1, h2, h3, h4, h5⟩ := h; ⟨A, c, vs, h1, h2, h3, h4.mono hs, fun i h h' => (h5 i h h').mono hs⟩
theorem Prs.fr {S F : Nat → Prop} {w w' : World} {v : Value} {ps : List (ByteArray × Tm)} (h : Prs F w v ps) (hf : Fr S w w') (hs : ∀ k, F k → ¬ S k) : Prs F w' v ps := let ⟨A, c, h1, h2, h3⟩ := h; ⟨A, c, h1, h2, h3.fr hf hs⟩
theorem Prs.mono {F G : Nat → Prop} {w : World} {v : Value} {ps : List (ByteArray × Tm)} (h : Prs F w v ps) (hs : ∀ k, k < w.heap.size → F k → G k) : Prs G w v ps := let ⟨A, c, h1, h2, h3⟩ := h; ⟨A, c, h1, h2, h3.mono hs⟩
theorem Strs.ext {F : Nat → Prop} {w w' : World} {v : Value} {l : List ByteArray} (h : Strs F w v l) (he : Ext w w') : Strs F w' v l := let ⟨A, c, h1, h2, h3⟩ := h; ⟨A, c, h1, h2, h3.ext he⟩
theorem Strs.fr {S F : Nat → Prop} {w w' : World} {v : Value} {l : List ByteArray} (h : Strs F w v l) (hf : Fr S w w') (hs : ∀ k, F k → ¬ S k) : Strs F w' v l := let ⟨A, c, h1, h2, h3⟩ := h; ⟨A, c, h1, h2, h3.fr hf hs⟩
theorem Strs.mono {F G : Nat → Prop} {w : World} {v : Value} {l : List ByteArray} (h : Strs F w v l) (hs : ∀ k, k < w.heap.size → F k → G k) : Strs G w v l := let ⟨A, c, h1, h2, h3⟩ := h; ⟨A, c, h1, h2, h3.mono hs⟩

/-- A block that is neither the numbers' cell nor their row. -/
structure Far (g : Nat) (v : Value) (w : World) (k : Nat) : Prop where
  ne : k ≠ g
  row : v.ownBlock ≠ some k
  lt : k < w.heap.size
theorem Far.step {g : Nat} {v v' : Value} {w w' : World} {S : Nat → Prop} {k : Nat} (h : Far g v w k) (hf : Fr S w w') (hl : v'.ownBlock = v.ownBlock ∨ ∀ k, v'.ownBlock = some k → w.heap.size ≤ k) : Far g v' w' k :=
  ⟨h.ne, fun e => by
    rcases hl with hl | hl
    · exact h.row (hl ▸ e)
    · have := hl k e; have := h.lt; omega, Nat.lt_of_lt_of_le h.lt hf.size⟩
theorem Far.off {g : Nat} {v : Value} {w : World} {k : Nat} (h : Far g v w k) : ¬ (k = g ∨ v.ownBlock = some k) := fun e => by
  rcases e with e | e
  · exact h.ne e
  · exact h.row e
theorem Far.use {g : Nat} {v : Value} {w : World} (k : Nat) (h : Far g v w k) : k ≠ g ∧ v.ownBlock ≠ some k := ⟨h.ne, h.row⟩
theorem Far.below {g : Nat} {v : Value} {w : World} (k : Nat) (h : Far g v w k) : k < w.heap.size := h.lt
theorem Far.ext {g : Nat} {v : Value} {w w' : World} {k : Nat} (h : Far g v w k) (he : Ext w w') : Far g v w' k := h.step (he.fr (fun _ => False)) (.inl rfl)

/-- The pairs that Find returns. -/
def prsOf (xs ys : List At) (fx : List ByteArray) : List (ByteArray × Tm) := match findS xs ys fx with
  | none => []
  | some im => pairsOf (varsT (allT xs)) im
theorem find_out {w w' : World} {e : Ending} {xs ys : List At} {fx : List ByteArray} (hp : FindPost xs ys fx w e w') :
    ∃ A n c b, e = .returned (.tuple #[.slice A n c, .bool b, .int .i64 0]) ∧ Ext w w' ∧ n = (prsOf xs ys fx).length ∧ b = (findS xs ys fx).isSome ∧ Prs (fun _ => True) w' (.slice A n c) (prsOf xs ys fx) := by
  obtain ⟨he, hp⟩ := hp
  unfold prsOf
  split at hp
  · rename_i h
    rw [h]
    exact ⟨none, 0, 0, false, hp, he, rfl, rfl, none, 0, rfl, by simp, .inl rfl⟩
  · rename_i im h
    rw [h]
    obtain ⟨v, rfl, hr⟩ := hp
    obtain ⟨A, c, rfl⟩ := own_slice hr
    obtain ⟨g1, g2, g3⟩ := Cl.own hr (fun _ => True) (fun _ _ => trivial)
    exact ⟨A, _, c, true, rfl, he, by simp [pairsOf], rfl, A, c, by simp [pairsOf], by simp only [pairsOf, List.length_map]; exact g1, g3⟩
theorem rats_pre {xs : List At} {T T' : List Tm} (h : ∀ t ∈ allT xs, t.key ∈ T) (hp : T <+: T') : xs.map (rat T) = xs.map (rat T') :=
  List.map_congr_left (fun a ha => (rat_pre (fun t ht => h t (allT_iff.2 ⟨a, ha, ht⟩)) hp).symm)
theorem lpureB_out {xs : List At} {nc : Nat} (h : lpureB xs nc = true) : (∀ a ∈ xs, a.neg = false) ∧ nc = 0 := of_decide_eq_true h
theorem hpureB_bad {xs : List At} {nc : Nat} (h : lpureB xs nc = false) : hpureB xs nc = false := by
  have h := of_decide_eq_false h
  exact decide_eq_false (fun k => h ⟨fun a ha => (k.1 a ha).1, k.2⟩)
theorem two_new (w : World) (o0 o1 : List Value) (t0 t1 : TypeId) (W : World) (hW : W = (w.alloc (.cells o0.toArray t0)).alloc (.cells o1.toArray t1)) :
    Bk W w.heap.size t0 o0 ∧ Bk W (w.heap.size + 1) t1 o1 ∧ Ext w W := by
  subst hW
  have k0 := Bk.new w t0 o0
  have k1 := Bk.new (w.alloc (.cells o0.toArray t0)) t1 o1
  rw [show (w.alloc (.cells o0.toArray t0)).heap.size = w.heap.size + 1 by simp] at k1
  exact ⟨k0.alloc _, k1, (((Ext.refl w).alloc _).alloc _)⟩
/-- The two boxes. -/
structure Bx2 (w wr : World) (la lb : List Value) : Prop where
  a : Bk wr w.heap.size 25 la
  b : Bk wr (w.heap.size + 1) 25 lb
  ext : Ext w wr
theorem Bx2.fore {w wr w' : World} {la lb : List Value} (h : Bx2 w wr la lb) (he : Ext wr w') : Bx2 w w' la lb := ⟨h.a.ext he, h.b.ext he, h.ext.trans he⟩

/-- The numbers, made anew: what was there is far from them. -/
theorem far_new {w : World} {k : Nat} (o : Obj) (hk : k < w.heap.size) : Far w.heap.size (.slice none 0 0) (w.alloc o) k := ⟨by omega, by simp [Value.ownBlock], by simp; omega⟩
theorem num_new (w : World) : NumB (w.alloc (.cells #[.slice none 0 0] 35)) w.heap.size w.heap.size (.slice none 0 0) [] :=
  ⟨Bk.new w 35 [.slice none 0 0], World.ownsRow_nil _ _ _ _⟩

/-- atoms, seen from the blocks far from the numbers. -/
theorem atoms_far {V V' : World} {g : Nat} {v : Value} {T : List Tm} {xs : List At} {e : Ending} (hg : g < V.heap.size) (hp : AtomsPost g g v T xs V e V') :
    ∃ x v', e = .returned x ∧ NumB V' g g v' (tabT T (allT xs)) ∧ Fr (fun k => k = g ∨ v.ownBlock = some k) V V' ∧ (v'.ownBlock = v.ownBlock ∨ ∀ k, v'.ownBlock = some k → V.heap.size ≤ k) ∧ Ras (Far g v' V') V' x (xs.map (rat (tabT T (allT xs)))) := by
  obtain ⟨x, v', h1, h2, h3, h4, h5⟩ := hp
  exact ⟨x, v', h1, h2, h3, h4, h5.mono (fun k hk h => ⟨by omega, h.2, hk⟩)⟩
theorem far_far {V0 Vd V' : World} {g : Nat} {v v' : Value} {S : Nat → Prop} {k : Nat} (h : Far g v V0 k) (hd : Ext V0 Vd) (hf : Fr S Vd V') (hl : v'.ownBlock = v.ownBlock ∨ ∀ k, v'.ownBlock = some k → Vd.heap.size ≤ k) : Far g v' V' k := (h.ext hd).step hf hl
theorem far_ats {V0 Vd V' : World} {g : Nat} {v v' sv : Value} {xs : List At} (h : Ats (Far g v V0) V0 sv xs) (hd : Ext V0 Vd) (hf : Fr (fun k => k = g ∨ v.ownBlock = some k) Vd V') (hl : v'.ownBlock = v.ownBlock ∨ ∀ k, v'.ownBlock = some k → Vd.heap.size ≤ k) : Ats (Far g v' V') V' sv xs :=
  ((h.ext hd).fr hf (fun _ hk => Far.off hk)).mono (fun _ _ hk => far_far hk hd hf hl)
theorem far_strs {V0 Vd V' : World} {g : Nat} {v v' sv : Value} {xs : List ByteArray} (h : Strs (Far g v V0) V0 sv xs) (hd : Ext V0 Vd) (hf : Fr (fun k => k = g ∨ v.ownBlock = some k) Vd V') (hl : v'.ownBlock = v.ownBlock ∨ ∀ k, v'.ownBlock = some k → Vd.heap.size ≤ k) : Strs (Far g v' V') V' sv xs :=
  ((h.ext hd).fr hf (fun _ hk => Far.off hk)).mono (fun _ _ hk => far_far hk hd hf hl)
theorem far_prs {V0 Vd V' : World} {g : Nat} {v v' sv : Value} {xs : List (ByteArray × Tm)} (h : Prs (Far g v V0) V0 sv xs) (hd : Ext V0 Vd) (hf : Fr (fun k => k = g ∨ v.ownBlock = some k) Vd V') (hl : v'.ownBlock = v.ownBlock ∨ ∀ k, v'.ownBlock = some k → Vd.heap.size ≤ k) : Prs (Far g v' V') V' sv xs :=
  ((h.ext hd).fr hf (fun _ hk => Far.off hk)).mono (fun _ _ hk => far_far hk hd hf hl)
theorem far_ras {V0 Vd V' : World} {g : Nat} {v v' sv : Value} {xs : List RAt} (h : Ras (Far g v V0) V0 sv xs) (hd : Ext V0 Vd) (hf : Fr (fun k => k = g ∨ v.ownBlock = some k) Vd V') (hl : v'.ownBlock = v.ownBlock ∨ ∀ k, v'.ownBlock = some k → Vd.heap.size ≤ k) : Ras (Far g v' V') V' sv xs :=
  ((h.ext hd).fr hf (fun _ hk => Far.off hk)).mono (fun _ _ hk => far_far hk hd hf hl)
theorem bx_cells {w V0 Vd V' : World} {g : Nat} {v p q r s : Value} (h : Bx2 w V0 [p, q] [r, s]) (hd : Ext V0 Vd) (hf : Fr (fun k => k = g ∨ v.ownBlock = some k) Vd V') (h1 : Far g v V0 w.heap.size) (h2 : Far g v V0 (w.heap.size + 1)) :
    V'.cell? ⟨w.heap.size, 0, none⟩ = some p ∧ V'.cell? ⟨w.heap.size, 1, none⟩ = some q ∧ V'.cell? ⟨w.heap.size + 1, 0, none⟩ = some r ∧ V'.cell? ⟨w.heap.size + 1, 1, none⟩ = some s := by
  have ka := (h.a.ext hd).fr hf h1.off
  have kb := (h.b.ext hd).fr hf h2.off
  exact ⟨ka.cell (i := 0) (by simp), ka.cell (i := 1) (by simp), kb.cell (i := 0) (by simp), kb.cell (i := 1) (by simp)⟩
theorem bx_cells2 {V V' : World} {a b g : Nat} {v p q r s : Value} (h : V.cell? ⟨a, 0, none⟩ = some p ∧ V.cell? ⟨a, 1, none⟩ = some q ∧ V.cell? ⟨b, 0, none⟩ = some r ∧ V.cell? ⟨b, 1, none⟩ = some s) (hf : Fr (fun k => k = g ∨ v.ownBlock = some k) V V') (h1 : Far g v V a) (h2 : Far g v V b) :
    V'.cell? ⟨a, 0, none⟩ = some p ∧ V'.cell? ⟨a, 1, none⟩ = some q ∧ V'.cell? ⟨b, 0, none⟩ = some r ∧ V'.cell? ⟨b, 1, none⟩ = some s :=
  ⟨hf.cell h.1 h1.off, hf.cell h.2.1 h1.off, hf.cell h.2.2.1 h2.off, hf.cell h.2.2.2 h2.off⟩

/-- Behind the numbering: everything that the rest reads. -/
structure Nd (w0 V : World) (g : Nat) (vn : Value) (T : List Tm) (xa xb : List At) (fx : List ByteArray) (x1 x2 t3 : Value) (m : Value) (ps : List (ByteArray × Tm)) : Prop where
  num : NumB V g g vn T
  ra : Ras (fun _ => True) V x1 (xa.map (rat T))
  rb : Ras (fun _ => True) V x2 (xb.map (rat T))
  rx : Ins (fun _ => True) V t3 ((nmT fx).map (numT T))
  pr : Prs (fun _ => True) V m ps
  ext : Ext w0 V
  ka : ∀ t ∈ allT xa, t.key ∈ T
  kb : ∀ t ∈ allT xb, t.key ∈ T
  kx : ∀ t ∈ nmT fx, t.key ∈ T
  len : T.length ≤ 1000
theorem Nd.fore {w0 V V' : World} {g : Nat} {vn : Value} {T : List Tm} {xa xb : List At} {fx : List ByteArray} {x1 x2 t3 m : Value} {ps : List (ByteArray × Tm)} (h : Nd w0 V g vn T xa xb fx x1 x2 t3 m ps) (he : Ext V V') : Nd w0 V' g vn T xa xb fx x1 x2 t3 m ps :=
  ⟨h.num.ext he, h.ra.ext he, h.rb.ext he, h.rx.ext he, h.pr.ext he, h.ext.trans he, h.ka, h.kb, h.kx, h.len⟩

theorem nd_mk {w wb wc : World} {g : Nat} {v2 v3 t3 x1 x2 m : Value} {xa xb : List At} {fx : List ByteArray} {ps : List (ByteArray × Tm)} (hext : Ext w wb) (hwg : w.heap.size ≤ g) (hn2 : NumB wb g g v2 (tabT (tabT [] (allT xa)) (allT xb))) (hra : Ras (Far g v2 wb) wb x1 (xa.map (rat (tabT [] (allT xa))))) (hrb : Ras (Far g v2 wb) wb x2 (xb.map (rat (tabT (tabT [] (allT xa)) (allT xb)))))
    (hpr : Prs (Far g v2 wb) wb m ps) (hN : NmI wb wc g g v2 (tabT (tabT [] (allT xa)) (allT xb)) (nmT fx) t3 v3) (hal : (allT xa).length ≤ 30) (hbl : (allT xb).length ≤ 30) (hfl : fx.length ≤ 10) :
    Nd w wc g v3 (tabT (tabT (tabT [] (allT xa)) (allT xb)) (nmT fx)) xa xb fx x1 x2 t3 m ps := by
  have p1 := tabT_pre (tabT [] (allT xa)) (allT xb)
  have p2 := tabT_pre (tabT (tabT [] (allT xa)) (allT xb)) (nmT fx)
  have ka : ∀ t ∈ allT xa, t.key ∈ tabT [] (allT xa) := fun t ht => tabT_mem ht
  have kb : ∀ t ∈ allT xb, t.key ∈ tabT (tabT [] (allT xa)) (allT xb) := fun t ht => tabT_mem ht
  refine ⟨hN.num, ?_, ?_, ?_, ?_, ?_, fun t ht => p2.subset (p1.subset (ka t ht)), fun t ht => p2.subset (kb t ht), fun t ht => tabT_mem ht, ?_⟩
  · rw [rats_pre ka (p1.trans p2)] at hra
    exact (hra.fr hN.fr (fun _ hk => Far.off hk)).mono (fun _ _ _ => trivial)
  · rw [rats_pre kb p2] at hrb
    exact (hrb.fr hN.fr (fun _ hk => Far.off hk)).mono (fun _ _ _ => trivial)
  · exact (Ins.of_own hN.row).mono (fun _ _ _ => trivial)
  · exact (hpr.fr hN.fr (fun _ hk => Far.off hk)).mono (fun _ _ _ => trivial)
  · refine hN.fr.new hext (fun k hk => ?_)
    rcases hk with rfl | hk
    · exact hwg
    · exact Nat.le_trans hwg (own_ge hn2.row hk)
  · have l1 := tabT_length [] (allT xa)
    have l2 := tabT_length (tabT [] (allT xa)) (allT xb)
    have l3 := tabT_length (tabT (tabT [] (allT xa)) (allT xb)) (nmT fx)
    have l4 := nmT_length fx
    simp only [List.length_nil] at l1
    omega

set_option maxRecDepth 100000 in
set_option maxHeartbeats 3200000 in
theorem finds_any {F : Nat → Prop} {w : World} {svA svB vx : Value} {CA CB : Option Addr} {na ca nb cb : Nat} {xa xb : List At} {fx : List ByteArray} (hA : Ats F w svA xa) (hB : Ats F w svB xb) (hX : Strs F w vx fx) (ra : Rg xa) (rb : Rg xb) (hfs : ∀ v ∈ fx, v.size ≤ 1048576) (htab : TabE w) :
    Calls Tryd.prog 3 #[.agg #[svA, .slice CA na ca], .agg #[svB, .slice CB nb cb], vx] w (Ret (fun x _ => x = .bool true) w) := by
  have HA := Lib.hid hA; have HB := Lib.hid hB; have HXX := Lib.hid hX; have RA := Lib.hid ra; have RB := Lib.hid rb; have HTAB := Lib.hid htab; have HFS := Lib.hid hfs
  obtain ⟨A1, c1, n1, h1⟩ : ∃ A c n, svA = .slice A n c := by obtain ⟨A, c, vs, hv, _⟩ := hA; exact ⟨A, c, _, hv⟩
  obtain ⟨A2, c2, n2, h2⟩ : ∃ A c n, svB = .slice A n c := by obtain ⟨A, c, vs, hv, _⟩ := hB; exact ⟨A, c, _, hv⟩
  obtain ⟨A3, c3, n3, h3, hn3⟩ : ∃ A c n, vx = .slice A n c ∧ n = fx.length := by obtain ⟨A, c, hv, _⟩ := hX; exact ⟨A, c, _, hv, rfl⟩
  subst h1 h2 h3
  have HN3 := Lib.hid hn3
  clear hA hB hX ra rb htab hfs hn3
  go_enter Tryd.func3, Tryd.ntmps3
  go_wp2_with fail
  have h3 := two_new w [.slice A1 n1 c1, .slice CA na ca] [.slice A2 n2 c2, .slice CB nb cb] 25 25 _ rfl
  change Bk ((w.alloc (.cells #[.slice A1 n1 c1, .slice CA na ca] 25)).alloc (.cells #[.slice A2 n2 c2, .slice CB nb cb] 25)) _ _ _ ∧ Bk ((w.alloc (.cells #[.slice A1 n1 c1, .slice CA na ca] 25)).alloc (.cells #[.slice A2 n2 c2, .slice CB nb cb] 25)) _ _ _ ∧ Ext w ((w.alloc (.cells #[.slice A1 n1 c1, .slice CA na ca] 25)).alloc (.cells #[.slice A2 n2 c2, .slice CB nb cb] 25)) at h3
  generalize ((w.alloc (.cells #[.slice A1 n1 c1, .slice CA na ca] 25)).alloc (.cells #[.slice A2 n2 c2, .slice CB nb cb] 25)) = w1 at *
  obtain ⟨k1, k2, hx1⟩ := h3
  have HX : Hid (Bx2 w w1 [.slice A1 n1 c1, .slice CA na ca] [.slice A2 n2 c2, .slice CB nb cb]) := Lib.hid ⟨k1, k2, hx1⟩
  clear k1 k2 hx1
  refine (great_any (HA.out.ext HX.out.ext) RA.out.bd).mono ?_
  rintro e v2 ⟨y, rfl, hen, bA, rfl, hsA⟩
  replace HX := Lib.hid (HX.out.fore hen)
  clear hen
  rcases bA with _ | _
  case true =>
    clear hsA
    go_wp2_with fail
    refine (awake_any (HTAB.out.fore HX.out.ext)).mono ?_
    rintro e wz ⟨y, rfl, hez, rfl⟩
    have HZ := Lib.hid (HX.out.ext.trans hez)
    clear hez
    go_wp2_with fail
    go_ret
    exact Ret.mk HZ.out rfl
  have SMA := Lib.hid (hsA rfl)
  clear hsA
  have a0 := HX.out.a.cell (i := 0) (by simp); have a1 := HX.out.a.cell (i := 1) (by simp); have b0 := HX.out.b.cell (i := 0) (by simp); have b1 := HX.out.b.cell (i := 1) (by simp)
  simp only [List.getElem_cons_zero, List.getElem_cons_succ] at a0 a1 b0 b1
  go_wp2_with fail
  clear a0 a1 b0 b1
  refine (great_any (HB.out.ext HX.out.ext) RB.out.bd).mono ?_
  rintro e v3 ⟨y, rfl, hen, bB, rfl, hsB⟩
  replace HX := Lib.hid (HX.out.fore hen)
  clear hen
  rcases bB with _ | _
  case true =>
    clear hsB
    go_wp2_with fail
    refine (awake_any (HTAB.out.fore HX.out.ext)).mono ?_
    rintro e wz ⟨y, rfl, hez, rfl⟩
    have HZ := Lib.hid (HX.out.ext.trans hez)
    clear hez
    go_wp2_with fail
    go_ret
    exact Ret.mk HZ.out rfl
  have SMB := Lib.hid (hsB rfl)
  clear hsB
  by_cases hbig : 10 < n3
  case pos =>
    have hbig2 : decide ((10 : Int) < (n3 : Int)) = true := decide_eq_true (by omega)
    go_wp2_with fail
    refine (awake_any (HTAB.out.fore HX.out.ext)).mono ?_
    rintro e wz ⟨y, rfl, hez, rfl⟩
    have HZ := Lib.hid (HX.out.ext.trans hez)
    clear hez
    go_wp2_with fail
    go_ret
    exact Ret.mk HZ.out rfl
  have hbig2 : decide ((10 : Int) < (n3 : Int)) = false := decide_eq_false (by omega)
  have a0 := HX.out.a.cell (i := 0) (by simp); have a1 := HX.out.a.cell (i := 1) (by simp); have b0 := HX.out.b.cell (i := 0) (by simp); have b1 := HX.out.b.cell (i := 1) (by simp)
  simp only [List.getElem_cons_zero, List.getElem_cons_succ] at a0 a1 b0 b1
  go_wp2_with fail
  clear a0 a1 b0 b1
  by_cases hpp : lpureB xa na = true ∧ lpureB xb nb = true
  case neg =>
    refine (find_bad (HA.out.ext HX.out.ext) (HB.out.ext HX.out.ext) RA.out.bd RB.out.bd (Lib.hid (by
      rcases ha : lpureB xa na with _ | _
      · exact .inl (hpureB_bad ha)
      · rcases hb : lpureB xb nb with _ | _
        · exact .inr (hpureB_bad hb)
        · exact absurd ⟨ha, hb⟩ hpp))).mono ?_
    rintro e v4 ⟨hen, rfl⟩
    replace HX := Lib.hid (HX.out.fore hen)
    have HPP := Lib.hid hpp
    clear hen hpp
    have a0 := HX.out.a.cell (i := 0) (by simp); have a1 := HX.out.a.cell (i := 1) (by simp); have b0 := HX.out.b.cell (i := 0) (by simp); have b1 := HX.out.b.cell (i := 1) (by simp)
    simp only [List.getElem_cons_zero, List.getElem_cons_succ] at a0 a1 b0 b1
    go_wp2_with fail
    clear a0 a1 b0 b1
    refine (lpure_any (HA.out.ext HX.out.ext) RA.out.bd.len).mono ?_
    rintro e v5 ⟨y, rfl, hen, rfl⟩
    replace HX := Lib.hid (HX.out.fore hen)
    clear hen
    rcases hpa : lpureB xa na with _ | _
    case false =>
      clear hpa
      go_wp2_with fail
      refine (awake_any (HTAB.out.fore HX.out.ext)).mono ?_
      rintro e wz ⟨y, rfl, hez, rfl⟩
      have HZ := Lib.hid (HX.out.ext.trans hez)
      clear hez
      go_wp2_with fail
      go_ret
      exact Ret.mk HZ.out rfl
    have HPA := Lib.hid hpa
    clear hpa
    have a0 := HX.out.a.cell (i := 0) (by simp); have a1 := HX.out.a.cell (i := 1) (by simp); have b0 := HX.out.b.cell (i := 0) (by simp); have b1 := HX.out.b.cell (i := 1) (by simp)
    simp only [List.getElem_cons_zero, List.getElem_cons_succ] at a0 a1 b0 b1
    go_wp2_with fail
    clear a0 a1 b0 b1
    refine (lpure_any (HB.out.ext HX.out.ext) RB.out.bd.len).mono ?_
    rintro e v6 ⟨y, rfl, hen, rfl⟩
    replace HX := Lib.hid (HX.out.fore hen)
    clear hen
    rcases hpb : lpureB xb nb with _ | _
    case true => exact absurd ⟨HPA.out, hpb⟩ HPP.out
    clear hpb
    go_wp2_with fail
    refine (awake_any (HTAB.out.fore HX.out.ext)).mono ?_
    rintro e wz ⟨y, rfl, hez, rfl⟩
    have HZ := Lib.hid (HX.out.ext.trans hez)
    clear hez
    go_wp2_with fail
    go_ret
    exact Ret.mk HZ.out rfl
  obtain ⟨hpa, hpb⟩ := hpp
  have HPA := Lib.hid hpa; have HPB := Lib.hid hpb
  clear hpa hpb
  obtain ⟨gA, rfl⟩ := lpureB_out HPA.out
  obtain ⟨gB, rfl⟩ := lpureB_out HPB.out
  have SA : Hid (Sp xa) := Lib.hid ⟨RA.out, SMA.out, gA⟩
  have SB : Hid (Sp xb) := Lib.hid ⟨RB.out, SMB.out, gB⟩
  clear gA gB
  refine (find_good (HA.out.ext HX.out.ext) (HB.out.ext HX.out.ext) (HXX.out.ext HX.out.ext) RA.out.bd RB.out.bd (Lib.hid SA.out.pure) (Lib.hid SB.out.pure) (by have := SA.out.sm.len; omega) (by have := SB.out.sm.len; omega)
    (Lib.hid (fun a ha => (SA.out.sm.terms a ha).1)) (Lib.hid (fun a ha => (SB.out.sm.terms a ha).1)) (by have := SA.out.vars; omega) (Nat.le_trans (distT_length _) (by have := SB.out.all; omega)) (by have := HN3.out; omega) (Lib.hid (fun v hv => Nat.le_trans (HFS.out v hv) (by simp [maxLen]))) (Lib.hid (fun v hv => Nat.le_trans (SA.out.vsize v hv) (by simp [maxLen])))).mono ?_
  intro e v4 hp
  obtain ⟨Am, nm, cm, bm, rfl, hen, hnm, hbm, hpm⟩ := find_out hp
  replace HX := Lib.hid (HX.out.fore hen)
  have HPM := Lib.hid hpm; have HNM := Lib.hid hnm; have HBM := Lib.hid hbm
  clear hp hen hpm hnm hbm
  have a0 := HX.out.a.cell (i := 0) (by simp); have a1 := HX.out.a.cell (i := 1) (by simp); have b0 := HX.out.b.cell (i := 0) (by simp); have b1 := HX.out.b.cell (i := 1) (by simp)
  simp only [List.getElem_cons_zero, List.getElem_cons_succ] at a0 a1 b0 b1
  go_wp2_with fail
  clear a0 a1 b0 b1
  refine (lpure_any (HA.out.ext HX.out.ext) RA.out.bd.len).mono ?_
  rintro e v5 ⟨y, rfl, hen, rfl⟩
  replace HX := Lib.hid (HX.out.fore hen)
  replace HPM := Lib.hid (HPM.out.ext hen)
  rw [HPA.out]
  clear hen
  have a0 := HX.out.a.cell (i := 0) (by simp); have a1 := HX.out.a.cell (i := 1) (by simp); have b0 := HX.out.b.cell (i := 0) (by simp); have b1 := HX.out.b.cell (i := 1) (by simp)
  simp only [List.getElem_cons_zero, List.getElem_cons_succ] at a0 a1 b0 b1
  go_wp2_with fail
  clear a0 a1 b0 b1
  refine (lpure_any (HB.out.ext HX.out.ext) RB.out.bd.len).mono ?_
  rintro e v6 ⟨y, rfl, hen, rfl⟩
  replace HX := Lib.hid (HX.out.fore hen)
  replace HPM := Lib.hid (HPM.out.ext hen)
  rw [HPB.out]
  clear hen
  go_upto_region 7 with fail
  have hx0 : Ext v6 (v6.alloc (.cells #[.slice none 0 0] 35)) := (Ext.refl _).alloc _
  have HN0 := Lib.hid (num_new v6)
  have HFA : Hid (Ats (Far v6.heap.size (.slice none 0 0) (v6.alloc (.cells #[.slice none 0 0] 35))) (v6.alloc (.cells #[.slice none 0 0] 35)) (.slice A1 n1 c1) xa) := Lib.hid (((HA.out.ext HX.out.ext).mono (fun k hk _ => far_new _ hk)).ext hx0)
  have HFB : Hid (Ats (Far v6.heap.size (.slice none 0 0) (v6.alloc (.cells #[.slice none 0 0] 35))) (v6.alloc (.cells #[.slice none 0 0] 35)) (.slice A2 n2 c2) xb) := Lib.hid (((HB.out.ext HX.out.ext).mono (fun k hk _ => far_new _ hk)).ext hx0)
  have HFX : Hid (Strs (Far v6.heap.size (.slice none 0 0) (v6.alloc (.cells #[.slice none 0 0] 35))) (v6.alloc (.cells #[.slice none 0 0] 35)) (.slice A3 n3 c3) fx) := Lib.hid (((HXX.out.ext HX.out.ext).mono (fun k hk _ => far_new _ hk)).ext hx0)
  have HFM : Hid (Prs (Far v6.heap.size (.slice none 0 0) (v6.alloc (.cells #[.slice none 0 0] 35))) (v6.alloc (.cells #[.slice none 0 0] 35)) (.slice Am nm cm) (prsOf xa xb fx)) := Lib.hid ((HPM.out.mono (fun k hk _ => far_new _ hk)).ext hx0)
  have HF1 : Hid (Far v6.heap.size (.slice none 0 0) (v6.alloc (.cells #[.slice none 0 0] 35)) w.heap.size) := Lib.hid (far_new _ HX.out.a.lt)
  have HF2 : Hid (Far v6.heap.size (.slice none 0 0) (v6.alloc (.cells #[.slice none 0 0] 35)) (w.heap.size + 1)) := Lib.hid (far_new _ HX.out.b.lt)
  have HXE := Lib.hid HX.out.ext
  have hwg : w.heap.size ≤ v6.heap.size := HX.out.ext.size
  replace HX := Lib.hid (HX.out.fore hx0)
  have hgl : v6.heap.size < (v6.alloc (.cells #[.slice none 0 0] 35)).heap.size := by simp
  clear hx0 HPM
  generalize (v6.alloc (.cells #[.slice none 0 0] 35)) = V0 at *
  obtain ⟨g, hg⟩ : ∃ g, g = v6.heap.size := ⟨_, rfl⟩
  rw [← hg] at HN0 HFA HFB HFX HFM HF1 HF2 hgl hwg ⊢
  clear hg HXE
  have a0 := HX.out.a.cell (i := 0) (by simp); have a1 := HX.out.a.cell (i := 1) (by simp); have b0 := HX.out.b.cell (i := 0) (by simp); have b1 := HX.out.b.cell (i := 1) (by simp)
  simp only [List.getElem_cons_zero, List.getElem_cons_succ] at a0 a1 b0 b1
  have hd0 : Ext V0 V0.drew := (Ext.refl V0).drew
  have HC1 := Lib.hid (atoms_any (Ac := CA) (nc := 0) (cc := ca) (HN0.out.ext hd0) (HFA.out.ext hd0) Far.use (by have := SA.out.all; simp; omega) (by have := SA.out.sm.len; omega) (by have := hd0.size; omega) (fun k hk => Nat.lt_of_lt_of_le hk.lt hd0.size))
  have hgd : g < V0.drew.heap.size := by have := hd0.size; omega
  have hta := tabT_length [] (allT xa)
  have hal : (allT xa).length ≤ 30 := SA.out.all
  have hbl : (allT xb).length ≤ 30 := SB.out.all
  have HD0 := Lib.hid hd0
  clear hd0
  go_region_held3 (fun V => V.cell? ⟨w.heap.size, 0, none⟩ = some (.slice A1 n1 c1) ∧ V.cell? ⟨w.heap.size, 1, none⟩ = some (.slice CA 0 ca) ∧ V.cell? ⟨w.heap.size + 1, 0, none⟩ = some (.slice A2 n2 c2) ∧ V.cell? ⟨w.heap.size + 1, 1, none⟩ = some (.slice CB 0 cb))
    (first | exact ⟨a0, a1, b0, b1⟩ | exact hS1 | exact hS2)
    (first
      | (go_at_call 11; with_reducible refine HC1.out.mono ?_; intro e wa hp1; obtain ⟨x1, v1, rfl, hn1, hf1, hl1, hr1⟩ := atoms_far hgd hp1; have hS1 := bx_cells HX.out HD0.out hf1 HF1.out HF2.out; clear hp1)
      | (go_at_call 11; with_reducible refine (atoms_any (Ac := CB) (nc := 0) (cc := cb) (xs := xb) hn1 (far_ats HFB.out HD0.out hf1 hl1) Far.use (by simp at hta; omega) (by have := SB.out.sm.len; omega) (by have := hf1.size; omega) Far.below).mono ?_; intro e wb hp2; obtain ⟨x2, v2, rfl, hn2, hf2, hl2, hr2⟩ := atoms_far (by have := hf1.size; omega) hp2; have hS2 := bx_cells2 hS1 hf2 (far_far HF1.out HD0.out hf1 hl1) (far_far HF2.out HD0.out hf1 hl1); clear hp2))
  have hwa : Ext w wa := hf1.new (HX.out.ext.trans HD0.out) (fun k hk => by
    rcases hk with hk | hk
    · omega
    · simp [Value.ownBlock] at hk)
  have hwb : Ext w wb := hf2.new hwa (fun k hk => by
    rcases hk with rfl | hk
    · exact hwg
    · exact Nat.le_trans hwg (own_ge hn1.row hk))
  have HWB := Lib.hid hwb; have HN2 := Lib.hid hn2; have HR2 := Lib.hid hr2; have HR1 := Lib.hid (far_ras hr1 (Ext.refl wa) hf2 hl2); have HX2 := Lib.hid (far_strs (far_strs HFX.out HD0.out hf1 hl1) (Ext.refl wa) hf2 hl2); have HM2 := Lib.hid (far_prs (far_prs HFM.out HD0.out hf1 hl1) (Ext.refl wa) hf2 hl2)
  have hgb : g < wb.heap.size := hn2.cell.lt
  have htb := tabT_length (tabT [] (allT xa)) (allT xb)
  simp only [List.length_nil] at hta
  have hfl : fx.length ≤ 10 := by have := HN3.out; omega
  have HT2 : Hid ((tabT (tabT [] (allT xa)) (allT xb)).length + fx.length ≤ 1048576) := Lib.hid (by omega)
  clear a0 a1 b0 b1 hS1 hS2 hn1 hf1 hl1 hr1 hn2 hf2 hl2 hr2 hwa hwb hta htb HX HD0 HC1 HFX HFM HFA HFB HF1 HF2 hgd hgl
  rename_i _ hHeld
  clear hHeld
  go_wp2_with fail
  refine (names_any HN2.out HX2.out Far.use HT2.out (by omega)).mono ?_
  rintro e wc ⟨t3, v3, rfl, hN⟩
  have HND := Lib.hid (nd_mk HWB.out hwg HN2.out HR1.out HR2.out HM2.out hN hal hbl hfl)
  clear hN HN2 HR1 HR2 HM2 HX2 HWB HT2
  obtain ⟨T, hT⟩ : ∃ T, T = tabT (tabT (tabT [] (allT xa)) (allT xb)) (nmT fx) := ⟨_, rfl⟩
  rw [← hT] at HND
  clear hT
  have HKA : Hid (∀ t ∈ allT xa, Kn T t) := Lib.hid (fun t ht => ⟨HND.out.ka t ht, by obtain ⟨a, ha, hta⟩ := allT_iff.1 ht; exact (SA.out.good a ha).2 t hta⟩)
  have HKB : Hid (∀ t ∈ allT xb, Kn T t) := Lib.hid (fun t ht => ⟨HND.out.kb t ht, by obtain ⟨a, ha, hta⟩ := allT_iff.1 ht; exact (SB.out.good a ha).2 t hta⟩)
  have HLAW := Lib.hid (find_law HKA.out HKB.out HND.out.kx)
  have HVN : Hid ((termsL true (allR (xa.map (rat T)))) = (varsT (allT xa)).map (fun v => numT T (varT v))) := Lib.hid (by rw [allR_rats, vars_num HKA.out])
  go_wp2_with fail
  refine (rfind_any (fs := xa.map (rat T)) (ts := xb.map (rat T)) (fx := (nmT fx).map (numT T)) (by have := SA.out.sm.len; simp; omega) (by have := SB.out.sm.len; simp; omega) (by rw [allR_rats, List.length_map]; omega) (by rw [allR_rats, List.length_map]; omega) (by have := nmT_length fx; simp; omega)
    (fun a ha => by obtain ⟨b, hb, rfl⟩ := List.mem_map.1 ha; have := (SA.out.sm.terms b hb).1; simp [rat]; omega) (varsT (allT xa)).length [] 0 wc (.slice none 0 0) HND.out.ra HND.out.rb HND.out.rx (World.ownsRow_nil _ _ _ _) (by rw [HVN.out]; simp)).mono ?_
  rw [HLAW.out]
  rintro e wd ⟨hed, A7, n7, c7, b7, rfl, h7⟩
  replace HND := Lib.hid (HND.out.fore hed)
  clear hed
  have hms : ∀ a ∈ xa.map (rat T), True := fun _ _ => trivial
  clear hms
  rcases hfi : findS xa xb fx with _ | im
  · rw [hfi] at h7 HBM
    have hps : prsOf xa xb fx = [] := by unfold prsOf; rw [hfi]
    rw [hps] at HNM HND
    have h7 : b7 = false := h7
    have hbm : bm = false := HBM.out
    have hnm : nm = 0 := HNM.out
    subst h7 hbm hnm
    clear HBM HNM hps hfi HLAW
    go_wp2_with fail
    refine (terms_ref HND.out.ra (by have := SA.out.sm.len; simp; omega) (by rw [allR_rats, List.length_map]; omega)).mono ?_
    rintro e we ⟨y, rfl, hee, hre⟩
    replace HND := Lib.hid (HND.out.fore hee)
    clear hee hre
    go_wp2_with fail
    go_loopw [99] (fun q wr => q = .int .i64 0 ∧ Ext we wr) (fun _ _ => 0)
    case atStart => exact ⟨rfl, Ext.refl _⟩
    case round =>
      obtain ⟨rfl, hext⟩ := hrel
      have HEX := Lib.hid (HND.out.ext.trans hext)
      clear hext
      go_wp2_with fail
      refine (awake_any (HTAB.out.fore HEX.out)).mono ?_
      rintro e wz ⟨y, rfl, hez, rfl⟩
      have HZ := Lib.hid (HEX.out.trans hez)
      clear hez
      go_wp2_with fail
      go_ret
      exact Ret.mk HZ.out rfl
  · rw [hfi] at h7 HBM
    have hps : prsOf xa xb fx = pairsOf (varsT (allT xa)) im := by unfold prsOf; rw [hfi]
    rw [hps] at HNM HND
    obtain ⟨h7, hin⟩ : b7 = true ∧ Ins (fun _ => True) wd (.slice A7 n7 c7) ((varsT (allT xa)).map (fun v => numT T ((im v).getD zeroT))) := h7
    have hbm : bm = true := HBM.out
    obtain ⟨nv, hnv⟩ : ∃ nv, nv = (varsT (allT xa)).length := ⟨_, rfl⟩
    have hnm : nm = nv := by rw [HNM.out, hnv]; simp [pairsOf]
    have hn7 : n7 = nv := by obtain ⟨A, c, e, -⟩ := hin; injection e with _ e _; rw [e, hnv]; simp
    have hnv4 : nv ≤ 4 := by rw [hnv]; exact SA.out.vars
    have HCS : Hid (∀ v ∈ varsT (allT xa), ∃ t ∈ distT (allT xb), im v = some t) := Lib.hid (by
      rw [findS_uns] at hfi
      exact (uns_out _ _ _ (varsT_nodup _) hfi).2.2)
    subst h7 hbm hnm hn7
    have HIN := Lib.hid hin; have HNV := Lib.hid hnv
    clear HBM HNM hps hfi HLAW hin hnv
    go_wp2_with fail
    refine (terms_ref HND.out.ra (by have := SA.out.sm.len; simp; omega) (by rw [allR_rats, List.length_map]; omega)).mono ?_
    rintro e we ⟨y, rfl, hee, hre⟩
    rw [HVN.out, List.length_map, ← HNV.out] at hre
    obtain ⟨Av, cv, rfl⟩ := own_slice hre
    replace HND := Lib.hid (HND.out.fore hee)
    replace HIN := Lib.hid (HIN.out.ext hee)
    have HRE := Lib.hid hre
    clear hee hre
    go_wp2_with fail
    go_loopw [99] (fun q wr => ∃ i : Nat, i ≤ n7 ∧ q = .int .i64 (i : Int) ∧ Ext we wr) (fun q _ => n7 - (intOf q).toNat)
    case atStart => exact ⟨0, Nat.zero_le _, rfl, Ext.refl _⟩
    case round =>
      obtain ⟨i, hi, rfl, hext⟩ := hrel
      by_cases hlt : i < n7
      · have i1 : (0 : Int) ≤ (i : Int) := by omega
        have i2 : (i : Int) < (n7 : Int) := by omega
        have hiv : i < (varsT (allT xa)).length := by have := HNV.out; omega
        obtain ⟨Bm, dm, em, -, clm⟩ := HND.out.pr
        injection em with em em1 em2
        subst em
        clear em1 em2
        obtain ⟨adm, rfl, -, p0, p1, p2, p3, p4⟩ := clm.pair (i := i) (by simpa [pairsOf] using hiv)
        obtain ⟨Bv, dv, ev, -, clv⟩ := Cl.of_own HRE.out
        injection ev with ev ev1 ev2
        subst ev
        clear ev1 ev2
        obtain ⟨adv, rfl, -, q0⟩ := clv.int (i := i) (by simpa using hiv)
        obtain ⟨Bw, dw, ew, -, clw⟩ := HIN.out
        injection ew with ew ew1 ew2
        subst ew
        clear ew1 ew2
        obtain ⟨adw, rfl, -, r0⟩ := clw.int (i := i) (by simpa using hiv)
        have hsv : (varsT (allT xa))[i] ∈ varsT (allT xa) := List.getElem_mem hiv
        simp only [List.getElem_map, pairsOf] at p0 p1 p2 p3 p4 q0 r0
        obtain ⟨s, hs⟩ : ∃ s, s = (varsT (allT xa))[i] := ⟨_, rfl⟩
        rw [← hs] at p0 p1 p2 p3 p4 q0 r0 hsv
        obtain ⟨x, hxc, hxm⟩ := HCS.out s hsv
        simp only [hxm, Option.getD_some] at p1 p2 p3 p4 r0
        have hkx : x.key ∈ T := (HKB.out x (distT_iff.1 hxc)).1
        have hks : (varT s).key ∈ T := by
          obtain ⟨u, hu, hus, hne⟩ := varsT_iff.1 hsv
          have := HKA.out u hu
          rw [ok_var this.2 (by rw [hus]; exact hne), hus] at this
          exact this.1
        have HOF1 := Lib.hid (fun (V : World) (hV : Ext wr V) => of_known (t := varT s) (HND.out.num.ext (hext.trans hV)) (by have := HND.out.len; omega) (Nat.le_of_lt (HND.out.num.ext (hext.trans hV)).cell.lt) hks)
        have HOF2 := Lib.hid (fun (V : World) (hV : Ext wr V) => of_known (t := x) (HND.out.num.ext (hext.trans hV)) (by have := HND.out.len; omega) (Nat.le_of_lt (HND.out.num.ext (hext.trans hV)).cell.lt) hkx)
        obtain ⟨vz, hvz⟩ : ∃ vz, vz = numT T (varT s) := ⟨_, rfl⟩
        obtain ⟨wz, hwz⟩ : ∃ wz, wz = numT T x := ⟨_, rfl⟩
        unfold KnownPost at HOF1 HOF2
        rw [← hvz] at HOF1 q0
        rw [← hwz] at HOF2 r0
        replace p0 := hext.cell p0
        replace p1 := hext.cell p1
        replace p2 := hext.cell p2
        replace p3 := hext.cell p3
        replace p4 := hext.cell p4
        replace q0 := hext.cell q0
        replace r0 := hext.cell r0
        have HEX := Lib.hid hext
        clear hvz hwz hkx hks hxc hxm hs hsv clm clv clw hext
        go_upto_region 17 with fail
        go_region_held3 (fun V => Ext wr V ∧ V.cell? (adm.add (i * 5)) = some (.string s) ∧ V.cell? ⟨(adm.add (i * 5)).block, (adm.add (i * 5)).off + 1, none⟩ = some (.string x.var) ∧ V.cell? ⟨(adm.add (i * 5)).block, (adm.add (i * 5)).off + 2, none⟩ = some (.int .i64 x.kind) ∧ V.cell? ⟨(adm.add (i * 5)).block, (adm.add (i * 5)).off + 3, none⟩ = some (.int .i64 x.int) ∧ V.cell? ⟨(adm.add (i * 5)).block, (adm.add (i * 5)).off + 4, none⟩ = some (.string x.str) ∧ V.cell? (adv.add i) = some (.int .i64 vz) ∧ V.cell? (adw.add i) = some (.int .i64 wz))
          ((refine (fun he => ⟨he, Ext.cell he p0, Ext.cell he p1, Ext.cell he p2, Ext.cell he p3, Ext.cell he p4, Ext.cell he q0, Ext.cell he r0⟩) ?_; repeat (first | exact Ext.refl _ | exact (Ext.refl _).drew | refine Ext.drew ?_ | refine Ext.trans ?_ (by assumption))))
          (first
            | (go_at_call 15; with_reducible refine (HOF1.out _ (And.left (by assumption))).mono ?_; rintro e wp ⟨rfl, hep⟩)
            | (go_at_call 15; with_reducible refine (HOF2.out _ (And.left (by assumption))).mono ?_; rintro e wq ⟨rfl, heq⟩))
        have HFIN := Lib.hid (And.left (b := _ ∧ _) (by assumption))
        clear p0 p1 p2 p3 p4 q0 r0
        go_wp2_with fail
        go_roundw
        case rel => exact ⟨i + 1, by omega, by go_num, HEX.out.trans HFIN.out⟩
        case measure => simp [intOf]; omega
      · obtain rfl : i = n7 := by omega
        have hdn : ¬ (i : Int) < (i : Int) := by omega
        have HEX := Lib.hid (HND.out.ext.trans hext)
        clear hext
        go_wp2_with fail
        refine (awake_any (HTAB.out.fore HEX.out)).mono ?_
        rintro e wz ⟨y, rfl, hez, rfl⟩
        have HZ := Lib.hid (HEX.out.trans hez)
        clear hez
        go_wp2_with fail
        go_ret
        exact Ret.mk HZ.out rfl
end Go.Proofs.YtiahaofjmcjdiaaDoor
