/- Plain: sets of rows in order; what load answers where all is well. Contract: normalize.load, where all is well. One source: its reading, one Load of it. -/
import Derived.Test.YtmmmdinncmbjkaaGreatMf40
import Derived.Test.YtmmmdinncmbjkaaGreatMf24
namespace Go.Proofs.YtmmmdinncmbjkaaGreat
open Go.RowKit Go.Maps
theorem so_ext : ∀ {l m : List (List Vl)}, SoR l → SoR m → (∀ r, r ∈ l ↔ r ∈ m) → l = m
  | [], [], _, _, _ => rfl
  | [], y :: m, _, _, h => absurd ((h y).2 (by simp)) (by simp)
  | x :: l, [], _, _, h => absurd ((h x).1 (by simp)) (by simp)
  | x :: l, y :: m, hl, hm, h => by
    unfold SoR at hl hm
    rw [List.pairwise_cons] at hl hm
    have irr : ∀ a : List Vl, ¬ cmpR a a < 0 := fun a => by rw [cmp_row.self]; omega
    have h1 : x = y := by
      rcases List.mem_cons.1 ((h x).1 (by simp)) with e | e
      · exact e
      · rcases List.mem_cons.1 ((h y).2 (by simp)) with e2 | e2
        · exact e2.symm
        · exact absurd (cmp_row.trans _ _ _ (hl.1 _ e2) (hm.1 _ e)) (irr x)
    subst h1
    congr 1
    refine so_ext hl.2 hm.2 (fun r => ⟨fun hr => ?_, fun hr => ?_⟩)
    · rcases List.mem_cons.1 ((h r).1 (List.mem_cons_of_mem _ hr)) with e | e
      · exact absurd (e ▸ hl.1 _ hr) (irr x)
      · exact e
    · rcases List.mem_cons.1 ((h r).2 (List.mem_cons_of_mem _ hr)) with e | e
      · exact absurd (e ▸ hm.1 _ hr) (irr x)
      · exact e
theorem so_nodup {l : List (List Vl)} (h : SoR l) : l.Nodup :=
  h.imp (fun {a b} hab e => by rw [e, cmp_row.self] at hab; omega)
theorem nodup_le : ∀ {l m : List (List Vl)}, l.Nodup → (∀ r ∈ l, r ∈ m) → l.length ≤ m.length
  | [], _, _, _ => Nat.zero_le _
  | a :: l, m, hn, h => by
    rw [List.nodup_cons] at hn
    have ha := h a (by simp)
    have h1 := nodup_le (l := l) (m := m.erase a) hn.2 (fun r hr => (List.mem_erase_of_ne (fun e => hn.1 (by rw [← e]; exact hr))).2 (h r (List.mem_cons_of_mem _ hr)))
    rw [List.length_erase_of_mem ha] at h1
    have := List.length_pos_of_mem ha
    rw [List.length_cons]
    omega
/-- The rows of a list, as a set in order. -/
def setR (l : List (List Vl)) : List (List Vl) := l.foldl (fun acc x => if hasR acc x = true then acc else insR acc x) []
theorem setR_aux : ∀ (l acc : List (List Vl)), SoR acc → SoR (l.foldl (fun acc x => if hasR acc x = true then acc else insR acc x) acc) ∧ ∀ r, r ∈ l.foldl (fun acc x => if hasR acc x = true then acc else insR acc x) acc ↔ r ∈ acc ∨ r ∈ l
  | [], acc, h => ⟨h, by simp⟩
  | x :: l, acc, h => by
    rw [List.foldl_cons]
    by_cases hh : hasR acc x = true
    · rw [if_pos hh]
      refine ⟨(setR_aux l acc h).1, fun r => ?_⟩
      rw [(setR_aux l acc h).2, List.mem_cons]
      constructor
      · rintro (h1 | h1)
        · exact .inl h1
        · exact .inr (.inr h1)
      · rintro (h1 | h1 | h1)
        · exact .inl h1
        · exact .inl (h1 ▸ hasR_iff.1 hh)
        · exact .inr h1
    · rw [if_neg hh]
      have h2 := insR_so (x := x) h (by simpa using hh)
      refine ⟨(setR_aux l _ h2).1, fun r => ?_⟩
      rw [(setR_aux l _ h2).2, insR_mem, List.mem_cons]
      constructor
      · rintro ((h1 | h1) | h1)
        · exact .inr (.inl h1)
        · exact .inl h1
        · exact .inr (.inr h1)
      · rintro (h1 | h1 | h1)
        · exact .inl (.inr h1)
        · exact .inl (.inl h1)
        · exact .inr h1
theorem setR_so (l : List (List Vl)) : SoR (setR l) := (setR_aux l [] List.Pairwise.nil).1
theorem setR_mem {l : List (List Vl)} {r : List Vl} : r ∈ setR l ↔ r ∈ l := by
  unfold setR
  rw [(setR_aux l [] List.Pairwise.nil).2]
  simp
/-- The rows of a relation of a database. -/
def rowsOf (M : Dm) (rl : ByteArray) : List (List Vl) := match M rl with
  | some x => x.rel.rows
  | none => []
/-- A negated atom with its relation. -/
def exOf (M : Dm) (s : Src) (y : Nt) : Ex := match M y.rel with
  | some x => ⟨x.rel.ar, x.rel.rows, y.vars.map (colX s.vars), y.cs⟩
  | none => ⟨0, [], [], []⟩
def exsL (M : Dm) (s : Src) : List Ex := s.nots.map (exOf M s)
/-- The derived relation of a source. -/
def loadL (M : Dm) (s : Src) : List (List Vl) := setR (((selR s (rowsOf M s.rel)).map (projR s.cols)).filter (fun r => !(exsL M s).any (exB r)))
def loadR (M : Dm) (s : Src) : Re := ⟨(s.cols.length : Int), loadL M s⟩
/-- A source that fits a database. -/
structure LdOk (M : Dm) (s : Src) : Prop where
  rel : s.rel.size ≤ maxLen
  src : ∃ x, M s.rel = some x ∧ fitsB s x.rel.ar = true
  fs : ∀ f ∈ s.fs, (0 ≤ f.op ∧ f.op ≤ 5) ∧ okV ⟨f.kind, f.int, f.str⟩ = true ∧ f.str.size ≤ maxLen
  nots : ∀ y ∈ s.nots, y.rel.size ≤ maxLen ∧ y.cs.length = y.vars.length ∧ (∀ v ∈ y.vars, v = -1 ∨ 0 ≤ idxI s.vars v) ∧ ∃ z, M y.rel = some z ∧ z.rel.ar = (y.vars.length : Int)
  b1 : s.vars.length ≤ 32
  b3 : s.same.length ≤ 1048576
  b4 : s.fs.length ≤ 1048576
  b5 : s.nots.length ≤ 1048576
theorem idxI_lt (l : List Int) (v : Int) : idxI l v < (l.length : Int) := by
  unfold idxI
  split
  · rename_i i h
    have := (List.findIdx?_eq_some_iff_getElem.1 h).1
    omega
  · omega
theorem colX_lt (l : List Int) (v : Int) : colX l v < (l.length : Int) := by
  unfold colX
  split
  · omega
  · exact idxI_lt l v
theorem miss_ok {a x : Int} (h : missB a x = false) : 0 ≤ x ∧ x < a := by
  unfold missB at h
  simp only [Bool.or_eq_false_iff, decide_eq_false_iff_not] at h
  omega
theorem fits_parts {s : Src} {a : Int} (h : fitsB s a = true) : (∀ p ∈ s.same, (0 ≤ p.a ∧ p.a < a) ∧ 0 ≤ p.b ∧ p.b < a) ∧ (∀ f ∈ s.fs, 0 ≤ f.col ∧ f.col < a) ∧ (∀ x ∈ s.cols, missB a x = false) ∧ s.vars.length = s.cols.length := by
  unfold fitsB at h
  simp only [Bool.and_eq_true, Bool.not_eq_true', decide_eq_true_eq, List.any_eq_false] at h
  obtain ⟨h1, h2, h3, h4⟩ := h
  refine ⟨fun p hp => ?_, fun f hf => miss_ok (by simpa using h2 f hf), fun x hx => by simpa using h3 x hx, h4⟩
  have h5 := h1 p hp
  unfold pairB at h5
  simp only [Bool.not_eq_true, Bool.or_eq_false_iff] at h5
  exact ⟨miss_ok h5.1, miss_ok h5.2⟩
theorem accE_zero {a : Int} {r : List Vl} (h : accE a r = 0) : (r.length : Int) = a ∧ valR r = true := by
  unfold accE at h
  split at h
  · rename_i h1
    split at h
    · rename_i h2
      exact ⟨h1, h2⟩
    · omega
  · omega
theorem valR_mem {r : List Vl} (h : valR r = true) {v : Vl} (hv : v ∈ r) : okV v = true := by
  unfold valR at h
  exact List.all_eq_true.1 h v hv
theorem accE_of {r : List Vl} {a : Int} (h1 : (r.length : Int) = a) (h2 : ∀ v ∈ r, okV v = true) : accE a r = 0 := by
  unfold accE
  rw [if_pos h1, if_pos]
  unfold valR
  exact List.all_eq_true.2 h2
theorem ex_ok {M : Dm} {s : Src} (hO : DmOk M) (hk : LdOk M s) (hl : s.vars.length = s.cols.length) : ∀ x ∈ exsL M s, ExOk s.cols.length x := by
  intro x hx
  obtain ⟨y, hy, rfl⟩ := List.mem_map.1 hx
  obtain ⟨hys, hyc, hyv, z, hz, hza⟩ := hk.nots y hy
  have e : exOf M s y = ⟨z.rel.ar, z.rel.rows, y.vars.map (colX s.vars), y.cs⟩ := by unfold exOf; rw [hz]
  rw [e]
  have h1 := hO.ar _ _ hz
  have h2 := hO.so _ _ hz
  refine ⟨h2.1, by simp [hyc], ?_, by have := h2.2; show z.rel.rows.length ≤ 1048576; omega, fun r hr => ?_, fun c hc => ?_⟩
  · show (y.vars.map (colX s.vars)).length ≤ 1048576
    rw [List.length_map]
    omega
  · have h3 := (accE_zero (hO.row _ _ hz r hr).1).1
    omega
  · obtain ⟨v, hv, rfl⟩ := List.mem_map.1 hc
    rw [← hl]
    exact colX_lt _ _
end Go.Proofs.YtmmmdinncmbjkaaGreat
namespace Go.Proofs.YtmmmdinncmbjkaaGreat
open Go.RowKit Go.Maps
theorem info_ex : (Tryz.prog.info? 149).map (fun i => (i.zero, i.size, i.bytes)) = some (some (.agg #[.int .i64 0, .slice none 0 0, .slice none 0 0, .slice none 0 0]), 4, 80) := by kernel_rfl
/-- A reading whose data keep clear of a block. -/
def Rdg.but {α : Type} (r : Rdg α) (q : Nat) : Rdg α where
  sz := r.sz
  R := fun F w cs x => r.R (fun k => F k ∧ k ≠ q) w cs x
  len := fun h => r.len h
  fr := fun h hf hs => r.fr h hf (fun k hk => hs k hk.1)
  mono := fun h hs => r.mono h (fun k hk hF => ⟨hs k hk hF.1, hF.2⟩)
theorem Sl.but {α : Type} {r : Rdg α} {q : Nat} {F : Nat → Prop} {w : World} {v : Value} {xs : List α} (h : Sl (r.but q) F w v xs) (hA : ∀ ad n c, v = .slice (some ad) n c → ad.block ≠ q) : Sl r (fun k => F k ∧ k ≠ q) w v xs := by
  obtain ⟨A, c, e, hc, h1⟩ := h
  refine ⟨A, c, e, hc, fun i hi => ?_⟩
  obtain ⟨ad, cs, hA', hF, hR, hcell⟩ := h1 i hi
  exact ⟨ad, cs, hA', ⟨hF, hA ad _ _ (by rw [e, hA'])⟩, hR, hcell⟩
set_option maxRecDepth 20000 in
set_option maxHeartbeats 6400000 in
theorem load_yes {F G : Nat → Prop} {w : World} {b n : Nat} {m : Dm} {s : Src} {v : Value} (hD : DbB F w b n m) (hO : DmOk m) (hV : SrcV G w v s) (hk : LdOk m s) :
    Calls Tryz.prog 31 #[v, .agg #[.map (some b)]] w (LoadPost (.ok (loadR m s)) w) := by
  obtain ⟨A1, c1, A2, c2, A3, c3, A4, c4, A5, c5, rfl, g1, g2, g3, g4, g5⟩ := hV
  obtain ⟨x, hx, hfit⟩ := hk.src
  obtain ⟨hpa, hfa, hca, hvc⟩ := fits_parts hfit
  have hxa := hO.ar _ _ hx
  have hxs := hO.so _ _ hx
  have hxr := hO.row _ _ hx
  have hb1 := hk.b1; have hb3 := hk.b3; have hb4 := hk.b4; have hb5 := hk.b5
  have hRows : ∀ y ∈ x.rel.rows, (y.length : Int) = x.rel.ar ∧ ∀ v ∈ y, okV v = true := fun y hy => ⟨(accE_zero (hxr y hy).1).1, fun v hv => valR_mem (accE_zero (hxr y hy).1).2 hv⟩
  have HRE : Hid (∀ r, r ∈ loadL m s ↔ (r ∈ (selR s x.rel.rows).map (projR s.cols) ∧ (exsL m s).any (exB r) = false)) := Lib.hid (fun r => by
    unfold loadL
    rw [setR_mem, List.mem_filter, show rowsOf m s.rel = x.rel.rows from by unfold rowsOf; rw [hx]]
    simp)
  have HSUB : Hid (∀ y ∈ selR s x.rel.rows, y ∈ x.rel.rows) := Lib.hid (fun y hy => filR_sub y (samR_sub y hy))
  have HSLEN : Hid ((selR s x.rel.rows).length ≤ x.rel.rows.length) := Lib.hid (Nat.le_trans samR_len filR_len)
  have HREL := Lib.hid (fun (V : World) (hV : Ext w V) => relation_any ((hD.mono (G := fun k => F k ∧ k < w.heap.size) (fun k h1 h2 => ⟨h2, h1⟩)).ext hV) hk.rel)
  have HFITS := Lib.hid (fun (V : World) (hV : Ext w V) => fits_any (rl := s.rel) (A1 := A1) (c1 := c1) (A5 := A5) (n5 := s.nots.length) (c5 := c5) (s := s) (a := x.rel.ar) rfl (g2.ext hV) (g3.ext hV) (g4.ext hV) (by omega) (by omega) hb3 hb4)
  have HSEL := Lib.hid (fun (V : World) (hV : Ext w V) (H : Nat → Prop) (R : Option Addr) (cr : Nat) (hR : Sl rdRow H V (.slice R x.rel.rows.length cr) x.rel.rows) => selected_any (rl := s.rel) (A1 := A1) (n1 := s.vars.length) (c1 := c1) (A2 := A2) (n2 := s.cols.length) (c2 := c2) (A5 := A5) (n5 := s.nots.length) (c5 := c5) (s := s) (a := x.rel.ar) (g3.ext hV) (g4.ext hV) hR hb3 hb4 (by omega) (by omega) hRows (fun f hf => ⟨hfa f hf, hk.fs f hf⟩) hpa)
  have HPRJ := Lib.hid (fun (V : World) (hV : Ext w V) (H : Nat → Prop) (R : Option Addr) (k c : Nat) (hR : Sl rdRow H V (.slice R k c) (selR s x.rel.rows)) => project_any (a := x.rel.ar) hR (g2.ext hV) (by omega) (by have := hR.cap.1; have := HSLEN.out; omega) hca (fun y hy => (hRows y (HSUB.out y hy)).1) (by omega))
  have HPOK : Hid (∀ r ∈ (selR s x.rel.rows).map (projR s.cols), accE (s.cols.length : Int) r = 0) := Lib.hid (fun r hr => by
    obtain ⟨y, hy, rfl⟩ := List.mem_map.1 hr
    have h1 := hRows y (HSUB.out y hy)
    refine accE_of (by simp [projR]) (fun v hv => ?_)
    unfold projR at hv
    obtain ⟨c, hc, rfl⟩ := List.mem_map.1 hv
    have h2 := miss_ok (hca c hc)
    have h3 : c.toNat < y.length := by omega
    rw [List.getD_eq_getElem?_getD, List.getElem?_eq_getElem h3]
    exact h1.2 _ (List.getElem_mem h3))
  have HEX := Lib.hid (ex_ok hO hk hvc)
  have HNT : Hid (∀ (j : Nat) (hj : j < s.nots.length), ∃ z, m s.nots[j].rel = some z ∧ z.rel.ar = (s.nots[j].vars.length : Int) ∧ s.nots[j].cs.length = s.nots[j].vars.length ∧ s.nots[j].rel.size ≤ maxLen ∧ s.nots[j].vars.length ≤ 1048576 ∧ (∀ v ∈ s.nots[j].vars, v = -1 ∨ 0 ≤ idxI s.vars v) ∧ exOf m s s.nots[j] = ⟨z.rel.ar, z.rel.rows, s.nots[j].vars.map (colX s.vars), s.nots[j].cs⟩) := Lib.hid (fun j hj => by
    obtain ⟨h1, h2, h3, z, hz, hza⟩ := hk.nots _ (List.getElem_mem hj)
    have h4 := hO.ar _ _ hz
    exact ⟨z, hz, hza, h2, h1, by omega, h3, by unfold exOf; rw [hz]⟩)
  have HPL : Hid (∀ rows' : List (List Vl), SoR rows' → (∀ r, r ∈ rows' ↔ r ∈ (selR s x.rel.rows).map (projR s.cols)) → rows'.length ≤ 65536) := Lib.hid (fun rows' h1 h2 => by
    have h3 := nodup_le (so_nodup h1) (fun r hr => (h2 r).1 hr)
    rw [List.length_map] at h3
    have := HSLEN.out
    omega)
  obtain ⟨Q, hQ⟩ : ∃ Q, Q = LoadPost (.ok (loadR m s)) w := ⟨_, rfl⟩
  rw [← hQ]
  have HQ := Lib.hid hQ
  have HD := Lib.hid (hD.mono (G := fun k => F k ∧ k < w.heap.size) (fun k h1 h2 => ⟨h2, h1⟩)); have HG1 := Lib.hid g1; have HG5 := Lib.hid g5; have HSX := Lib.hid hx
  obtain ⟨i0, hi0, hz0, hz1, hz2⟩ := info_parts info_ex
  have HI0 := Lib.hid (And.intro hi0 (And.intro hz0 (And.intro hz1 hz2))); clear hi0 hz0 hz1 hz2
  obtain ⟨nr, hnr⟩ : ∃ k, k = x.rel.rows.length := ⟨_, rfl⟩
  obtain ⟨ra, hra⟩ : ∃ k, k = x.rel.ar := ⟨_, rfl⟩
  obtain ⟨n1, h1⟩ : ∃ k, k = s.vars.length := ⟨_, rfl⟩
  obtain ⟨n2, h2⟩ : ∃ k, k = s.cols.length := ⟨_, rfl⟩
  obtain ⟨n3, h3⟩ : ∃ k, k = s.same.length := ⟨_, rfl⟩
  obtain ⟨n4, h4⟩ : ∃ k, k = s.fs.length := ⟨_, rfl⟩
  obtain ⟨n5, h5⟩ : ∃ k, k = s.nots.length := ⟨_, rfl⟩
  obtain ⟨rl, h0⟩ : ∃ k, k = s.rel := ⟨_, rfl⟩
  obtain ⟨selx, hselx⟩ : ∃ k, k = selR s x.rel.rows := ⟨_, rfl⟩
  rw [hfit, ← hra, ← h1, ← h2, ← h3, ← h4, ← h5, ← h0] at HFITS
  rw [← hra, ← h1, ← h2, ← h3, ← h4, ← h5, ← h0, ← hselx, ← hnr] at HSEL
  rw [← hra, ← h2, ← hselx] at HPRJ
  rw [← hselx] at HRE HPOK HPL
  rw [← h2] at HPOK HEX
  rw [← h0] at HREL HSX
  rw [← h1] at hb1 HG1
  rw [← h1, ← h2] at hvc
  rw [← h3] at hb3
  rw [← h4] at hb4
  rw [← h5] at hb5 HG5
  rw [← h1, ← h2, ← h3, ← h4, ← h5, ← h0]
  have H5 := Lib.hid h5; have HNR := Lib.hid hnr; have HRA := Lib.hid hra; have H2 := Lib.hid h2
  have hnr2 : nr ≤ 4096 := by rw [hnr]; exact hxs.2
  obtain rfl : n1 = n2 := hvc
  clear hD hk hO hx hfit hpa hfa hca hxa hxs hxr hRows HSUB HSLEN g1 g2 g3 g4 g5 h0 h1 h2 h3 h4 h5 hnr hra hselx hQ
  have k3 := three_blk w 36 26 54 [.string rl, .slice A1 n1 c1, .slice A2 n1 c2, .slice A3 n3 c3, .slice A4 n4 c4, .slice A5 n5 c5] [.map (some b)] [.int .i64 0, .slice none 0 0]
  change Bk (((w.alloc (.cells #[.string rl, .slice A1 n1 c1, .slice A2 n1 c2, .slice A3 n3 c3, .slice A4 n4 c4, .slice A5 n5 c5] 36)).alloc (.cells #[.map (some b)] 26)).alloc (.cells #[.int .i64 0, .slice none 0 0] 54)) _ _ _ ∧ Bk (((w.alloc (.cells #[.string rl, .slice A1 n1 c1, .slice A2 n1 c2, .slice A3 n3 c3, .slice A4 n4 c4, .slice A5 n5 c5] 36)).alloc (.cells #[.map (some b)] 26)).alloc (.cells #[.int .i64 0, .slice none 0 0] 54)) _ _ _ ∧ Bk (((w.alloc (.cells #[.string rl, .slice A1 n1 c1, .slice A2 n1 c2, .slice A3 n3 c3, .slice A4 n4 c4, .slice A5 n5 c5] 36)).alloc (.cells #[.map (some b)] 26)).alloc (.cells #[.int .i64 0, .slice none 0 0] 54)) _ _ _ at k3
  obtain ⟨v1, hv1⟩ : ∃ v, v = (((w.alloc (.cells #[.string rl, .slice A1 n1 c1, .slice A2 n1 c2, .slice A3 n3 c3, .slice A4 n4 c4, .slice A5 n5 c5] 36)).alloc (.cells #[.map (some b)] 26)).alloc (.cells #[.int .i64 0, .slice none 0 0] 54)) := ⟨_, rfl⟩
  rw [← hv1] at k3
  have hx : Ext w v1 := by rw [hv1]; exact (((Ext.refl w).alloc _).alloc _).alloc _
  go_enter Tryz.func31, Tryz.ntmps31
  go_upto_region 1 with fail
  rw [← hv1]
  clear hv1
  obtain ⟨ka, kb, kc⟩ := k3
  have p0 := ka.cell (i := 0) (by simp); have q0 := kb.cell (i := 0) (by simp)
  simp only [List.getElem_cons_zero, List.getElem_cons_succ] at p0 q0
  have HX := Lib.hid hx; have HKA := Lib.hid ka; have HKB := Lib.hid kb; have HKC := Lib.hid kc
  have hlt := kc.lt
  clear ka kb kc
  go_wp2_with fail
  refine (HREL.out _ hx).mono ?_
  rintro e w2 ⟨he2, ⟨hnone, rfl⟩ | ⟨x', A, c, hsome, rfl, hsl⟩⟩
  · rw [HSX.out] at hnone; cases hnone
  · rw [HSX.out] at hsome; injection hsome with hxx; subst hxx
    have HX2 := Lib.hid (HX.out.trans he2); have HKA2 := Lib.hid (HKA.out.ext he2); have HKB2 := Lib.hid (HKB.out.ext he2); have HKC2 := Lib.hid (HKC.out.ext he2)
    have HSL := Lib.hid hsl
    rw [← HNR.out] at HSL ⊢
    rw [← HRA.out]
    clear he2 hx p0 q0 hsl
    go_upto_region 4 with fail
    have kr := Bk.new w2 54 [.int .i64 ra, .slice A nr c]
    change Bk (w2.alloc (.cells #[.int .i64 ra, .slice A nr c] 54)) _ _ _ at kr
    have hx3 : Ext w2 (w2.alloc (.cells #[.int .i64 ra, .slice A nr c] 54)) := (Ext.refl w2).alloc _
    generalize (w2.alloc (.cells #[.int .i64 ra, .slice A nr c] 54)) = w3 at *
    have HX3 := Lib.hid (HX2.out.trans hx3); have HKA3 := Lib.hid (HKA2.out.ext hx3); have HKB3 := Lib.hid (HKB2.out.ext hx3); have HKC3 := Lib.hid (HKC2.out.ext hx3); have HKR := Lib.hid kr; have HSL3 := Lib.hid (HSL.out.ext hx3)
    clear hx3 kr
    have r0 := HKR.out.cell (i := 0) (by simp); have r1 := HKR.out.cell (i := 1) (by simp)
    have a0 := HKA3.out.cell (i := 0) (by simp); have a1 := HKA3.out.cell (i := 1) (by simp); have a2 := HKA3.out.cell (i := 2) (by simp); have a3 := HKA3.out.cell (i := 3) (by simp); have a4 := HKA3.out.cell (i := 4) (by simp); have a5 := HKA3.out.cell (i := 5) (by simp)
    simp only [List.getElem_cons_zero, List.getElem_cons_succ] at r0 r1 a0 a1 a2 a3 a4 a5
    have HF := Lib.hid (fun (V : World) (hV : Ext w3 V) => HFITS.out V (HX3.out.trans hV))
    go_region_held3 (fun V => Ext w3 V ∧ V.cell? ⟨w2.heap.size, 0, none⟩ = some (.int .i64 ra) ∧ V.cell? ⟨w2.heap.size, 1, none⟩ = some (.slice A nr c) ∧ V.cell? ⟨w.heap.size, 0, none⟩ = some (.string rl) ∧ V.cell? ⟨w.heap.size, 1, none⟩ = some (.slice A1 n1 c1) ∧ V.cell? ⟨w.heap.size, 2, none⟩ = some (.slice A2 n1 c2) ∧ V.cell? ⟨w.heap.size, 3, none⟩ = some (.slice A3 n3 c3) ∧ V.cell? ⟨w.heap.size, 4, none⟩ = some (.slice A4 n4 c4) ∧ V.cell? ⟨w.heap.size, 5, none⟩ = some (.slice A5 n5 c5))
      ((refine (fun he => ⟨he, Ext.cell he r0, Ext.cell he r1, Ext.cell he a0, Ext.cell he a1, Ext.cell he a2, Ext.cell he a3, Ext.cell he a4, Ext.cell he a5⟩) ?_; repeat (first | exact Ext.refl _ | exact (Ext.refl _).drew | refine Ext.drew ?_ | refine Ext.trans ?_ (by assumption))))
      (first
        | (go_at_call 11; (with_reducible refine arity_any.mono ?_); rintro e wi ⟨yv, rfl, hei, rfl⟩)
        | (go_at_call 49; (with_reducible refine (HF.out _ (And.left (by assumption))).mono ?_); rintro e wi ⟨yv, rfl, hei, rfl⟩))
    have hfin := And.left (b := _ ∧ _) (by assumption)
    obtain ⟨X, rfl⟩ : ∃ X : World, X = wi := ⟨_, rfl⟩
    have HX4 := Lib.hid (HX3.out.trans hfin); have HKA4 := Lib.hid (HKA3.out.ext hfin); have HKB4 := Lib.hid (HKB3.out.ext hfin); have HKC4 := Lib.hid (HKC3.out.ext hfin); have HKR4 := Lib.hid (HKR.out.ext hfin); have HSL4 := Lib.hid (HSL3.out.ext hfin)
    have hltX : w.heap.size + 1 + 1 < X.heap.size := HKC4.out.lt
    have hltR : w.heap.size + 1 + 1 < w2.heap.size := HKC2.out.lt
    have hltR4 : w2.heap.size < X.heap.size := HKR4.out.lt
    clear hfin hei r0 r1 a0 a1 a2 a3 a4 a5
    have a5 := HKA4.out.cell (i := 5) (by simp)
    simp only [List.getElem_cons_zero, List.getElem_cons_succ] at a5
    go_wp2_with fail
    clear a5
    go_loopw [8, 33] (fun u t wr => ∃ (j : Nat) (css : List (List Value)), j ≤ n5 ∧ t = .int .i64 (j : Int) ∧ Rw (rdEx.but w2.heap.size) wr 0 149 u j ((exsL m s).take j) css ∧ wr.ownsRow X.heap.size 149 4 u j css.flatten ∧ Ext X wr) (fun _ t _ => n5 - (intOf t).toNat)
    case atStart => exact ⟨0, [], Nat.zero_le _, rfl, Rw.empty _ _ _ _, World.ownsRow_nil _ _ _ _, Ext.refl _⟩
    case round =>
      obtain ⟨j, css, hj, rfl, hrw, hown, hxw⟩ := hrel
      obtain ⟨Au, cu, rfl⟩ := own_slice hown
      obtain ⟨W, rfl⟩ : ∃ W : World, W = wr := ⟨_, rfl⟩
      have HRW := Lib.hid hrw; have HOWN := Lib.hid hown; have HXW := Lib.hid hxw
      have HX5 := Lib.hid (HX4.out.trans hxw); have HKA5 := Lib.hid (HKA4.out.ext hxw); have HKB5 := Lib.hid (HKB4.out.ext hxw); have HKC5 := Lib.hid (HKC4.out.ext hxw); have HKR5 := Lib.hid (HKR4.out.ext hxw)
      have hXW : X.heap.size ≤ W.heap.size := hxw.size
      by_cases hjl : j < n5
      · have j1 : (0 : Int) ≤ (j : Int) := by omega
        have j2 : (j : Int) < (n5 : Int) := by omega
        have hjn : j < s.nots.length := by have := H5.out; omega
        obtain ⟨ad, B1, d1, B2, d2, rfl, -, e0, e1, e2, hi1, hi2⟩ := HG5.out.nt hjn
        obtain ⟨z, hz, hza, hcs, hys, hyl, hyv, hxo⟩ := HNT.out j hjn
        have htk : (exsL m s).take (j + 1) = (exsL m s).take j ++ [⟨z.rel.ar, z.rel.rows, s.nots[j].vars.map (colX s.vars), s.nots[j].cs⟩] := by
          unfold exsL
          rw [List.take_succ_eq_append_getElem (by rw [List.length_map]; exact hjn), List.getElem_map, hxo]
        rw [hcs] at e2 hi2
        have HEXC := Lib.hid (fun (V : World) (hV : Ext w V) => exclude_yes (rl := rl) (A2 := A2) (n2 := n1) (c2 := c2) (A3 := A3) (n3 := n3) (c3 := c3) (A4 := A4) (n4 := n4) (c4 := c4) (A5 := some ad) (n5 := n5) (c5 := c5) (B2 := B2) (d2 := d2) (HD.out.ext hV) hys hz hza (HG1.out.ext hV) (hi1.ext hV) (by omega) hyl hyv)
        have HC2 := Lib.hid hi2
        obtain ⟨y, hy⟩ : ∃ y, y = s.nots[j] := ⟨_, rfl⟩
        rw [← hy] at e0 e1 e2 HEXC htk HC2 hyl
        obtain ⟨yl, ys, ycs⟩ := y
        simp only at e0 e1 e2 HEXC htk HC2 hyl
        obtain ⟨m1, hm1⟩ : ∃ l, l = ys.length := ⟨_, rfl⟩
        obtain ⟨zr, hzr⟩ : ∃ l, l = z.rel.rows := ⟨_, rfl⟩
        obtain ⟨za, hza2⟩ : ∃ l, l = z.rel.ar := ⟨_, rfl⟩
        obtain ⟨xc, hxc⟩ : ∃ l, l = ys.map (colX s.vars) := ⟨_, rfl⟩
        rw [← hxc, ← hzr, ← hza2] at htk HEXC
        rw [← hm1] at e1 e2 HEXC HC2
        have HTK := Lib.hid htk
        replace e0 := HX5.out.cell e0; replace e1 := HX5.out.cell e1; replace e2 := HX5.out.cell e2
        clear hi1 hi2 hz hza hcs hys hyv hxo hy htk hm1 hzr hza2 hxc hrw hown hxw hyl
        go_upto_region 10 with fail
        have kn := Bk.new W 50 [.string yl, .slice B1 m1 d1, .slice B2 m1 d2]
        change Bk (W.alloc (.cells #[.string yl, .slice B1 m1 d1, .slice B2 m1 d2] 50)) _ _ _ at kn
        have hx5 : Ext W (W.alloc (.cells #[.string yl, .slice B1 m1 d1, .slice B2 m1 d2] 50)) := (Ext.refl W).alloc _
        generalize (W.alloc (.cells #[.string yl, .slice B1 m1 d1, .slice B2 m1 d2] 50)) = w5 at *
        have hlt5 := kn.lt; have HWX := Lib.hid hx5; have HX6 := Lib.hid (HX5.out.trans hx5); have HKA6 := Lib.hid (HKA5.out.ext hx5); have HKB6 := Lib.hid (HKB5.out.ext hx5)
        have y0 := kn.cell (i := 0) (by simp); have y1 := kn.cell (i := 1) (by simp); have y2 := kn.cell (i := 2) (by simp)
        have a0 := HKA6.out.cell (i := 0) (by simp); have a1 := HKA6.out.cell (i := 1) (by simp); have a2 := HKA6.out.cell (i := 2) (by simp); have a3 := HKA6.out.cell (i := 3) (by simp); have a4 := HKA6.out.cell (i := 4) (by simp); have a5 := HKA6.out.cell (i := 5) (by simp); have q0 := HKB6.out.cell (i := 0) (by simp)
        simp only [List.getElem_cons_zero, List.getElem_cons_succ] at y0 y1 y2 a0 a1 a2 a3 a4 a5 q0
        clear kn hx5 e0 e1 e2
        go_wp2_with fail
        refine (HEXC.out _ HX6.out).mono ?_
        rintro e w6 ⟨he6, R6, cr6, C6, cc6, rfl, hs6, hc6⟩
        have HWX6 := Lib.hid (HWX.out.trans he6)
        have hwW : w.heap.size ≤ W.heap.size := HX5.out.size
        have hww5 : w.heap.size ≤ w5.heap.size := HX6.out.size
        obtain ⟨nz, hnz⟩ : ∃ l, l = zr.length := ⟨_, rfl⟩
        obtain ⟨nx, hnx⟩ : ∃ l, l = xc.length := ⟨_, rfl⟩
        rw [← hnz] at hs6 ⊢
        rw [← hnx] at hc6 ⊢
        have HS6 := Lib.hid hs6; have HC6 := Lib.hid hc6; have HHE6 := Lib.hid he6
        clear he6 hs6 hc6 hnz hnx y0 y1 y2 a0 a1 a2 a3 a4 a5 q0
        go_upto_region 13 with fail
        have kx := Bk.new w6 149 [.int .i64 za, .slice R6 nz cr6, .slice C6 nx cc6, .slice B2 m1 d2]
        change Bk (w6.alloc (.cells #[.int .i64 za, .slice R6 nz cr6, .slice C6 nx cc6, .slice B2 m1 d2] 149)) _ _ _ at kx
        have hx7 : Ext w6 (w6.alloc (.cells #[.int .i64 za, .slice R6 nz cr6, .slice C6 nx cc6, .slice B2 m1 d2] 149)) := (Ext.refl w6).alloc _
        generalize (w6.alloc (.cells #[.int .i64 za, .slice R6 nz cr6, .slice C6 nx cc6, .slice B2 m1 d2] 149)) = w7 at *
        have hW7 : Ext W w7 := HWX6.out.trans hx7
        have HXW7 := Lib.hid (HXW.out.trans hW7); have HRW7 := Lib.hid (HRW.out.ext hW7); have HOWN7 := Lib.hid (own_ext' HOWN.out hW7)
        have HOWL : Hid (∀ k, (Value.slice Au j cu).ownBlock = some k → X.heap.size ≤ k ∧ k < W.heap.size) := Lib.hid (fun k hk => HOWN.out.lt k hk)
        have hwx : w.heap.size ≤ X.heap.size := HX4.out.size
        have hww : W.heap.size < w5.heap.size := by have := hlt5; omega
        have HD1 : Hid (Sl rdRow (fun k => (0 ≤ k ∧ (Value.slice Au j cu).ownBlock ≠ some k) ∧ k ≠ w2.heap.size) w7 (.slice R6 nz cr6) zr) := Lib.hid ((HS6.out.ext hx7).mono (by decide) (fun k _ hk => ⟨⟨Nat.zero_le _, fun e => by have h1 := HOWL.out k e; have h2 := hk.2; omega⟩, by have h2 := hk.2; omega⟩))
        have HD2 : Hid (Ins (fun k => (0 ≤ k ∧ (Value.slice Au j cu).ownBlock ≠ some k) ∧ k ≠ w2.heap.size) w7 (.slice C6 nx cc6) xc) := Lib.hid ((HC6.out.ext hx7).mono (fun k _ hk => ⟨⟨Nat.zero_le _, fun e => by have h1 := HOWL.out k e; omega⟩, by omega⟩))
        have HD3 : Hid (Sl rdVl (fun k => (0 ≤ k ∧ (Value.slice Au j cu).ownBlock ≠ some k) ∧ k ≠ w2.heap.size) w7 (.slice B2 m1 d2) ycs) := Lib.hid ((HC2.out.mono (G := fun k => (0 ≤ k ∧ (Value.slice Au j cu).ownBlock ≠ some k) ∧ k ≠ w2.heap.size) (by decide) (fun k hk _ => ⟨⟨Nat.zero_le _, fun e => by have h1 := HOWL.out k e; omega⟩, by omega⟩)).ext (HX5.out.trans hW7))
        have x0 := kx.cell (i := 0) (by simp); have x1 := kx.cell (i := 1) (by simp); have x2 := kx.cell (i := 2) (by simp); have x3 := kx.cell (i := 3) (by simp)
        simp only [List.getElem_cons_zero, List.getElem_cons_succ] at x0 x1 x2 x3
        have hsz7 : X.heap.size ≤ w7.heap.size := HXW7.out.size
        clear kx hx7 hW7
        go_wp2_with (first
          | (at_builtin; refine wpList_append_at rfl _ _ 147 rfl X.heap.size 149 i0 (.agg #[.int .i64 0, .slice none 0 0, .slice none 0 0, .slice none 0 0]) 4 80 Tryz.underlying147 HI0.out.1 HI0.out.2.1 HI0.out.2.2.1 HI0.out.2.2.2 rfl (by omega) (.slice Au j cu) j css.flatten rfl (HOWN7.out.alloc _) ⟨w7.heap.size, 0, none⟩ 1 1 [.int .i64 za, .slice R6 nz cr6, .slice C6 nx cc6, .slice B2 m1 d2] rfl rfl (laid_news w7 _ _) (by simp [Value.oneCell']) (by simp only [maxLen]; omega) (by omega) (by simp; omega) ?_; intro v8 w8 hr8 hg8 hl8; obtain ⟨A8, c8, e8⟩ := own_slice hr8; subst e8; have hxa := (Ext.refl w7).alloc (.cells #[.int .i64 za, .slice R6 nz cr6, .slice C6 nx cc6, .slice B2 m1 d2] 149); have HRW8 := Lib.hid (Rw.more (x := (⟨za, zr, xc, ycs⟩ : Ex)) HRW7.out hxa ⟨_, _, _, rfl, HD1.out.ext hxa, HD2.out.ext hxa, HD3.out.ext hxa⟩ (own_mono hr8 (Nat.zero_le _)) hg8 hl8); have HOW8 := Lib.hid hr8; have HX8 := Lib.hid ((HXW7.out.trans hxa).grown hg8 (fun b hb => (HOWL.out b hb).1)); clear hxa hr8 hg8 hl8))
        go_roundw
        case rel => exact ⟨j + 1, css ++ [[.int .i64 za, .slice R6 nz cr6, .slice C6 nx cc6, .slice B2 m1 d2]], by omega, by go_num, by rw [HTK.out]; exact HRW8.out, by rw [List.flatten_append, List.flatten_cons, List.flatten_nil, List.append_nil]; exact HOW8.out, HX8.out⟩
        case measure => simp [intOf]; omega
      · obtain rfl : j = n5 := by omega
        have hdj : ¬ (j : Int) < (j : Int) := by omega
        have et : (exsL m s).take j = exsL m s := List.take_of_length_le (by unfold exsL; rw [List.length_map]; have := H5.out; omega)
        rw [et] at hrw
        have HES := Lib.hid (Sl.but (hrw.sl (show 0 < 4 from by decide)) (fun ad n' c' e' => by injection e' with e' _ _; have h := own_ge hown (k := ad.block) (by rw [e']; rfl); omega))
        have HSLW := Lib.hid (HSL4.out.ext hxw)
        have r0 := HKR5.out.cell (i := 0) (by simp); have r1 := HKR5.out.cell (i := 1) (by simp)
        have a0 := HKA5.out.cell (i := 0) (by simp); have a1 := HKA5.out.cell (i := 1) (by simp); have a2 := HKA5.out.cell (i := 2) (by simp); have a3 := HKA5.out.cell (i := 3) (by simp); have a4 := HKA5.out.cell (i := 4) (by simp); have a5 := HKA5.out.cell (i := 5) (by simp)
        simp only [List.getElem_cons_zero, List.getElem_cons_succ] at r0 r1 a0 a1 a2 a3 a4 a5
        clear et hrw hown hxw
        go_wp2_with fail
        refine (HSEL.out _ HX5.out _ _ _ HSLW.out).mono ?_
        rintro e w5 ⟨he5, A6, k6, c6, rfl, hs6⟩
        have HX6 := Lib.hid (HX5.out.trans he5); have HKA6 := Lib.hid (HKA5.out.ext he5); have HKC6 := Lib.hid (HKC5.out.ext he5); have HKR6 := Lib.hid (HKR5.out.ext he5); have HES6 := Lib.hid (HES.out.ext he5)
        have hw5 : W.heap.size ≤ w5.heap.size := he5.size
        have HS6 := Lib.hid hs6
        clear he5 hs6 r0 r1 a0 a1 a2 a3 a4 a5
        have r0 := HKR6.out.cell (i := 0) (by simp); have r1 := HKR6.out.cell (i := 1) (by simp); have rf0 := HKR6.out.free 0; have rf1 := HKR6.out.free 1
        simp only [List.getElem_cons_zero, List.getElem_cons_succ] at r0 r1
        go_upto_region 16 with fail
        have hs6 : Fr (fun k => k = w2.heap.size) w5 ((w5.setCell ⟨w2.heap.size, 0, none⟩ (.int .i64 ra)).setCell ⟨w2.heap.size, 1, none⟩ (.slice A6 k6 c6)) := ((Fr.refl (fun k => k = w2.heap.size) w5).setCell (p := ⟨w2.heap.size, 0, none⟩) (.inl rfl) _).setCell (p := ⟨w2.heap.size, 1, none⟩) (.inl rfl) _
        have kr6 : Bk ((w5.setCell ⟨w2.heap.size, 0, none⟩ (.int .i64 ra)).setCell ⟨w2.heap.size, 1, none⟩ (.slice A6 k6 c6)) w2.heap.size 54 [.int .i64 ra, .slice A6 k6 c6] := (HKR6.out.set 0 _).set 1 _
        generalize ((w5.setCell ⟨w2.heap.size, 0, none⟩ (.int .i64 ra)).setCell ⟨w2.heap.size, 1, none⟩ (.slice A6 k6 c6)) = w6 at *
        have hlw : w.heap.size < w2.heap.size := by omega
        have HX7 := Lib.hid (Fr.new HX6.out hs6 (fun k hk => by omega)); have HKA7 := Lib.hid (HKA6.out.fr hs6 (by omega)); have HKC7 := Lib.hid (HKC6.out.fr hs6 (by omega)); have HKR7 := Lib.hid kr6
        have HSE7 := Lib.hid (HS6.out.fr hs6 (fun k hk e => by rcases hk with h | h; (have := h.2; omega); omega))
        have HES7 := Lib.hid (HES6.out.fr hs6 (fun k hk e => hk.2 e))
        have hw6 : w5.heap.size ≤ w6.heap.size := hs6.size
        clear hs6 kr6 r0 r1 rf0 rf1
        have r0 := HKR7.out.cell (i := 0) (by simp); have r1 := HKR7.out.cell (i := 1) (by simp)
        have a2 := HKA7.out.cell (i := 2) (by simp)
        simp only [List.getElem_cons_zero, List.getElem_cons_succ] at r0 r1 a2
        go_wp2_with fail
        refine (HPRJ.out _ HX7.out _ _ _ _ HSE7.out).mono ?_
        rintro e w7 ⟨he7, A7, k7, c7, rows7, rfl, hso7, hme7, hs7⟩
        have HX8 := Lib.hid (HX7.out.trans he7); have HKC8 := Lib.hid (HKC7.out.ext he7); have HKR8 := Lib.hid (HKR7.out.ext he7); have HES8 := Lib.hid (HES7.out.ext he7)
        have hw7 : w6.heap.size ≤ w7.heap.size := he7.size
        have HSO7 := Lib.hid hso7; have HME7 := Lib.hid hme7; have HS7 := Lib.hid hs7
        clear he7 r0 r1 a2 hso7 hme7 hs7
        have r0 := HKR8.out.cell (i := 0) (by simp); have r1 := HKR8.out.cell (i := 1) (by simp); have rf0 := HKR8.out.free 0; have rf1 := HKR8.out.free 1
        simp only [List.getElem_cons_zero, List.getElem_cons_succ] at r0 r1
        go_upto_region 19 with fail
        have hs8 : Fr (fun k => k = w2.heap.size) w7 ((w7.setCell ⟨w2.heap.size, 0, none⟩ (.int .i64 (n1 : Int))).setCell ⟨w2.heap.size, 1, none⟩ (.slice A7 k7 c7)) := ((Fr.refl (fun k => k = w2.heap.size) w7).setCell (p := ⟨w2.heap.size, 0, none⟩) (.inl rfl) _).setCell (p := ⟨w2.heap.size, 1, none⟩) (.inl rfl) _
        have kr8 : Bk ((w7.setCell ⟨w2.heap.size, 0, none⟩ (.int .i64 (n1 : Int))).setCell ⟨w2.heap.size, 1, none⟩ (.slice A7 k7 c7)) w2.heap.size 54 [.int .i64 (n1 : Int), .slice A7 k7 c7] := (HKR8.out.set 0 _).set 1 _
        generalize ((w7.setCell ⟨w2.heap.size, 0, none⟩ (.int .i64 (n1 : Int))).setCell ⟨w2.heap.size, 1, none⟩ (.slice A7 k7 c7)) = w8 at *
        have HX9 := Lib.hid (Fr.new HX8.out hs8 (fun k hk => by omega)); have HKC9 := Lib.hid (HKC8.out.fr hs8 (by omega)); have HKR9 := Lib.hid kr8
        have hS9 := HS7.out.fr hs8 (fun k hk e => by have h : w6.heap.size ≤ k := hk; omega)
        have hE9 := HES8.out.fr hs8 (fun k hk e => hk.2 e)
        have hw8 : w7.heap.size ≤ w8.heap.size := hs8.size
        have hk7 : k7 ≤ 65536 := by rw [hS9.cap.1]; exact HPL.out _ HSO7.out HME7.out
        have HRMG := Lib.hid (remaining_any hS9 HSO7.out hE9 (by rw [Int.toNat_natCast]; exact HEX.out) hk7 (by omega) (by omega) (by omega) (fun x hx => HPOK.out x ((HME7.out x).1 hx)) (fun x hx v hv => okV_size (valR_mem (accE_zero (HPOK.out x ((HME7.out x).1 hx))).2 hv)))
        clear hs8 kr8 r0 r1 rf0 rf1 hS9 hE9
        have r0 := HKR9.out.cell (i := 0) (by simp); have r1 := HKR9.out.cell (i := 1) (by simp)
        simp only [List.getElem_cons_zero, List.getElem_cons_succ] at r0 r1
        go_wp2_with fail
        refine HRMG.out.mono ?_
        rintro e w9 ⟨he9, A9, k9, c9, rows9, rfl, hso9, hme9, hs9⟩
        have HXA := Lib.hid (HX9.out.trans he9); have HKCA := Lib.hid (HKC9.out.ext he9)
        have hw9 : w8.heap.size ≤ w9.heap.size := he9.size
        have HSA := Lib.hid hs9
        have HEQ : Hid (rows9 = loadL m s) := Lib.hid (so_ext hso9 (setR_so _) (fun r => by
          rw [hme9 r]
          show (r ∈ rows7 ∧ (exsL m s).any (exB r) = false) ↔ r ∈ loadL m s
          rw [HRE.out r, HME7.out r]))
        clear he9 r0 r1 hso9 hme9 hs9
        have f0 := HKCA.out.free 0; have f1 := HKCA.out.free 1
        have b0 := HKCA.out.cell (i := 0) (by simp); have b1 := HKCA.out.cell (i := 1) (by simp)
        simp only [List.getElem_cons_zero, List.getElem_cons_succ] at b0 b1
        go_wp2_with fail
        have kz : Bk ((w9.setCell ⟨w.heap.size + 1 + 1, 0, none⟩ (.int .i64 (n1 : Int))).setCell ⟨w.heap.size + 1 + 1, 1, none⟩ (.slice A9 k9 c9)) (w.heap.size + 1 + 1) 54 [.int .i64 (n1 : Int), .slice A9 k9 c9] := ((HKCA.out).set 0 _).set 1 _
        have hst : Fr (fun k => k = w.heap.size + 1 + 1) w9 ((w9.setCell ⟨w.heap.size + 1 + 1, 0, none⟩ (.int .i64 (n1 : Int))).setCell ⟨w.heap.size + 1 + 1, 1, none⟩ (.slice A9 k9 c9)) := ((Fr.refl (fun k => k = w.heap.size + 1 + 1) w9).setCell (p := ⟨w.heap.size + 1 + 1, 0, none⟩) (.inl rfl) _).setCell (p := ⟨w.heap.size + 1 + 1, 1, none⟩) (.inl rfl) _
        generalize ((w9.setCell ⟨w.heap.size + 1 + 1, 0, none⟩ (.int .i64 (n1 : Int))).setCell ⟨w.heap.size + 1 + 1, 1, none⟩ (.slice A9 k9 c9)) = wz at *
        have z0 := kz.cell (i := 0) (by simp); have z1 := kz.cell (i := 1) (by simp)
        simp only [List.getElem_cons_zero, List.getElem_cons_succ] at z0 z1
        refine bodyPost_ret (v := .tuple #[.agg #[.int .i64 (n1 : Int), .slice A9 k9 c9], .int .i64 0]) (by simp [results, Tryz.results31, go_sem, z0, z1]) rfl ?_
        rw [HQ.out]
        refine ⟨hst.new HXA.out (fun b hb => by omega), .inr ⟨loadR m s, A9, k9, c9, rfl, ?_, ?_⟩⟩
        · unfold loadR
          rw [← H2.out]
        · unfold loadR
          rw [← HEQ.out]
          exact (HSA.out.fr hst (fun k hk => by rcases hk with h | h <;> omega)).mono (by decide) (fun k _ hk => by rcases hk with h | h <;> omega)
end Go.Proofs.YtmmmdinncmbjkaaGreat
namespace Go.Proofs.YtmmmdinncmbjkaaGreat
open Go.RowKit Go.Maps
theorem dmL_rows {ss : List Sc} {s : ByteArray} {x : En} (h : dmL ss s = some x) : x.rel.rows = [] ∧ x.rel.ar = (x.kinds.length : Int) ∧ ∃ y ∈ ss, y.name = s ∧ y.kinds = x.kinds := by
  unfold dmL findS at h
  rw [Option.map_eq_some_iff] at h
  obtain ⟨y, hy, rfl⟩ := h
  exact ⟨rfl, rfl, y, List.mem_of_find?_eq_some hy, by simpa using List.find?_some hy, rfl⟩
end Go.Proofs.YtmmmdinncmbjkaaGreat
