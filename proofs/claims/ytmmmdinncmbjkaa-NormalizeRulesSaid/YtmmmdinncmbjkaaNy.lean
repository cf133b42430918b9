/- Contract: normalize's builder.source. -/
import Derived.Test.YtmmmdinncmbjkaaNx
namespace Go.Proofs.Ytmmmdinncmbjkaa
open Go.RowKit Go.Maps

theorem info_fl : (Try.prog.info? 75).map (fun i => (i.zero, i.size, i.bytes)) = some (some (.agg #[.int .i64 0, .int .i64 0, .int .i64 0, .int .i64 0, .string ⟨#[]⟩]), 5, 48) := by kernel_rfl
theorem info_pi : (Try.prog.info? 71).map (fun i => (i.zero, i.size, i.bytes)) = some (some (.agg #[.int .i64 0, .int .i64 0]), 2, 16) := by kernel_rfl
/-- slices.Sort of a row of one's own. -/
theorem sort_own {w : World} {base n : Nat} {v : Value} {zs : List Int} (h : w.ownsRow base 3 1 v n (zs.map I64)) (hn : n ≤ 1048576) :
    Calls Try.prog 33 #[v] w (fun e w' => e = .returned (.tuple #[]) ∧ w'.ownsRow base 3 1 v n ((sortI zs).map I64) ∧ w.grownBy w' v.ownBlock) := by
  have hnz : n = zs.length := by have := h.1; simp at this; omega
  subst hnz
  rcases h.2 with ⟨rfl, h0⟩ | ⟨g, cap, cur, rfl, hb, hc, h1, h2, h3, h4⟩
  · have e : zs = [] := List.length_eq_zero_iff.1 (by simpa using h0)
    subst e
    refine (Try.slices_Sort_int_none none 0 w).mono ?_
    rintro e w' ⟨rfl, rfl⟩
    exact ⟨rfl, by rw [show sortI [] = [] by simp [sortI]]; exact World.ownsRow_nil _ _ _ _, World.grownBy.refl _ _⟩
  · have hlt : g < w.heap.size := (Array.getElem?_eq_some_iff.1 hc).1
    rw [Nat.mul_one] at h4
    have hh := holds_of_blockI (ss := zs) hc h4
    refine (Try.slices_Sort_int g 0 cap zs w hh hlt (by omega)).mono ?_
    rintro e w' ⟨rfl, k, os, rfl⟩
    exact ⟨rfl, ownsRow_sortedI (ts := sortI zs) (sortI_len _) hb hc h1 h2 h3, grownBy_sortedI _⟩
/-- A source that is being built: its box, its four rows, the map of first columns. -/
structure SrcB (w : World) (base b2 gb bm m : Nat) (rl : ByteArray) (uv uc us uf : Value) (nv nc ns nf : Nat) (vs cs : List Int) (ss : List Pi) (fs : List Fl) (f : ByteArray → Option Value) : Prop where
  bk : Bk w gb 58 [.string rl, uv, uc, us, uf, .slice none 0 0]
  rv : w.ownsRow base 3 1 uv nv (vs.map I64)
  rc : w.ownsRow b2 3 1 uc nc (cs.map I64)
  rs : w.ownsRow base 71 2 us ns (picells ss)
  rf : w.ownsRow base 75 5 uf nf (fcells fs)
  mp : MapV w bm m f
section
variable {w w8 : World} {base b2 gb bm m m' nv nc ns nf : Nat} {rl : ByteArray} {uv uc us uf v8 : Value} {vs cs : List Int} {ss : List Pi} {fs : List Fl} {f f' : ByteArray → Option Value}
theorem SrcB.ext (h : SrcB w base b2 gb bm m rl uv uc us uf nv nc ns nf vs cs ss fs f) (he : Ext w w8) : SrcB w8 base b2 gb bm m rl uv uc us uf nv nc ns nf vs cs ss fs f := ⟨h.bk.ext he, own_ext' h.rv he, own_ext' h.rc he, own_ext' h.rs he, own_ext' h.rf he, h.mp.ext he⟩
theorem SrcB.bkF (h : SrcB w base b2 gb bm m rl uv uc us uf nv nc ns nf vs cs ss fs f) (hg : w.grownBy w8 uf.ownBlock) : Bk w8 gb 58 [.string rl, uv, uc, us, uf, .slice none 0 0] := h.bk.fr (grown_fr hg) (fun e => own_bk h.rf h.bk (by decide) e rfl)
theorem SrcB.bkS (h : SrcB w base b2 gb bm m rl uv uc us uf nv nc ns nf vs cs ss fs f) (hg : w.grownBy w8 us.ownBlock) : Bk w8 gb 58 [.string rl, uv, uc, us, uf, .slice none 0 0] := h.bk.fr (grown_fr hg) (fun e => own_bk h.rs h.bk (by decide) e rfl)
theorem SrcB.bkV (h : SrcB w base b2 gb bm m rl uv uc us uf nv nc ns nf vs cs ss fs f) (hg : w.grownBy w8 uv.ownBlock) : Bk w8 gb 58 [.string rl, uv, uc, us, uf, .slice none 0 0] := h.bk.fr (grown_fr hg) (fun e => own_bk h.rv h.bk (by decide) e rfl)
theorem SrcB.bkC (h : SrcB w base b2 gb bm m rl uv uc us uf nv nc ns nf vs cs ss fs f) (hg : w.grownBy w8 uc.ownBlock) : Bk w8 gb 58 [.string rl, uv, uc, us, uf, .slice none 0 0] := h.bk.fr (grown_fr hg) (fun e => own_bk h.rc h.bk (by decide) e rfl)
theorem SrcB.putF (h : SrcB w base b2 gb bm m rl uv uc us uf nv nc ns nf vs cs ss fs f) {x : Fl} (hr : w8.ownsRow base 75 5 v8 (nf + 1) (fcells fs ++ x.cells)) (hg : w.grownBy w8 uf.ownBlock) : SrcB (w8.setCell ⟨gb, 4, none⟩ v8) base b2 gb bm m rl uv uc us v8 nv nc ns (nf + 1) vs cs ss (fs ++ [x]) f := by
  have hb8 := h.bk.fr (grown_fr hg) (fun e => own_bk h.rf h.bk (by decide) e rfl)
  have hs : Fr (fun k => k = gb) w8 (w8.setCell ⟨gb, 4, none⟩ v8) := (Fr.refl (fun k => k = gb) w8).setCell (p := ⟨gb, 4, none⟩) (.inl rfl) _
  have rv := own_fr h.rv (grown_fr hg) (fun q hq e => own_ne h.rf h.rv (by decide) e hq)
  have rc := own_fr h.rc (grown_fr hg) (fun q hq e => own_ne h.rf h.rc (by decide) e hq)
  have rs := own_fr h.rs (grown_fr hg) (fun q hq e => own_ne h.rf h.rs (by decide) e hq)
  have mp := h.mp.fr (grown_fr hg) (fun e => h.mp.ne_own h.rf e rfl)
  refine ⟨by simpa using hb8.set 4 v8, own_fr rv hs (fun k hk => own_bk rv hb8 (by decide) hk), own_fr rc hs (fun k hk => own_bk rc hb8 (by decide) hk), own_fr rs hs (fun k hk => own_bk rs hb8 (by decide) hk), ?_, mp.fr hs (fun e => mp.ne hb8 e.symm)⟩
  rw [fcells_app]
  exact own_fr hr hs (fun k hk => own_bk hr hb8 (by decide) hk)
theorem SrcB.putS (h : SrcB w base b2 gb bm m rl uv uc us uf nv nc ns nf vs cs ss fs f) {x : Pi} (hr : w8.ownsRow base 71 2 v8 (ns + 1) (picells ss ++ x.cells)) (hg : w.grownBy w8 us.ownBlock) : SrcB (w8.setCell ⟨gb, 3, none⟩ v8) base b2 gb bm m rl uv uc v8 uf nv nc (ns + 1) nf vs cs (ss ++ [x]) fs f := by
  have hb8 := h.bk.fr (grown_fr hg) (fun e => own_bk h.rs h.bk (by decide) e rfl)
  have hs : Fr (fun k => k = gb) w8 (w8.setCell ⟨gb, 3, none⟩ v8) := (Fr.refl (fun k => k = gb) w8).setCell (p := ⟨gb, 3, none⟩) (.inl rfl) _
  have rv := own_fr h.rv (grown_fr hg) (fun q hq e => own_ne h.rs h.rv (by decide) e hq)
  have rc := own_fr h.rc (grown_fr hg) (fun q hq e => own_ne h.rs h.rc (by decide) e hq)
  have rf := own_fr h.rf (grown_fr hg) (fun q hq e => own_ne h.rs h.rf (by decide) e hq)
  have mp := h.mp.fr (grown_fr hg) (fun e => h.mp.ne_own h.rs e rfl)
  refine ⟨by simpa using hb8.set 3 v8, own_fr rv hs (fun k hk => own_bk rv hb8 (by decide) hk), own_fr rc hs (fun k hk => own_bk rc hb8 (by decide) hk), ?_, own_fr rf hs (fun k hk => own_bk rf hb8 (by decide) hk), mp.fr hs (fun e => mp.ne hb8 e.symm)⟩
  rw [picells_app]
  exact own_fr hr hs (fun k hk => own_bk hr hb8 (by decide) hk)
theorem SrcB.putV (h : SrcB w base b2 gb bm m rl uv (.slice none 0 0) us uf nv 0 ns nf vs [] ss fs f) {x : Int} (hr : w8.ownsRow base 3 1 v8 (nv + 1) (vs.map I64 ++ [.int .i64 x])) (hg : w.grownBy w8 uv.ownBlock) : SrcB (w8.setCell ⟨gb, 1, none⟩ v8) base b2 gb bm m rl v8 (.slice none 0 0) us uf (nv + 1) 0 ns nf (vs ++ [x]) [] ss fs f := by
  have hb8 := h.bk.fr (grown_fr hg) (fun e => own_bk h.rv h.bk (by decide) e rfl)
  have hs : Fr (fun k => k = gb) w8 (w8.setCell ⟨gb, 1, none⟩ v8) := (Fr.refl (fun k => k = gb) w8).setCell (p := ⟨gb, 1, none⟩) (.inl rfl) _
  have rs := own_fr h.rs (grown_fr hg) (fun q hq e => own_ne h.rv h.rs (by decide) e hq)
  have rf := own_fr h.rf (grown_fr hg) (fun q hq e => own_ne h.rv h.rf (by decide) e hq)
  have mp := h.mp.fr (grown_fr hg) (fun e => h.mp.ne_own h.rv e rfl)
  refine ⟨by simpa using hb8.set 1 v8, ?_, World.ownsRow_nil _ _ _ _, own_fr rs hs (fun k hk => own_bk rs hb8 (by decide) hk), own_fr rf hs (fun k hk => own_bk rf hb8 (by decide) hk), mp.fr hs (fun e => mp.ne hb8 e.symm)⟩
  rw [List.map_append]
  exact own_fr hr hs (fun k hk => own_bk hr hb8 (by decide) hk)
theorem SrcB.putC (h : SrcB w base b2 gb bm m rl uv uc us uf nv nc ns nf vs cs ss fs f) (hb2 : ∀ k, uv.ownBlock = some k → k < b2) {x : Int} (hr : w8.ownsRow b2 3 1 v8 (nc + 1) (cs.map I64 ++ [.int .i64 x])) (hg : w.grownBy w8 uc.ownBlock) : SrcB (w8.setCell ⟨gb, 2, none⟩ v8) base b2 gb bm m rl uv v8 us uf nv (nc + 1) ns nf vs (cs ++ [x]) ss fs f := by
  have hb8 := h.bk.fr (grown_fr hg) (fun e => own_bk h.rc h.bk (by decide) e rfl)
  have hs : Fr (fun k => k = gb) w8 (w8.setCell ⟨gb, 2, none⟩ v8) := (Fr.refl (fun k => k = gb) w8).setCell (p := ⟨gb, 2, none⟩) (.inl rfl) _
  have rs := own_fr h.rs (grown_fr hg) (fun q hq e => own_ne h.rc h.rs (by decide) e hq)
  have rf := own_fr h.rf (grown_fr hg) (fun q hq e => own_ne h.rc h.rf (by decide) e hq)
  have rv := own_fr h.rv (grown_fr hg) (fun q hq e => by have h1 := hb2 q hq; have h2 := own_ge h.rc e; omega)
  have mp := h.mp.fr (grown_fr hg) (fun e => h.mp.ne_own h.rc e rfl)
  refine ⟨by simpa using hb8.set 2 v8, own_fr rv hs (fun k hk => own_bk rv hb8 (by decide) hk), ?_, own_fr rs hs (fun k hk => own_bk rs hb8 (by decide) hk), own_fr rf hs (fun k hk => own_bk rf hb8 (by decide) hk), mp.fr hs (fun e => mp.ne hb8 e.symm)⟩
  rw [List.map_append]
  exact own_fr hr hs (fun k hk => own_bk hr hb8 (by decide) hk)
theorem SrcB.upd (h : SrcB w base b2 gb bm m rl uv uc us uf nv nc ns nf vs cs ss fs f) (hm : MapV w8 bm m' f') (hg : w.grownBy w8 (some bm)) : SrcB w8 base b2 gb bm m' rl uv uc us uf nv nc ns nf vs cs ss fs f' :=
  ⟨h.bk.fr (grown_fr hg) (fun e => by injection e with e; exact h.mp.ne h.bk e.symm), own_fr h.rv (grown_fr hg) (fun k hk e => by injection e with e; exact h.mp.ne_own h.rv hk e.symm), own_fr h.rc (grown_fr hg) (fun k hk e => by injection e with e; exact h.mp.ne_own h.rc hk e.symm), own_fr h.rs (grown_fr hg) (fun k hk e => by injection e with e; exact h.mp.ne_own h.rs hk e.symm), own_fr h.rf (grown_fr hg) (fun k hk e => by injection e with e; exact h.mp.ne_own h.rf hk e.symm), hm⟩
theorem SrcB.sorted {vs' : List Int} (h : SrcB w base b2 gb bm m rl uv (.slice none 0 0) us uf nv 0 ns nf vs [] ss fs f) (hr : w8.ownsRow base 3 1 uv nv (vs'.map I64)) (hg : w.grownBy w8 uv.ownBlock) : SrcB w8 base w8.heap.size gb bm m rl uv (.slice none 0 0) us uf nv 0 ns nf vs' [] ss fs f :=
  ⟨h.bk.fr (grown_fr hg) (fun e => own_bk h.rv h.bk (by decide) e rfl), hr, World.ownsRow_nil _ _ _ _, own_fr h.rs (grown_fr hg) (fun q hq e => own_ne h.rv h.rs (by decide) e hq), own_fr h.rf (grown_fr hg) (fun q hq e => own_ne h.rv h.rf (by decide) e hq), h.mp.fr (grown_fr hg) (fun e => h.mp.ne_own h.rv e rfl)⟩
end
end Go.Proofs.Ytmmmdinncmbjkaa
