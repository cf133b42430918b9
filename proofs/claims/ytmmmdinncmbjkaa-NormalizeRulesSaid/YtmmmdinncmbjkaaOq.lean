/- Words: a source of the reference that is being built. -/
import Derived.Test.YtmmmdinncmbjkaaOd
import Derived.Test.YtmmmdinncmbjkaaOe
namespace Go.Proofs.Ytmmmdinncmbjkaa
open Go.RowKit Go.Maps

theorem info_rfl : (Try.prog.info? 106).map (fun i => (i.zero, i.size, i.bytes)) = some (some (.agg #[.int .i64 0, .int .i64 0, .int .i64 0, .int .i64 0, .string ⟨#[]⟩]), 5, 48) := by kernel_rfl
theorem info_rnot : (Try.prog.info? 110).map (fun i => (i.zero, i.size, i.bytes)) = some (some (.agg #[.string ⟨#[]⟩, .slice none 0 0, .slice none 0 0]), 3, 64) := by kernel_rfl
theorem info_rsrc : (Try.prog.info? 62).map (fun i => (i.zero, i.size, i.bytes)) = some (some (.agg #[.string ⟨#[]⟩, .slice none 0 0, .slice none 0 0, .slice none 0 0, .slice none 0 0, .slice none 0 0]), 6, 136) := by kernel_rfl
structure RB (w : World) (base gb : Nat) (rl : ByteArray) (uv uc us uf un : Value) (nv nc ns nf : Nat) (vs cs : List Int) (ss : List Pi) (fs : List Fl) : Prop where
  bk : Bk w gb 62 [.string rl, uv, uc, us, uf, un]
  rv : w.ownsRow base 3 1 uv nv (vs.map I64)
  rc : w.ownsRow base 3 1 uc nc (cs.map I64)
  rs : w.ownsRow base 71 2 us ns (picells ss)
  rf : w.ownsRow base 106 5 uf nf (fcells fs)
  sep : ∀ k, uv.ownBlock = some k → uc.ownBlock ≠ some k
section
variable {w w8 : World} {base gb nv nc ns nf : Nat} {rl : ByteArray} {uv uc us uf un v8 : Value} {vs cs : List Int} {ss : List Pi} {fs : List Fl}
theorem RB.ext (h : RB w base gb rl uv uc us uf un nv nc ns nf vs cs ss fs) (he : Ext w w8) : RB w8 base gb rl uv uc us uf un nv nc ns nf vs cs ss fs := ⟨h.bk.ext he, own_ext' h.rv he, own_ext' h.rc he, own_ext' h.rs he, own_ext' h.rf he, h.sep⟩
theorem RB.bkF (h : RB w base gb rl uv uc us uf un nv nc ns nf vs cs ss fs) (hg : w.grownBy w8 uf.ownBlock) : Bk w8 gb 62 [.string rl, uv, uc, us, uf, un] := h.bk.fr (grown_fr hg) (fun e => own_bk h.rf h.bk (by decide) e rfl)
theorem RB.bkS (h : RB w base gb rl uv uc us uf un nv nc ns nf vs cs ss fs) (hg : w.grownBy w8 us.ownBlock) : Bk w8 gb 62 [.string rl, uv, uc, us, uf, un] := h.bk.fr (grown_fr hg) (fun e => own_bk h.rs h.bk (by decide) e rfl)
theorem RB.bkV (h : RB w base gb rl uv uc us uf un nv nc ns nf vs cs ss fs) (hg : w.grownBy w8 uv.ownBlock) : Bk w8 gb 62 [.string rl, uv, uc, us, uf, un] := h.bk.fr (grown_fr hg) (fun e => own_bk h.rv h.bk (by decide) e rfl)
theorem RB.bkC (h : RB w base gb rl uv uc us uf un nv nc ns nf vs cs ss fs) (hg : w.grownBy w8 uc.ownBlock) : Bk w8 gb 62 [.string rl, uv, uc, us, uf, un] := h.bk.fr (grown_fr hg) (fun e => own_bk h.rc h.bk (by decide) e rfl)
theorem RB.putF (h : RB w base gb rl uv uc us uf un nv nc ns nf vs cs ss fs) {x : Fl} (hr : w8.ownsRow base 106 5 v8 (nf + 1) (fcells fs ++ x.cells)) (hg : w.grownBy w8 uf.ownBlock) : RB (w8.setCell ⟨gb, 4, none⟩ v8) base gb rl uv uc us v8 un nv nc ns (nf + 1) vs cs ss (fs ++ [x]) := by
  have hb8 := h.bkF hg
  have hs : Fr (fun k => k = gb) w8 (w8.setCell ⟨gb, 4, none⟩ v8) := (Fr.refl (fun k => k = gb) w8).setCell (p := ⟨gb, 4, none⟩) (.inl rfl) _
  have rv := own_fr h.rv (grown_fr hg) (fun q hq e => own_ne h.rf h.rv (by decide) e hq)
  have rc := own_fr h.rc (grown_fr hg) (fun q hq e => own_ne h.rf h.rc (by decide) e hq)
  have rs := own_fr h.rs (grown_fr hg) (fun q hq e => own_ne h.rf h.rs (by decide) e hq)
  refine ⟨by simpa using hb8.set 4 v8, own_fr rv hs (fun k hk => own_bk rv hb8 (by decide) hk), own_fr rc hs (fun k hk => own_bk rc hb8 (by decide) hk), own_fr rs hs (fun k hk => own_bk rs hb8 (by decide) hk), ?_, h.sep⟩
  rw [fcells_app]
  exact own_fr hr hs (fun k hk => own_bk hr hb8 (by decide) hk)
theorem RB.putS (h : RB w base gb rl uv uc us uf un nv nc ns nf vs cs ss fs) {x : Pi} (hr : w8.ownsRow base 71 2 v8 (ns + 1) (picells ss ++ x.cells)) (hg : w.grownBy w8 us.ownBlock) : RB (w8.setCell ⟨gb, 3, none⟩ v8) base gb rl uv uc v8 uf un nv nc (ns + 1) nf vs cs (ss ++ [x]) fs := by
  have hb8 := h.bkS hg
  have hs : Fr (fun k => k = gb) w8 (w8.setCell ⟨gb, 3, none⟩ v8) := (Fr.refl (fun k => k = gb) w8).setCell (p := ⟨gb, 3, none⟩) (.inl rfl) _
  have rv := own_fr h.rv (grown_fr hg) (fun q hq e => own_ne h.rs h.rv (by decide) e hq)
  have rc := own_fr h.rc (grown_fr hg) (fun q hq e => own_ne h.rs h.rc (by decide) e hq)
  have rf := own_fr h.rf (grown_fr hg) (fun q hq e => own_ne h.rs h.rf (by decide) e hq)
  refine ⟨by simpa using hb8.set 3 v8, own_fr rv hs (fun k hk => own_bk rv hb8 (by decide) hk), own_fr rc hs (fun k hk => own_bk rc hb8 (by decide) hk), ?_, own_fr rf hs (fun k hk => own_bk rf hb8 (by decide) hk), h.sep⟩
  rw [picells_app]
  exact own_fr hr hs (fun k hk => own_bk hr hb8 (by decide) hk)
theorem RB.putV (h : RB w base gb rl uv uc us uf un nv nc ns nf vs cs ss fs) {x : Int} (hr : w8.ownsRow base 3 1 v8 (nv + 1) (vs.map I64 ++ [.int .i64 x])) (hg : w.grownBy w8 uv.ownBlock) (hl : Lands w uv v8) : RB (w8.setCell ⟨gb, 1, none⟩ v8) base gb rl v8 uc us uf un (nv + 1) nc ns nf (vs ++ [x]) cs ss fs := by
  have hb8 := h.bkV hg
  have hs : Fr (fun k => k = gb) w8 (w8.setCell ⟨gb, 1, none⟩ v8) := (Fr.refl (fun k => k = gb) w8).setCell (p := ⟨gb, 1, none⟩) (.inl rfl) _
  have rc := own_fr h.rc (grown_fr hg) (fun q hq e => h.sep q e hq)
  have rs := own_fr h.rs (grown_fr hg) (fun q hq e => own_ne h.rv h.rs (by decide) e hq)
  have rf := own_fr h.rf (grown_fr hg) (fun q hq e => own_ne h.rv h.rf (by decide) e hq)
  refine ⟨by simpa using hb8.set 1 v8, ?_, own_fr rc hs (fun k hk => own_bk rc hb8 (by decide) hk), own_fr rs hs (fun k hk => own_bk rs hb8 (by decide) hk), own_fr rf hs (fun k hk => own_bk rf hb8 (by decide) hk), fun k hk e => ?_⟩
  · rw [List.map_append]
    exact own_fr hr hs (fun k hk => own_bk hr hb8 (by decide) hk)
  · rcases hl with hl | hl
    · exact h.sep k (hl ▸ hk) e
    · rw [hl] at hk
      injection hk with hk
      have := (h.rc.lt k e).2
      omega
theorem RB.putC (h : RB w base gb rl uv uc us uf un nv nc ns nf vs cs ss fs) {x : Int} (hr : w8.ownsRow base 3 1 v8 (nc + 1) (cs.map I64 ++ [.int .i64 x])) (hg : w.grownBy w8 uc.ownBlock) (hl : Lands w uc v8) : RB (w8.setCell ⟨gb, 2, none⟩ v8) base gb rl uv v8 us uf un nv (nc + 1) ns nf vs (cs ++ [x]) ss fs := by
  have hb8 := h.bkC hg
  have hs : Fr (fun k => k = gb) w8 (w8.setCell ⟨gb, 2, none⟩ v8) := (Fr.refl (fun k => k = gb) w8).setCell (p := ⟨gb, 2, none⟩) (.inl rfl) _
  have rv := own_fr h.rv (grown_fr hg) (fun q hq e => h.sep q hq e)
  have rs := own_fr h.rs (grown_fr hg) (fun q hq e => own_ne h.rc h.rs (by decide) e hq)
  have rf := own_fr h.rf (grown_fr hg) (fun q hq e => own_ne h.rc h.rf (by decide) e hq)
  refine ⟨by simpa using hb8.set 2 v8, own_fr rv hs (fun k hk => own_bk rv hb8 (by decide) hk), ?_, own_fr rs hs (fun k hk => own_bk rs hb8 (by decide) hk), own_fr rf hs (fun k hk => own_bk rf hb8 (by decide) hk), fun k hk e => ?_⟩
  · rw [List.map_append]
    exact own_fr hr hs (fun k hk => own_bk hr hb8 (by decide) hk)
  · rcases hl with hl | hl
    · exact h.sep k hk (hl ▸ e)
    · rw [hl] at e
      injection e with e
      have := (h.rv.lt k hk).2
      omega
/-- The Nots cell is set. -/
theorem RB.putN (h : RB w base gb rl uv uc us uf un nv nc ns nf vs cs ss fs) (v : Value) : RB (w.setCell ⟨gb, 5, none⟩ v) base gb rl uv uc us uf v nv nc ns nf vs cs ss fs := by
  have hs : Fr (fun k => k = gb) w (w.setCell ⟨gb, 5, none⟩ v) := (Fr.refl (fun k => k = gb) w).setCell (p := ⟨gb, 5, none⟩) (.inl rfl) _
  exact ⟨by simpa using h.bk.set 5 v, own_fr h.rv hs (fun k hk => own_bk h.rv h.bk (by decide) hk), own_fr h.rc hs (fun k hk => own_bk h.rc h.bk (by decide) hk), own_fr h.rs hs (fun k hk => own_bk h.rs h.bk (by decide) hk), own_fr h.rf hs (fun k hk => own_bk h.rf h.bk (by decide) hk), h.sep⟩
theorem RB.fr {S : Nat → Prop} (h : RB w base gb rl uv uc us uf un nv nc ns nf vs cs ss fs) (hf : Fr S w w8) (h1 : ¬ S gb) (h2 : ∀ k, base ≤ k → k < w.heap.size → ¬ S k) : RB w8 base gb rl uv uc us uf un nv nc ns nf vs cs ss fs :=
  ⟨h.bk.fr hf h1, own_fr h.rv hf (fun k hk => h2 k (h.rv.lt k hk).1 (h.rv.lt k hk).2), own_fr h.rc hf (fun k hk => h2 k (h.rc.lt k hk).1 (h.rc.lt k hk).2), own_fr h.rs hf (fun k hk => h2 k (h.rs.lt k hk).1 (h.rs.lt k hk).2), own_fr h.rf hf (fun k hk => h2 k (h.rf.lt k hk).1 (h.rf.lt k hk).2), h.sep⟩
end
end Go.Proofs.Ytmmmdinncmbjkaa
