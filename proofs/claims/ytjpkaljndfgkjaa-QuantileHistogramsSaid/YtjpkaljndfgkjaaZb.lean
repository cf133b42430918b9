/- Cuts. -/
import Derived.Test.YtjpkaljndfgkjaaRow
import Derived.Test.YtjpkaljndfgkjaaZa
namespace Go.Proofs.Ytjpkaljndfgkjaa
open Go.RowKit Go.Maps

/-- What a slice that was built by appends does to a number: nothing. -/
theorem Row.dg {w w' : World} {base : Nat} {t : TypeId} {z v x : Value} {vs : List Value} {ds : List Nat} (h : Row w base t z v vs) (hz : ∀ d : Nat, U32 d ≠ z) (hv : ∀ d : Nat, U32 d ∉ vs)
    (hg : w.grownBy w' v.ownBlock) (hx : Dg w x ds) : Dg w' x ds := by
  rcases h with ⟨rfl, rfl⟩ | ⟨g, r, rfl, h2, h3, h4⟩
  · exact hx.ext ⟨hg.os, hg.tape, hg.output, hg.size, fun k hk => hg.block k hk (by simp [Value.ownBlock])⟩
  · refine hx.mod h3 (fun d hd => ?_) hg
    rcases List.mem_append.1 hd with h | h
    · exact hv d h
    · exact hz d (List.eq_of_mem_replicate h)
/-- A slice of numbers. -/
def Ns (w : World) (A : Option Addr) (m : Nat) (f : Nat → Nat) : Prop :=
  ∀ i, i < m → ∃ ad B k d, A = some ad ∧ w.cell? (ad.add i) = some (.slice B k d) ∧ Nz w (.slice B k d) (f i)
theorem Ns.ext {w w' : World} {A : Option Addr} {m : Nat} {f : Nat → Nat} (h : Ns w A m f) (he : Ext w w') : Ns w' A m f := fun i hi => by
  obtain ⟨ad, B, k, d, h1, h2, h3⟩ := h i hi
  exact ⟨ad, B, k, d, h1, he.cell h2, h3.ext he⟩
theorem info_nat : (Try.prog.info? 38).map (fun i => (i.zero, i.size, i.bytes)) = some (some (.slice none 0 0), 1, 24) := by kernel_rfl
/-- What stands in a slice of numbers that appends have built. -/
def NsR (w : World) (base : Nat) (v : Value) (k : Nat) (f : Nat → Nat) : Prop :=
  ∃ vs : List Value, vs.length = k ∧ Row w base 38 (.slice none 0 0) v vs ∧ ∀ i (h : i < vs.length), (∃ B a d, vs[i] = .slice B a d) ∧ Nz w vs[i] (f i)
theorem NsR.nil (w : World) (base : Nat) (f : Nat → Nat) : NsR w base (.slice none 0 0) 0 f := ⟨[], rfl, Row.nil _ _ _ _, fun i h => by simp at h⟩
theorem NsR.ext {w w' : World} {base k : Nat} {v : Value} {f : Nat → Nat} (h : NsR w base v k f) (he : Ext w w') : NsR w' base v k f := by
  obtain ⟨vs, h1, h2, h3⟩ := h
  exact ⟨vs, h1, h2.ext he, fun i hi => ⟨(h3 i hi).1, (h3 i hi).2.ext he⟩⟩
theorem NsR.out {w : World} {base k : Nat} {v : Value} {f : Nat → Nat} (h : NsR w base v k f) : ∃ A c, v = .slice A k c ∧ Ns w A k f := by
  obtain ⟨vs, rfl, h2, h3⟩ := h
  obtain ⟨A, c, rfl, hc, hx⟩ := h2.sl
  refine ⟨A, c, rfl, fun i hi => ?_⟩
  obtain ⟨ad, rfl, hy⟩ := hx (by omega)
  obtain ⟨⟨B, a, d, e⟩, hz⟩ := h3 i hi
  exact ⟨ad, B, a, d, rfl, by rw [hy i hi, e], by rw [← e]; exact hz⟩
theorem not_u32 {vs : List Value} (h : ∀ i (h : i < vs.length), ∃ B a d, vs[i] = .slice B a d) (d : Nat) : U32 d ∉ vs := by
  intro hm
  obtain ⟨i, hi, e⟩ := List.getElem_of_mem hm
  obtain ⟨B, a, c, e2⟩ := h i hi
  rw [e2] at e; cases e
theorem NsR.snoc {w w' : World} {base k : Nat} {v v' : Value} {f : Nat → Nat} {B : Option Addr} {a d : Nat} {vs : List Value} (h1 : vs.length = k) (h2 : Row w base 38 (.slice none 0 0) v vs) (h3 : ∀ i (h : i < vs.length), (∃ B a d, vs[i] = .slice B a d) ∧ Nz w vs[i] (f i))
    (hr : Row w' base 38 (.slice none 0 0) v' (vs ++ [.slice B a d])) (hg : w.grownBy w' v.ownBlock) (hx : Nz w (.slice B a d) (f k)) : NsR w' base v' (k + 1) f := by
  subst h1
  have hk : ∀ {x : Value} {ds : List Nat}, Dg w x ds → Dg w' x ds := fun h => h2.dg (by simp [U32]) (not_u32 (fun i hi => (h3 i hi).1)) hg h
  refine ⟨_, by simp, hr, fun i hi => ?_⟩
  by_cases hlt : i < vs.length
  · rw [List.getElem_append_left hlt]
    exact ⟨(h3 i hlt).1, hk (h3 i hlt).2⟩
  · have e : i = vs.length := by simp at hi; omega
    subst e
    simp only [List.getElem_append_right (Nat.le_refl _), Nat.sub_self, List.getElem_cons_zero]
    exact ⟨⟨_, _, _, rfl⟩, hk hx⟩
theorem div_len {n p b : Nat} (h : (dig n).length ≤ b) : (dig (n / p)).length ≤ b := Nat.le_trans (dig_len_mono (Nat.div_le_self _ _)) h
set_option maxRecDepth 20000 in
set_option maxHeartbeats 1000000 in
theorem cuts_any {w : World} {u : Value} {n p : Nat} (hu : Nv w u n) (h0 : 0 < p) (hp : p ≤ 1024) (hl : (dig n).length ≤ 1000) :
    Calls Try.prog 44 #[u, .int .i64 (p : Int)] w fun e w' => ∃ A m c, e = .returned (.tuple #[.slice A m c, .int .i64 0]) ∧ m = p + 1 ∧ Ns w' A m (cutAt n p) ∧ Ext w w' := by
  have hd1 : decide ((p : Int) < 1) = false := by simp; omega
  have hd2 : decide ((1024 : Int) < p) = false := by simp; omega
  have HL := Lib.hid hl; clear hl
  obtain ⟨i0, hi0, hz0, hz1, hz2⟩ := info_parts info_nat
  have HI := Lib.hid (And.intro hi0 (And.intro hz0 (And.intro hz1 hz2))); clear hi0 hz0 hz1 hz2
  go_enter Try.func44, Try.ntmps44
  go_wp2_with fail
  refine (boundaries_any hu h0 hp HL.out).mono ?_
  rintro e w1 ⟨f, rfl, he, g1, g2, A, k, c, rfl, d0, d1, hq⟩
  clear hd1 hd2
  go_wp2_with fail
  go_loopw [7, 20] (fun t q wr => ∃ (i : Nat), i ≤ p + 1 ∧ q = .int .i64 i ∧ NsR wr w1.heap.size t i (cutAt n p) ∧ Ext w1 wr) (fun _ q _ => p + 1 - (intOf q).toNat)
  case atStart => exact ⟨0, Nat.zero_le _, rfl, NsR.nil _ _ _, Ext.refl _⟩
  case round =>
    obtain ⟨i, hi, rfl, hrow, hext⟩ := hrel
    by_cases hlt : i < p + 1
    · have hr : n % p < 1024 := Nat.lt_of_lt_of_le (Nat.mod_lt _ h0) hp
      go_wp2_with fail
      refine (boundary_any (hext.cell d0) (hext.cell d1) (hq.ext hext) (by omega) hr (div_len HL.out)).mono ?_
      rintro e w2 ⟨x, rfl, he2, hx⟩
      obtain ⟨B, b, d, rfl⟩ : ∃ B b d, x = .slice B b d := by obtain ⟨B, d, e⟩ := hx.slice; exact ⟨B, _, d, e⟩
      have hext2 := hext.trans he2
      have hx2 : Nz (w2.alloc (.cells #[.slice B b d] 38)) (.slice B b d) (cutAt n p i) := hx.ext ((Ext.refl _).alloc _)
      obtain ⟨vs, hvs, hrw, hall⟩ := (hrow.ext he2).ext ((Ext.refl _).alloc (.cells #[.slice B b d] 38))
      have HV := Lib.hid hvs; have HA := Lib.hid hall; have HX := Lib.hid hx2
      clear hrow hvs hall hx2 hx
      go_wp2_with (first | (at_builtin; refine wpList_append_row rfl _ _ 48 rfl w1.heap.size 38 i0 (.slice none 0 0) 24 Try.underlying48 HI.out.1 HI.out.2.1 HI.out.2.2.1 HI.out.2.2.2 rfl _ vs rfl hrw ⟨w2.heap.size, 0, none⟩ 1 (.slice B b d) rfl ?c1 rfl ?c3 ?c4 ?c5 ?_))
      case c1 => exact one_new w2 _ _ 0 _ rfl
      case c3 => have := HV.out; simp only [maxLen]; omega
      case c4 => have := HV.out; omega
      case c5 => exact Nat.le_trans hext2.size (by simp)
      intro v' w' hr' hgr
      have hn := NsR.snoc HV.out hrw HA.out hr' hgr HX.out
      have he' : Ext w1 w' := (hext2.alloc _).grown hgr (fun g hg => hrw.block g hg)
      clear hrw hr' hgr HX HA HV hext hext2 he2 hr
      go_wp2_with fail
      go_roundw
      case rel => exact ⟨i + 1, by omega, by go_num, hn, he'⟩
      case measure => simp [intOf]; omega
    · obtain rfl : i = p + 1 := by omega
      obtain ⟨A', c', rfl, hn⟩ := hrow.out
      go_wp2_with fail
      go_ret2
      exact ⟨A', p + 1, c', rfl, rfl, hn, he.trans hext⟩
set_option maxHeartbeats 400000 in
theorem cuts_err {w : World} {u : Value} {p : Int} (h : p < 1 ∨ 1024 < p) :
    Calls Try.prog 44 #[u, .int .i64 p] w fun e w' => e = .returned (.tuple #[.slice none 0 0, .int .i64 3]) ∧ w = w' := by
  by_cases h1 : p < 1
  · go_enter Try.func44, Try.ntmps44
    go_wp2_with fail
    go_ret2
    exact ⟨rfl, rfl⟩
  · have h2 : 1024 < p := by omega
    have hd1 : decide (p < 1) = false := by simp; omega
    go_enter Try.func44, Try.ntmps44
    go_wp2_with fail
    go_ret2
    exact ⟨rfl, rfl⟩
end Go.Proofs.Ytjpkaljndfgkjaa
