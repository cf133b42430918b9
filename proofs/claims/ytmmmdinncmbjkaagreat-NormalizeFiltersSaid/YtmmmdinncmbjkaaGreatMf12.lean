/- Contract: normalize's builder.add. Contract: normalize's builder.nots. -/
import Derived.Test.YtmmmdinncmbjkaaGreatMf11
namespace Go.Proofs.YtmmmdinncmbjkaaGreat
open Go.RowKit Go.Maps
/-- m[k] = v, as a run. -/
theorem MapV.upd {w : World} {b n : Nat} {f : ByteArray → Option Value} (h : MapV w b n f) {t e : TypeId} (ht : Tryz.prog.underlying t = some (.map 9 e)) (hn : n < maxLen) {s : ByteArray} (hs : s.size ≤ maxLen) (u : Value) :
    ∃ w', (Instr.mapUpdate t (.map (some b)) (.string s) u).run Tryz.prog w = .ok () w' ∧ MapV w' b (n + 1) (updV f s (some u)) ∧ w.grownBy w' (some b) := by
  obtain ⟨D, hD, hti, hat, hhas⟩ := h
  obtain ⟨p1, p2, p3⟩ := put_view hti hat hhas s u
  obtain ⟨w', hrun, r1, r2⟩ := hD.update law_str ht hn (keyOf_str s hs) (val := u) (d := .held u) (ps := []) rfl
  exact ⟨w', hrun, ⟨_, r1, p1, p2, p3⟩, r2⟩
/-- The place of a name. -/
def posN : List ByteArray → ByteArray → Nat
  | [], _ => 0
  | a :: l, s => if a = s then 0 else posN l s + 1
/-- The numbers of names. -/
def nmF (l : List ByteArray) : ByteArray → Option Value := fun s => if s ∈ l then some (.int .i64 (posN l s : Int)) else none
def addN (l : List ByteArray) (s : ByteArray) : List ByteArray := if s ∈ l then l else l ++ [s]
theorem nmF_nil : nmF [] = fun _ => none := by funext s; unfold nmF; rw [if_neg (by simp)]
theorem pos_last : ∀ {l : List ByteArray} {s : ByteArray}, s ∉ l → posN (l ++ [s]) s = l.length
  | [], s, _ => by simp [posN]
  | a :: l, s, h => by
    have h1 : a ≠ s := fun e => h (by simp [e])
    have h2 : s ∉ l := fun e => h (by simp [e])
    show (if a = s then 0 else posN (l ++ [s]) s + 1) = _
    rw [if_neg h1, pos_last h2]; rfl
theorem pos_first : ∀ {l : List ByteArray} {s t : ByteArray}, t ∈ l → posN (l ++ [s]) t = posN l t
  | [], s, t, h => by simp at h
  | a :: l, s, t, h => by
    show (if a = t then 0 else posN (l ++ [s]) t + 1) = if a = t then 0 else posN l t + 1
    by_cases h1 : a = t
    · rw [if_pos h1, if_pos h1]
    · rw [if_neg h1, if_neg h1, pos_first (by rcases List.mem_cons.1 h with e | e; exact absurd e.symm h1; exact e)]
theorem nmF_add {l : List ByteArray} {s : ByteArray} (h : s ∉ l) : updV (nmF l) s (some (.int .i64 (l.length : Int))) = nmF (l ++ [s]) := by
  funext t
  unfold updV nmF
  by_cases ht : t = s
  · subst ht
    rw [if_pos rfl, if_pos (by simp), pos_last h]
  · rw [if_neg ht]
    by_cases h2 : t ∈ l
    · rw [if_pos h2, if_pos (by simp [h2]), pos_first h2]
    · rw [if_neg h2, if_neg (by simp [h2, ht])]
/-- The builder: its block, its names, its map. -/
structure BlI (w : World) (base g bm m : Nat) (pre : List Value) (v : Value) (post : List Value) (names : List ByteArray) : Prop where
  bk : Bk w g 127 (pre ++ v :: .map (some bm) :: post)
  row : w.ownsRow base 9 1 v names.length (names.map Sv)
  map : MapV w bm m (nmF names)
  ge : base ≤ g
  gm : base ≤ bm
theorem BlI.ext {w w' : World} {base g bm m : Nat} {pre post : List Value} {v : Value} {names : List ByteArray} (h : BlI w base g bm m pre v post names) (he : Ext w w') : BlI w' base g bm m pre v post names := ⟨h.bk.ext he, own_ext' h.row he, h.map.ext he, h.ge, h.gm⟩
/-- What add leaves. -/
def AddBl (w : World) (base g bm m : Nat) (pre : List Value) (v : Value) (post : List Value) (names : List ByteArray) (s : ByteArray) (e : Ending) (w' : World) : Prop :=
  e = .returned (.tuple #[]) ∧ Fr (fun k => k = g ∨ k = bm ∨ v.ownBlock = some k) w w' ∧ ∃ v', BlI w' base g bm (m + 1) pre v' post (addN names s) ∧ ∀ k, v'.ownBlock = some k → v.ownBlock = some k ∨ w.heap.size ≤ k
set_option maxRecDepth 20000 in
set_option maxHeartbeats 3200000 in
theorem add_bl {w : World} {base g bm m : Nat} {a0 a1 v p0 p1 p2 p3 : Value} {names : List ByteArray} {s : ByteArray} (h : BlI w base g bm m [a0, a1] v [p0, p1, p2, p3] names) (hb : base ≤ w.heap.size) (hm : m ≤ 1048576) (hl : names.length ≤ 1048576) (hs : s.size ≤ maxLen) :
    Calls Tryz.prog 38 #[.pointer (some ⟨g, 0, none⟩), .string s] w (AddBl w base g bm m [a0, a1] v [p0, p1, p2, p3] names s) := by
  obtain ⟨Av, cv, rfl⟩ := own_slice h.row
  have c2 := h.bk.cell (i := 2) (by simp); have c3 := h.bk.cell (i := 3) (by simp)
  simp at c2 c3
  have H := Lib.hid h
  obtain ⟨n, hn⟩ : ∃ n, n = names.length := ⟨_, rfl⟩
  rw [← hn] at c2 hl
  have HN := Lib.hid hn
  by_cases hin : s ∈ names
  · have HU1 : Hid ((nmF names s).getD (.int .i64 0) = .int .i64 (posN names s : Int)) := Lib.hid (by unfold nmF; rw [if_pos hin]; rfl)
    have HU2 : Hid ((nmF names s).isSome = true) := Lib.hid (by unfold nmF; rw [if_pos hin]; rfl)
    have HE : Hid (addN names s = names) := Lib.hid (if_pos hin)
    clear hin hn h
    go_enter Tryz.func38, Tryz.ntmps38
    go_wp2_with (first | (refine wpList_lookup_okV rfl _ _ 123 3 rfl Tryz.underlying123 (.int .i64 0) (zero_int _) bm m _ rfl H.out.map s rfl hs (.int .i64 (posN names s : Int)) HU1.out true HU2.out ?_))
    go_end0
    exact ⟨rfl, Fr.refl _ _, _, by rw [HE.out]; exact ⟨H.out.bk, H.out.row, H.out.map.mono (by omega), H.out.ge, H.out.gm⟩, fun k hk => .inl hk⟩
  · have HU1 : Hid ((nmF names s).getD (.int .i64 0) = .int .i64 0) := Lib.hid (by unfold nmF; rw [if_neg hin]; rfl)
    have HU2 : Hid ((nmF names s).isSome = false) := Lib.hid (by unfold nmF; rw [if_neg hin]; rfl)
    have HE : Hid (addN names s = names ++ [s]) := Lib.hid (if_neg hin)
    have HF := Lib.hid (nmF_add hin)
    rw [← hn] at HF
    obtain ⟨w5, hr5, hm5, hg5⟩ := (H.out.map.ext (Ext.refl w).drew).upd (e := 3) Tryz.underlying123 (by simp only [maxLen]; omega) hs (.int .i64 (n : Int))
    have hb5 := (H.out.bk.ext (Ext.refl w).drew).fr (grown_fr hg5) (fun e => by injection e with e; exact (H.out.map.ne H.out.bk) e.symm)
    have HM5 := Lib.hid hm5; have HG5 := Lib.hid hg5; have HB5 := Lib.hid hb5
    have q2 := hb5.cell (i := 2) (by simp); have f2 := hb5.free 2
    simp at q2
    rw [← hn] at q2
    clear hin hn h hm5 hg5 hb5
    go_enter Tryz.func38, Tryz.ntmps38
    go_wp2_with (first | (refine wpList_lookup_okV rfl _ _ 123 3 rfl Tryz.underlying123 (.int .i64 0) (zero_int _) bm m _ rfl H.out.map s rfl hs (.int .i64 0) HU1.out false HU2.out ?_))
    go_region
    have HR5 := Lib.hid (own_fr (own_ext' H.out.row (Ext.refl w).drew) (grown_fr HG5.out) (fun k hk e => by injection e with e; exact H.out.map.ne_own H.out.row hk e.symm))
    have hsz5 : w.heap.size ≤ w5.heap.size := HG5.out.size
    obtain ⟨i0, hi0, hz0, hz1, hz2⟩ := info_parts info_string
    have HI0 := Lib.hid (And.intro hi0 (And.intro hz0 (And.intro hz1 hz2)))
    clear hi0 hz0 hz1 hz2 hr5
    rw [← HN.out] at HR5 ⊢
    go_wp2_with (first
      | (at_builtin; refine wpList_append_at rfl _ _ 30 rfl base 9 i0 (.string ⟨#[]⟩) 1 16 Tryz.underlying30 HI0.out.1 HI0.out.2.1 HI0.out.2.2.1 HI0.out.2.2.2 rfl (by omega) (.slice Av n cv) n (names.map Sv) rfl (HR5.out.alloc _) ⟨w5.heap.size, 0, none⟩ 1 1 [.string s] rfl rfl (laid_news w5 _ _) (by simp [Value.oneCell']) (by simp only [maxLen]; omega) (by omega) (Nat.le_trans hb (Nat.le_trans hsz5 ((Ext.refl w5).alloc _).size)) ?_; intro v8 w8 hr8 hg8 hl8; obtain ⟨A8, c8, rfl⟩ := own_slice hr8; have hb8 := (HB5.out.alloc (.cells #[.string s] 9)).fr (grown_fr hg8) (fun e => own_bk HR5.out HB5.out (by decide) e rfl); have q8 := hb8.cell (i := 2) (by simp); have f8 := hb8.free 2; simp at q8; rw [← HN.out] at q8; have HB8 := Lib.hid hb8; have HR8 := Lib.hid hr8; have HG8 := Lib.hid hg8; have HL8 := Lib.hid hl8; clear hb8 hr8 hg8 hl8))
    go_end0
    have hfr1 : Fr (fun k => k = g ∨ k = bm ∨ (Value.slice Av n cv).ownBlock = some k) w w5 := (Fr.refl _ w).drew.grown HG5.out (fun k e => .inl (.inr (.inl (by injection e with e; exact e.symm))))
    have hfr2 : Fr (fun k => k = g ∨ k = bm ∨ (Value.slice Av n cv).ownBlock = some k) w w8 := (hfr1.alloc _).grown HG8.out (fun k e => .inl (.inr (.inr e)))
    have hset : Fr (fun k => k = g) w8 (w8.setCell ⟨g, 2, none⟩ (.slice A8 (n + 1) c8)) := (Fr.refl (fun k => k = g) w8).setCell (p := ⟨g, 2, none⟩) (.inl rfl) _
    have hm8 : MapV w8 bm (m + 1) (nmF (names ++ [s])) := by
      rw [← HF.out]
      exact (HM5.out.ext ((Ext.refl w5).alloc _)).fr (grown_fr HG8.out) (fun e => HM5.out.ne_own HR5.out e rfl)
    have hb9 := HB8.out.set 2 (.slice A8 (n + 1) c8)
    refine ⟨rfl, by rw [← HN.out]; exact hfr2.comp hset (fun k hk => .inl (.inl hk)), .slice A8 (n + 1) c8, ?_, fun k hk => by
      rcases HL8.out with hl | hl
      · exact .inl (by rw [← HN.out]; exact hl.symm.trans hk)
      · rw [hl] at hk
        injection hk with hk
        have := ((Ext.refl w5).alloc (.cells #[.string s] 9)).size
        exact .inr (by omega)⟩
    rw [HE.out]
    refine ⟨hb9, ?_, hm8.fr hset (fun e => hm8.ne HB8.out e.symm), H.out.ge, H.out.gm⟩
    have h9 := own_fr HR8.out hset (fun k hk e => own_bk HR8.out HB8.out (by decide) hk e)
    rw [show (names ++ [s]).length = n + 1 by rw [HN.out]; simp, List.map_append]
    exact h9
/-- The number of a term's variable, as the program reckons it. -/
def numI (names : List ByteArray) (t : Tm) : Int := if t.var = ⟨#[]⟩ then -1 else if t.var ∈ names then (posN names t.var : Int) else 0
theorem nmF_get (l : List ByteArray) (s : ByteArray) : (nmF l s).getD (.int .i64 0) = .int .i64 (if s ∈ l then (posN l s : Int) else 0) := by
  unfold nmF
  by_cases h : s ∈ l
  · rw [if_pos h, if_pos h]; rfl
  · rw [if_neg h, if_neg h]; rfl
set_option maxRecDepth 20000 in
set_option maxHeartbeats 1600000 in
theorem number_any {w : World} {g bm m : Nat} {names : List ByteArray} {t : Tm} {a0 a1 v : Value} {post : List Value} (hbk : Bk w g 127 ([a0, a1] ++ v :: .map (some bm) :: post)) (hM : MapV w bm m (nmF names)) (hs : t.var.size ≤ maxLen) :
    Calls Tryz.prog 63 #[.pointer (some ⟨g, 0, none⟩), t.val] w (Ret (fun x _ => x = .int .i64 (numI names t)) w) := by
  obtain ⟨xv, kd, it, st⟩ := t
  simp only [Tm.val] at hs ⊢
  by_cases hv : xv = ⟨#[]⟩
  · have HE := Lib.hid (show numI names ⟨xv, kd, it, st⟩ = -1 from if_pos hv)
    have hve := var_eq hv
    rw [HE.out]
    clear hv hbk hM
    go_enter Tryz.func63, Tryz.ntmps63
    go_wp2_with fail
    go_ret
    exact Ret.mk ((Ext.refl w).alloc _) rfl
  · have hve := var_ne hv
    have he : numI names ⟨xv, kd, it, st⟩ = if xv ∈ names then (posN names xv : Int) else 0 := if_neg hv
    have l0 := fun n => (hM.ext (((Ext.refl w).alloc (.cells #[.string xv, .int .i64 kd, .int .i64 it, .string st] 136)).drewN n)).look (e := 3) Tryz.underlying123 (zero_int _) hs (nmF_get names xv)
    rw [← he] at l0
    have c3 := (hbk.alloc (.cells #[.string xv, .int .i64 kd, .int .i64 it, .string st] 136)).cell (i := 3) (by simp)
    have c3' := hbk.cell (i := 3) (by simp)
    have hlt := hbk.lt
    simp at c3 c3'
    obtain ⟨x, hx⟩ : ∃ x, x = numI names ⟨xv, kd, it, st⟩ := ⟨_, rfl⟩
    rw [← hx] at l0 ⊢
    clear hv he hx hbk hM
    go_enter Tryz.func63, Tryz.ntmps63
    go_upto_region 3 with fail
    go_quiet (fail)
    go_wp2_with fail
    go_ret
    exact Ret.mk (((Ext.refl w).alloc _).drewN _) rfl
end Go.Proofs.YtmmmdinncmbjkaaGreat
namespace Go.Proofs.YtmmmdinncmbjkaaGreat
open Go.RowKit Go.Maps
/-- A value. -/
structure Vl where
  kind : Int
  int : Int
  str : ByteArray
def Vl.cells (v : Vl) : List Value := [.int .i64 v.kind, .int .i64 v.int, .string v.str]
def rdVl : Rdg Vl := flatR Vl.cells 3 (fun _ => rfl)
def vcells (l : List Vl) : List Value := l.flatMap Vl.cells
theorem vcells_app (l : List Vl) (v : Vl) : vcells (l ++ [v]) = vcells l ++ v.cells := by simp [vcells]
def Tm.vl (t : Tm) : Vl := ⟨t.kind, t.int, t.str⟩
/-- A built row of flat structs. -/
theorem Rw.of_flat {α : Type} {cells : α → List Value} {sz : Nat} {hl : ∀ x, (cells x).length = sz} {w : World} {base n : Nat} {E : TypeId} {v : Value} {l : List α} (h : w.ownsRow base E sz v n (l.flatMap cells)) : Rw (flatR cells sz hl) w base E v n l (l.map cells) :=
  ⟨by simp, by rw [← List.flatMap_def]; exact h, fun i hi h' => by simp [flatR]⟩
theorem own_ne {w : World} {b1 b2 s1 s2 n1 n2 k : Nat} {e1 e2 : TypeId} {v1 v2 : Value} {xs1 xs2 : List Value} (h1 : w.ownsRow b1 e1 s1 v1 n1 xs1) (h2 : w.ownsRow b2 e2 s2 v2 n2 xs2) (he : e1 ≠ e2) (hk : v1.ownBlock = some k) : v2.ownBlock ≠ some k := by
  rcases h1.2 with ⟨rfl, _⟩ | ⟨g, cap, cur, rfl, _, hb, _⟩
  · simp [Value.ownBlock] at hk
  · rcases h2.2 with ⟨rfl, _⟩ | ⟨g', cap', cur', rfl, _, hb', _⟩
    · simp [Value.ownBlock]
    · simp [Value.ownBlock] at hk ⊢
      rintro rfl
      subst hk
      rw [hb] at hb'
      injection hb' with hb'; injection hb' with _ hb'
      exact he hb'
/-- A negated atom of a source. -/
structure Nt where
  rel : ByteArray
  vars : List Int
  cs : List Vl
def rdNt : Rdg Nt where
  sz := 3
  R := fun F w cs x => ∃ u v, cs = [.string x.rel, u, v] ∧ Ins F w u x.vars ∧ Sl rdVl F w v x.cs
  len := fun ⟨_, _, e, _⟩ => by rw [e]; rfl
  fr := fun ⟨u, v, e, h, k⟩ hf hs => ⟨u, v, e, h.fr hf hs, k.fr hf hs⟩
  mono := fun ⟨u, v, e, h, k⟩ hs => ⟨u, v, e, h.mono hs, k.mono (by decide) hs⟩
def ntOf (names : List ByteArray) (a : At) : Nt := ⟨a.rel, a.terms.map (numI names), a.terms.map Tm.vl⟩
def isNt (xs : List At) (g : Nat) (a : At) : Bool := a.neg && decide (guardI xs a = some g)
def notsL (names : List ByteArray) (xs : List At) (g : Nat) : List Nt := (xs.filter (isNt xs g)).map (ntOf names)
theorem info_not : (Tryz.prog.info? 50).map (fun i => (i.zero, i.size, i.bytes)) = some (some (.agg #[.string ⟨#[]⟩, .slice none 0 0, .slice none 0 0]), 3, 64) := by kernel_rfl
theorem info_val : (Tryz.prog.info? 83).map (fun i => (i.zero, i.size, i.bytes)) = some (some (.agg #[.int .i64 0, .int .i64 0, .string ⟨#[]⟩]), 3, 32) := by kernel_rfl
set_option maxRecDepth 20000 in
set_option maxHeartbeats 6400000 in
theorem nots_any {F : Nat → Prop} {w : World} {g bm m n nc nn gd : Nat} {A C An : Option Addr} {c cc cn : Nat} {post : List Value} {names : List ByteArray} {xs : List At} (hbk : Bk w g 127 ([.slice A n c, .slice C nc cc] ++ .slice An nn cn :: .map (some bm) :: post)) (hM : MapV w bm m (nmF names)) (hA : Ats F w (.slice A n c) xs) (hz : ∀ a ∈ xs, TmZ a.terms) (hl : ∀ a ∈ xs, a.terms.length ≤ 1048576) (hn : n ≤ 1048576) :
    Calls Tryz.prog 65 #[.pointer (some ⟨g, 0, none⟩), .int .i64 (gd : Int)] w (Ret (fun x w' => Sl rdNt (fun k => w.heap.size ≤ k) w' x (notsL names xs gd)) w) := by
  have hnx : n = xs.length := by
    obtain ⟨A', c', e⟩ := hA.sl
    injection e
  have hgw : g < w.heap.size := hbk.lt
  have HGD := Lib.hid (fun (V : World) (hV : Ext w V) (k : Nat) (hk : k < xs.length) (hng : xs[k].neg = true) => guard_any (C := C) (nc := nc) (cc := cc) (k := k) (hA.ext hV) hz hl hk hng hn)
  have HNUM := Lib.hid (fun (V : World) (hV : Ext w V) (t : Tm) (ht : t.var.size ≤ maxLen) => number_any (hbk.ext hV) (hM.ext hV) (t := t) ht)
  have HA := Lib.hid hA.at2; have HN := Lib.hid hnx; have HBK := Lib.hid hbk; have HZ := Lib.hid hz; have HL := Lib.hid hl
  obtain ⟨i0, hi0, hz0, hz1, hz2⟩ := info_parts info_int
  have HI0 := Lib.hid (And.intro hi0 (And.intro hz0 (And.intro hz1 hz2))); clear hi0 hz0 hz1 hz2
  obtain ⟨j0, hj0, hy0, hy1, hy2⟩ := info_parts info_val
  have HJ0 := Lib.hid (And.intro hj0 (And.intro hy0 (And.intro hy1 hy2))); clear hj0 hy0 hy1 hy2
  obtain ⟨p0, hp0, hx0, hx1, hx2⟩ := info_parts info_not
  have HP0 := Lib.hid (And.intro hp0 (And.intro hx0 (And.intro hx1 hx2))); clear hp0 hx0 hx1 hx2
  have c0 := hbk.cell (i := 0) (by simp)
  simp at c0
  clear hbk hM hA hz hl hnx
  go_enter Tryz.func65, Tryz.ntmps65
  go_wp2_with fail
  clear c0
  go_loopw [5, 19] (fun u p wr => ∃ (i k : Nat) (l : List Nt) (css : List (List Value)), i ≤ n ∧ p = .int .i64 (i : Int) ∧ Rw rdNt wr w.heap.size 50 u k l css ∧ Hid (l = ((xs.take i).filter (isNt xs gd)).map (ntOf names)) ∧ k ≤ i ∧ Ext w wr) (fun _ p _ => n - (intOf p).toNat)
  case atStart => exact ⟨0, 0, [], [], Nat.zero_le _, rfl, Rw.empty _ _ _ _, Lib.hid (by simp), Nat.le_refl _, Ext.refl _⟩
  case round =>
    obtain ⟨i, k, l, css, hi, rfl, hrw, HE, hk, hxr⟩ := hrel
    obtain ⟨An2, cn2, rfl⟩ := own_slice hrw.own
    obtain ⟨W, rfl⟩ : ∃ W : World, W = wr := ⟨_, rfl⟩
    have HX := Lib.hid hxr; have HRW := Lib.hid hrw
    by_cases hlt : i < n
    · have i1 : (0 : Int) ≤ (i : Int) := by omega
      have i2 : (i : Int) < (n : Int) := by omega
      have hit : i < xs.length := by have := HN.out; omega
      have c0 := (HBK.out.ext hxr).cell (i := 0) (by simp); have c1 := (HBK.out.ext hxr).cell (i := 1) (by simp)
      have hgl : g < W.heap.size := (HBK.out.ext hxr).lt
      simp at c0 c1
      obtain ⟨ad, Bt, dt, rfl, -, d0, d1, d2, hT⟩ := HA.out i hit
      replace d0 := hxr.cell d0; replace d1 := hxr.cell d1; replace d2 := hxr.cell d2
      have htk : xs.take (i + 1) = xs.take i ++ [xs[i]] := List.take_succ_eq_append_getElem hit
      have HSK : Hid (isNt xs gd xs[i] = false → l = ((xs.take (i + 1)).filter (isNt xs gd)).map (ntOf names)) := Lib.hid (fun h => by rw [htk, List.filter_append, List.filter_cons, h]; simpa using HE.out)
      have HAD : Hid (isNt xs gd xs[i] = true → l ++ [ntOf names xs[i]] = ((xs.take (i + 1)).filter (isNt xs gd)).map (ntOf names)) := Lib.hid (fun h => by rw [htk, List.filter_append, List.filter_cons, h, HE.out]; simp)
      have hzi := HZ.out _ (List.getElem_mem hit)
      have hli := HL.out _ (List.getElem_mem hit)
      have hgd := fun V hV => HGD.out V hV i hit
      have hnm : (ntOf names xs[i]) = ⟨xs[i].rel, xs[i].terms.map (numI names), xs[i].terms.map Tm.vl⟩ := rfl
      have hin : isNt xs gd xs[i] = (xs[i].neg && decide (guardI xs xs[i] = some gd)) := rfl
      obtain ⟨x, hx⟩ : ∃ x, x = xs[i] := ⟨_, rfl⟩
      rw [← hx] at d0 d1 d2 hT HSK HAD hzi hli hgd hnm hin
      obtain ⟨ng, rl, ts⟩ := x
      simp only at d0 d1 d2 hT hzi hli hgd hnm hin
      have HT := Lib.hid (hT.1); have HT2 := Lib.hid hT.2; have HZI := Lib.hid hzi; have HG := Lib.hid hgd; have HNM := Lib.hid hnm; have HIN := Lib.hid hin
      clear htk hx hT hzi hgd hnm hin hxr hrw
      rcases ng with _ | _
      · have HS := Lib.hid (HSK.out (by rw [HIN.out]; rfl))
        go_wp2_with fail
        go_roundw
        case rel => exact ⟨i + 1, k, l, css, by omega, by go_num, HRW.out.ext ((Ext.refl W).alloc _), HS, by omega, HX.out.alloc _⟩
        case measure => simp [intOf]; omega
      · go_wp2_with fail
        refine (HG.out _ (HX.out.alloc _) (by trivial)).mono ?_
        rintro e w4 ⟨he4, hpost⟩
        have hwa : Ext W w4 := ((Ext.refl W).alloc _).trans he4
        have ka := Bk.new W 109 [.bool true, .string rl, .slice Bt ts.length dt]
        change Bk (W.alloc (.cells #[.bool true, .string rl, .slice Bt ts.length dt] 109)) _ _ _ at ka
        replace ka := ka.ext he4
        have a1 := ka.cell (i := 1) (by simp); have a2 := ka.cell (i := 2) (by simp)
        simp at a1 a2
        have hkw : W.heap.size < w4.heap.size := ka.lt
        have HX4 := Lib.hid (HX.out.trans hwa); have HR4 := Lib.hid (HRW.out.ext hwa)
        clear ka he4 hwa d0 d1 d2 c0 c1
        have hcase : (∃ gg : Nat, e = .returned (.tuple #[.int .i64 (gg : Int), .int .i64 0]) ∧ (gg = gd → isNt xs gd ⟨true, rl, ts⟩ = true) ∧ (gg ≠ gd → isNt xs gd ⟨true, rl, ts⟩ = false)) ∨ (e = .returned (.tuple #[.int .i64 0, .int .i64 23]) ∧ isNt xs gd ⟨true, rl, ts⟩ = false) := by
          rcases hpost with ⟨gg, h1, h2⟩ | ⟨h1, h2⟩
          · refine .inl ⟨gg, h2, fun h => ?_, fun h => ?_⟩
            · rw [HIN.out, h1, h]; simp
            · rw [HIN.out, h1]; simp [h]
          · exact .inr ⟨h2, by rw [HIN.out, h1]; simp⟩
        clear hpost
        rcases hcase with ⟨gg, rfl, hy, hn'⟩ | ⟨rfl, hn'⟩
        · by_cases hgg : gg = gd
          · have HY := Lib.hid (HAD.out (hy hgg))
            rw [HNM.out] at HY
            have hb : ((gg : Int) != (gd : Int)) = false := by rw [hgg]; simp
            clear hy hn' hgg
            go_upto_region 9 with fail
            have kn := Bk.new w4 50 [.string rl, .slice none 0 0, .slice none 0 0]
            change Bk (w4.alloc (.cells #[.string rl, .slice none 0 0, .slice none 0 0] 50)) _ _ _ at kn
            have hx5 : Ext w4 (w4.alloc (.cells #[.string rl, .slice none 0 0, .slice none 0 0] 50)) := (Ext.refl w4).alloc _
            generalize (w4.alloc (.cells #[.string rl, .slice none 0 0, .slice none 0 0] 50)) = w5 at *
            replace a1 := hx5.cell a1; replace a2 := hx5.cell a2
            have HX45 := Lib.hid hx5
            have hkw5 : w4.heap.size < w5.heap.size := kn.lt
            have HKN := Lib.hid kn; have HX5 := Lib.hid (HX4.out.trans hx5); have HR5 := Lib.hid (HR4.out.ext hx5)
            have hsz0 : w.heap.size ≤ w4.heap.size := HX4.out.size
            obtain ⟨nt, hnt⟩ : ∃ nt, nt = ts.length := ⟨_, rfl⟩
            have HNT := Lib.hid hnt
            rw [← hnt] at a2 hli
            rw [← hnt] at HT
            clear kn hx5 hnt
            go_wp2_with fail
            clear a1 a2
            go_loopw [49] (fun t wr => ∃ (j : Nat) (u v : Value), j ≤ nt ∧ t = .int .i64 (j : Int) ∧ Bk wr w4.heap.size 50 [.string rl, u, v] ∧ wr.ownsRow w5.heap.size 3 1 u j (((ts.take j).map (numI names)).map I64) ∧ wr.ownsRow w5.heap.size 83 3 v j (vcells ((ts.take j).map Tm.vl)) ∧ Fr (fun b => b = w4.heap.size) w5 wr) (fun t _ => nt - (intOf t).toNat)
            case atStart => exact ⟨0, _, _, Nat.zero_le _, rfl, HKN.out, World.ownsRow_nil _ _ _ _, World.ownsRow_nil _ _ _ _, Fr.refl _ _⟩
            case round =>
              obtain ⟨j, u, v, hj, rfl, hbk, hu, hv, hfr⟩ := hrel
              obtain ⟨Au, cu, rfl⟩ := own_slice hu
              obtain ⟨Av, cv, rfl⟩ := own_slice hv
              have HB := Lib.hid hbk; have HU := Lib.hid hu; have HV := Lib.hid hv; have HF := Lib.hid hfr
              have HXR := Lib.hid (hfr.new HX5.out (fun b hb => by omega))
              have hwr5 : w5.heap.size ≤ wr.heap.size := hfr.size
              have b0 := hbk.cell (i := 0) (by simp); have b1 := hbk.cell (i := 1) (by simp); have b2 := hbk.cell (i := 2) (by simp); have f1 := hbk.free 1; have f2 := hbk.free 2
              simp only [List.getElem_cons_zero, List.getElem_cons_succ] at b0 b1 b2
              clear hbk hu hv hfr
              by_cases hjl : j < nt
              · have j1 : (0 : Int) ≤ (j : Int) := by omega
                have j2 : (j : Int) < (nt : Int) := by omega
                have hjt : j < ts.length := by have := HNT.out; omega
                obtain ⟨adt, rfl, -, e0, e1, e2, e3⟩ := HT2.out.term hjt
                replace e0 := HXR.out.cell e0; replace e1 := HXR.out.cell e1; replace e2 := HXR.out.cell e2; replace e3 := HXR.out.cell e3
                have htk : ts.take (j + 1) = ts.take j ++ [ts[j]] := List.take_succ_eq_append_getElem hjt
                have hzt := (HZI.out _ (List.getElem_mem hjt)).1
                obtain ⟨t, ht⟩ : ∃ t, t = ts[j] := ⟨_, rfl⟩
                rw [← ht] at e0 e1 e2 e3 htk hzt
                obtain ⟨tv, tk, ti, tst⟩ := t
                simp only at e0 e1 e2 e3 hzt
                have HTK1 : Hid (((ts.take (j + 1)).map (numI names)).map I64 = ((ts.take j).map (numI names)).map I64 ++ [.int .i64 (numI names ⟨tv, tk, ti, tst⟩)]) := Lib.hid (by rw [htk]; simp [I64])
                have HTK2 : Hid (vcells ((ts.take (j + 1)).map Tm.vl) = vcells ((ts.take j).map Tm.vl) ++ [.int .i64 tk, .int .i64 ti, .string tst]) := Lib.hid (by rw [htk, List.map_append]; exact vcells_app _ _)
                clear htk ht
                go_upto_region 12 with fail
                have kt := Bk.new wr 136 [.string tv, .int .i64 tk, .int .i64 ti, .string tst]
                change Bk (wr.alloc (.cells #[.string tv, .int .i64 tk, .int .i64 ti, .string tst] 136)) _ _ _ at kt
                have hx6 : Ext wr (wr.alloc (.cells #[.string tv, .int .i64 tk, .int .i64 ti, .string tst] 136)) := (Ext.refl wr).alloc _
                generalize (wr.alloc (.cells #[.string tv, .int .i64 tk, .int .i64 ti, .string tst] 136)) = W2 at *
                have t0 := kt.cell (i := 0) (by simp); have t1 := kt.cell (i := 1) (by simp); have t2 := kt.cell (i := 2) (by simp); have t3 := kt.cell (i := 3) (by simp)
                simp only [List.getElem_cons_zero, List.getElem_cons_succ] at t0 t1 t2 t3
                replace b1 := hx6.cell b1
                have HB2 := Lib.hid (HB.out.ext hx6); have HU2 := Lib.hid (own_ext' HU.out hx6); have HV2 := Lib.hid (own_ext' HV.out hx6); have HF2 := Lib.hid (HF.out.ext hx6); have HKT := Lib.hid kt
                have hnx := HNUM.out W2.drew (HXR.out.trans hx6).drew ⟨tv, tk, ti, tst⟩ hzt
                simp only [Tm.val] at hnx
                have HNX := Lib.hid hnx
                have hwr6 : wr.heap.size < W2.heap.size := kt.lt
                obtain ⟨x, hx⟩ : ∃ x, x = numI names ⟨tv, tk, ti, tst⟩ := ⟨_, rfl⟩
                rw [← hx] at HNX HTK1
                clear hnx kt hx6 hx e0 e1 e2 e3 b0 b2 f2
                go_region_law (first
                  | (refine step_append_at (by rfl) _ _ _ (by rfl) w5.heap.size 3 i0 (.int .i64 0) 1 8 Tryz.underlying31 HI0.out.1 HI0.out.2.1 HI0.out.2.2.1 HI0.out.2.2.2 rfl (by omega) (.slice Au j cu) j (((ts.take j).map (numI names)).map I64) (by rfl) (by exact own_ext' HU2.out (((Ext.refl W2).drew.trans HEI.out).alloc _)) ⟨wi.heap.size, 0, none⟩ 1 1 [.int .i64 x] (by rfl) (by rfl) (by exact laid_news wi _ _) (by simp [Value.oneCell']) (by simp only [maxLen]; omega) (by omega) (by have := HEI.out.size; simp at this ⊢; omega) ?_; intro v9 w9 hr9 hg9 hl9; obtain ⟨A9, c9, e9⟩ := own_slice hr9; subst e9; have hxg := ((Ext.refl W2).drew.trans HEI.out).alloc (.cells #[.int .i64 x] 3); have hb9 : Bk w9 w4.heap.size 50 [.string rl, .slice Au j cu, .slice Av j cv] := Bk.fr (HB2.out.ext hxg) (grown_fr hg9) (fun e => own_bk HU2.out HB2.out (by decide) e rfl); have HKT9 : Hid (Bk w9 wr.heap.size 136 [.string tv, .int .i64 tk, .int .i64 ti, .string tst]) := Lib.hid (Bk.fr (HKT.out.ext hxg) (grown_fr hg9) (fun e => own_bk HU2.out HKT.out (by decide) e rfl)); have HV9 : Hid (w9.ownsRow w5.heap.size 83 3 (.slice Av j cv) j (vcells ((ts.take j).map Tm.vl))) := Lib.hid (own_fr (own_ext' HV2.out hxg) (grown_fr hg9) (fun q hq e => own_ne HU2.out HV2.out (by decide) e hq)); have q9 := hb9.cell (i := 1) (by simp); have f9 := hb9.free 1; simp only [List.getElem_cons_zero, List.getElem_cons_succ] at q9; have HB9 := Lib.hid hb9; have HR9 := Lib.hid hr9; have HF9 : Hid (Fr (fun b => b = w4.heap.size) w5 w9) := Lib.hid ((HF2.out.ext hxg).grown hg9 (fun b hb => .inr (own_ge HU2.out hb))); clear hb9 hr9 hg9 hl9 hxg)
                  | (go_simp; (with_reducible refine HNX.out.mono ?_); rintro e wi ⟨xv, rfl, hei, rfl⟩; have HEI := Lib.hid hei; (try (replace b1 := hei.cell ((Ext.refl W2).drew.cell b1); have b1a := ((Ext.refl wi).alloc (.cells #[.int .i64 x] 3)).cell b1)); clear hei; go_wp2_with fail))
                all_goals
                  have hfz : Fr (fun b => b = w4.heap.size) w9 (w9.setCell ⟨w4.heap.size, 1, none⟩ (.slice A9 (j + 1) c9)) := (Fr.refl (fun b => b = w4.heap.size) w9).setCell (p := ⟨w4.heap.size, 1, none⟩) (.inl rfl) _
                  have HBB := Lib.hid (HB9.out.set 1 (.slice A9 (j + 1) c9))
                  have HFF := Lib.hid (HF9.out.trans hfz)
                  have HRR := Lib.hid (own_fr HR9.out hfz (fun b hb e => by have := own_ge HR9.out hb; omega))
                  have HVV := Lib.hid (own_fr HV9.out hfz (fun b hb e => by have := own_ge HV9.out hb; omega))
                  have HKK := Lib.hid (HKT9.out.fr hfz (by omega))
                  generalize (w9.setCell ⟨w4.heap.size, 1, none⟩ (.slice A9 (j + 1) c9)) = W3 at *
                  have m2 := HBB.out.cell (i := 2) (by simp); have mf := HBB.out.free 2
                  have s1 := HKK.out.cell (i := 1) (by simp); have s2 := HKK.out.cell (i := 2) (by simp); have s3 := HKK.out.cell (i := 3) (by simp)
                  simp at m2 s1 s2 s3
                  have hwr7 : wr.heap.size < W3.heap.size := HKK.out.lt
                  clear hfz q9 f9 b1 f1 t0 t1 t2 t3
                  go_wp2_with (first
                    | (at_builtin; refine wpList_append_at rfl _ _ 48 rfl w5.heap.size 83 j0 (.agg #[.int .i64 0, .int .i64 0, .string ⟨#[]⟩]) 3 32 Tryz.underlying48 HJ0.out.1 HJ0.out.2.1 HJ0.out.2.2.1 HJ0.out.2.2.2 rfl (by omega) (.slice Av j cv) j (vcells ((ts.take j).map Tm.vl)) rfl (HVV.out.alloc _) ⟨W3.heap.size, 0, none⟩ 1 1 [.int .i64 tk, .int .i64 ti, .string tst] rfl rfl (laid_news W3 _ _) (by simp [Value.oneCell']) (by simp only [maxLen]; omega) (by omega) (by simp; omega) ?_; intro v8 w8 hr8 hg8 hl8; obtain ⟨A8, c8, e8⟩ := own_slice hr8; subst e8; have hb8 := (HBB.out.alloc (.cells #[.int .i64 tk, .int .i64 ti, .string tst] 83)).fr (grown_fr hg8) (fun e => own_bk HVV.out HBB.out (by decide) e rfl); have q8 := hb8.cell (i := 2) (by simp); have f8 := hb8.free 2; simp at q8; have HB8 := Lib.hid hb8; have HR8 := Lib.hid hr8; have HG8 := Lib.hid hg8; clear hb8 hr8 hg8 hl8))
                  go_roundw
                  case rel =>
                    have hfy : Fr (fun b => b = w4.heap.size) w8 (w8.setCell ⟨w4.heap.size, 2, none⟩ (.slice A8 (j + 1) c8)) := (Fr.refl (fun b => b = w4.heap.size) w8).setCell (p := ⟨w4.heap.size, 2, none⟩) (.inl rfl) _
                    refine ⟨j + 1, .slice A9 (j + 1) c9, .slice A8 (j + 1) c8, by omega, by go_num, HB8.out.set 2 (.slice A8 (j + 1) c8), ?_, ?_, ?_⟩
                    · rw [HTK1.out]
                      exact own_fr (own_fr (own_ext' HRR.out ((Ext.refl W3).alloc _)) (grown_fr HG8.out) (fun q hq e => own_ne HVV.out HRR.out (by decide) e hq)) hfy (fun b hb e => by have := own_ge HRR.out hb; omega)
                    · rw [HTK2.out]
                      exact own_fr HR8.out hfy (fun b hb e => by have := own_ge HR8.out hb; omega)
                    · exact ((HFF.out.ext ((Ext.refl W3).alloc _)).grown HG8.out (fun b hb => .inr (own_ge HVV.out hb))).trans hfy
                  case measure => simp [intOf]; omega
              · obtain rfl : j = nt := by omega
                have hdj : ¬ (j : Int) < (j : Int) := by omega
                have et : ts.take j = ts := List.take_of_length_le (by have := HNT.out; omega)
                rw [et] at HU HV
                have hx4 : Ext w4 wr := HF.out.new HX45.out (fun b hb => by omega)
                have HRr := Lib.hid (HR4.out.ext hx4)
                have HOWN : Hid (∀ b, (Value.slice An2 k cn2).ownBlock = some b → w.heap.size ≤ b ∧ b < w4.heap.size) := Lib.hid (fun b hb => HR4.out.own.lt b hb)
                have hi1 := (Ins.of_own HU.out).mono (G := fun b => w.heap.size ≤ b ∧ (Value.slice An2 k cn2).ownBlock ≠ some b) (fun b _ hb => ⟨by omega, fun e => by have h1 := HOWN.out b e; have h2 := hb.2; omega⟩)
                have hi2 := ((Rw.of_flat (cells := Vl.cells) (sz := 3) (hl := fun _ => rfl) HV.out).sl (by decide)).mono (G := fun b => w.heap.size ≤ b ∧ (Value.slice An2 k cn2).ownBlock ≠ some b) (by decide) (fun b _ hb => ⟨by omega, fun e => by have h1 := HOWN.out b e; omega⟩)
                have HI1 := Lib.hid hi1; have HI2 : Hid (Sl rdVl (fun b => w.heap.size ≤ b ∧ (Value.slice An2 k cn2).ownBlock ≠ some b) wr (.slice Av j cv) (ts.map Tm.vl)) := Lib.hid hi2
                have hkn : k ≤ 1048576 := by omega
                clear et hx4 hi1 hi2 f1 f2
                go_wp2_with (first
                  | (at_builtin; refine wpList_append_at rfl _ _ 34 rfl w.heap.size 50 p0 (.agg #[.string ⟨#[]⟩, .slice none 0 0, .slice none 0 0]) 3 64 Tryz.underlying34 HP0.out.1 HP0.out.2.1 HP0.out.2.2.1 HP0.out.2.2.2 rfl (by omega) (.slice An2 k cn2) k css.flatten rfl (HRr.out.own.alloc _) ⟨wr.heap.size, 0, none⟩ 1 1 [.string rl, .slice Au j cu, .slice Av j cv] rfl rfl (laid_news wr _ _) (by simp [Value.oneCell']) (by simp only [maxLen]; omega) (by omega) (by simp; omega) ?_; intro v8 w8 hr8 hg8 hl8; obtain ⟨A8, c8, e8⟩ := own_slice hr8; subst e8; have HRW8 := Lib.hid (Rw.more (x := (⟨rl, ts.map (numI names), ts.map Tm.vl⟩ : Nt)) HRr.out ((Ext.refl wr).alloc _) ⟨_, _, rfl, HI1.out.ext ((Ext.refl wr).alloc _), HI2.out.ext ((Ext.refl wr).alloc _)⟩ hr8 hg8 hl8); have HX8 := Lib.hid ((HXR.out.alloc _).grown hg8 (fun b hb => own_ge HRr.out.own hb)); clear hr8 hg8 hl8))
                go_roundw
                case rel => exact ⟨i + 1, k + 1, _, _, by omega, by go_num, HRW8.out, HY, by omega, HX8.out⟩
                case measure => simp [intOf]; omega
          · have HS := Lib.hid (HSK.out (hn' hgg))
            have hb : ((gg : Int) != (gd : Int)) = true := by rw [bne_iff_ne]; omega
            clear hy hn' hgg
            go_wp2_with fail
            go_roundw
            case rel => exact ⟨i + 1, k, l, css, by omega, by go_num, HR4.out, HS, by omega, HX4.out⟩
            case measure => simp [intOf]; omega
        · have HS := Lib.hid (HSK.out hn')
          clear hn'
          go_wp2_with fail
          go_roundw
          case rel => exact ⟨i + 1, k, l, css, by omega, by go_num, HR4.out, HS, by omega, HX4.out⟩
          case measure => simp [intOf]; omega
    · obtain rfl : i = n := by omega
      have hdi : ¬ (i : Int) < (i : Int) := by omega
      have et : xs.take i = xs := List.take_of_length_le (by have := HN.out; omega)
      have HQ : Hid (Sl rdNt (fun k => w.heap.size ≤ k) W (.slice An2 k cn2) (notsL names xs gd)) := Lib.hid (by
        have h := HRW.out.sl (by decide)
        rw [HE.out, et] at h
        exact h)
      clear et hxr hrw
      go_wp2_with fail
      go_ret
      exact Ret.mk HX.out HQ.out
end Go.Proofs.YtmmmdinncmbjkaaGreat
