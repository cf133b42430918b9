/- Contract: normalize's builder.add. -/
import Derived.Test.YtmmmdinncmbjkaaNu
namespace Go.Proofs.Ytmmmdinncmbjkaa
open Go.RowKit Go.Maps

/-- m[k] = v, as a run. -/
theorem MapV.upd {w : World} {b n : Nat} {f : ByteArray → Option Value} (h : MapV w b n f) {t e : TypeId} (ht : Try.prog.underlying t = some (.map 9 e)) (hn : n < maxLen) {s : ByteArray} (hs : s.size ≤ maxLen) (u : Value) :
    ∃ w', (Instr.mapUpdate t (.map (some b)) (.string s) u).run Try.prog w = .ok () w' ∧ MapV w' b (n + 1) (updV f s (some u)) ∧ w.grownBy w' (some b) := by
  obtain ⟨D, hD, hti, hat, hhas⟩ := h
  obtain ⟨p1, p2, p3⟩ := put_view hti hat hhas s u
  obtain ⟨w', hrun, r1, r2⟩ := hD.update law_str ht hn (keyOf_str s hs) (val := u) (d := .held u) (ps := []) rfl
  exact ⟨w', hrun, ⟨_, r1, p1, p2, p3⟩, r2⟩
/-- The place of a name. -/
def posN : List ByteArray → ByteArray → Nat
  | [], _ => 0
  | a :: l, s => if a = s then 0 else posN l s + 1
/-- The numbers of names. -/
def nmF (l : List ByteArray) : ByteArray → Option Value := fun s => if s ∈ l then some (.int .i64 (posN l s : Int)) else none
def addN (l : List ByteArray) (s : ByteArray) : List ByteArray := if s ∈ l then l else l ++ [s]
theorem nmF_nil : nmF [] = fun _ => none := by funext s; unfold nmF; rw [if_neg (by simp)]
theorem pos_last : ∀ {l : List ByteArray} {s : ByteArray}, s ∉ l → posN (l ++ [s]) s = l.length
  | [], s, _ => by simp [posN]
  | a :: l, s, h => by
    have h1 : a ≠ s := fun e => h (by simp [e])
    have h2 : s ∉ l := fun e => h (by simp [e])
    show (if a = s then 0 else posN (l ++ [s]) s + 1) = _
    rw [if_neg h1, pos_last h2]; rfl
theorem pos_first : ∀ {l : List ByteArray} {s t : ByteArray}, t ∈ l → posN (l ++ [s]) t = posN l t
  | [], s, t, h => by simp at h
  | a :: l, s, t, h => by
    show (if a = t then 0 else posN (l ++ [s]) t + 1) = if a = t then 0 else posN l t + 1
    by_cases h1 : a = t
    · rw [if_pos h1, if_pos h1]
    · rw [if_neg h1, if_neg h1, pos_first (by rcases List.mem_cons.1 h with e | e; exact absurd e.symm h1; exact e)]
theorem nmF_add {l : List ByteArray} {s : ByteArray} (h : s ∉ l) : updV (nmF l) s (some (.int .i64 (l.length : Int))) = nmF (l ++ [s]) := by
  funext t
  unfold updV nmF
  by_cases ht : t = s
  · subst ht
    rw [if_pos rfl, if_pos (by simp), pos_last h]
  · rw [if_neg ht]
    by_cases h2 : t ∈ l
    · rw [if_pos h2, if_pos (by simp [h2]), pos_first h2]
    · rw [if_neg h2, if_neg (by simp [h2, ht])]
/-- The builder: its block, its names, its map. -/
structure BlI (w : World) (base g bm m : Nat) (pre : List Value) (v : Value) (post : List Value) (names : List ByteArray) : Prop where
  bk : Bk w g 88 (pre ++ v :: .map (some bm) :: post)
  row : w.ownsRow base 9 1 v names.length (names.map Sv)
  map : MapV w bm m (nmF names)
  ge : base ≤ g
  gm : base ≤ bm
theorem BlI.ext {w w' : World} {base g bm m : Nat} {pre post : List Value} {v : Value} {names : List ByteArray} (h : BlI w base g bm m pre v post names) (he : Ext w w') : BlI w' base g bm m pre v post names := ⟨h.bk.ext he, own_ext' h.row he, h.map.ext he, h.ge, h.gm⟩
/-- What add leaves. -/
def AddBl (w : World) (base g bm m : Nat) (pre : List Value) (v : Value) (post : List Value) (names : List ByteArray) (s : ByteArray) (e : Ending) (w' : World) : Prop :=
  e = .returned (.tuple #[]) ∧ Fr (fun k => k = g ∨ k = bm ∨ v.ownBlock = some k) w w' ∧ ∃ v', BlI w' base g bm (m + 1) pre v' post (addN names s) ∧ ∀ k, v'.ownBlock = some k → v.ownBlock = some k ∨ w.heap.size ≤ k
set_option maxRecDepth 20000 in
set_option maxHeartbeats 3200000 in
theorem add_bl {w : World} {base g bm m : Nat} {a0 a1 v p0 p1 p2 p3 : Value} {names : List ByteArray} {s : ByteArray} (h : BlI w base g bm m [a0, a1] v [p0, p1, p2, p3] names) (hb : base ≤ w.heap.size) (hm : m ≤ 1048576) (hl : names.length ≤ 1048576) (hs : s.size ≤ maxLen) :
    Calls Try.prog 18 #[.pointer (some ⟨g, 0, none⟩), .string s] w (AddBl w base g bm m [a0, a1] v [p0, p1, p2, p3] names s) := by
  obtain ⟨Av, cv, rfl⟩ := own_slice h.row
  have c2 := h.bk.cell (i := 2) (by simp); have c3 := h.bk.cell (i := 3) (by simp)
  simp at c2 c3
  have H := Lib.hid h
  obtain ⟨n, hn⟩ : ∃ n, n = names.length := ⟨_, rfl⟩
  rw [← hn] at c2 hl
  have HN := Lib.hid hn
  by_cases hin : s ∈ names
  · have HU1 : Hid ((nmF names s).getD (.int .i64 0) = .int .i64 (posN names s : Int)) := Lib.hid (by unfold nmF; rw [if_pos hin]; rfl)
    have HU2 : Hid ((nmF names s).isSome = true) := Lib.hid (by unfold nmF; rw [if_pos hin]; rfl)
    have HE : Hid (addN names s = names) := Lib.hid (if_pos hin)
    clear hin hn h
    go_enter Try.func18, Try.ntmps18
    go_wp2_with (first | (refine wpList_lookup_okV rfl _ _ 84 3 rfl Try.underlying84 (.int .i64 0) (zero_int _) bm m _ rfl H.out.map s rfl hs (.int .i64 (posN names s : Int)) HU1.out true HU2.out ?_))
    go_end0
    exact ⟨rfl, Fr.refl _ _, _, by rw [HE.out]; exact ⟨H.out.bk, H.out.row, H.out.map.mono (by omega), H.out.ge, H.out.gm⟩, fun k hk => .inl hk⟩
  · have HU1 : Hid ((nmF names s).getD (.int .i64 0) = .int .i64 0) := Lib.hid (by unfold nmF; rw [if_neg hin]; rfl)
    have HU2 : Hid ((nmF names s).isSome = false) := Lib.hid (by unfold nmF; rw [if_neg hin]; rfl)
    have HE : Hid (addN names s = names ++ [s]) := Lib.hid (if_neg hin)
    have HF := Lib.hid (nmF_add hin)
    rw [← hn] at HF
    obtain ⟨w5, hr5, hm5, hg5⟩ := (H.out.map.ext (Ext.refl w).drew).upd (e := 3) Try.underlying84 (by simp only [maxLen]; omega) hs (.int .i64 (n : Int))
    have hb5 := (H.out.bk.ext (Ext.refl w).drew).fr (grown_fr hg5) (fun e => by injection e with e; exact (H.out.map.ne H.out.bk) e.symm)
    have HM5 := Lib.hid hm5; have HG5 := Lib.hid hg5; have HB5 := Lib.hid hb5
    have q2 := hb5.cell (i := 2) (by simp); have f2 := hb5.free 2
    simp at q2
    rw [← hn] at q2
    clear hin hn h hm5 hg5 hb5
    go_enter Try.func18, Try.ntmps18
    go_wp2_with (first | (refine wpList_lookup_okV rfl _ _ 84 3 rfl Try.underlying84 (.int .i64 0) (zero_int _) bm m _ rfl H.out.map s rfl hs (.int .i64 0) HU1.out false HU2.out ?_))
    go_region
    have HR5 := Lib.hid (own_fr (own_ext' H.out.row (Ext.refl w).drew) (grown_fr HG5.out) (fun k hk e => by injection e with e; exact H.out.map.ne_own H.out.row hk e.symm))
    have hsz5 : w.heap.size ≤ w5.heap.size := HG5.out.size
    obtain ⟨i0, hi0, hz0, hz1, hz2⟩ := info_parts info_string
    have HI0 := Lib.hid (And.intro hi0 (And.intro hz0 (And.intro hz1 hz2)))
    clear hi0 hz0 hz1 hz2 hr5
    rw [← HN.out] at HR5 ⊢
    go_wp2_with (first
      | (at_builtin; refine wpList_append_at rfl _ _ 23 rfl base 9 i0 (.string ⟨#[]⟩) 1 16 Try.underlying23 HI0.out.1 HI0.out.2.1 HI0.out.2.2.1 HI0.out.2.2.2 rfl (by omega) (.slice Av n cv) n (names.map Sv) rfl (HR5.out.alloc _) ⟨w5.heap.size, 0, none⟩ 1 1 [.string s] rfl rfl (laid_news w5 _ _) (by simp [Value.oneCell']) (by simp only [maxLen]; omega) (by omega) (Nat.le_trans hb (Nat.le_trans hsz5 ((Ext.refl w5).alloc _).size)) ?_; intro v8 w8 hr8 hg8 hl8; obtain ⟨A8, c8, rfl⟩ := own_slice hr8; have hb8 := (HB5.out.alloc (.cells #[.string s] 9)).fr (grown_fr hg8) (fun e => own_bk HR5.out HB5.out (by decide) e rfl); have q8 := hb8.cell (i := 2) (by simp); have f8 := hb8.free 2; simp at q8; rw [← HN.out] at q8; have HB8 := Lib.hid hb8; have HR8 := Lib.hid hr8; have HG8 := Lib.hid hg8; have HL8 := Lib.hid hl8; clear hb8 hr8 hg8 hl8))
    go_end0
    have hfr1 : Fr (fun k => k = g ∨ k = bm ∨ (Value.slice Av n cv).ownBlock = some k) w w5 := (Fr.refl _ w).drew.grown HG5.out (fun k e => .inl (.inr (.inl (by injection e with e; exact e.symm))))
    have hfr2 : Fr (fun k => k = g ∨ k = bm ∨ (Value.slice Av n cv).ownBlock = some k) w w8 := (hfr1.alloc _).grown HG8.out (fun k e => .inl (.inr (.inr e)))
    have hset : Fr (fun k => k = g) w8 (w8.setCell ⟨g, 2, none⟩ (.slice A8 (n + 1) c8)) := (Fr.refl (fun k => k = g) w8).setCell (p := ⟨g, 2, none⟩) (.inl rfl) _
    have hm8 : MapV w8 bm (m + 1) (nmF (names ++ [s])) := by
      rw [← HF.out]
      exact (HM5.out.ext ((Ext.refl w5).alloc _)).fr (grown_fr HG8.out) (fun e => HM5.out.ne_own HR5.out e rfl)
    have hb9 := HB8.out.set 2 (.slice A8 (n + 1) c8)
    refine ⟨rfl, by rw [← HN.out]; exact hfr2.comp hset (fun k hk => .inl (.inl hk)), .slice A8 (n + 1) c8, ?_, fun k hk => by
      rcases HL8.out with hl | hl
      · exact .inl (by rw [← HN.out]; exact hl.symm.trans hk)
      · rw [hl] at hk
        injection hk with hk
        have := ((Ext.refl w5).alloc (.cells #[.string s] 9)).size
        exact .inr (by omega)⟩
    rw [HE.out]
    refine ⟨hb9, ?_, hm8.fr hset (fun e => hm8.ne HB8.out e.symm), H.out.ge, H.out.gm⟩
    have h9 := own_fr HR8.out hset (fun k hk e => own_bk HR8.out HB8.out (by decide) hk e)
    rw [show (names ++ [s]).length = n + 1 by rw [HN.out]; simp, List.map_append]
    exact h9
/-- The number of a term's variable, as the program reckons it. -/
def numI (names : List ByteArray) (t : Tm) : Int := if t.var = ⟨#[]⟩ then -1 else if t.var ∈ names then (posN names t.var : Int) else 0
theorem nmF_get (l : List ByteArray) (s : ByteArray) : (nmF l s).getD (.int .i64 0) = .int .i64 (if s ∈ l then (posN l s : Int) else 0) := by
  unfold nmF
  by_cases h : s ∈ l
  · rw [if_pos h, if_pos h]; rfl
  · rw [if_neg h, if_neg h]; rfl
set_option maxRecDepth 20000 in
set_option maxHeartbeats 1600000 in
theorem number_any {w : World} {g bm m : Nat} {names : List ByteArray} {t : Tm} {a0 a1 v : Value} {post : List Value} (hbk : Bk w g 88 ([a0, a1] ++ v :: .map (some bm) :: post)) (hM : MapV w bm m (nmF names)) (hs : t.var.size ≤ maxLen) :
    Calls Try.prog 32 #[.pointer (some ⟨g, 0, none⟩), t.val] w (Ret (fun x _ => x = .int .i64 (numI names t)) w) := by
  obtain ⟨xv, kd, it, st⟩ := t
  simp only [Tm.val] at hs ⊢
  by_cases hv : xv = ⟨#[]⟩
  · have HE := Lib.hid (show numI names ⟨xv, kd, it, st⟩ = -1 from if_pos hv)
    have hve := var_eq hv
    rw [HE.out]
    clear hv hbk hM
    go_enter Try.func32, Try.ntmps32
    go_wp2_with fail
    go_ret
    exact Ret.mk ((Ext.refl w).alloc _) rfl
  · have hve := var_ne hv
    have he : numI names ⟨xv, kd, it, st⟩ = if xv ∈ names then (posN names xv : Int) else 0 := if_neg hv
    have l0 := fun n => (hM.ext (((Ext.refl w).alloc (.cells #[.string xv, .int .i64 kd, .int .i64 it, .string st] 103)).drewN n)).look (e := 3) Try.underlying84 (zero_int _) hs (nmF_get names xv)
    rw [← he] at l0
    have c3 := (hbk.alloc (.cells #[.string xv, .int .i64 kd, .int .i64 it, .string st] 103)).cell (i := 3) (by simp)
    have c3' := hbk.cell (i := 3) (by simp)
    have hlt := hbk.lt
    simp at c3 c3'
    obtain ⟨x, hx⟩ : ∃ x, x = numI names ⟨xv, kd, it, st⟩ := ⟨_, rfl⟩
    rw [← hx] at l0 ⊢
    clear hv he hx hbk hM
    go_enter Try.func32, Try.ntmps32
    go_upto_region 3 with fail
    go_quiet (fail)
    go_wp2_with fail
    go_ret
    exact Ret.mk (((Ext.refl w).alloc _).drewN _) rfl
end Go.Proofs.Ytmmmdinncmbjkaa
