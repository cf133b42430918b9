/- Contracts: ast.Vars and its closure. -/
import Derived.Test.YtiahaofjmcjdiaaDoorMp
namespace Go.Proofs.YtiahaofjmcjdiaaDoor
open Go.RowKit Go.Maps

abbrev Sv (s : ByteArray) : Value := .string s
instance memBA (s : ByteArray) : (vs : List ByteArray) → Decidable (s ∈ vs)
  | [] => isFalse (by simp)
  | v :: vs => if h : s = v then isTrue (by simp [h]) else match memBA s vs with
    | isTrue h' => isTrue (List.mem_cons_of_mem _ h')
    | isFalse h' => isFalse (fun e => by rcases List.mem_cons.1 e with e | e; exact h e; exact h' e)
/-- Names, each once, the empty one never. -/
def addV (vs : List ByteArray) (s : ByteArray) : List ByteArray := if s = ⟨#[]⟩ ∨ s ∈ vs then vs else vs ++ [s]
def seenF (vs : List ByteArray) : ByteArray → Option Value := fun s => if s = ⟨#[]⟩ ∨ s ∈ vs then some (.bool true) else none
/-- The two variables that the closure has captured, the map and the row. -/
structure VarB (w : World) (base b gs gv n : Nat) (vv : Value) (vs : List ByteArray) : Prop where
  map : MapV w b n (seenF vs)
  seen : Bk w gs 66 [.map (some b)]
  vars : Bk w gv 26 [vv]
  row : w.ownsRow base 9 1 vv vs.length (vs.map Sv)
theorem VarB.ext {w w' : World} {base b gs gv n : Nat} {vv : Value} {vs : List ByteArray} (h : VarB w base b gs gv n vv vs) (he : Ext w w') : VarB w' base b gs gv n vv vs :=
  ⟨h.map.ext he, h.seen.ext he, h.vars.ext he, own_fr h.row (he.fr (fun _ => False)) (fun _ _ h => h)⟩

set_option maxRecDepth 20000 in
set_option maxHeartbeats 800000 in
theorem add_old {w : World} {base b gs gv n : Nat} {vv : Value} {vs : List ByteArray} {s : ByteArray} (h : VarB w base b gs gv n vv vs) (hs : s.size ≤ maxLen) (ho : Hid (s = ⟨#[]⟩ ∨ s ∈ vs)) :
    Calls Tryd.prog 40 #[.string s, .pointer (some ⟨gs, 0, none⟩), .pointer (some ⟨gv, 0, none⟩)] w (fun e w' => e = .returned (.tuple #[]) ∧ w = w') := by
  have d0 := h.seen.cell (i := 0) (by simp)
  simp only [List.getElem_cons_zero] at d0
  have HM := Lib.hid h.map
  clear h
  go_enter Tryd.func40, Tryd.ntmps40
  go_wp2_with (first | (at_lookup; refine wpList_lookup_V rfl _ _ 66 4 rfl Tryd.underlying66 (.bool false) (zero_bool _) b n (seenF vs) rfl HM.out s rfl hs (.bool true) (by rw [seenF, if_pos ho.out]; rfl) ?_))
  exact bodyPost_end (results_none rfl _ _ _) rfl ⟨rfl, rfl⟩

theorem MapV.ne {w : World} {b n g : Nat} {f : ByteArray → Option Value} {t : TypeId} {xs : List Value} (h : MapV w b n f) (hb : Bk w g t xs) : g ≠ b := by
  obtain ⟨D, ⟨es, clock, h1, _⟩, _⟩ := h
  rintro rfl
  have := hb.symm.trans h1
  injection this with this; cases this
theorem MapV.ne_own {w : World} {b n base size m k : Nat} {f : ByteArray → Option Value} {e : TypeId} {v : Value} {xs : List Value} (h : MapV w b n f) (hr : w.ownsRow base e size v m xs) (hk : v.ownBlock = some k) : k ≠ b := by
  obtain ⟨D, ⟨es, clock, h1, _⟩, _⟩ := h
  rcases hr.2 with ⟨rfl, _⟩ | ⟨g, cap, cur, rfl, _, hc, _⟩
  · simp [Value.ownBlock] at hk
  · simp [Value.ownBlock] at hk
    subst hk
    rintro rfl
    have := hc.symm.trans h1
    injection this with this; cases this
theorem seenF_add {vs : List ByteArray} {s : ByteArray} (h : ¬ (s = ⟨#[]⟩ ∨ s ∈ vs)) : updV (seenF vs) s (some (.bool true)) = seenF (vs ++ [s]) := by
  funext t
  unfold updV seenF
  by_cases e : t = s
  · subst e; rw [if_pos rfl, if_pos (.inr (by simp))]
  · rw [if_neg e]
    by_cases h2 : t = ⟨#[]⟩ ∨ t ∈ vs
    · rw [if_pos h2, if_pos (h2.imp id (fun h => by simp [h]))]
    · rw [if_neg h2, if_neg (fun h3 => h2 (h3.imp id (fun h4 => by simp [e] at h4; exact h4)))]

/-- What add leaves. -/
def AddPost (base b gs gv n : Nat) (vv : Value) (vs : List ByteArray) (s : ByteArray) (w : World) (e : Ending) (w' : World) : Prop :=
  ∃ vv', e = .returned (.tuple #[]) ∧ VarB w' base b gs gv (n + 1) vv' (addV vs s) ∧ Fr (fun k => k = b ∨ k = gv ∨ vv.ownBlock = some k) w w' ∧ (vv'.ownBlock = vv.ownBlock ∨ ∀ k, vv'.ownBlock = some k → w.heap.size ≤ k)

set_option maxRecDepth 20000 in
set_option maxHeartbeats 800000 in
theorem add_new {w : World} {base b gs gv n : Nat} {vv : Value} {vs : List ByteArray} {s : ByteArray} (h : VarB w base b gs gv n vv vs) (hbase : base ≤ w.heap.size) (hn : n ≤ 2097152) (hl : vs.length ≤ 1048576) (hs : s.size ≤ maxLen) (ho : Hid (¬ (s = ⟨#[]⟩ ∨ s ∈ vs))) :
    Calls Tryd.prog 40 #[.string s, .pointer (some ⟨gs, 0, none⟩), .pointer (some ⟨gv, 0, none⟩)] w (AddPost base b gs gv n vv vs s w) := by
  obtain ⟨A, c, rfl⟩ := own_slice h.row
  have d0 := h.seen.cell (i := 0) (by simp)
  simp only [List.getElem_cons_zero] at d0
  have HH := Lib.hid h
  obtain ⟨m, hm⟩ : ∃ m, m = vs.length := ⟨_, rfl⟩
  have HMM := Lib.hid hm
  clear h hm
  obtain ⟨i0, hi0, hz0, hz1, hz2⟩ := info_parts info_str
  have HI0 := Lib.hid (And.intro hi0 (And.intro hz0 (And.intro hz1 hz2))); clear hi0 hz0 hz1 hz2
  go_enter Tryd.func40, Tryd.ntmps40
  go_wp2_with (first
    | (at_lookup; refine wpList_lookup_V rfl _ _ 66 4 rfl Tryd.underlying66 (.bool false) (zero_bool _) b n (seenF vs) rfl HH.out.map s rfl hs (.bool false) (by rw [seenF, if_neg ho.out]; rfl) ?_)
    | (at_mapUpdate; refine wpList_update_V rfl _ _ _ 66 4 rfl Tryd.underlying66 b n (seenF vs) rfl HH.out.map (by simp only [maxLen]; omega) s (.bool true) rfl hs rfl ?_; intro w1 hm1 hg1; have hv1 : Bk w1 gv 26 [.slice A vs.length c] := Bk.fr HH.out.vars (grown_fr hg1) (fun e => by injection e with e; exact HH.out.map.ne HH.out.vars e.symm); have a0 := hv1.cell (i := 0) (by simp); simp only [List.getElem_cons_zero] at a0; have HR1 := Lib.hid (own_fr HH.out.row (grown_fr hg1) (fun k hk e => by injection e with e; exact HH.out.map.ne_own HH.out.row hk e.symm)); have HM1 := Lib.hid hm1; have HG1 := Lib.hid hg1; have HV1 := Lib.hid hv1; have hsz1 : base ≤ w1.heap.size := Nat.le_trans hbase hg1.size; clear hm1 hg1 hv1)
    | (at_builtin; refine wpList_append_at rfl _ _ 26 rfl base 9 i0 (.string ⟨#[]⟩) 1 16 Tryd.underlying26 HI0.out.1 HI0.out.2.1 HI0.out.2.2.1 HI0.out.2.2.2 rfl (by omega) _ vs.length (vs.map Sv) rfl (HR1.out.alloc _) ⟨w1.heap.size, 0, none⟩ 1 1 [.string s] rfl rfl (laid_news w1 _ _) (by simp [Value.oneCell']) (by simp only [maxLen]; omega) (by omega) (by simp; omega) ?_; intro v9 w9 hr9 hg9 hl9; obtain ⟨A9, c9, rfl⟩ := own_slice hr9; have hv9 : Bk w9 gv 26 [.slice A vs.length c] := Bk.fr (HV1.out.alloc _) (grown_fr hg9) (fun e => own_bk HR1.out HV1.out (by decide) e rfl); have b0 := hv9.cell (i := 0) (by simp); have f0 := hv9.free 0; simp only [List.getElem_cons_zero] at b0; have HR9 := Lib.hid hr9; have HG9 := Lib.hid hg9; have HL9 := Lib.hid hl9; have HV9 := Lib.hid hv9; clear hr9 hg9 hl9 hv9))
  refine bodyPost_end (results_none rfl _ _ _) rfl ⟨.slice A9 (vs.length + 1) c9, rfl, ?_, ?_, ?_⟩
  · have hgb : gv ≠ b := HH.out.map.ne HH.out.vars
    have hsb : gs ≠ b := HH.out.map.ne HH.out.seen
    have hgs : gs ≠ gv := HH.out.seen.ne (o := [Value.slice A vs.length c].toArray) HH.out.vars (by decide)
    have hob : ∀ k, (Value.slice A vs.length c).ownBlock = some k → k ≠ b ∧ k ≠ gs := fun k hk => ⟨HH.out.map.ne_own HH.out.row hk, own_bk HH.out.row HH.out.seen (by decide) hk⟩
    have hset : Fr (fun k => k = gv) w9 (w9.setCell ⟨gv, 0, none⟩ (.slice A9 (vs.length + 1) c9)) := Fr.setCell (S := fun k => k = gv) (Fr.refl _ w9) (p := ⟨gv, 0, none⟩) (.inl rfl) _
    have e : addV vs s = vs ++ [s] := by rw [addV, if_neg ho.out]
    rw [e]
    refine ⟨?_, ?_, ?_, ?_⟩
    · rw [← seenF_add ho.out]
      exact ((((HM1.out).ext ((Ext.refl w1).alloc _)).fr (grown_fr HG9.out) (fun e => (hob b e).1 rfl))).fr hset (fun e => hgb e.symm)
    · exact ((((HH.out.seen.fr (grown_fr HG1.out) (fun e => by injection e with e; exact hsb e.symm)).alloc _).fr (grown_fr HG9.out) (fun e => (hob gs e).2 rfl))).fr hset hgs
    · exact HV9.out.set 0 _
    · rw [List.length_append, List.map_append]
      exact own_fr HR9.out hset (fun k hk e => by subst e; exact own_bk HR9.out HV9.out (by decide) hk rfl)
  · exact Fr.setCell (Fr.comp (((grown_fr HG1.out).mono (T := fun k => k = b ∨ k = gv ∨ (Value.slice A vs.length c).ownBlock = some k) (fun k _ e => .inl (by injection e with e; exact e.symm))).ext ((Ext.refl w1).alloc _)) (grown_fr HG9.out) (fun k hk => .inl (.inr (.inr hk)))) (.inl (.inr (.inl rfl))) _
  · rcases HL9.out with h | h
    · exact .inl h
    · right; intro k hk; rw [h] at hk; injection hk with hk; subst hk; have := HG1.out.size; simp; omega
theorem add_any {w : World} {base b gs gv n : Nat} {vv : Value} {vs : List ByteArray} {s : ByteArray} (h : VarB w base b gs gv n vv vs) (hbase : base ≤ w.heap.size) (hn : n ≤ 2097152) (hl : vs.length ≤ 1048576) (hs : s.size ≤ maxLen) :
    Calls Tryd.prog 40 #[.string s, .pointer (some ⟨gs, 0, none⟩), .pointer (some ⟨gv, 0, none⟩)] w (AddPost base b gs gv n vv vs s w) := by
  by_cases ho : s = ⟨#[]⟩ ∨ s ∈ vs
  · refine (add_old h hs (Lib.hid ho)).mono ?_
    rintro e w' ⟨rfl, rfl⟩
    exact ⟨vv, rfl, by rw [addV, if_pos ho]; exact ⟨h.map.mono (by omega), h.seen, h.vars, h.row⟩, Fr.refl _ _, .inl rfl⟩
  · exact add_new h hbase hn hl hs (Lib.hid ho)
end Go.Proofs.YtiahaofjmcjdiaaDoor
