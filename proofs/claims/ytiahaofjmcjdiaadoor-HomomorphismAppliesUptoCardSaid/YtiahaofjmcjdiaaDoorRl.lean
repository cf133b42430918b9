/- Words for the walk of HomomorphismChecks: the numbers, the row of images, and what the loop has seen. -/
import Derived.Test.YtiahaofjmcjdiaaDoorRm
namespace Go.Proofs.YtiahaofjmcjdiaaDoor
open Go.RowKit

structure CkI (W wr : World) (g gI : Nat) (v0 v : Value) (T0 T : List Tm) (img : List Int) : Prop where
  num : NumB wr g g v T
  pre : T0 <+: T
  img : Bk wr gI 3 (img.map I64)
  fr : Fr (fun k => k = g ∨ v0.ownBlock = some k ∨ k = gI) W wr
  land : v.ownBlock = v0.ownBlock ∨ ∀ k, v.ownBlock = some k → W.heap.size ≤ k
theorem CkI.fore {W wr wr' : World} {g gI : Nat} {v0 v : Value} {T0 T : List Tm} {img : List Int} (h : CkI W wr g gI v0 v T0 T img) (he : Ext wr wr') : CkI W wr' g gI v0 v T0 T img :=
  ⟨h.num.ext he, h.pre, h.img.ext he, h.fr.ext he, h.land⟩
theorem CkI.of {W wr wr' : World} {g gI : Nat} {v0 v v' : Value} {T0 T : List Tm} {img : List Int} {t : Tm} (h : CkI W wr g gI v0 v T0 T img) (hn : NumB wr' g g v' (addT T t)) (hf : Fr (fun k => k = g ∨ v.ownBlock = some k) wr wr') (hl : v'.ownBlock = v.ownBlock ∨ ∀ k, v'.ownBlock = some k → wr.heap.size ≤ k) : CkI W wr' g gI v0 v' T0 (addT T t) img := by
  have hs := h.fr.size
  refine ⟨hn, h.pre.trans (addT_pre _ _), h.img.fr hf (fun e => ?_), h.fr.comp hf (fun k hk => ?_), ?_⟩
  · rcases e with e | e
    · exact h.img.ne (o := [v].toArray) h.num.cell (by decide) e
    · exact own_bk h.num.row h.img (by decide) e rfl
  · rcases hk with hk | hk
    · exact .inl (.inl hk)
    · rcases h.land with e | e
      · exact .inl (.inr (.inl (e ▸ hk)))
      · exact .inr (e k hk)
  · rcases hl with e | e
    · rw [e]; exact h.land
    · exact .inr (fun k hk => by have := e k hk; omega)
theorem CkI.set {W wr : World} {g gI : Nat} {v0 v : Value} {T0 T : List Tm} {img : List Int} (h : CkI W wr g gI v0 v T0 T img) (i : Nat) (x : Int) : CkI W (wr.setCell ⟨gI, i, none⟩ (I64 x)) g gI v0 v T0 T (img.set i x) := by
  have hset : Fr (fun k => k = gI) wr (wr.setCell ⟨gI, i, none⟩ (I64 x)) := Fr.setCell (S := fun k => k = gI) (Fr.refl _ wr) (p := ⟨gI, i, none⟩) (.inl rfl) _
  refine ⟨h.num.fr hset (fun e => h.img.ne (o := [v].toArray) h.num.cell (by decide) e.symm) (fun k hk e => own_bk h.num.row h.img (by decide) hk e), h.pre, ?_, h.fr.comp hset (fun k hk => .inl (.inr (.inr hk))), h.land⟩
  have := h.img.set i (I64 x)
  rwa [← List.map_set] at this

/-- make of a row of one-cell elements. -/
theorem make_row {P : Program} (t e : TypeId) (z : Value) (b : Nat) (ht : P.underlying t = some (.slice e)) (hi : (P.info? e).map (fun i => (i.zero, i.size, i.bytes)) = some (some z, 1, b)) (hz : z.cells = #[z])
    (n : Nat) (hb : b * n ≤ 281474976710656) (hn : n ≤ 281474976710656) (w : World) :
    (Instr.makeSlice t (.int .i64 (n : Int)) (.int .i64 (n : Int))).run P w = .ok (.slice (some ⟨w.heap.size, 0, none⟩) n n) (w.alloc (.cells (List.replicate n z).toArray e)) := by
  obtain ⟨i, hi, h1, h2, h3⟩ := info_parts hi
  have hr := run_make (P := P) w t e i z ht hi h1 .i64 .i64 n n (by omega) (by omega) (by rw [h3, ← Int.natCast_mul]; exact Int.ofNat_le.2 hb) (by omega)
  rw [hr, Int.toNat_natCast, h2, hz, Nat.mul_one]
  have : madeCells #[z] n = (List.replicate n z).toArray := by
    unfold madeCells
    apply Array.ext
    · simp
    · intro j h1 h2
      simp [Nat.mod_one]
  rw [this]

/-- A block that the loop leaves alone. -/
structure Away (g gI : Nat) (v0 : Value) (k : Nat) : Prop where
  ne : k ≠ g
  row : v0.ownBlock ≠ some k
  img : k ≠ gI
theorem Away.off {g gI : Nat} {v0 : Value} {k : Nat} (h : Away g gI v0 k) : ¬ (k = g ∨ v0.ownBlock = some k ∨ k = gI) := fun e => by
  rcases e with e | e | e
  · exact h.ne e
  · exact h.row e
  · exact h.img e

theorem nodup_take {ps : List (ByteArray × Tm)} {i : Nat} (hi : i < ps.length) : ((ps.take (i + 1)).map (·.1)).Nodup ↔ ((ps.take i).map (·.1)).Nodup ∧ ∀ k (h : k < ps.length), k < i → ps[k].1 ≠ ps[i].1 := by
  rw [List.take_succ_eq_append_getElem hi, List.map_append, List.map_cons, List.map_nil, List.nodup_append]
  constructor
  · rintro ⟨h1, -, h3⟩
    refine ⟨h1, fun k hk hki => h3 _ (List.mem_map.2 ⟨ps[k], List.mem_take_iff_getElem.2 ⟨k, by omega, rfl⟩, rfl⟩) _ (by simp)⟩
  · rintro ⟨h1, h2⟩
    refine ⟨h1, by simp, fun a ha b hb => ?_⟩
    obtain ⟨p, hp, rfl⟩ := List.mem_map.1 ha
    obtain ⟨k, hk, rfl⟩ := List.mem_take_iff_getElem.1 hp
    rw [List.mem_singleton.1 hb]
    exact h2 k (by omega) (by omega)

def KNod (ps : List (ByteArray × Tm)) (s : ByteArray) (k : Nat) (b b2 : Bool) : Prop := b2 = true ↔ b = true ∧ ∀ k' (h : k' < ps.length), k' < k → ps[k'].1 ≠ s
theorem KNod.mk {ps : List (ByteArray × Tm)} {s : ByteArray} {k : Nat} {b b2 : Bool} (h : b2 = true ↔ b = true ∧ ∀ k' (h : k' < ps.length), k' < k → ps[k'].1 ≠ s) : KNod ps s k b b2 := h
theorem KNod.out {ps : List (ByteArray × Tm)} {s : ByteArray} {k : Nat} {b b2 : Bool} (h : KNod ps s k b b2) : b2 = true ↔ b = true ∧ ∀ k' (h : k' < ps.length), k' < k → ps[k'].1 ≠ s := h
def INod (ps : List (ByteArray × Tm)) (i : Nat) (b : Bool) : Prop := b = true ↔ ((ps.take i).map (·.1)).Nodup
theorem INod.mk {ps : List (ByteArray × Tm)} {i : Nat} {b : Bool} (h : b = true ↔ ((ps.take i).map (·.1)).Nodup) : INod ps i b := h
theorem INod.out {ps : List (ByteArray × Tm)} {i : Nat} {b : Bool} (h : INod ps i b) : b = true ↔ ((ps.take i).map (·.1)).Nodup := h

/-- What has been seen, place by place. -/
def pastF (ps : List (ByteArray × Tm)) (i j k : Nat) : List (ByteArray × Tm) := if k < i then ps else if k = i then ps.take j else []
structure PlI (vs : List ByteArray) (ps : List (ByteArray × Tm)) (T : List Tm) (img : List Int) (cnt i j : Nat) : Prop where
  len : img.length = vs.length
  val : ∀ k (h : k < vs.length) (h' : k < img.length), img[k] = imgN T (lastP (pastF ps i j k) vs[k])
  key : ∀ k (h : k < vs.length), ∀ p ∈ pastF ps i j k, p.1 = vs[k] → p.2.key ∈ T
  ct : ∀ (h : i < vs.length), cnt = cntV (vs.take i) ps + cntP (ps.take j) vs[i]
  all : i = vs.length → cnt = cntV vs ps
theorem lastP_mem {v : ByteArray} {t : Tm} : ∀ {ps : List (ByteArray × Tm)}, lastP ps v = some t → ∃ p ∈ ps, p.1 = v ∧ p.2 = t
  | [], h => by simp [lastP] at h
  | p :: ps, h => by
    rw [lastP_cons] at h
    cases hl : lastP ps v with
    | none =>
      rw [hl] at h
      by_cases e : p.1 = v
      · rw [if_pos e] at h
        simp at h
        exact ⟨p, by simp, e, h⟩
      · rw [if_neg e] at h; simp at h
    | some u =>
      rw [hl] at h
      simp at h
      obtain ⟨q, hq, h1, h2⟩ := lastP_mem hl
      exact ⟨q, by simp [hq], h1, by rw [h2, h]⟩
theorem imgN_pre {T T' : List Tm} (hp : T <+: T') {ps : List (ByteArray × Tm)} {v : ByteArray} (hk : ∀ p ∈ ps, p.1 = v → p.2.key ∈ T) : imgN T (lastP ps v) = imgN T' (lastP ps v) := by
  cases hl : lastP ps v with
  | none => rfl
  | some t =>
    obtain ⟨p, hp1, hp2, rfl⟩ := lastP_mem hl
    exact (numT_pre (hk p hp1 hp2) hp).symm
theorem PlI.grow {vs : List ByteArray} {ps : List (ByteArray × Tm)} {T T' : List Tm} {img : List Int} {cnt i j : Nat} (h : PlI vs ps T img cnt i j) (hp : T <+: T') : PlI vs ps T' img cnt i j :=
  ⟨h.len, fun k hk hk' => by rw [h.val k hk hk', imgN_pre hp (h.key k hk)], fun k hk p hpm e => hp.subset (h.key k hk p hpm e), h.ct, h.all⟩
theorem PlI.start (vs : List ByteArray) (ps : List (ByteArray × Tm)) (T : List Tm) : PlI vs ps T (List.replicate vs.length 0) 0 0 0 := by
  refine ⟨by simp, fun k hk hk' => ?_, fun k hk p hp e => ?_, fun h => ?_, fun h => ?_⟩
  · have : pastF ps 0 0 k = [] := by unfold pastF; split; omega; split <;> simp
    rw [this]; simp [lastP, imgN]
  · have : pastF ps 0 0 k = [] := by unfold pastF; split; omega; split <;> simp
    rw [this] at hp; simp at hp
  · simp [cntV, cntP]
  · have : vs = [] := List.length_eq_zero_iff.1 h.symm
    subst this; simp [cntV]
theorem pastF_next (ps : List (ByteArray × Tm)) {i j k : Nat} (hj : j < ps.length) (hk : k ≠ i) : pastF ps i (j + 1) k = pastF ps i j k := by
  unfold pastF
  split
  · rfl
  · simp [hk]
theorem pastF_at (ps : List (ByteArray × Tm)) (i j : Nat) : pastF ps i j i = ps.take j := by unfold pastF; rw [if_neg (by omega), if_pos rfl]
theorem pastF_turn (ps : List (ByteArray × Tm)) (i k : Nat) : pastF ps i ps.length k = pastF ps (i + 1) 0 k := by
  unfold pastF
  by_cases h1 : k < i
  · rw [if_pos h1, if_pos (by omega)]
  · by_cases h2 : k = i
    · rw [if_neg h1, if_pos h2, if_pos (by omega), List.take_length]
    · rw [if_neg h1, if_neg h2, if_neg (by omega)]; split <;> simp
theorem PlI.miss {vs : List ByteArray} {ps : List (ByteArray × Tm)} {T : List Tm} {img : List Int} {cnt i j : Nat} (h : PlI vs ps T img cnt i j) (hi : i < vs.length) (hj : j < ps.length) (hne : ps[j].1 ≠ vs[i]) : PlI vs ps T img cnt i (j + 1) := by
  have htk : ps.take (j + 1) = ps.take j ++ [ps[j]] := List.take_succ_eq_append_getElem hj
  refine ⟨h.len, fun k hk hk' => ?_, fun k hk p hp e => ?_, fun _ => ?_, fun e => by omega⟩
  · by_cases hki : k = i
    · subst hki
      rw [h.val k hk hk', pastF_at, pastF_at, htk, lastP_snoc, if_neg hne]
    · rw [h.val k hk hk', pastF_next ps hj hki]
  · by_cases hki : k = i
    · subst hki
      rw [pastF_at, htk, List.mem_append, List.mem_singleton] at hp
      rcases hp with hp | rfl
      · exact h.key k hk p (by rw [pastF_at]; exact hp) e
      · exact absurd e hne
    · exact h.key k hk p (by rw [pastF_next ps hj hki] at hp; exact hp) e
  · rw [h.ct hi, htk, cntP_snoc, if_neg hne]; omega
theorem PlI.hit {vs : List ByteArray} {ps : List (ByteArray × Tm)} {T : List Tm} {img : List Int} {cnt i j : Nat} {x : Int} (h : PlI vs ps T img cnt i j) (hi : i < vs.length) (hj : j < ps.length) (he : ps[j].1 = vs[i]) (hk : ps[j].2.key ∈ T) (hx : x = numT T ps[j].2) : PlI vs ps T (img.set i x) (cnt + 1) i (j + 1) := by
  have htk : ps.take (j + 1) = ps.take j ++ [ps[j]] := List.take_succ_eq_append_getElem hj
  refine ⟨by rw [List.length_set]; exact h.len, fun k hk' hk'' => ?_, fun k hk' p hp e => ?_, fun _ => ?_, fun e => by omega⟩
  · rw [List.getElem_set]
    by_cases hki : k = i
    · subst hki
      rw [if_pos rfl, pastF_at, htk, lastP_snoc, if_pos he, hx]; rfl
    · rw [if_neg (fun e => hki e.symm), h.val k hk' (by simpa using hk''), pastF_next ps hj hki]
  · by_cases hki : k = i
    · subst hki
      rw [pastF_at, htk, List.mem_append, List.mem_singleton] at hp
      rcases hp with hp | rfl
      · exact h.key k hk' p (by rw [pastF_at]; exact hp) e
      · exact hk
    · exact h.key k hk' p (by rw [pastF_next ps hj hki] at hp; exact hp) e
  · rw [h.ct hi, htk, cntP_snoc, if_pos he]; omega
theorem PlI.turn {vs : List ByteArray} {ps : List (ByteArray × Tm)} {T : List Tm} {img : List Int} {cnt i : Nat} (h : PlI vs ps T img cnt i ps.length) (hi : i < vs.length) : PlI vs ps T img cnt (i + 1) 0 := by
  have hc := h.ct hi
  have ht : cntV (vs.take (i + 1)) ps = cntV (vs.take i) ps + cntP ps vs[i] := by
    unfold cntV
    rw [List.take_succ_eq_append_getElem hi, List.map_append, List.sum_append]
    simp
  rw [List.take_length, ← ht] at hc
  refine ⟨h.len, fun k hk hk' => ?_, fun k hk p hp e => h.key k hk p (by rw [pastF_turn]; exact hp) e, fun h2 => ?_, fun e => ?_⟩
  · rw [h.val k hk hk', pastF_turn]
  · rw [hc]; simp [cntP]
  · rw [hc, e, List.take_length]
theorem PlI.end {vs : List ByteArray} {ps : List (ByteArray × Tm)} {T : List Tm} {img : List Int} {cnt : Nat} (h : PlI vs ps T img cnt vs.length 0) : img = vs.map (fun v => imgN T (lastP ps v)) ∧ cnt = cntV vs ps ∧ ∀ p ∈ ps, p.1 ∈ vs → p.2.key ∈ T := by
  refine ⟨List.ext_getElem (by rw [h.len]; simp) (fun k hk hk' => ?_), h.all rfl, fun p hp hv => ?_⟩
  · have hk2 : k < vs.length := by simpa using hk'
    rw [h.val k hk2 hk, List.getElem_map]
    unfold pastF
    rw [if_pos hk2]
  · obtain ⟨k, hk, e⟩ := List.getElem_of_mem hv
    exact h.key k hk p (by unfold pastF; rw [if_pos hk]; exact hp) e.symm
end Go.Proofs.YtiahaofjmcjdiaaDoor
