/- Plain law: a map that counts keys. Plain law: what is drawn from a tape of one or two bytes, tape by tape; that it is even. SampleExact: the facts that stand through a round: the three maps, the tape. SampleExact: what Distinct and Permutation leave, in the words of its round. -/
import Derived.Test.YtamkbboijblooaaExB
import Derived.Test.YtamkbboijblooaaExN
import Derived.Maps.Views
namespace Go.Proofs.Ytamkbboijblooaa
open Go.RowKit Go.Maps

/-- A list of small numbers. -/
def Sm (s : List Nat) : Prop := ∀ y ∈ s, y < 100
def klS (s : List Nat) : Lit := .string (keyL s)
theorem keyL_inj : ∀ {s t : List Nat}, Sm s → Sm t → keyL s = keyL t → s = t
  | [], [], _, _, _ => rfl
  | [], _ :: _, _, _, h => by simp [keyL] at h
  | _ :: _, [], _, _, h => by simp [keyL] at h
  | x :: s, y :: t, hs, ht, h => by
    simp only [keyL, List.map_cons, List.cons.injEq] at h
    have hx : x < 100 := hs x (by simp)
    have hy : y < 100 := ht y (by simp)
    have h1 := congrArg UInt8.toNat h.1
    rw [UInt8.toNat_ofNat', UInt8.toNat_ofNat', Nat.mod_eq_of_lt (by omega), Nat.mod_eq_of_lt (by omega)] at h1
    have e : x = y := by omega
    rw [e, keyL_inj (fun z hz => hs z (by simp [hz])) (fun z hz => ht z (by simp [hz])) h.2]
theorem klS_inj {s t : List Nat} (hs : Sm s) (ht : Sm t) (h : klS s = klS t) : s = t := by
  unfold klS at h; injection h with h; exact keyL_inj hs ht h

/-- The map D counts: C says how often; S are the keys, each once. -/
structure Tal {H : Type} (D : DataW H) (S : List (List Nat)) (C : List Nat → Nat) : Prop where
  tidy : Tidy D
  nodup : S.Nodup
  size : Maps.size D = S.length
  mem : ∀ s, s ∈ S ↔ 0 < C s
  small : ∀ s ∈ S, Sm s
  at' : ∀ s zd, Sm s → D.atKey (klS s) zd = if C s = 0 then zd else .lit (.int .i64 (C s : Int))
  other : ∀ kl zd, (∀ s, Sm s → kl ≠ klS s) → D.atKey kl zd = zd
  has' : ∀ s, Sm s → Maps.has D (klS s) = decide (0 < C s)

theorem Tal.step {H : Type} {D : DataW H} {S : List (List Nat)} {C : List Nat → Nat} (h : Tal D S C) {s : List Nat} (hs : Sm s) :
    Tal (D.put (klS s) (.lit (.int .i64 ((C s + 1 : Nat) : Int)))) (if 0 < C s then S else s :: S) (fun x => if x = s then C s + 1 else C x) := by
  have hk : WideAt.IsKeyLit (klS s) := trivial
  have hne : ∀ t, Sm t → t ≠ s → klS t ≠ klS s := fun t ht hts e => hts (klS_inj ht hs e)
  refine ⟨h.tidy.put hk _, ?_, ?_, ?_, ?_, ?_, ?_, ?_⟩
  · split
    · exact h.nodup
    · rename_i hc
      exact List.nodup_cons.2 ⟨fun hm => hc ((h.mem s).1 hm), h.nodup⟩
  · rw [size_put h.tidy, h.has' s hs, h.size]
    by_cases hc : 0 < C s <;> simp [hc]
  · intro t
    by_cases e : t = s
    · subst e
      by_cases hc : 0 < C t
      · simp [hc, h.mem]
      · simp [hc]
    · simp only [if_neg e]
      by_cases hc : 0 < C s
      · simp [hc, h.mem]
      · simp [hc, e, h.mem]
  · intro t ht
    by_cases hc : 0 < C s
    · rw [if_pos hc] at ht; exact h.small t ht
    · rw [if_neg hc] at ht
      rcases List.mem_cons.1 ht with rfl | ht
      · exact hs
      · exact h.small t ht
  · intro t zd ht
    by_cases e : t = s
    · subst e
      rw [atKey_put_same h.tidy.isMap hk]; simp
    · rw [atKey_put_other (hne t ht e), h.at' t zd ht]; simp [e]
  · intro kl zd hkl
    rw [atKey_put_other (hkl s hs)]
    exact h.other kl zd hkl
  · intro t ht
    by_cases e : t = s
    · subst e
      rw [has_put_same h.tidy.isMap hk]; simp
    · rw [has_put_other (hne t ht e), h.has' t ht]; simp [e]
theorem Tal.empty {H : Type} : Tal (.map [] : DataW H) [] (fun _ => 0) := by
  refine ⟨tidy_empty, List.Pairwise.nil, rfl, by simp, by simp, fun s zd _ => ?_, fun kl zd _ => ?_, fun s _ => rfl⟩
  · rfl
  · rfl

/-- How often an outcome came among the first i tapes. -/
def upto (f : Nat → Option (List Nat)) (i : Nat) (s : List Nat) : Nat := sumTo i (fun t => if f t = some s then 1 else 0)
theorem upto_none {f : Nat → Option (List Nat)} {i : Nat} (h : f i = none) (s : List Nat) : upto f (i + 1) s = upto f i s := by simp [upto, sumTo, h]
theorem upto_some {f : Nat → Option (List Nat)} {i : Nat} {r : List Nat} (h : f i = some r) (s : List Nat) : upto f (i + 1) s = if s = r then upto f i r + 1 else upto f i s := by
  simp only [upto, sumTo, h, Option.some.injEq]
  by_cases e : s = r
  · subst e; simp
  · rw [if_neg e, if_neg (fun h => e h.symm)]; omega

theorem upto_le (f : Nat → Option (List Nat)) : ∀ (i : Nat) (s : List Nat), upto f i s ≤ i
  | 0, _ => Nat.le_refl _
  | i + 1, s => by
    have := upto_le f i s
    simp only [upto, sumTo] at this ⊢
    split <;> omega
/-- The map after i tapes. -/
def TalI {H : Type} (D : DataW H) (f : Nat → Option (List Nat)) (i : Nat) : Prop := ∃ S, Tal D S (upto f i)
theorem TalI.start {H : Type} (f : Nat → Option (List Nat)) : TalI (.map [] : DataW H) f 0 := ⟨[], Tal.empty⟩
theorem TalI.none {H : Type} {D : DataW H} {f : Nat → Option (List Nat)} {i : Nat} (h : TalI D f i) (hf : f i = none) : TalI D f (i + 1) := by
  obtain ⟨S, hS⟩ := h
  refine ⟨S, ?_⟩
  rw [show upto f (i + 1) = upto f i from funext (upto_none hf)]
  exact hS
theorem TalI.some {H : Type} {D : DataW H} {f : Nat → Option (List Nat)} {i : Nat} {s : List Nat} (h : TalI D f i) (hf : f i = some s) (hs : Sm s) : TalI (D.put (klS s) (.lit (.int .i64 ((upto f i s + 1 : Nat) : Int)))) f (i + 1) := by
  obtain ⟨S, hS⟩ := h
  have h2 := hS.step hs
  rw [show (fun x => if x = s then upto f i s + 1 else upto f i x) = upto f (i + 1) from (funext (upto_some hf)).symm] at h2
  exact ⟨_, h2⟩
theorem TalI.look {H : Type} {D : DataW H} {f : Nat → Option (List Nat)} {i : Nat} {s : List Nat} (h : TalI D f i) (hs : Sm s) : D.atKey (klS s) (.lit (.int .i64 0)) = .lit (.int .i64 (upto f i s : Int)) := by
  obtain ⟨S, hS⟩ := h
  rw [hS.at' s _ hs]
  split
  · rename_i e; rw [e]; rfl
  · rfl

theorem len_le {α : Type} [DecidableEq α] : ∀ {S O : List α}, S.Nodup → (∀ s ∈ S, s ∈ O) → S.length ≤ O.length
  | [], _, _, _ => Nat.zero_le _
  | s :: S, O, hn, h => by
    have hm := h s (by simp)
    have hnd := List.nodup_cons.1 hn
    have := len_le (S := S) (O := O.erase s) hnd.2 (fun t ht => (List.mem_erase_of_ne (fun (e : t = s) => hnd.1 (by rw [← e]; exact ht))).2 (h t (by simp [ht])))
    rw [List.length_erase_of_mem hm] at this
    have hpos := List.length_pos_of_mem hm
    simp; omega
theorem len_eq {S O : List (List Nat)} (h1 : S.Nodup) (h2 : O.Nodup) (h : ∀ s, s ∈ S ↔ s ∈ O) : S.length = O.length :=
  Nat.le_antisymm (len_le h1 (fun s hs => (h s).1 hs)) (len_le h2 (fun s hs => (h s).2 hs))

/-- At the end: what even wants. -/
theorem TalI.even {H : Type} {D : DataW H} {f : Nat → Option (List Nat)} {i N c : Nat} {O : List (List Nat)} (h : TalI D f i) (hO : O.Nodup) (hl : O.length = N) (h1 : ∀ s ∈ O, upto f i s = c) (h2 : ∀ s, s ∉ O → upto f i s = 0) :
    (∀ kl (y : DataW H), (∀ zd, D.atKey kl zd = y) → y = .lit (.int .i64 (c : Int)) ∧ 0 < c ∧ c ≤ i) ∧ (Maps.size D = 0 ∨ Maps.size D = N) := by
  obtain ⟨S, hS⟩ := h
  have hin : ∀ s, 0 < upto f i s → s ∈ O := fun s hs => by
    rcases Classical.em (s ∈ O) with h | h
    · exact h
    · rw [h2 s h] at hs; omega
  constructor
  · intro kl y hy
    have hcon : ¬ ∀ zd, D.atKey kl zd = zd := by
      intro hz
      have e1 := (hz (.lit (.int .i64 0))).symm.trans (hy _)
      have e2 := (hz (.lit (.int .i64 1))).symm.trans (hy _)
      have e3 := e1.trans e2.symm
      injection e3 with e3
      injection e3 with _ e3
      omega
    rcases Classical.em (∃ s, Sm s ∧ kl = klS s) with ⟨s, hs, rfl⟩ | hno
    · by_cases h0 : upto f i s = 0
      · exact absurd (fun zd => by rw [hS.at' s zd hs, if_pos h0]) hcon
      · have hc := h1 s (hin s (by omega))
        refine ⟨?_, by omega, by rw [← hc]; exact upto_le f i s⟩
        rw [← hy (.lit (.int .i64 0)), hS.at' s _ hs, if_neg h0, hc]
    · exact absurd (fun zd => hS.other kl zd (fun s hs e => hno ⟨s, hs, e⟩)) hcon
  · rw [hS.size]
    by_cases h0 : c = 0
    · left
      rcases S with _ | ⟨s, S⟩
      · rfl
      · have hp := (hS.mem s).1 (by simp)
        have := h1 s (hin s hp)
        omega
    · right
      have hsub : ∀ s, s ∈ S ↔ s ∈ O := fun s => ⟨fun hs => hin s ((hS.mem s).1 hs), fun hs => (hS.mem s).2 (by rw [h1 s hs]; omega)⟩
      rw [← hl]
      exact len_eq hS.nodup hO hsub
end Go.Proofs.Ytamkbboijblooaa

namespace Go.Proofs.Ytamkbboijblooaa
open Go.RowKit Go.Maps

theorem uni_congr {b c : Nat → Nat} {L n l : Nat} (h : ∀ j, j < L → b j = c j) : ∀ (f pos : Nat), uni b L n l f pos = uni c L n l f pos
  | 0, _ => rfl
  | f + 1, pos => by
    simp only [uni]
    by_cases h1 : L < pos + l
    · rw [if_pos h1, if_pos h1]
    · have hw : wrd b pos l = wrd c pos l := wrd_congr (fun i hi => h _ (by omega))
      rw [if_neg h1, if_neg h1, hw, uni_congr h f]
theorem dist_congr {b c : Nat → Nat} {L : Nat} (h : ∀ j, j < L → b j = c j) : ∀ (m j : Nat) (l : List Nat) (pos : Nat), dist b L m j l pos = dist c L m j l pos
  | 0, _, _, _ => rfl
  | m + 1, j, l, pos => by
    simp only [dist, uni_congr h]
    rcases uni c L (j + 1) (blen j) (L + 1) pos with _ | ⟨r, p⟩
    · rfl
    · exact dist_congr h m (j + 1) _ p
theorem perm_congr {b c : Nat → Nat} {L : Nat} (h : ∀ j, j < L → b j = c j) : ∀ (i : Nat) (l : List Nat) (pos : Nat), perm b L i l pos = perm c L i l pos
  | 0, _, _ => rfl
  | i + 1, l, pos => by
    simp only [perm, uni_congr h]
    rcases uni c L (i + 2) (blen (i + 1)) (L + 1) pos with _ | ⟨r, p⟩
    · rfl
    · exact perm_congr h i _ p

/-- The bytes of tape t: one, or two. -/
def tapeOf (long : Bool) (t : Nat) : List Nat := if long then [t % 256, t / 256] else [t]
def bitsIn (long : Bool) : Nat := if long then 16 else 8
theorem tapeOf_len (long : Bool) (t : Nat) : 8 * (tapeOf long t).length = bitsIn long := by cases long <;> rfl
theorem tapeOf_bits {long : Bool} {t : Nat} (ht : t < 2 ^ bitsIn long) : ∀ j, j < bitsIn long → bitAt (tapeOf long t) j = nbit t j := by
  cases long
  · exact fun j hj => bitAt_one j hj
  · exact fun j hj => bitAt_two ht j hj

/-- The outcomes, tape by tape. -/
def outN (long : Bool) (k t : Nat) : Option (List Nat) := (uni (bitAt (tapeOf long t)) (bitsIn long) k (blen (k - 1)) (bitsIn long + 1) 0).map (fun p => [p.1])
def outS (long : Bool) (k m t : Nat) : Option (List Nat) := (dist (bitAt (tapeOf long t)) (bitsIn long) m (k - m) [] 0).map (·.1)
def outP (long : Bool) (q t : Nat) : Option (List Nat) := (perm (bitAt (tapeOf long t)) (bitsIn long) (q - 1) (List.range q) 0).map (·.1)

theorem outS_dT {long : Bool} {k m t : Nat} (ht : t < 2 ^ bitsIn long) : outS long k m t = (dT (bitsIn long + 1) (bnd (k - m) m) (bitsIn long) t).map (foldD (k - m) []) := by
  have h := dist_dT t (bitsIn long) m (k - m) [] 0 (Nat.zero_le _)
  rw [Nat.sub_zero, Nat.pow_zero, Nat.div_one] at h
  rw [← h, outS, dist_congr (tapeOf_bits ht)]
theorem outP_dT {long : Bool} {q t : Nat} (ht : t < 2 ^ bitsIn long) : outP long q t = (dT (bitsIn long + 1) (bndP (q - 1)) (bitsIn long) t).map (foldP (q - 1) (List.range q)) := by
  have h := perm_dT t (bitsIn long) (q - 1) (List.range q) 0 (Nat.zero_le _)
  rw [Nat.sub_zero, Nat.pow_zero, Nat.div_one] at h
  rw [← h, outP, perm_congr (tapeOf_bits ht)]
theorem outN_dT {long : Bool} {k t : Nat} (ht : t < 2 ^ bitsIn long) : outN long k t = (dT (bitsIn long + 1) [k] (bitsIn long) t).map id := by
  obtain ⟨h, _⟩ := uni_uT t (bitsIn long) k (blen (k - 1)) (bitsIn long + 1) 0 (Nat.zero_le _)
  rw [Nat.sub_zero, Nat.pow_zero, Nat.div_one] at h
  rw [outN, uni_congr (tapeOf_bits ht), h]
  simp only [dT]
  rcases uT k (blen (k - 1)) (bitsIn long + 1) (bitsIn long) t with _ | ⟨x, R, t'⟩
  · rfl
  · rfl

/-- From an even list of sequences to an even map. -/
theorem even_of {H : Type} {D : DataW H} {long : Bool} {f : Nat → Option (List Nat)} {ns : List Nat} {G : List Nat → List Nat} {N : Nat} (he : evenB ns G N = true)
    (hf : ∀ t, t < 2 ^ bitsIn long → f t = (dT (bitsIn long + 1) ns (bitsIn long) t).map G) (h : TalI D f (2 ^ bitsIn long)) :
    (∃ c : Nat, 0 < c ∧ c ≤ 65536 ∧ ∀ kl (y : DataW H), (∀ zd, D.atKey kl zd = y) → y = .lit (.int .i64 (c : Int))) ∧ (Maps.size D = 0 ∨ Maps.size D = N) := by
  obtain ⟨h1, h2, c, h3, h4⟩ := even_counts he (bitsIn long + 1) (bitsIn long)
  have hu : ∀ s, upto f (2 ^ bitsIn long) s = cntT (bitsIn long) (fun t => (dT (bitsIn long + 1) ns (bitsIn long) t).map G) s := fun s =>
    sumTo_congr (fun t ht => by rw [hf t ht])
  obtain ⟨e1, e2⟩ := h.even h2 h1 (c := c) (fun s hs => by rw [hu, h3 s hs]) (fun s hs => by rw [hu, h4 s hs])
  have hb : 2 ^ bitsIn long ≤ 65536 := by cases long <;> decide
  refine ⟨?_, e2⟩
  by_cases hc : 0 < c ∧ c ≤ 65536
  · exact ⟨c, hc.1, hc.2, fun kl y hy => (e1 kl y hy).1⟩
  · exact ⟨1, by omega, by omega, fun kl y hy => absurd (by have := e1 kl y hy; omega) hc⟩
end Go.Proofs.Ytamkbboijblooaa

namespace Go.Proofs.Ytamkbboijblooaa
open Go.RowKit Go.Maps

abbrev OwnM (w : World) (b n : Nat) (D : DataW Unit) : Prop := w.ownsMap Try.prog 9 (plainElem Try.prog 3) b n D
theorem own_ext {w w' : World} {b n : Nat} {D : DataW Unit} (h : OwnM w b n D) (he : Ext w w') : OwnM w' b n D :=
  World.ownsMap.kept (row := none) h ⟨he.os, he.tape, he.output, he.size, fun _ hk _ => he.heap hk⟩ (by simp)
theorem own_mod {w w' : World} {b g n : Nat} {D : DataW Unit} (h : OwnM w b n D) (hm : Mod g w w') (hg : b ≠ g) : OwnM w' b n D :=
  World.ownsMap.kept (row := some g) h hm (fun e => hg (by injection e))

/-- The three maps of the call that began at w0. -/
structure MB (w0 w : World) (n1 n2 n3 : Nat) (D1 D2 D3 : DataW Unit) : Prop where
  m1 : OwnM w w0.heap.size n1 D1
  m2 : OwnM w (w0.heap.size + 1) n2 D2
  m3 : OwnM w (w0.heap.size + 1 + 1) n3 D3
  ext : Ext w0 w
theorem MB.fore {w0 w w' : World} {n1 n2 n3 : Nat} {D1 D2 D3 : DataW Unit} (h : MB w0 w n1 n2 n3 D1 D2 D3) (he : Ext w w') : MB w0 w' n1 n2 n3 D1 D2 D3 :=
  ⟨own_ext h.m1 he, own_ext h.m2 he, own_ext h.m3 he, h.ext.trans he⟩
theorem MB.up1 {w0 w w' : World} {n1 n2 n3 n : Nat} {D1 D2 D3 D : DataW Unit} (h : MB w0 w n1 n2 n3 D1 D2 D3) (hm : w.grownBy w' (some w0.heap.size)) (ho : OwnM w' w0.heap.size n D) : MB w0 w' n n2 n3 D D2 D3 :=
  ⟨ho, own_mod h.m2 hm (by omega), own_mod h.m3 hm (by omega), h.ext.mod hm (Nat.le_refl _)⟩
theorem MB.up2 {w0 w w' : World} {n1 n2 n3 n : Nat} {D1 D2 D3 D : DataW Unit} (h : MB w0 w n1 n2 n3 D1 D2 D3) (hm : w.grownBy w' (some (w0.heap.size + 1))) (ho : OwnM w' (w0.heap.size + 1) n D) : MB w0 w' n1 n n3 D1 D D3 :=
  ⟨own_mod h.m1 hm (by omega), ho, own_mod h.m3 hm (by omega), h.ext.mod hm (by omega)⟩
theorem MB.up3 {w0 w w' : World} {n1 n2 n3 n : Nat} {D1 D2 D3 D : DataW Unit} (h : MB w0 w n1 n2 n3 D1 D2 D3) (hm : w.grownBy w' (some (w0.heap.size + 1 + 1))) (ho : OwnM w' (w0.heap.size + 1 + 1) n D) : MB w0 w' n1 n2 n D1 D2 D :=
  ⟨own_mod h.m1 hm (by omega), own_mod h.m2 hm (by omega), ho, h.ext.mod hm (by omega)⟩
theorem MB.far {w0 w w' : World} {n1 n2 n3 g : Nat} {D1 D2 D3 : DataW Unit} (h : MB w0 w n1 n2 n3 D1 D2 D3) (hm : w.grownBy w' (some g)) (hg : w0.heap.size + 1 + 1 < g) : MB w0 w' n1 n2 n3 D1 D2 D3 :=
  ⟨own_mod h.m1 hm (by omega), own_mod h.m2 hm (by omega), own_mod h.m3 hm (by omega), h.ext.mod hm (by omega)⟩
theorem MB.idle1 {w0 w : World} {n1 n2 n3 : Nat} {D1 D2 D3 : DataW Unit} (h : MB w0 w n1 n2 n3 D1 D2 D3) : MB w0 w (n1 + 1) n2 n3 D1 D2 D3 := ⟨h.m1.mono (by omega), h.m2, h.m3, h.ext⟩
theorem MB.idle2 {w0 w : World} {n1 n2 n3 : Nat} {D1 D2 D3 : DataW Unit} (h : MB w0 w n1 n2 n3 D1 D2 D3) : MB w0 w n1 (n2 + 1) n3 D1 D2 D3 := ⟨h.m1, h.m2.mono (by omega), h.m3, h.ext⟩
theorem MB.idle3 {w0 w : World} {n1 n2 n3 : Nat} {D1 D2 D3 : DataW Unit} (h : MB w0 w n1 n2 n3 D1 D2 D3) : MB w0 w n1 n2 (n3 + 1) D1 D2 D3 := ⟨h.m1, h.m2, h.m3.mono (by omega), h.ext⟩

theorem MB.made (w : World) : MB w (((w.alloc (.map #[] 0)).alloc (.map #[] 0)).alloc (.map #[] 0)) 0 0 0 (.map []) (.map []) (.map []) := by
  have h1 : OwnM (w.alloc (.map #[] 0)) w.heap.size 0 (.map []) := World.ownsMap_made w _ _ _
  have h2 : OwnM ((w.alloc (.map #[] 0)).alloc (.map #[] 0)) (w.heap.size + 1) 0 (.map []) := by
    have h := World.ownsMap_made (H := Unit) (w.alloc (.map #[] 0)) Try.prog 9 (plainElem Try.prog 3)
    rw [show (w.alloc (.map #[] 0)).heap.size = w.heap.size + 1 by simp] at h
    exact h
  have h3 : OwnM (((w.alloc (.map #[] 0)).alloc (.map #[] 0)).alloc (.map #[] 0)) (w.heap.size + 1 + 1) 0 (.map []) := by
    have h := World.ownsMap_made (H := Unit) ((w.alloc (.map #[] 0)).alloc (.map #[] 0)) Try.prog 9 (plainElem Try.prog 3)
    rw [show ((w.alloc (.map #[] 0)).alloc (.map #[] 0)).heap.size = w.heap.size + 1 + 1 by simp] at h
    exact h
  exact ⟨own_ext (own_ext h1 ((Ext.refl _).alloc _)) ((Ext.refl _).alloc _), own_ext h2 ((Ext.refl _).alloc _), h3, (((Ext.refl w).alloc _).alloc _).alloc _⟩

/-- The tape, and its bytes, in blocks that are known. -/
structure TB (w : World) (g gb r : Nat) (bs : List Nat) : Prop where
  bits : Bk w gb 5 (bs.map U8 ++ List.replicate r (.int .u8 0))
  tape : Bk w g 25 [.slice (some ⟨gb, 0, none⟩) bs.length (bs.length + r), .int .i64 0]
  low : ∀ b ∈ bs, b < 256
  len : bs.length ≤ 60
theorem TB.fore {w w' : World} {g gb r : Nat} {bs : List Nat} (h : TB w g gb r bs) (he : Ext w w') : TB w' g gb r bs := ⟨h.bits.ext he, h.tape.ext he, h.low, h.len⟩
theorem TB.far {w w' : World} {g gb r b : Nat} {bs : List Nat} (h : TB w g gb r bs) (hm : w.grownBy w' (some b)) (h1 : g ≠ b) (h2 : gb ≠ b) : TB w' g gb r bs := ⟨Mod.bk hm h.bits h2, Mod.bk hm h.tape h1, h.low, h.len⟩
theorem TB.by' {w : World} {g gb r : Nat} {bs : List Nat} (h : TB w g gb r bs) : By w (.slice (some ⟨gb, 0, none⟩) bs.length (bs.length + r)) bs :=
  ⟨h.low, by have := h.len; omega, some ⟨gb, 0, none⟩, bs.length + r, by simp, by simp, fun _ => ⟨_, rfl, fun j hj => by
    have h1 := h.bits.cell (i := j) (by simp at hj ⊢; omega)
    rw [List.getElem_append_left hj] at h1
    rw [show (⟨gb, 0, none⟩ : Addr).add j = ⟨gb, j, none⟩ by rcases j with _ | j <;> simp [Addr.add]]
    exact h1⟩⟩
theorem TB.tp {w : World} {g gb r : Nat} {bs : List Nat} (h : TB w g gb r bs) : Tp w (.agg #[.slice (some ⟨gb, 0, none⟩) bs.length (bs.length + r), .int .i64 0]) bs (0 : Nat) := ⟨_, rfl, h.by'⟩
theorem TB.c0 {w : World} {g gb r : Nat} {bs : List Nat} (h : TB w g gb r bs) : w.cell? ⟨g, 0, none⟩ = some (.slice (some ⟨gb, 0, none⟩) bs.length (bs.length + r)) := h.tape.cell (i := 0) (by simp)
theorem TB.c1 {w : World} {g gb r : Nat} {bs : List Nat} (h : TB w g gb r bs) : w.cell? ⟨g, 1, none⟩ = some (.int .i64 0) := h.tape.cell (i := 1) (by simp)
theorem TB.made (wr : World) {b : Nat} (hb : b < 256) : TB ((wr.alloc (.cells #[.int .u8 (b : Int)] 5)).alloc (.cells #[.slice (some ⟨wr.heap.size, 0, none⟩) 1 1, .int .i64 0] 25)) (wr.heap.size + 1) wr.heap.size 0 [b] := by
  refine ⟨(Bk.new wr _ [.int .u8 (b : Int)]).alloc _, ?_, by simpa using hb, by simp⟩
  have h := Bk.new (wr.alloc (.cells #[.int .u8 (b : Int)] 5)) 25 [.slice (some ⟨wr.heap.size, 0, none⟩) 1 1, .int .i64 0]
  rw [show (wr.alloc (.cells #[.int .u8 (b : Int)] 5)).heap.size = wr.heap.size + 1 by simp] at h
  exact h

/-- What even wants. -/
def EvenD (D : DataW Unit) (N : Nat) : Prop := (∃ c : Nat, 0 < c ∧ c ≤ 65536 ∧ ∀ kl (y : DataW Unit), (∀ zd, D.atKey kl zd = y) → y = .lit (.int .i64 (c : Int))) ∧ (Maps.size D = 0 ∨ Maps.size D = N)
theorem EvenD.call {w : World} {b n N : Nat} {D : DataW Unit} (h : EvenD D N) (ho : OwnM w b n D) (hN : N ≤ 1000) : Calls Try.prog 49 #[.map (some b), .int .i64 (N : Int)] w (Ret (fun x _ => x = .bool true) w) := by
  obtain ⟨⟨c, h1, h2, h3⟩, h4⟩ := h
  exact even_any ho h3 h1 h2 h4 hN

theorem key_lit {s : List Nat} (hs : s.length ≤ 1000) : keyOf Try.prog 9 (.string ⟨(keyL s).toArray⟩) = some (klS s) := by
  have h := Go.WideMaps.keyOf_string_mk (s := ⟨(keyL s).toArray⟩) Try.underlying9 (by show (keyL s).toArray.size ≤ maxLen; simp [keyL, maxLen]; omega)
  rw [h]; rfl
theorem zero_int (w : World) : (zeroValue 3).run Try.prog w = .ok (.int .i64 0) w := by kernel_rfl
theorem TalI.is {D : DataW Unit} {f : Nat → Option (List Nat)} {i : Nat} {s : List Nat} {c : Int} (h : TalI D f i) (hs : Sm s) (hat : D.atKey (klS s) (.lit (.int .i64 0)) = .lit (.int .i64 c)) : c = (upto f i s : Int) := by
  rw [h.look hs] at hat
  injection hat with hat; injection hat with _ hat; exact hat.symm
theorem plain_count {n : Nat} (h : n ≤ 65536) : plainElem (H := Unit) Try.prog 3 (.int .i64 ((n : Int) + 1)) = some (.lit (.int .i64 ((n + 1 : Nat) : Int)), []) :=
  plainElem_int Try.underlying3 (by go_wf)
end Go.Proofs.Ytamkbboijblooaa

namespace Go.Proofs.Ytamkbboijblooaa
open Go.RowKit Go.Maps

theorem ns_far {w w' : World} {g : Nat} {t : TypeId} {ys : List Value} {A : Option Addr} {m : Nat} {f : Nat → Nat} (h : Ns w A m f) (hb : Bk w g t ys) (hd : ∀ d : Nat, U32 d ∉ ys) (hm : Mod g w w') (hA : ∀ ad, A = some ad → g < ad.block) : Ns w' A m f := fun i hi => by
  obtain ⟨ad, B, k, d, h1, h2, h3⟩ := h i hi
  exact ⟨ad, B, k, d, h1, hm.cell h2 (by rw [block_add]; have := hA ad h1; omega), Dg.mod h3 hb hd hm⟩

/-- A slice of numbers drawn, or the tape's end. -/
def SetsX (R : Option (List Nat × Nat)) (w : World) (A : Option Addr) (k : Nat) (code : Int) : Prop :=
  (R = none ∧ code = 36) ∨ ∃ l p, R = some (l, p) ∧ k = l.length ∧ code = 0 ∧ Ns w A l.length (fun i => l.getD i 0)
theorem SetsX.fore {R : Option (List Nat × Nat)} {w w' : World} {A : Option Addr} {k : Nat} {code : Int} (h : SetsX R w A k code) (he : Ext w w') : SetsX R w' A k code := by
  rcases h with h | ⟨l, p, h1, h2, h3, h4⟩
  · exact .inl h
  · exact .inr ⟨l, p, h1, h2, h3, h4.ext he⟩
theorem SetsX.far {R : Option (List Nat × Nat)} {w w' : World} {A : Option Addr} {k g : Nat} {code : Int} {t : TypeId} {ys : List Value} (h : SetsX R w A k code) (hb : Bk w g t ys) (hd : ∀ d : Nat, U32 d ∉ ys) (hm : Mod g w w') (hA : R ≠ none → ∀ ad, A = some ad → g < ad.block) : SetsX R w' A k code := by
  rcases h with h | ⟨l, p, h1, h2, h3, h4⟩
  · exact .inl h
  · exact .inr ⟨l, p, h1, h2, h3, ns_far h4 hb hd hm (hA (by rw [h1]; simp))⟩

theorem sets_x {w : World} {u t : Value} {n m : Nat} {bs : List Nat} {R : Option (List Nat × Nat)} (hR : dist (bitAt bs) (8 * bs.length) m (n - m) [] 0 = R) (hu : Nv w u n) (hn : n ≤ 255) (hm : m ≤ n) (ht : Tp w t bs (0 : Nat)) :
    Calls Try.prog 45 #[u, .int .i64 (m : Int), t] w (fun e w' => Ext w w' ∧ ∃ A k c A' k' c' q code, e = .returned (.tuple #[.slice A k c, .agg #[.slice A' k' c', .int .i64 q], .int .i64 code]) ∧ SetsX R w' A k code ∧ (R ≠ none → ∀ ad, A = some ad → w.heap.size ≤ ad.block)) := by
  refine (distinct_any hu hn hm ht (by omega)).mono ?_
  rw [hR]
  rintro e w' ⟨he, h⟩
  rcases R with _ | ⟨l, p⟩
  · simp only at h
    subst h
    exact ⟨he, _, _, _, _, _, _, _, _, rfl, .inl ⟨rfl, rfl⟩, fun h => absurd rfl h⟩
  · obtain ⟨A, c, A', c', rfl, h1, h2, h3⟩ := h
    exact ⟨he, _, _, _, _, _, _, _, _, rfl, .inr ⟨l, p, rfl, rfl, rfl, h1⟩, fun _ => h3⟩

/-- A slice of ints drawn, or the tape's end. -/
def PermX (R : Option (List Nat × Nat)) (w : World) (v : Value) (code : Int) : Prop :=
  (R = none ∧ code = 36) ∨ ∃ l p, R = some (l, p) ∧ code = 0 ∧ In w v l
theorem PermX.fore {R : Option (List Nat × Nat)} {w w' : World} {v : Value} {code : Int} (h : PermX R w v code) (he : Ext w w') : PermX R w' v code := by
  rcases h with h | ⟨l, p, h1, h2, h3⟩
  · exact .inl h
  · exact .inr ⟨l, p, h1, h2, h3.1, h3.2.ext he⟩
theorem perm_x {w : World} {t : Value} {m : Nat} {bs : List Nat} {R : Option (List Nat × Nat)} (hR : perm (bitAt bs) (8 * bs.length) (m - 1) (List.range m) 0 = R) (hm : m ≤ 100) (ht : Tp w t bs (0 : Nat)) :
    Calls Try.prog 31 #[.int .i64 (m : Int), t] w (fun e w' => Ext w w' ∧ ∃ A k c A' k' c' q code, e = .returned (.tuple #[.slice A k c, .agg #[.slice A' k' c', .int .i64 q], .int .i64 code]) ∧ PermX R w' (.slice A k c) code) := by
  refine (permutation_any hm ht (by omega)).mono ?_
  rw [hR]
  rintro e w' ⟨he, h⟩
  rcases R with _ | ⟨l, p⟩
  · simp only at h
    subst h
    exact ⟨he, _, _, _, _, _, _, _, _, rfl, .inl ⟨rfl, rfl⟩⟩
  · obtain ⟨A, c, A', c', rfl, h0, h1, h2⟩ := h
    exact ⟨he, _, _, _, _, _, _, _, _, rfl, .inr ⟨l, p, rfl, rfl, h1⟩⟩

theorem dist_okX {b : Nat → Nat} {L : Nat} : ∀ {m j k : Nat} {l : List Nat} {pos : Nat} {r : List Nat} {p : Nat}, SetOk l j k → dist b L m j l pos = some (r, p) → SetOk r (j + m) (k + m)
  | 0, j, k, l, pos, r, p, h, e => by simp only [dist] at e; injection e with e; injection e with e1 e2; subst e1; exact h
  | m + 1, j, k, l, pos, r, p, h, e => by
    rcases hu : uni b L (j + 1) (blen j) (L + 1) pos with _ | ⟨x, q⟩
    · rw [dist_none hu] at e; cases e
    · rw [dist_some hu] at e
      have := dist_okX (h.put (uni_some hu).1) e
      rw [show j + (m + 1) = j + 1 + m by omega, show k + (m + 1) = k + 1 + m by omega]; exact this
theorem getD_lt {l : List Nat} (h : ∀ y ∈ l, y < 100) (i : Nat) : l.getD i 0 < 100 := by
  by_cases hi : i < l.length
  · simp only [List.getD, List.getElem?_eq_getElem hi, Option.getD_some]; exact h _ (List.getElem_mem hi)
  · simp [List.getD, List.getElem?_eq_none (Nat.le_of_not_lt hi)]
theorem perm_lt {b : Nat → Nat} {L : Nat} : ∀ {i : Nat} {l : List Nat} {pos : Nat} {r : List Nat} {p : Nat}, (∀ y ∈ l, y < 100) → perm b L i l pos = some (r, p) → ∀ y ∈ r, y < 100
  | 0, l, pos, r, p, hl, h => by simp only [perm] at h; injection h with h; injection h with h1 h2; rw [← h1]; exact hl
  | i + 1, l, pos, r, p, hl, h => by
    rcases hu : uni b L (i + 2) (blen (i + 1)) (L + 1) pos with _ | ⟨j, q⟩
    · rw [perm_none hu] at h; cases h
    · rw [perm_some hu] at h
      refine perm_lt (fun y hy => ?_) h
      rcases List.mem_or_eq_of_mem_set hy with hy | rfl
      · rcases List.mem_or_eq_of_mem_set hy with hy | rfl
        · exact hl y hy
        · exact getD_lt hl _
      · exact getD_lt hl _

/-- The sets, tape by tape: what the round finds. -/
theorem sets_out {long : Bool} {k m i : Nat} {bs : List Nat} {R : Option (List Nat × Nat)} (hbs : bs = tapeOf long i) (hL : 8 * bs.length = bitsIn long) (hR : dist (bitAt bs) (8 * bs.length) m (k - m) [] 0 = R) (hm : m ≤ k) (hk : k ≤ 6) :
    (R = none → outS long k m i = none) ∧ ∀ l p, R = some (l, p) → outS long k m i = some l ∧ Sm l ∧ l.length ≤ 6 := by
  have ho : outS long k m i = R.map (·.1) := by rw [outS, ← hbs, ← hL, hR]
  refine ⟨fun h => by rw [ho, h]; rfl, fun l p h => ?_⟩
  have hok := dist_okX (k := 0) ⟨List.Pairwise.nil, fun _ h => (by simp at h), rfl⟩ (hR.trans h)
  refine ⟨by rw [ho, h]; rfl, fun y hy => ?_, by have := hok.len; omega⟩
  have := hok.lt y hy; omega
theorem perms_out {long : Bool} {q i : Nat} {bs : List Nat} {R : Option (List Nat × Nat)} (hbs : bs = tapeOf long i) (hL : 8 * bs.length = bitsIn long) (hR : perm (bitAt bs) (8 * bs.length) (q - 1) (List.range q) 0 = R) (hq : q ≤ 4) :
    (R = none → outP long q i = none) ∧ ∀ l p, R = some (l, p) → outP long q i = some l ∧ Sm l ∧ l.length ≤ 6 := by
  have ho : outP long q i = R.map (·.1) := by rw [outP, ← hbs, ← hL, hR]
  refine ⟨fun h => by rw [ho, h]; rfl, fun l p h => ?_⟩
  refine ⟨by rw [ho, h]; rfl, perm_lt (fun y hy => by have := List.mem_range.1 hy; omega) (hR.trans h), ?_⟩
  have := perm_length (hR.trans h); simp at this; omega
theorem chs_fin : ∀ k : Fin 7, ∀ j : Fin 7, j.val < k.val → wrap64 ((wrap64 ((chs k.val j.val : Int) * ((k.val : Int) - (j.val : Int)))).tdiv ((j.val : Int) + 1)) = (chs k.val (j.val + 1) : Int) := by decide +kernel
theorem chs_next {k j : Nat} (hk : k ≤ 6) (hj : j < k) : wrap64 ((wrap64 ((chs k j : Int) * ((k : Int) - (j : Int)))).tdiv ((j : Int) + 1)) = (chs k (j + 1) : Int) := chs_fin ⟨k, by omega⟩ ⟨j, by omega⟩ hj
theorem chs_le_fin : ∀ k : Fin 7, ∀ j : Fin 7, chs k.val j.val ≤ 20 := by decide +kernel
theorem chs_le {k j : Nat} (hk : k ≤ 6) (hj : j ≤ 6) : chs k j ≤ 20 := chs_le_fin ⟨k, by omega⟩ ⟨j, by omega⟩
theorem fac_fin : ∀ j : Fin 4, wrap64 ((fac j.val : Int) * ((j.val : Int) + 1)) = (fac (j.val + 1) : Int) := by decide +kernel
theorem fac_next {j : Nat} (hj : j < 4) : wrap64 ((fac j : Int) * ((j : Int) + 1)) = (fac (j + 1) : Int) := fac_fin ⟨j, hj⟩
theorem fac_le_fin : ∀ j : Fin 5, fac j.val ≤ 24 := by decide +kernel
theorem fac_le {j : Nat} (hj : j ≤ 4) : fac j ≤ 24 := fac_le_fin ⟨j, by omega⟩

theorem even1 {D : DataW Unit} {long : Bool} {k : Nat} (h1 : 1 ≤ k) (h2 : k ≤ 6) (h : TalI D (outN long k) (2 ^ bitsIn long)) : EvenD D k := by
  have he := even_numbers ⟨k - 1, by omega⟩
  simp only [show k - 1 + 1 = k by omega] at he
  exact even_of he (fun t ht => outN_dT ht) h
theorem even2 {D : DataW Unit} {long : Bool} {k m : Nat} (h1 : 1 ≤ k) (h2 : k ≤ 6) (hm : m ≤ k) (h : TalI D (outS long k m) (2 ^ bitsIn long)) : EvenD D (chs k m) := by
  have he := even_sets ⟨k - 1, by omega⟩ ⟨m, by omega⟩ (by simp; omega)
  simp only [show k - 1 + 1 = k by omega] at he
  exact even_of he (fun t ht => outS_dT ht) h
theorem even3 {D : DataW Unit} {long : Bool} {q : Nat} (h1 : 1 ≤ q) (h2 : q ≤ 4) (h : TalI D (outP long q) (2 ^ bitsIn long)) : EvenD D (fac q) := by
  have he := even_perms ⟨q - 1, by omega⟩
  simp only [show q - 1 + 1 = q by omega] at he
  exact even_of he (fun t ht => outP_dT ht) h
end Go.Proofs.Ytamkbboijblooaa
