/- Contracts: slices.Index at names, minimize.renamed. -/
import Derived.Test.YtehklbdgkppmeaaDoorJc
import Derived.Lib.ItoaMem
namespace Go.Proofs.YtehklbdgkppmeaaDoor
open Go.RowKit Go.Maps

def idxR (l : List ByteArray) (s : ByteArray) : Int := if idxS l s < l.length then (idxS l s : Int) else -1
theorem idxS_here {l : List ByteArray} {s : ByteArray} {i : Nat} (hi : i < l.length) (h1 : ∀ j (h : j < l.length), j < i → l[j] ≠ s) (h2 : l[i] = s) : idxS l s = i := by
  induction l generalizing i with
  | nil => simp at hi
  | cons x l ih =>
    cases i with
    | zero => unfold idxS; rw [if_pos (by simpa using h2)]
    | succ i =>
      have h0 := h1 0 (by simp) (by omega)
      unfold idxS
      rw [if_neg (by simpa using h0), ih (by simpa using hi) (fun j hj hji => by have := h1 (j + 1) (by simpa using hj) (by omega); simpa using this) (by simpa using h2)]

set_option maxRecDepth 20000 in
set_option maxHeartbeats 800000 in
theorem index_str {F : Nat → Prop} {w : World} {v : Value} {l : List ByteArray} {s : ByteArray} (h : Strs F w v l) (hl : l.length ≤ 1048577) :
    Calls Tryd.prog 56 #[v, .string s] w (fun e w' => e = .returned (.int .i64 (idxR l s)) ∧ w = w') := by
  obtain ⟨A, c, rfl, hc, hat⟩ := h
  obtain ⟨n, hn⟩ : ∃ n, n = l.length := ⟨_, rfl⟩
  rw [← hn] at hc hl ⊢
  have HN := Lib.hid hn; have HAT := Lib.hid hat
  clear hn hat
  go_enter Tryd.func56, Tryd.ntmps56
  go_wp2_with fail
  go_loopw [8] (fun q wr => ∃ i : Nat, i ≤ n ∧ q = .int .i64 (i : Int) ∧ (∀ j (h : j < l.length), j < i → l[j] ≠ s) ∧ wr = w) (fun q _ => n - (intOf q).toNat)
  case atStart => exact ⟨0, Nat.zero_le _, rfl, fun _ _ h => absurd h (by omega), rfl⟩
  case round =>
    obtain ⟨i, hi, rfl, hgo, rfl⟩ := hrel
    have HGO := Lib.hid hgo
    clear hgo
    by_cases hlt : i < n
    · have i1 : (0 : Int) ≤ (i : Int) := by omega
      have i2 : (i : Int) < (n : Int) := by omega
      have hix : i < l.length := by have := HN.out; omega
      obtain ⟨ad, rfl, -, c0⟩ := HAT.out.str hix
      by_cases he : l[i] = s
      · have HR : Hid (idxR l s = (i : Int)) := Lib.hid (by unfold idxR; rw [idxS_here hix HGO.out he, if_pos hix])
        rw [he] at c0
        clear he
        go_wp2_with fail
        go_ret
        rw [HR.out]
        exact ⟨rfl, rfl⟩
      · have hne : ¬ s.toList = l[i].toList := fun e => he (toList_inj e).symm
        obtain ⟨x, hx⟩ : ∃ x, x = l[i] := ⟨_, rfl⟩
        rw [← hx] at c0 hne
        have hne2 : (s.toList == x.toList) = false := by simp [hne]
        have HE := Lib.hid he
        clear he hx
        go_wp2_with fail
        all_goals first
          | contradiction
          | (go_roundw
             case rel =>
               refine ⟨i + 1, by omega, by go_num, fun j hj hji => ?_, trivial⟩
               rcases Nat.lt_or_ge j i with h | h
               · exact HGO.out j hj h
               · obtain rfl : j = i := by omega
                 exact HE.out
             case measure => simp [intOf]; omega)
    · obtain rfl : i = n := by omega
      have hdn : ¬ (i : Int) < (i : Int) := by omega
      have HR : Hid (idxR l s = -1) := Lib.hid (by
        unfold idxR
        rw [if_neg]
        intro hlt
        have h := idxS_get hlt
        exact HGO.out _ hlt (by have := HN.out; omega) h)
      go_wp2_with fail
      go_ret
      rw [HR.out]
      exact ⟨rfl, rfl⟩

def maxS (l : List ByteArray) : Nat := l.foldl (fun m s => max m s.size) 0
theorem maxS_snoc {l : List ByteArray} {i : Nat} (h : i < l.length) : maxS (l.take (i + 1)) = max (maxS (l.take i)) l[i].size := by
  unfold maxS; rw [List.take_succ_eq_append_getElem h, List.foldl_append]; rfl
theorem maxS_le {l : List ByteArray} {b : Nat} (h : ∀ s ∈ l, s.size ≤ b) : maxS l ≤ b := by
  suffices hs : ∀ (l : List ByteArray) (m : Nat), m ≤ b → (∀ s ∈ l, s.size ≤ b) → l.foldl (fun m s => max m s.size) m ≤ b from hs l 0 (Nat.zero_le _) h
  intro l
  induction l with
  | nil => intro m hm _; exact hm
  | cons x l ih => intro m hm hl; exact ih _ (by have := hl x (by simp); show max m x.size ≤ b; omega) (fun s hs => hl s (by simp [hs]))
theorem itoa_one {i : Nat} (h : i < 8) : (Lib.itoa (i : Int)).length = 1 := by
  have h0 : ∀ i, i < 8 → (Lib.itoa ((i : Nat) : Int)).length = 1 := by decide +kernel
  exact h0 i h
theorem repeat_v (n : Nat) : Lib.repeatL [118] n = List.replicate n 118 := by
  induction n with
  | zero => rfl
  | succ n ih => show [118] ++ Lib.repeatL [118] n = _; rw [ih]; rfl
def renPs (bh ah V : List ByteArray) (l : List ByteArray) : List (ByteArray × Tm) := l.map (fun v => (v, varT (nmR bh ah V v)))
def RenPost (r : List At) (bh ah : List ByteArray) (w : World) (e : Ending) (w' : World) : Prop :=
  ∃ A n c B d, e = .returned (.agg #[.slice A n c, .slice B 0 d]) ∧ Ext w w' ∧ Ats (fun k => w.heap.size ≤ k) w' (.slice A n c) (renL (nmR bh ah (varsT (allT r))) r) ∧ Cns (fun k => w.heap.size ≤ k) w' (.slice B 0 d) 0

set_option maxRecDepth 20000 in
set_option maxHeartbeats 3200000 in
theorem renamed_any {F G H I : Nat → Prop} {w : World} {sv vc vh va : Value} {r : List At} {bh ah : List ByteArray} (hX : Ats F w sv r) (hC : Cns G w vc 0) (hB : Strs H w vh bh) (hA : Strs I w va ah) (hax : AOk r) (hvl : (varsT (allT r)).length ≤ 8) (htab : TabE w) (hlen : bh.length = ah.length) (hal : ah.length ≤ 1000) (hah : ∀ v ∈ ah, v.size ≤ 1048574) :
    Calls Tryd.prog 40 #[.agg #[sv, vc], vh, va] w (RenPost r bh ah w) := by
  obtain ⟨A, c, rfl⟩ := hX.sl
  obtain ⟨Ac, cc, hvc⟩ : ∃ A c, vc = .slice A 0 c := by obtain ⟨A, c, _, e, _⟩ := hC; exact ⟨A, c, e⟩
  subst hvc
  obtain ⟨C, cC, hvh⟩ : ∃ A c, vh = .slice A bh.length c := by obtain ⟨A, c, e, _⟩ := hB; exact ⟨A, c, e⟩
  subst hvh
  have HA0 := Lib.hid hA
  obtain ⟨E, cE, rfl, hcE, hclE⟩ := hA
  obtain ⟨V, hV⟩ : ∃ V, V = varsT (allT r) := ⟨_, rfl⟩
  rw [← hV] at hvl
  have HND : Hid V.Nodup := Lib.hid (by rw [hV]; exact varsT_nodup _)
  have HVSZ : Hid (∀ v ∈ V, v.size ≤ maxLen) := Lib.hid (fun v hv => by
    rw [hV] at hv
    obtain ⟨t, ht, rfl, -⟩ := varsT_iff.1 hv
    obtain ⟨a, ha, hta⟩ := allT_iff.1 ht
    have := (hax.bd.str a ha t hta).1
    simp only [maxLen]
    omega)
  have HVARS : Hid (∀ W, Ext w W → Calls Tryd.prog 46 #[.agg #[.slice A r.length c, .slice Ac 0 cc]] W (Ret (fun x w' => w'.ownsRow W.heap.size 9 1 x V.length (V.map Sv)) W)) := Lib.hid (fun W hW => by
    rw [hV]
    exact vars_any (hX.ext hW) hax.bd)
  have hms := max_le ah
  have HFR : Hid (∀ v ∈ V, (nmR bh ah V v).size ≤ 1048576) := Lib.hid (fun v hv => by
    unfold nmR
    split
    · rename_i h
      have h2 : idxS bh v < ah.length := by omega
      rw [List.getD_eq_getElem?_getD, List.getElem?_eq_getElem h2]
      have := hah _ (List.getElem_mem h2)
      simp only [Option.getD_some]
      omega
    · have h1 := maxS_le hah
      rw [ByteArray.size_append, freshB_size]
      have h2 : (idxS V v) < 8 := by have := idxS_lt hv; omega
      have h3 := itoa_one h2
      have h4 : (⟨(Lib.itoa (idxS V v : Int)).toArray⟩ : ByteArray).size = (Lib.itoa (idxS V v : Int)).length := by show (Lib.itoa _).toArray.size = _; simp
      unfold maxS at h1
      omega)
  have HAPP : Hid (∀ W v, Ext w W → Prs (fun _ => True) W v (renPs bh ah V V) → Calls Tryd.prog 29 #[.agg #[.slice A r.length c, .slice Ac 0 cc], v] W (fun e w' => Ext W w' ∧ ∃ A' n' c' B' d', e = .returned (.agg #[.slice A' n' c', .slice B' 0 d']) ∧ Ats (fun k => W.heap.size ≤ k) w' (.slice A' n' c') (renL (nmR bh ah (varsT (allT r))) r) ∧ Cns (fun k => W.heap.size ≤ k) w' (.slice B' 0 d') 0)) := Lib.hid (fun W v hW hp => by
    have h1 := happly_any (hX.ext hW) (hC.ext hW) hp hax (by omega) (Lib.hid (fun p hp => by
      obtain ⟨v, hv, rfl⟩ := List.mem_map.1 hp
      exact HVSZ.out v hv)) (by simp [renPs]; omega) (htab.fore hW) (Lib.hid (fun s t h => by
      obtain ⟨v, hv, e⟩ := List.mem_map.1 (firstP_mem h)
      injection e with e1 e2
      subst e2
      have := HFR.out v hv
      exact ⟨this, by show (⟨#[]⟩ : ByteArray).size ≤ _; decide, by show (_ : Int) ≤ 0; decide, by show (0 : Int) ≤ _; decide, by show (_ : Int) ≤ 0; decide, by show (0 : Int) ≤ _; decide⟩))
    have e : appL (firstP (renPs bh ah V V)) r = renL (nmR bh ah (varsT (allT r))) r := by rw [← hV]; unfold renL renPs; rw [← hV]
    rw [e] at h1
    exact h1)
  have HB := Lib.hid hB; have HE := Lib.hid hclE
  obtain ⟨n, hn⟩ : ∃ n, n = r.length := ⟨_, rfl⟩
  obtain ⟨nb, hnb⟩ : ∃ n, n = bh.length := ⟨_, rfl⟩
  obtain ⟨na, hna⟩ : ∃ n, n = ah.length := ⟨_, rfl⟩
  obtain ⟨nv, hnv⟩ : ∃ n, n = V.length := ⟨_, rfl⟩
  rw [← hn] at HVARS HAPP ⊢
  rw [← hnb] at HB hlen ⊢
  rw [← hna] at HA0 hcE hal hlen ⊢
  rw [← hnv] at HVARS hvl
  have HN := Lib.hid hn; have HNB := Lib.hid hnb; have HNA := Lib.hid hna; have HNV := Lib.hid hnv; have HAH := Lib.hid hah
  obtain ⟨p0, hp0, hz0, hz1, hz2⟩ := info_parts info_pair
  have HI0 := Lib.hid (And.intro hp0 (And.intro hz0 (And.intro hz1 hz2)))
  clear hp0 hz0 hz1 hz2
  clear hX hC hB hclE hax htab hah hms hV hn hnb hna hnv
  go_enter Tryd.func40, Tryd.ntmps40
  go_wp2_with fail
  have h2 := two_new w [.slice A n c, .slice Ac 0 cc] [.slice none 0 0, .slice none 0 0] 25 25 _ rfl
  change Bk ((w.alloc (.cells #[.slice A n c, .slice Ac 0 cc] 25)).alloc (.cells #[.slice none 0 0, .slice none 0 0] 25)) _ _ _ ∧ Bk ((w.alloc (.cells #[.slice A n c, .slice Ac 0 cc] 25)).alloc (.cells #[.slice none 0 0, .slice none 0 0] 25)) _ _ _ ∧ Ext w ((w.alloc (.cells #[.slice A n c, .slice Ac 0 cc] 25)).alloc (.cells #[.slice none 0 0, .slice none 0 0] 25)) at h2
  generalize ((w.alloc (.cells #[.slice A n c, .slice Ac 0 cc] 25)).alloc (.cells #[.slice none 0 0, .slice none 0 0] 25)) = w1 at *
  obtain ⟨kr, kz, hx⟩ := h2
  have HKR := Lib.hid kr; have HKZ := Lib.hid kz; have HX1 := Lib.hid hx
  clear kr kz hx
  go_loopw [7, 18] (fun t q wr => ∃ i : Nat, i ≤ na ∧ q = .int .i64 (i : Int) ∧ t = .int .i64 (maxS (ah.take i) : Int) ∧ w1 = wr) (fun _ q _ => na - (intOf q).toNat)
  case atStart => exact ⟨0, Nat.zero_le _, rfl, by simp [maxS], rfl⟩
  case round =>
    obtain ⟨i, hi, rfl, rfl, rfl⟩ := hrel
    obtain ⟨m, hm⟩ : ∃ m, m = maxS (ah.take i) := ⟨_, rfl⟩
    have hmb : m ≤ 1048574 := by rw [hm]; exact maxS_le (fun s hs => HAH.out s (List.mem_of_mem_take hs))
    rw [← hm]
    by_cases hlt : i < na
    · have i1 : (0 : Int) ≤ (i : Int) := by omega
      have i2 : (i : Int) < (na : Int) := by omega
      have hix : i < ah.length := by have := HNA.out; omega
      obtain ⟨ad, rfl, -, c0⟩ := HE.out.str hix
      replace c0 := HX1.out.cell c0
      have hsn := maxS_snoc hix
      rw [← hm] at hsn
      obtain ⟨s, hs⟩ : ∃ s, s = ah[i] := ⟨_, rfl⟩
      rw [← hs] at c0 hsn
      have hss : s.size ≤ 1048574 := by rw [hs]; exact HAH.out _ (List.getElem_mem hix)
      have HSN := Lib.hid hsn
      clear hsn hs hm
      go_wp2_with fail
      go_roundw
      case rel => exact ⟨i + 1, by omega, by go_num, by rw [HSN.out]; exact congrArg _ (by omega), trivial⟩
      case measure => simp [intOf]; omega
    · obtain rfl : i = na := by omega
      have hdn : ¬ (i : Int) < (i : Int) := by omega
      have et : ah.take i = ah := by rw [HNA.out]; exact List.take_length
      rw [et] at hm
      have HREP : Hid (∀ W, Ext w W → Calls Tryd.prog 54 #[.string ⟨#[118]⟩, .int .i64 ((m : Int) + 1)] W (fun e w' => e = .returned (.string (freshB ah)) ∧ Ext W w')) := Lib.hid (fun W hW => by
        have h1 := Tryd.strings_Repeat ⟨#[118]⟩ (m + 1) W (by omega) (by show 1 * (m + 1) ≤ _; omega)
        have e1 : ((m + 1 : Nat) : Int) = (m : Int) + 1 := by omega
        have e2 : (⟨(Lib.repeatL (ByteArray.mk #[118]).data.toList (m + 1)).toArray⟩ : ByteArray) = freshB ah := by
          rw [hm]; unfold freshB maxS
          rw [repeat_v]
        rw [e1, e2] at h1
        exact h1)
      obtain ⟨f, hf⟩ : ∃ f, f = freshB ah := ⟨_, rfl⟩
      rw [← hf] at HREP
      have hfs : f.size ≤ 1048575 := by rw [hf, freshB_size]; have := maxS_le HAH.out; unfold maxS at this; omega
      have HF := Lib.hid hf; have HLEN := Lib.hid hlen
      have hnbl : nb ≤ 1000 := by omega
      clear et hm hf hlen
      go_wp2_with fail
      refine (HREP.out _ HX1.out).mono ?_
      rintro e w2 ⟨rfl, he2⟩
      have HX2 := Lib.hid (HX1.out.trans he2); have HKZ2 := Lib.hid (HKZ.out.ext he2)
      have hkr := HKR.out.ext he2
      have a0 := hkr.cell (i := 0) (by simp); have a1 := hkr.cell (i := 1) (by simp)
      simp only [List.getElem_cons_zero, List.getElem_cons_succ] at a0 a1
      have HKR2 := Lib.hid hkr
      clear he2 hkr HKR HKZ HX1
      go_wp2_with fail
      refine (HVARS.out _ HX2.out).mono ?_
      rintro e w3 ⟨vv, rfl, he3, hrv⟩
      obtain ⟨Av, cv, rfl⟩ := own_slice hrv
      have HX3 := Lib.hid (HX2.out.trans he3); have HKZ3 := Lib.hid (HKZ2.out.ext he3); have HKR3 := Lib.hid (HKR2.out.ext he3)
      have HCV : Hid (Cl (fun _ => True) w3 Av (V.map Sv)) := Lib.hid (by
        obtain ⟨A', c', e, hc', hcl⟩ := Cl.of_own hrv
        injection e with e1 e2 e3
        subst e1
        exact hcl.mono (fun k _ hk => trivial))
      clear he3 hrv a0 a1 HKZ2 HKR2 HX2
      go_wp2_with fail
      go_loopw [11, 33] (fun t q wr => ∃ k : Nat, k ≤ nv ∧ q = .int .i64 (k : Int) ∧ wr.ownsRow w3.heap.size 102 5 t k (pcells (renPs bh ah V (V.take k))) ∧ Ext w3 wr) (fun _ q _ => nv - (intOf q).toNat)
      case atStart => exact ⟨0, Nat.zero_le _, rfl, World.ownsRow_nil _ _ _ _, Ext.refl _⟩
      case round =>
        obtain ⟨k, hk, rfl, hrow, hext⟩ := hrel
        obtain ⟨Am, cm, rfl⟩ := own_slice hrow
        have HROW := Lib.hid hrow; have HXT := Lib.hid hext
        have hw3 : w3.heap.size ≤ wr.heap.size := hext.size
        clear hrow
        by_cases hkv : k < nv
        · have k1 : (0 : Int) ≤ (k : Int) := by omega
          have k2 : (k : Int) < (nv : Int) := by omega
          have hkl : k < V.length := by have := HNV.out; omega
          obtain ⟨ad, rfl, -, c0⟩ := HCV.out.str hkl
          replace c0 := hext.cell c0
          have htk : renPs bh ah V (V.take (k + 1)) = renPs bh ah V (V.take k) ++ [(V[k], varT (nmR bh ah V V[k]))] := by unfold renPs; rw [List.take_succ_eq_append_getElem hkl, List.map_append]; rfl
          have hidx := idxS_at hkl HND.out
          have HVM : Hid (V[k] ∈ V) := Lib.hid (List.getElem_mem hkl)
          obtain ⟨s, hs⟩ : ∃ s, s = V[k] := ⟨_, rfl⟩
          rw [← hs] at c0 htk hidx HVM
          obtain ⟨P, hP⟩ : ∃ P, P = pcells (renPs bh ah V (V.take k)) := ⟨_, rfl⟩
          have HPN : Hid (pcells (renPs bh ah V (V.take (k + 1))) = P ++ [.string s, .string (nmR bh ah V s), .int .i64 0, .int .i64 0, .string ⟨#[]⟩]) := Lib.hid (by rw [htk, pcells_snoc, hP]; rfl)
          rw [← hP] at HROW
          have HIDX := Lib.hid hidx
          have HIT : Hid (∀ W : World, Calls Tryd.prog 55 #[.int .i64 (k : Int)] W (fun e w' => e = .returned (.string ⟨(Lib.itoa (k : Int)).toArray⟩) ∧ w' = W)) := Lib.hid (fun W => by
            rw [Lib.itoa_nonneg]
            exact Tryd.strconv_Itoa_small k (by omega) W)
          have hcat : ¬ 9223372036854775807 < f.size + (Lib.itoa (k : Int)).length := by have := Lib.itoa_length_le (k : Int) (by omega) (by omega); omega
          have HIX := Lib.hid (index_str (s := s) (HB.out.ext (HX3.out.trans hext)) (by have := HNB.out; omega))
          clear hP htk hidx hs hext
          go_wp2_with fail
          refine (HIT.out _).mono ?_
          rintro e w5 ⟨rfl, rfl⟩
          go_wp2_with fail
          refine HIX.out.mono ?_
          rintro e w6 ⟨rfl, rfl⟩
          have HST : Hid (∀ (w8 : World) (v8 : Value), w8.ownsRow w3.heap.size 102 5 v8 (k + 1) (P ++ [.string s, .string (nmR bh ah V s), .int .i64 0, .int .i64 0, .string ⟨#[]⟩]) → w8.ownsRow w3.heap.size 102 5 v8 (k + 1) (pcells (renPs bh ah V (V.take (k + 1))))) := Lib.hid (fun w8 v8 h => by rw [HPN.out]; exact h)
          by_cases hin : idxS bh s < bh.length
          · have HR : Hid (idxR bh s = (idxS bh s : Int)) := Lib.hid (by unfold idxR; rw [if_pos hin])
            rw [HR.out]
            obtain ⟨j, hj⟩ : ∃ j, j = idxS bh s := ⟨_, rfl⟩
            have hja : j < ah.length := by have h1 := HLEN.out; have h2 := HNB.out; have h3 := HNA.out; omega
            have HNM : Hid (nmR bh ah V s = ah[j]) := Lib.hid (by
              unfold nmR
              rw [if_pos hin, List.getD_eq_getElem?_getD, ← hj, List.getElem?_eq_getElem hja]
              rfl)
            rw [← hj]
            have j0 : (0 : Int) ≤ (j : Int) := by omega
            have j2 : (j : Int) < (i : Int) := by have := HNA.out; omega
            obtain ⟨ad2, rfl, -, d0⟩ := HE.out.str hja
            replace d0 := (HX3.out.trans HXT.out).cell d0
            obtain ⟨u, hu⟩ : ∃ u, u = ah[j] := ⟨_, rfl⟩
            rw [← hu] at d0 HNM
            have HROW2 : Hid (∀ (w8 : World) (v8 : Value), w8.ownsRow w3.heap.size 102 5 v8 (k + 1) (P ++ [.string s, .string u, .int .i64 0, .int .i64 0, .string ⟨#[]⟩]) → w8.ownsRow w3.heap.size 102 5 v8 (k + 1) (pcells (renPs bh ah V (V.take (k + 1))))) := Lib.hid (fun w8 v8 h => HST.out w8 v8 (by rw [HNM.out]; exact h))
            clear hu hj hin
            go_wp2_with (first | (at_builtin; refine wpList_append_at rfl _ _ 86 rfl w3.heap.size 102 p0 (.agg #[.string ⟨#[]⟩, .string ⟨#[]⟩, .int .i64 0, .int .i64 0, .string ⟨#[]⟩]) 5 64 Tryd.underlying86 HI0.out.1 HI0.out.2.1 HI0.out.2.2.1 HI0.out.2.2.2 rfl (by omega) (.slice Am k cm) k P rfl (HROW.out.alloc _) ⟨w5.heap.size, 0, none⟩ 1 1 [.string s, .string u, .int .i64 0, .int .i64 0, .string ⟨#[]⟩] rfl rfl (laid_news w5 _ _) (by simp [Value.oneCell']) (by simp only [maxLen]; omega) (by omega) (by simp; omega) ?_; intro v8 w8 hr8 hg8 hl8; have HR8 := Lib.hid (HROW2.out _ _ hr8); have HE8 : Hid (Ext w3 w8) := Lib.hid ((HXT.out.alloc _).grown hg8 (fun q hq => own_ge HROW.out hq)); clear hr8 hg8 hl8))
            go_roundw
            case rel => exact ⟨k + 1, by omega, by go_num, HR8.out, HE8.out⟩
            case measure => simp [intOf]; omega
          · have HR : Hid (idxR bh s = -1) := Lib.hid (by unfold idxR; rw [if_neg hin])
            rw [HR.out]
            obtain ⟨u, hu⟩ : ∃ u, u = f ++ ⟨(Lib.itoa (k : Int)).toArray⟩ := ⟨_, rfl⟩
            have HNM : Hid (nmR bh ah V s = u) := Lib.hid (by
              unfold nmR
              rw [if_neg hin, HIDX.out, hu, HF.out])
            rw [← hu]
            have HROW2 : Hid (∀ (w8 : World) (v8 : Value), w8.ownsRow w3.heap.size 102 5 v8 (k + 1) (P ++ [.string s, .string u, .int .i64 0, .int .i64 0, .string ⟨#[]⟩]) → w8.ownsRow w3.heap.size 102 5 v8 (k + 1) (pcells (renPs bh ah V (V.take (k + 1))))) := Lib.hid (fun w8 v8 h => HST.out w8 v8 (by rw [HNM.out]; exact h))
            clear hu hin
            go_wp2_with (first | (at_builtin; refine wpList_append_at rfl _ _ 86 rfl w3.heap.size 102 p0 (.agg #[.string ⟨#[]⟩, .string ⟨#[]⟩, .int .i64 0, .int .i64 0, .string ⟨#[]⟩]) 5 64 Tryd.underlying86 HI0.out.1 HI0.out.2.1 HI0.out.2.2.1 HI0.out.2.2.2 rfl (by omega) (.slice Am k cm) k P rfl (HROW.out.alloc _) ⟨w5.heap.size, 0, none⟩ 1 1 [.string s, .string u, .int .i64 0, .int .i64 0, .string ⟨#[]⟩] rfl rfl (laid_news w5 _ _) (by simp [Value.oneCell']) (by simp only [maxLen]; omega) (by omega) (by simp; omega) ?_; intro v8 w8 hr8 hg8 hl8; have HR8 := Lib.hid (HROW2.out _ _ hr8); have HE8 : Hid (Ext w3 w8) := Lib.hid ((HXT.out.alloc _).grown hg8 (fun q hq => own_ge HROW.out hq)); clear hr8 hg8 hl8))
            go_roundw
            case rel => exact ⟨k + 1, by omega, by go_num, HR8.out, HE8.out⟩
            case measure => simp [intOf]; omega
        · obtain rfl : k = nv := by omega
          have hdk : ¬ (k : Int) < (k : Int) := by omega
          have et : V.take k = V := by rw [HNV.out]; exact List.take_length
          have hprs : Prs (fun _ => True) wr (.slice Am k cm) (renPs bh ah V V) := by
            have h := HROW.out
            rw [et] at h
            obtain ⟨A', c', e, hc', hcl⟩ := Cl.of_own h
            injection e with e1 e2 e3
            subst e1 e3
            exact ⟨Am, cm, by unfold renPs; rw [List.length_map, ← HNV.out], by unfold renPs; rw [List.length_map, ← HNV.out]; exact hc', hcl.mono (fun _ _ _ => trivial)⟩
          have HCALL := Lib.hid (HAPP.out _ _ (HX3.out.trans hext) hprs)
          have HXX := Lib.hid (HX3.out.trans hext)
          have hkz := HKZ3.out.ext hext
          have a0 := (HKR3.out.ext hext).cell (i := 0) (by simp); have a1 := (HKR3.out.ext hext).cell (i := 1) (by simp)
          simp only [List.getElem_cons_zero, List.getElem_cons_succ] at a0 a1
          have HKZ := Lib.hid hkz
          clear et hprs hext hkz
          go_wp2_with fail
          refine HCALL.out.mono ?_
          rintro e w9 ⟨he9, A9, n9, c9, B9, d9, rfl, hA9, hC9⟩
          have hkz9 := HKZ.out.ext he9
          have z0 := hkz9.cell (i := 0) (by simp); have z1 := hkz9.cell (i := 1) (by simp); have f0 := hkz9.free 0; have f1 := hkz9.free 1
          simp only [List.getElem_cons_zero, List.getElem_cons_succ] at z0 z1
          have HKZ9 := Lib.hid hkz9; have HX9 := Lib.hid (HXX.out.trans he9); have HA9 := Lib.hid hA9; have HC9 := Lib.hid hC9
          have hzz : w.heap.size + 1 < wr.heap.size := HKZ.out.lt
          clear hkz9 he9 hA9 hC9 a0 a1
          go_wp2_with fail
          have hs := ((HKZ9.out.set 0 (.slice A9 n9 c9)).set 1 (.slice B9 0 d9))
          have hf : Fr (fun k => k = w.heap.size + 1) w9 ((w9.setCell ⟨w.heap.size + 1, 0, none⟩ (.slice A9 n9 c9)).setCell ⟨w.heap.size + 1, 1, none⟩ (.slice B9 0 d9)) := ((Fr.refl (fun k => k = w.heap.size + 1) w9).setCell (p := ⟨w.heap.size + 1, 0, none⟩) (.inl rfl) _).setCell (p := ⟨w.heap.size + 1, 1, none⟩) (.inl rfl) _
          generalize ((w9.setCell ⟨w.heap.size + 1, 0, none⟩ (.slice A9 n9 c9)).setCell ⟨w.heap.size + 1, 1, none⟩ (.slice B9 0 d9)) = wz at *
          have s0 := hs.cell (i := 0) (by simp); have s1 := hs.cell (i := 1) (by simp)
          simp at s0 s1
          have hez := hf.new HX9.out (fun k hk => by omega)
          have hsz := HX9.out.size
          refine bodyPost_ret (v := .agg #[.slice A9 n9 c9, .slice B9 0 d9]) ?_ rfl ⟨A9, n9, c9, B9, d9, rfl, hez, ?_, ?_⟩
          · simp [results, Tryd.results40, go_sem, s0, s1]
          · exact (HA9.out.fr hf (fun k hk e => by omega)).mono (fun k _ hk => by have := HXX.out.size; omega)
          · exact (HC9.out.fr hf (fun k hk e => by omega)).mono (fun k _ hk => by have := HXX.out.size; omega)
end Go.Proofs.YtehklbdgkppmeaaDoor
