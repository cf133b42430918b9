/- Contract: the reference's Vars. -/
import Derived.Test.YtmmmdinncmbjkaaOd
namespace Go.Proofs.Ytmmmdinncmbjkaa
open Go.RowKit Go.Maps

def addT (b : List ByteArray) (t : Tm) : List ByteArray := if t.var = ⟨#[]⟩ then b else addN b t.var
def refV (od : List Ky) (xs : List At) : List ByteArray := (allT xs).foldl addT (od.map Ky.var)
theorem addT_len (b : List ByteArray) (t : Tm) : (addT b t).length ≤ b.length + 1 := by
  unfold addT
  split
  · omega
  · exact addN_len b t.var
theorem addTs_len : ∀ (l : List Tm) (b : List ByteArray), (l.foldl addT b).length ≤ b.length + l.length
  | [], b => by simp
  | t :: l, b => by
    rw [List.foldl_cons, List.length_cons]
    have h1 := addTs_len l (addT b t)
    have h2 := addT_len b t
    omega
theorem idxL_yes {l : List ByteArray} {s : ByteArray} (h : s ∈ l) : ¬ idxL l s < 0 := by
  unfold idxL; rw [if_pos h]; omega
theorem idxL_neg {l : List ByteArray} {s : ByteArray} (h : s ∉ l) : idxL l s < 0 := by
  unfold idxL; rw [if_neg h]; omega
set_option maxRecDepth 20000 in
set_option maxHeartbeats 3200000 in
theorem vars_refC {F G : Nat → Prop} {w : World} {Ak A C : Option Addr} {nk ck n c nc cc : Nat} {od : List Ky} {xs : List At} (hK : Sl rdKy F w (.slice Ak nk ck) od) (hA : Ats G w (.slice A n c) xs) (hz : ∀ a ∈ xs, TmZ a.terms) (hnk : nk ≤ 500000) (hn : n ≤ 1048576) (hl : ∀ a ∈ xs, a.terms.length ≤ 1048576) (hal : (allT xs).length ≤ 500000) :
    Calls Try.prog 11 #[.slice Ak nk ck, .agg #[.slice A n c, .slice C nc cc]] w (Ret (fun x w' => w'.ownsRow w.heap.size 9 1 x (refV od xs).length ((refV od xs).map Sv)) w) := by
  have hko := hK.cap.1
  have hnx : n = xs.length := by
    obtain ⟨A', c', e⟩ := hA.sl
    injection e
  have HK := Lib.hid hK; have HA := Lib.hid hA.at2; have HNK := Lib.hid hko; have HNX := Lib.hid hnx; have HZ := Lib.hid hz; have HL := Lib.hid hl; have HAL := Lib.hid hal
  obtain ⟨i0, hi0, hz0, hz1, hz2⟩ := info_parts info_string
  have HI0 := Lib.hid (And.intro hi0 (And.intro hz0 (And.intro hz1 hz2))); clear hi0 hz0 hz1 hz2
  clear hK hA hko hnx hz hl hal
  go_enter Try.func11, Try.ntmps11
  go_upto_region 1 with fail
  have kr := Bk.new w 48 [.slice A n c, .slice C nc cc]
  change Bk (w.alloc (.cells #[.slice A n c, .slice C nc cc] 48)) _ _ _ at kr
  have hx1 : Ext w (w.alloc (.cells #[.slice A n c, .slice C nc cc] 48)) := (Ext.refl w).alloc _
  generalize (w.alloc (.cells #[.slice A n c, .slice C nc cc] 48)) = w1 at *
  have HKR := Lib.hid kr; have HX1 := Lib.hid hx1
  have hw1 : w.heap.size ≤ w1.heap.size := hx1.size
  clear kr hx1
  go_wp2_with fail
  go_loopw [5, 6] (fun u t wr => ∃ i : Nat, i ≤ nk ∧ t = .int .i64 (i : Int) ∧ wr.ownsRow w1.heap.size 9 1 u i (((od.take i).map Ky.var).map Sv) ∧ Ext w1 wr) (fun _ t _ => nk - (intOf t).toNat)
  case atStart => exact ⟨0, Nat.zero_le _, rfl, World.ownsRow_nil _ _ _ _, Ext.refl _⟩
  case round =>
    obtain ⟨i, hi, rfl, hrow, hx⟩ := hrel
    obtain ⟨Au, cu, rfl⟩ := own_slice hrow
    have HROW := Lib.hid hrow; have HX := Lib.hid hx
    by_cases hik : i < nk
    · have i1 : (0 : Int) ≤ (i : Int) := by omega
      have i2 : (i : Int) < (nk : Int) := by omega
      have hio : i < od.length := by have := HNK.out; omega
      obtain ⟨ad, rfl, -, c0, -⟩ := HK.out.ky hio
      replace c0 := hx.cell (HX1.out.cell c0)
      have htk : ((od.take (i + 1)).map Ky.var).map Sv = ((od.take i).map Ky.var).map Sv ++ [.string od[i].var] := by rw [List.take_succ_eq_append_getElem hio, List.map_append, List.map_append]; rfl
      obtain ⟨v, hv⟩ : ∃ v, v = od[i].var := ⟨_, rfl⟩
      rw [← hv] at c0 htk
      have HTK := Lib.hid htk
      have hwr : w1.heap.size ≤ wr.heap.size := hx.size
      clear hv htk hrow hx
      go_wp2_with (first
        | (at_builtin; refine wpList_append_at rfl _ _ 23 rfl w1.heap.size 9 i0 (.string ⟨#[]⟩) 1 16 Try.underlying23 HI0.out.1 HI0.out.2.1 HI0.out.2.2.1 HI0.out.2.2.2 rfl (by omega) (.slice Au i cu) i (((od.take i).map Ky.var).map Sv) rfl (HROW.out.alloc _) ⟨wr.heap.size, 0, none⟩ 1 1 [.string v] rfl rfl (laid_news wr _ _) (by simp [Value.oneCell']) (by simp only [maxLen]; omega) (by omega) (by simp; omega) ?_; intro v8 w8 hr8 hg8 hl8; obtain ⟨A8, c8, e8⟩ := own_slice hr8; subst e8; have HR8 := Lib.hid hr8; have HX8 := Lib.hid ((HX.out.alloc _).grown hg8 (fun b hb => own_ge HROW.out hb)); clear hr8 hg8 hl8))
      go_roundw
      case rel => exact ⟨i + 1, by omega, by go_num, by rw [HTK.out]; exact HR8.out, HX8.out⟩
      case measure => simp [intOf]; omega
    · obtain rfl : i = nk := by omega
      have hdi : ¬ (i : Int) < (i : Int) := by omega
      have et : od.take i = od := List.take_of_length_le (by have := HNK.out; omega)
      rw [et] at HROW
      obtain ⟨W, rfl⟩ : ∃ W : World, W = wr := ⟨_, rfl⟩
      clear et hrow hx
      go_wp2_with fail
      go_loopw [5, 7, 8, 9] (fun u t _ _ wr => ∃ (k m : Nat) (l : List ByteArray), k ≤ n ∧ t = .int .i64 (k : Int) ∧ Hid (l = (allT (xs.take k)).foldl addT (od.map Ky.var)) ∧ wr.ownsRow w1.heap.size 9 1 u m (l.map Sv) ∧ m ≤ 1000000 ∧ Ext w1 wr) (fun _ t _ _ _ => n - (intOf t).toNat)
      case atStart => exact ⟨0, i, od.map Ky.var, Nat.zero_le _, rfl, Lib.hid rfl, HROW.out, by omega, HX.out⟩
      case round =>
        obtain ⟨k, m, l, hk, rfl, HE, hrow, hm, hx⟩ := hrel
        obtain ⟨Al, cl, rfl⟩ := own_slice hrow
        obtain ⟨W2, rfl⟩ : ∃ W : World, W = wr := ⟨_, rfl⟩
        have HROW2 := Lib.hid hrow; have HX2 := Lib.hid hx
        have r0 := (HKR.out.ext hx).cell (i := 0) (by simp)
        simp only [List.getElem_cons_zero, List.getElem_cons_succ] at r0
        by_cases hkn : k < n
        · have k1 : (0 : Int) ≤ (k : Int) := by omega
          have k2 : (k : Int) < (n : Int) := by omega
          have hkx : k < xs.length := by have := HNX.out; omega
          obtain ⟨ad, Bt, dt, rfl, -, -, -, c2, hT⟩ := HA.out k hkx
          replace c2 := HX1.out.cell c2
          have hzk := HZ.out _ (List.getElem_mem hkx)
          have hlk := HL.out _ (List.getElem_mem hkx)
          have hall : allT (xs.take (k + 1)) = allT (xs.take k) ++ xs[k].terms := allT_take hkx
          have hsum : (allT (xs.take (k + 1))).length ≤ 500000 := by
            have h1 : allT xs = allT (xs.take (k + 1)) ++ allT (xs.drop (k + 1)) := by unfold allT; rw [← List.flatMap_append, List.take_append_drop]
            have h2 := HAL.out
            rw [h1, List.length_append] at h2
            omega
          obtain ⟨ts, hts⟩ : ∃ ts, ts = xs[k].terms := ⟨_, rfl⟩
          rw [← hts] at c2 hT hzk hlk hall
          obtain ⟨nt, hnt⟩ : ∃ n, n = ts.length := ⟨_, rfl⟩
          rw [← hnt] at c2 hlk
          have HT := Lib.hid hT.2; have HZK := Lib.hid hzk; have HALL := Lib.hid hall; have HSUM := Lib.hid hsum; have HNT := Lib.hid hnt; have HC2 := Lib.hid c2
          have c2w := hx.cell c2
          clear hts hnt hT hzk hall hsum hrow hx c2
          go_wp2_with fail
          clear r0 c2w
          go_loopw [5, 8, 9] (fun u t _ wr => ∃ (j m' : Nat) (l' : List ByteArray), j ≤ nt ∧ t = .int .i64 (j : Int) ∧ Hid (l' = (allT (xs.take k) ++ ts.take j).foldl addT (od.map Ky.var)) ∧ wr.ownsRow w1.heap.size 9 1 u m' (l'.map Sv) ∧ Ext w1 wr) (fun _ t _ _ => nt - (intOf t).toNat)
          case atStart => exact ⟨0, m, l, Nat.zero_le _, rfl, Lib.hid (by rw [HE.out]; simp), HROW2.out, HX2.out⟩
          case round =>
            obtain ⟨j, m', l', hj, rfl, HE2, hrow, hx⟩ := hrel
            obtain ⟨A3, c3, rfl⟩ := own_slice hrow
            have HROW3 := Lib.hid hrow; have HX3 := Lib.hid hx
            have hlm : m' = l'.length := by have h1 := hrow.1; simp at h1; omega
            have hb' : l'.length ≤ 1000000 := by
              have h1 := addTs_len (allT (xs.take k) ++ ts.take j) (od.map Ky.var)
              rw [← HE2.out, List.length_append, List.length_map] at h1
              have h2 : (allT (xs.take (k + 1))).length = (allT (xs.take k)).length + ts.length := by rw [HALL.out, List.length_append]
              have h3 := HSUM.out; have h4 := HNK.out
              have h5 : (ts.take j).length ≤ ts.length := by rw [List.length_take]; omega
              omega
            have hm2 : m' ≤ 1000000 := by omega
            have r0 := (HKR.out.ext hx).cell (i := 0) (by simp)
            simp only [List.getElem_cons_zero, List.getElem_cons_succ] at r0
            have c2 := hx.cell HC2.out
            by_cases hjn : j < nt
            · have j1 : (0 : Int) ≤ (j : Int) := by omega
              have j2 : (j : Int) < (nt : Int) := by omega
              have hjt : j < ts.length := by have := HNT.out; omega
              obtain ⟨adt, rfl, -, t0, -⟩ := HT.out.term hjt
              replace t0 := hx.cell (HX1.out.cell t0)
              have htk : (allT (xs.take k) ++ ts.take (j + 1)).foldl addT (od.map Ky.var) = addT l' ts[j] := by rw [List.take_succ_eq_append_getElem hjt, ← List.append_assoc, List.foldl_append, ← HE2.out]; rfl
              have had : addT l' ts[j] = if ts[j].var = ⟨#[]⟩ then l' else addN l' ts[j].var := rfl
              obtain ⟨y, hy⟩ : ∃ y, y = ts[j].var := ⟨_, rfl⟩
              rw [had] at htk
              rw [← hy] at t0 htk
              have HTK := Lib.hid htk
              have hwr : w1.heap.size ≤ wr.heap.size := hx.size
              have hidx : Calls Try.prog 25 #[.slice A3 m' c3, .string y] wr (Ret (fun x _ => x = .int .i64 (idxL l' y)) wr) := index_ref (Strs.of_own hrow) (by omega)
              obtain ⟨ix, hix⟩ : ∃ z, z = idxL l' y := ⟨_, rfl⟩
              rw [← hix] at hidx
              have HIX := Lib.hid hix; have HIDX := Lib.hid hidx
              clear hy htk had hrow hx hix hidx hlm hb'
              by_cases hv0 : y = ⟨#[]⟩
              · have hb := var_eq hv0
                have HG : Hid (l' = (allT (xs.take k) ++ ts.take (j + 1)).foldl addT (od.map Ky.var)) := Lib.hid (by rw [HTK.out, if_pos hv0])
                clear hv0
                go_wp2_with fail
                go_roundw
                case rel => exact ⟨j + 1, m', l', by omega, by go_num, HG, HROW3.out, HX3.out⟩
                case measure => simp [intOf]; omega
              · have hb := var_ne hv0
                by_cases hin : y ∈ l'
                · have HG : Hid (l' = (allT (xs.take k) ++ ts.take (j + 1)).foldl addT (od.map Ky.var)) := Lib.hid (by rw [HTK.out, if_neg hv0]; unfold addN; rw [if_pos hin])
                  have hng : ¬ ix < 0 := by rw [HIX.out]; exact idxL_yes hin
                  clear hv0 hin
                  go_wp2_with fail
                  refine HIDX.out.mono ?_
                  rintro e w5 ⟨x, rfl, he5, rfl⟩
                  have HX5 := Lib.hid (HX3.out.trans he5); have HROW5 := Lib.hid (own_ext' HROW3.out he5)
                  clear he5
                  go_wp2_with fail
                  go_roundw
                  case rel => exact ⟨j + 1, m', l', by omega, by go_num, HG, HROW5.out, HX5.out⟩
                  case measure => simp [intOf]; omega
                · have HG : Hid (l' ++ [y] = (allT (xs.take k) ++ ts.take (j + 1)).foldl addT (od.map Ky.var)) := Lib.hid (by rw [HTK.out, if_neg hv0]; unfold addN; rw [if_neg hin])
                  have hng : ix < 0 := by rw [HIX.out]; exact idxL_neg hin
                  clear hv0 hin
                  go_wp2_with fail
                  refine HIDX.out.mono ?_
                  rintro e w5 ⟨x, rfl, he5, rfl⟩
                  have HX5 := Lib.hid (HX3.out.trans he5); have HROW5 := Lib.hid (own_ext' HROW3.out he5)
                  have hw5 : wr.heap.size ≤ w5.heap.size := he5.size
                  clear he5
                  go_wp2_with (first
                    | (at_builtin; refine wpList_append_at rfl _ _ 23 rfl w1.heap.size 9 i0 (.string ⟨#[]⟩) 1 16 Try.underlying23 HI0.out.1 HI0.out.2.1 HI0.out.2.2.1 HI0.out.2.2.2 rfl (by omega) (.slice A3 m' c3) m' (l'.map Sv) rfl (HROW5.out.alloc _) ⟨w5.heap.size, 0, none⟩ 1 1 [.string y] rfl rfl (laid_news w5 _ _) (by simp [Value.oneCell']) (by simp only [maxLen]; omega) (by omega) (by simp; omega) ?_; intro v8 w8 hr8 hg8 hl8; obtain ⟨A8, c8, e8⟩ := own_slice hr8; subst e8; have HR8 := Lib.hid hr8; have HX8 := Lib.hid ((HX5.out.alloc _).grown hg8 (fun b hb => own_ge HROW5.out hb)); clear hr8 hg8 hl8))
                  go_roundw
                  case rel => exact ⟨j + 1, m' + 1, l' ++ [y], by omega, by go_num, HG, by rw [List.map_append]; exact HR8.out, HX8.out⟩
                  case measure => simp [intOf]; omega
            · obtain rfl : j = nt := by omega
              have hdj : ¬ (j : Int) < (j : Int) := by omega
              have HG : Hid (l' = (allT (xs.take (k + 1))).foldl addT (od.map Ky.var)) := Lib.hid (by
                have et : ts.take j = ts := List.take_of_length_le (by have := HNT.out; omega)
                rw [HE2.out, HALL.out, et])
              clear hrow hx hlm hb'
              go_wp2_with fail
              go_roundw
              case rel => exact ⟨k + 1, m', l', by omega, by go_num, HG, HROW3.out, hm2, HX3.out⟩
              case measure => simp [intOf]; omega
        · obtain rfl : k = n := by omega
          have hdk : ¬ (k : Int) < (k : Int) := by omega
          have et : xs.take k = xs := List.take_of_length_le (by have := HNX.out; omega)
          have hmm : m = (refV od xs).length := by
            have h1 := hrow.1
            rw [HE.out, et] at h1
            simp at h1
            unfold refV
            omega
          have HQ : Hid (W2.ownsRow w.heap.size 9 1 (.slice Al m cl) (refV od xs).length ((refV od xs).map Sv)) := Lib.hid (by
            have e : l = refV od xs := by rw [HE.out, et]; rfl
            rw [← e, show l.length = m by rw [hmm, e]]
            have h := HROW2.out
            exact ⟨h.1, h.2.imp id (fun ⟨g, cap, cur, e1, e2, e3⟩ => ⟨g, cap, cur, e1, Nat.le_trans hw1 e2, e3⟩)⟩)
          clear hmm et hrow hx
          go_wp2_with fail
          go_ret
          exact Ret.mk (HX1.out.trans HX2.out) HQ.out
end Go.Proofs.Ytmmmdinncmbjkaa
