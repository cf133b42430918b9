/- Contracts: ordinallaw25.same, ordinalref25.Contained, minimize.Equivalent. -/
import Derived.Test.YtehklbdgkppmeaaDoorJk
namespace Go.Proofs.YtehklbdgkppmeaaDoor
open Go.RowKit Go.Maps

set_option maxRecDepth 20000 in
set_option maxHeartbeats 1600000 in
theorem same_ints {F G : Nat → Prop} {w : World} {v u : Value} {zs ys : List Int} (hv : Ins F w v zs) (hu : Ins G w u ys) (hl : zs.length ≤ 1048576) :
    Calls Tryd.prog 23 #[v, u] w (Ret (fun x _ => x = .bool (decide (zs = ys))) w) := by
  obtain ⟨A, c, rfl, hc, ha⟩ := hv
  obtain ⟨B, d, rfl, hd, hb⟩ := hu
  obtain ⟨n, hn⟩ : ∃ k, k = zs.length := ⟨_, rfl⟩
  obtain ⟨m, hm⟩ : ∃ k, k = ys.length := ⟨_, rfl⟩
  rw [← hn] at hc hl ⊢
  rw [← hm] at hd ⊢
  have HN := Lib.hid hn; have HM := Lib.hid hm; have HA := Lib.hid ha; have HB := Lib.hid hb
  clear hn hm ha hb
  by_cases hlen : n = m
  · subst hlen
    go_enter Tryd.func23, Tryd.ntmps23
    go_wp2_with fail
    go_loopw [5] (fun q wr => ∃ i : Nat, i ≤ n ∧ q = .int .i64 (i : Int) ∧ (∀ j (h : j < zs.length) (h' : j < ys.length), j < i → zs[j] = ys[j]) ∧ Ext w wr) (fun q _ => n - (intOf q).toNat)
    case atStart => exact ⟨0, Nat.zero_le _, rfl, fun _ _ _ h => absurd h (by omega), Ext.refl _⟩
    case round =>
      obtain ⟨i, hi, rfl, hok, hext⟩ := hrel
      have HOK := Lib.hid hok; have HE := Lib.hid hext
      clear hok
      by_cases hlt : i < n
      · have i1 : (0 : Int) ≤ (i : Int) := by omega
        have i2 : (i : Int) < (n : Int) := by omega
        have hia : i < zs.length := by have := HN.out; omega
        have hib : i < ys.length := by have := HM.out; omega
        obtain ⟨ada, rfl, -, c0⟩ := HA.out.int hia
        obtain ⟨adb, rfl, -, d0⟩ := HB.out.int hib
        replace c0 := hext.cell c0
        replace d0 := hext.cell d0
        obtain ⟨x, hx⟩ : ∃ x, x = zs[i] := ⟨_, rfl⟩
        obtain ⟨y, hy⟩ : ∃ y, y = ys[i] := ⟨_, rfl⟩
        rw [← hx] at c0
        rw [← hy] at d0
        have HX := Lib.hid hx; have HY := Lib.hid hy
        clear hx hy hext
        by_cases hxy : x = y
        · subst hxy
          go_upto_region 6 with fail
          go_quiet (fail)
          go_wp2_with fail
          go_roundw
          case rel =>
            refine ⟨i + 1, by omega, by go_num, fun j hj hj2 hji => ?_, HE.out.drewN _⟩
            rcases Nat.lt_or_ge j i with h | h
            · exact HOK.out j hj hj2 h
            · obtain rfl : j = i := by omega
              rw [← HX.out, ← HY.out]
          case measure => simp [intOf]; omega
        · have hne : (x == y) = false := beq_false_of_ne hxy
          have HNE := Lib.hid (show ¬ zs = ys from fun e => hxy (by rw [HX.out, HY.out]; simp only [e]))
          clear hxy
          go_upto_region 6 with fail
          go_quiet (fail)
          go_wp2_with fail
          go_ret
          rw [decide_eq_false HNE.out]
          exact Ret.mk (HE.out.drewN _) rfl
      · obtain rfl : i = n := by omega
        have hdn : ¬ (i : Int) < (i : Int) := by omega
        clear hext
        go_wp2_with fail
        go_ret
        have e : zs = ys := List.ext_getElem (by rw [← HN.out, ← HM.out]) (fun j h1 h2 => HOK.out j h1 h2 (by have := HN.out; omega))
        rw [decide_eq_true e]
        exact Ret.mk HE.out rfl
  · have hlen2 : ¬ (n : Int) = (m : Int) := by omega
    have HNL : Hid (¬ zs = ys) := Lib.hid (fun e => hlen (by rw [HN.out, HM.out, e]))
    clear hlen
    go_enter Tryd.func23, Tryd.ntmps23
    go_wp2_with fail
    all_goals first
      | contradiction
      | (go_ret
         rw [decide_eq_false HNL.out]
         exact Ret.mk (Ext.refl w) rfl)

theorem firstI_succ (n : Nat) (p : Nat → Bool) : firstI (n + 1) p = (firstI n p).or (if p n = true then some n else none) := by
  unfold firstI
  rw [List.range_succ, List.find?_append]
  congr 1
  by_cases h : p n = true
  · simp [h]
  · simp [h]
theorem firstI_grow {p : Nat → Bool} {m k : Nat} (h : firstI k p = some m) : ∀ d, firstI (k + d) p = some m
  | 0 => h
  | d + 1 => by rw [show k + (d + 1) = k + d + 1 by omega, firstI_succ, firstI_grow h d]; rfl

section
variable {w : World} {A : Option Addr} {c : Nat} {B : Option Addr} {d : Nat} {O : Option Addr} {co : Nat} {A' : Option Addr} {c' : Nat} {B' : Option Addr} {d' : Nat} {O' : Option Addr} {co' : Nat} {a b : Qr}
def RcPost (a b : Qr) (w : World) (e : Ending) (w' : World) : Prop := ∃ v, e = .returned (.tuple #[v, .bool (contB a b)]) ∧ Ext w w' ∧ Ins T1 w' v (if contB a b = true then contN a b a.rs else [])
theorem RcPost.no {w' : World} (he : Ext w w') (h : contB a b = false) : RcPost a b w (.returned (.tuple #[.slice none 0 0, .bool false])) w' := ⟨_, by rw [h], he, by rw [h]; exact ⟨none, 0, rfl, Nat.le_refl _, .inl rfl⟩⟩
theorem RcPost.yes {w' : World} {v : Value} (he : Ext w w') (h : contB a b = true) (hv : Ins T1 w' v (contN a b a.rs)) : RcPost a b w (.returned (.tuple #[v, .bool true])) w' := ⟨_, by rw [h], he, by rw [h]; exact hv⟩
theorem Ins.nil (F : Nat → Prop) (w : World) : Ins F w (.slice none 0 0) [] := ⟨none, 0, rfl, Nat.le_refl _, .inl rfl⟩
theorem Pq.t48 {xs : List At} (h : Pq xs) : (allT xs).length ≤ 48 := by
  have h1 := allT_bd (b := 6) (fun a ha => (h.pu a ha).2)
  have := h.len
  omega
set_option maxRecDepth 20000 in
set_option maxHeartbeats 6400000 in
theorem rcontained_any (ha : Qc w A c B d O co a) (hb : Qc w A' c' B' d' O' co' b) (oa : QOk a) (ob : QOk b) (h0 : contE a b = 0) :
    Calls Tryd.prog 22 #[.agg #[.slice A a.hd.length c, .int .i64 a.ag, .string a.av, .slice B a.rs.length d, .slice O a.no co], .agg #[.slice A' b.hd.length c', .int .i64 b.ag, .string b.av, .slice B' b.rs.length d', .slice O' b.no co']] w (RcPost a b w) := by
  obtain ⟨hpa, hpb, hlen⟩ := contE_zero h0
  have hqa := Qr.pure_iff.1 hpa
  have hqb := Qr.pure_iff.1 hpb
  have HRA := Lib.hid ha.rs.at2; have HRB := Lib.hid hb.rs.at2
  have HHA := Lib.hid ha.hd; have HHB := Lib.hid hb.hd
  have HQA := Lib.hid hqa; have HQB := Lib.hid hqb; have HOA := Lib.hid oa; have HOB := Lib.hid ob; have HLEN := Lib.hid hlen
  have hal := oa.hl
  obtain ⟨na, hna⟩ : ∃ n, n = a.hd.length := ⟨_, rfl⟩
  rw [← hna] at hlen hal HHA ⊢
  rw [← hlen] at HHB ⊢
  obtain ⟨ma, hma⟩ : ∃ n, n = a.rs.length := ⟨_, rfl⟩
  obtain ⟨mb, hmb⟩ : ∃ n, n = b.rs.length := ⟨_, rfl⟩
  have hma3 : ma ≤ 3 := by rw [hma]; exact hqa.2.2.1
  have hmb3 : mb ≤ 3 := by rw [hmb]; exact hqb.2.2.1
  rw [← hma, ← hmb]
  have HNA := Lib.hid hna; have HMA := Lib.hid hma; have HMB := Lib.hid hmb
  clear ha hb oa ob h0 hpa hpb hqa hqb hlen hna hma hmb
  generalize a.no = oa1
  generalize b.no = ob1
  generalize a.ag = ag
  generalize b.ag = bg
  generalize a.av = aa
  generalize b.av = ba
  obtain ⟨j0, hj0, hy0, hy1, hy2⟩ := info_parts info_int
  have HJ0 := Lib.hid (And.intro hj0 (And.intro hy0 (And.intro hy1 hy2)))
  clear hj0 hy0 hy1 hy2
  go_enter Tryd.func22, Tryd.ntmps22
  go_wp2_with fail
  have h2 := two_q w [.slice A na c, .int .i64 ag, .string aa, .slice B ma d, .slice O oa1 co] [.slice A' na c', .int .i64 bg, .string ba, .slice B' mb d', .slice O' ob1 co'] _ rfl
  change Bk ((w.alloc (.cells #[.slice A na c, .int .i64 ag, .string aa, .slice B ma d, .slice O oa1 co] 44)).alloc (.cells #[.slice A' na c', .int .i64 bg, .string ba, .slice B' mb d', .slice O' ob1 co'] 44)) _ _ _ ∧ Bk ((w.alloc (.cells #[.slice A na c, .int .i64 ag, .string aa, .slice B ma d, .slice O oa1 co] 44)).alloc (.cells #[.slice A' na c', .int .i64 bg, .string ba, .slice B' mb d', .slice O' ob1 co'] 44)) _ _ _ ∧ Ext w ((w.alloc (.cells #[.slice A na c, .int .i64 ag, .string aa, .slice B ma d, .slice O oa1 co] 44)).alloc (.cells #[.slice A' na c', .int .i64 bg, .string ba, .slice B' mb d', .slice O' ob1 co'] 44)) at h2
  generalize ((w.alloc (.cells #[.slice A na c, .int .i64 ag, .string aa, .slice B ma d, .slice O oa1 co] 44)).alloc (.cells #[.slice A' na c', .int .i64 bg, .string ba, .slice B' mb d', .slice O' ob1 co'] 44)) = w1 at *
  obtain ⟨ka, kb, hx⟩ := h2
  have HX1 := Lib.hid hx; have HKA := Lib.hid ka; have HKB := Lib.hid kb
  clear hx ka kb
  go_loopw [6, 7] (fun t q wr => ∃ (j : Nat), j ≤ ma ∧ q = .int .i64 (j : Int) ∧ wr.ownsRow w1.heap.size 3 1 t j ((contN a b (a.rs.take j)).map I64) ∧ (a.rs.take j).all (fun r => (hitN a b r).isSome) = true ∧ Ext w1 wr) (fun _ q _ => ma - (intOf q).toNat)
  case atStart => exact ⟨0, Nat.zero_le _, rfl, World.ownsRow_nil _ _ _ _, by simp, Ext.refl _⟩
  case round =>
    obtain ⟨j, hj, rfl, hrow, hall, hext⟩ := hrel
    obtain ⟨Ai, ci, rfl⟩ := own_slice hrow
    obtain ⟨W, rfl⟩ : ∃ W : World, W = wr := ⟨_, rfl⟩
    have HROW := Lib.hid hrow; have HALL := Lib.hid hall; have HXT := Lib.hid hext
    have HXJ := Lib.hid (HX1.out.trans hext)
    have HKAW := Lib.hid (HKA.out.ext hext); have HKBW := Lib.hid (HKB.out.ext hext)
    have a3 := (HKA.out.ext hext).cell (i := 3) (by simp)
    simp only [List.getElem_cons_zero, List.getElem_cons_succ] at a3
    have hw1 : w1.heap.size ≤ W.heap.size := hext.size
    clear hrow hall hext
    by_cases hjm : j < ma
    · have j1 : (0 : Int) ≤ (j : Int) := by omega
      have j2 : (j : Int) < (ma : Int) := by omega
      have hjl : j < a.rs.length := by have := HMA.out; omega
      obtain ⟨ad, Br, n, dr, Cr, er, rfl, -, c0, -, hat, -⟩ := HRA.out j hjl
      have hpq := HQA.out.pq HOA.out.ax (List.getElem_mem hjl)
      replace c0 := HXJ.out.cell c0
      have htk : a.rs.take (j + 1) = a.rs.take j ++ [a.rs[j]] := List.take_succ_eq_append_getElem hjl
      have hmem : a.rs[j] ∈ a.rs := List.getElem_mem hjl
      obtain ⟨r, hr⟩ : ∃ r, r = a.rs[j] := ⟨_, rfl⟩
      rw [← hr] at hat htk hpq hmem
      obtain ⟨p, hp⟩ : ∃ p : Nat → Bool, p = fun k => ((b.rs[k]?).map (hitB a b r)).getD false := ⟨fun k => ((b.rs[k]?).map (hitB a b r)).getD false, rfl⟩
      have HHIT : Hid (hitN a b r = firstI mb p) := Lib.hid (by unfold hitN; rw [hp, HMB.out])
      have HP : Hid (∀ k (h : k < b.rs.length), p k = homR b.rs[k].ats b.hd r.ats a.hd) := Lib.hid (fun k h => by rw [hp]; simp only [List.getElem?_eq_getElem h]; rfl)
      have HAT := Lib.hid (hat.ext HXJ.out); have HPQ := Lib.hid hpq; have HTK := Lib.hid htk; have HMEM := Lib.hid hmem
      have HC0 := Lib.hid c0
      clear hpq hat htk hr hmem hp c0
      go_wp2_with fail
      clear a3
      go_loopw [8, 9] (fun t q wx => ∃ k : Nat, k ≤ mb ∧ q = .int .i64 (k : Int) ∧ t = .int .i64 (optI (firstI k p)) ∧ Ext W wx) (fun _ q _ => mb - (intOf q).toNat)
      case atStart => exact ⟨0, Nat.zero_le _, rfl, rfl, Ext.refl _⟩
      case round =>
        obtain ⟨k, hk, rfl, rfl, hex⟩ := hrel
        have HEX := Lib.hid hex
        have a0 := (HKAW.out.ext hex).cell (i := 0) (by simp); have a3 := (HKAW.out.ext hex).cell (i := 3) (by simp); have b0 := (HKBW.out.ext hex).cell (i := 0) (by simp); have b3 := (HKBW.out.ext hex).cell (i := 3) (by simp)
        simp only [List.getElem_cons_zero, List.getElem_cons_succ] at a0 a3 b0 b3
        obtain ⟨o, ho⟩ : ∃ o, o = firstI k p := ⟨_, rfl⟩
        rw [← ho]
        rcases o with _ | m
        · have e1 : optI none = -1 := rfl
          rw [e1]
          by_cases hkm : k < mb
          · have k1 : (0 : Int) ≤ (k : Int) := by omega
            have k2 : (k : Int) < (mb : Int) := by omega
            have hkl : k < b.rs.length := by have := HMB.out; omega
            obtain ⟨ad2, B2, n2, d2, C2, e2, rfl, -, f0, -, hbt, -⟩ := HRB.out k hkl
            replace f0 := (HXJ.out.trans hex).cell f0
            have c0 := hex.cell HC0.out
            have hpk := HQB.out.pq HOB.out.ax (List.getElem_mem hkl)
            have hpv := HP.out k hkl
            obtain ⟨s, hs⟩ : ∃ s, s = b.rs[k] := ⟨_, rfl⟩
            rw [← hs] at hbt hpk hpv
            obtain ⟨h, hh⟩ : ∃ h, h = p k := ⟨_, rfl⟩
            have hfs : firstI (k + 1) p = if h = true then some k else none := by rw [firstI_succ, ← ho, hh]; rfl
            have HFS := Lib.hid hfs
            have HHOM : Hid (∀ V, Ext wr V → Calls Tryd.prog 17 #[.slice B2 n2 d2, .slice A' na c', .slice Br n dr, .slice A na c] V (Ret (fun x _ => x = .bool h) V)) := Lib.hid (fun V hV => by
              have hV2 := hex.trans hV
              have hV3 := HXJ.out.trans hV2
              have h1 := hom25 (hbt.ext hV3) (HHB.out.ext hV3) (HAT.out.ext hV2) (HHA.out.ext hV3) (by rw [HLEN.out]; omega) (by have := hpk.len; omega) (by have := hpk.t48; omega) (by have := HPQ.out.len; omega) (by have := HPQ.out.t48; omega) (by have := HLEN.out; have := HNA.out; omega)
              rw [← hpv, ← hh] at h1
              exact h1)
            clear hs hbt hpk hpv hh hfs ho e1 hex
            go_upto_region 9 with fail
            go_region_held3 (fun V => Ext wr V ∧ V.cell? ⟨w.heap.size, 0, none⟩ = some (.slice A na c) ∧ V.cell? ⟨w.heap.size, 3, none⟩ = some (.slice (some ad) ma d) ∧ V.cell? ⟨w.heap.size + 1, 0, none⟩ = some (.slice A' na c') ∧ V.cell? ⟨w.heap.size + 1, 3, none⟩ = some (.slice (some ad2) mb d') ∧ V.cell? (ad2.add (k * 2)) = some (.slice B2 n2 d2) ∧ V.cell? (ad.add (j * 2)) = some (.slice Br n dr))
              ((refine (fun he => ⟨he, Ext.cell he a0, Ext.cell he a3, Ext.cell he b0, Ext.cell he b3, Ext.cell he f0, Ext.cell he c0⟩) ?_; repeat (first | exact Ext.refl _ | exact (Ext.refl _).drew | refine Ext.drew ?_ | refine Ext.trans ?_ (by assumption))))
              (first
                | (go_at_call 17; (with_reducible refine (HHOM.out _ (And.left (by assumption))).mono ?_); rintro e wi ⟨yv, rfl, hei, rfl⟩))
            have HFIN := Lib.hid (And.left (b := _ ∧ _) (by assumption))
            clear a0 a3 b0 b3 f0 c0
            rcases h with _ | _
            · go_wp2_with fail
              go_roundw
              case rel => exact ⟨k + 1, by omega, by go_num, by rw [HFS.out]; rfl, HEX.out.trans HFIN.out⟩
              case measure => simp [intOf]; omega
            · go_wp2_with fail
              go_roundw
              case rel => exact ⟨k + 1, by omega, by go_num, by rw [HFS.out]; rfl, HEX.out.trans HFIN.out⟩
              case measure => simp [intOf]; omega
          · obtain rfl : k = mb := by omega
            have hdk : ¬ (k : Int) < (k : Int) := by omega
            have HNO : Hid (contB a b = false) := Lib.hid (List.all_eq_false.2 ⟨r, HMEM.out, by rw [HHIT.out, ← ho]; simp⟩)
            clear e1 ho hex
            go_wp2_with fail
            go_ret2
            exact RcPost.no (HXJ.out.trans HEX.out) HNO.out
        · have e1 : optI (some m) = (m : Int) := rfl
          rw [e1]
          have m1 : ¬ (m : Int) < 0 := by omega
          have HH2 : Hid (hitN a b r = some m) := Lib.hid (by
            rw [HHIT.out]
            have h := firstI_grow ho.symm (mb - k)
            rwa [show k + (mb - k) = mb by omega] at h)
          have hrow6 := own_ext' HROW.out hex
          have HROW6 := Lib.hid hrow6
          have hw6 : w1.heap.size ≤ wr.heap.size := Nat.le_trans hw1 hex.size
          clear e1 ho hex hrow6
          by_cases hkm : (k : Int) < (mb : Int)
          all_goals
            go_wp2_with (first | (at_builtin; refine wpList_append_at rfl _ _ 47 rfl w1.heap.size 3 j0 (.int .i64 0) 1 8 Tryd.underlying47 HJ0.out.1 HJ0.out.2.1 HJ0.out.2.2.1 HJ0.out.2.2.2 rfl (by omega) (.slice Ai j ci) j ((contN a b (a.rs.take j)).map I64) rfl (HROW6.out.alloc _) ⟨wr.heap.size, 0, none⟩ 1 1 [.int .i64 (m : Int)] rfl rfl (laid_news wr _ _) (by simp [Value.oneCell']) (by simp only [maxLen]; omega) (by omega) (by simp; omega) ?_; intro v8 w8 hr8 hg8 hl8; have HR8 := Lib.hid hr8; have HE8 : Hid (Ext w1 w8) := Lib.hid (((HXT.out.trans HEX.out).alloc _).grown hg8 (fun q hq => own_ge HROW6.out hq)); clear hr8 hg8 hl8))
            go_roundw
            case rel =>
              refine ⟨j + 1, by omega, by go_num, ?_, ?_, HE8.out⟩
              · have e1 : (contN a b (a.rs.take (j + 1))).map I64 = (contN a b (a.rs.take j)).map I64 ++ [.int .i64 (m : Int)] := by
                  rw [HTK.out]; unfold contN; rw [List.map_append, List.map_append, List.map_singleton, List.map_singleton, HH2.out]; rfl
                rw [e1]; exact HR8.out
              · rw [HTK.out, List.all_append, HALL.out, List.all_cons, HH2.out]; rfl
            case measure => simp [intOf]; omega
    · obtain rfl : j = ma := by omega
      have hdj : ¬ (j : Int) < (j : Int) := by omega
      have et : a.rs.take j = a.rs := by rw [HMA.out]; exact List.take_length
      have HYES : Hid (contB a b = true) := Lib.hid (by have h := HALL.out; rw [et] at h; exact h)
      have HINS : Hid (Ins T1 W (.slice Ai j ci) (contN a b a.rs)) := Lib.hid (by
        have h := HROW.out
        rw [et] at h
        have hl : (contN a b a.rs).length = j := by unfold contN; rw [List.length_map]; exact HMA.out.symm
        rw [← hl] at h ⊢
        exact (Ins.of_own h).mono (fun _ _ _ => trivial))
      clear et
      go_wp2_with fail
      go_ret2
      exact RcPost.yes HXJ.out HYES.out HINS.out

def EqPost (a b : Qr) (w : World) (e : Ending) (w' : World) : Prop := e = .returned (.tuple #[.bool (contT a b && contT b a), .int .i64 (contE a b)]) ∧ Ext w w'
theorem contE_symm {a b : Qr} (h : contE a b = 0) : contE b a = 0 := by
  obtain ⟨h1, h2, h3⟩ := contE_zero h
  unfold contE
  rw [if_pos ⟨h2, h1⟩, if_pos h3.symm]
theorem contT_zero {a b : Qr} (h : contT a b = true) : contE a b = 0 := by
  unfold contT at h
  rw [Bool.and_eq_true] at h
  exact of_decide_eq_true h.1

set_option maxRecDepth 20000 in
set_option maxHeartbeats 1600000 in
theorem equivalent_any (ha : Qc w A c B d O co a) (hb : Qc w A' c' B' d' O' co' b) (oa : QOk a) (ob : QOk b) (htab : TabE w) :
    Calls Tryd.prog 21 #[.agg #[.slice A a.hd.length c, .int .i64 a.ag, .string a.av, .slice B a.rs.length d, .slice O a.no co], .agg #[.slice A' b.hd.length c', .int .i64 b.ag, .string b.av, .slice B' b.rs.length d', .slice O' b.no co']] w (EqPost a b w) := by
  have HC1 := Lib.hid (fun W (hW : Ext w W) => contained_tri (ha.ext hW) (hb.ext hW) oa ob (htab.fore hW))
  have HC2 := Lib.hid (fun W (hW : Ext w W) => contained_tri (hb.ext hW) (ha.ext hW) ob oa (htab.fore hW))
  unfold TriPost at HC1 HC2
  have HSY : Hid (contT a b = true → contE a b = 0 ∧ contE b a = 0) := Lib.hid (fun h => ⟨contT_zero h, contE_symm (contT_zero h)⟩)
  have HNO : Hid (contE a b ≠ 0 → contT a b = false) := Lib.hid (fun h => by
    cases e : contT a b with
    | false => rfl
    | true => exact absurd (contT_zero e) h)
  have HG : Hid (∀ e w', EqPost a b w e w' ↔ e = .returned (.tuple #[.bool (contT a b && contT b a), .int .i64 (contE a b)]) ∧ Ext w w') := Lib.hid (fun e w' => Iff.rfl)
  obtain ⟨P, hP⟩ : ∃ P, P = EqPost a b w := ⟨_, rfl⟩
  rw [← hP] at HG ⊢
  clear hP
  obtain ⟨E1, hE1⟩ : ∃ E, E = contE a b := ⟨_, rfl⟩
  obtain ⟨E2, hE2⟩ : ∃ E, E = contE b a := ⟨_, rfl⟩
  obtain ⟨t1, ht1⟩ : ∃ E, E = contT a b := ⟨_, rfl⟩
  obtain ⟨t2, ht2⟩ : ∃ E, E = contT b a := ⟨_, rfl⟩
  rw [← hE1, ← ht1] at HC1
  rw [← hE2, ← ht2] at HC2
  rw [← hE1, ← hE2, ← ht1] at HSY
  rw [← hE1, ← ht1] at HNO
  rw [← hE1, ← ht1, ← ht2] at HG
  clear ha hb oa ob htab hE1 hE2 ht1 ht2
  generalize a.hd.length = na at *
  generalize b.hd.length = nb at *
  generalize a.rs.length = ma at *
  generalize b.rs.length = mb at *
  generalize a.no = oa1 at *
  generalize b.no = ob1 at *
  generalize a.ag = ag at *
  generalize b.ag = bg at *
  generalize a.av = aa at *
  generalize b.av = ba at *
  go_enter Tryd.func21, Tryd.ntmps21
  go_wp2_with fail
  have h2 := two_q w [.slice A na c, .int .i64 ag, .string aa, .slice B ma d, .slice O oa1 co] [.slice A' nb c', .int .i64 bg, .string ba, .slice B' mb d', .slice O' ob1 co'] _ rfl
  change Bk ((w.alloc (.cells #[.slice A na c, .int .i64 ag, .string aa, .slice B ma d, .slice O oa1 co] 44)).alloc (.cells #[.slice A' nb c', .int .i64 bg, .string ba, .slice B' mb d', .slice O' ob1 co'] 44)) _ _ _ ∧ Bk ((w.alloc (.cells #[.slice A na c, .int .i64 ag, .string aa, .slice B ma d, .slice O oa1 co] 44)).alloc (.cells #[.slice A' nb c', .int .i64 bg, .string ba, .slice B' mb d', .slice O' ob1 co'] 44)) _ _ _ ∧ Ext w ((w.alloc (.cells #[.slice A na c, .int .i64 ag, .string aa, .slice B ma d, .slice O oa1 co] 44)).alloc (.cells #[.slice A' nb c', .int .i64 bg, .string ba, .slice B' mb d', .slice O' ob1 co'] 44)) at h2
  generalize ((w.alloc (.cells #[.slice A na c, .int .i64 ag, .string aa, .slice B ma d, .slice O oa1 co] 44)).alloc (.cells #[.slice A' nb c', .int .i64 bg, .string ba, .slice B' mb d', .slice O' ob1 co'] 44)) = w1 at *
  obtain ⟨ka, kb, hx⟩ := h2
  refine (HC1.out _ hx).mono ?_
  rintro e w2 ⟨v, rfl, he2⟩
  replace ka := ka.ext he2
  replace kb := kb.ext he2
  have HX2 := Lib.hid (hx.trans he2)
  clear hx he2
  rcases t1 with _ | _
  · clear ka kb
    by_cases h0 : E1 = 0
    · subst h0
      go_wp2_with fail
      exact (HG.out _ _).2 ⟨rfl, HX2.out⟩
    · have h1 : (E1 == 0) = false := beq_false_of_ne h0
      go_wp2_with fail
      exact (HG.out _ _).2 ⟨rfl, HX2.out⟩
  · obtain ⟨e1, e2⟩ := HSY.out rfl
    subst e1 e2
    have a0 := ka.cell (i := 0) (by simp); have a1 := ka.cell (i := 1) (by simp); have a2 := ka.cell (i := 2) (by simp); have a3 := ka.cell (i := 3) (by simp); have a4 := ka.cell (i := 4) (by simp)
    have b0 := kb.cell (i := 0) (by simp); have b1 := kb.cell (i := 1) (by simp); have b2 := kb.cell (i := 2) (by simp); have b3 := kb.cell (i := 3) (by simp); have b4 := kb.cell (i := 4) (by simp)
    simp only [List.getElem_cons_zero, List.getElem_cons_succ] at a0 a1 a2 a3 a4 b0 b1 b2 b3 b4
    clear ka kb
    go_wp2_with fail
    refine (HC2.out _ HX2.out).mono ?_
    rintro e w3 ⟨v', rfl, he3⟩
    have HX3 := Lib.hid (HX2.out.trans he3)
    clear he3 a0 a1 a2 a3 a4 b0 b1 b2 b3 b4
    go_wp2_with fail
    exact (HG.out _ _).2 ⟨rfl, HX3.out⟩
end
end Go.Proofs.YtehklbdgkppmeaaDoor
