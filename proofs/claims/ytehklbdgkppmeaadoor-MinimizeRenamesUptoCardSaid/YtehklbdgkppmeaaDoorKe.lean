/- Contract: ordinalref25.Minimal. -/
import Derived.Test.YtehklbdgkppmeaaDoorKd
import Derived.Test.YtehklbdgkppmeaaDoorKc
import Derived.Test.YtehklbdgkppmeaaDoorJl
namespace Go.Proofs.YtehklbdgkppmeaaDoor
open Go.RowKit Go.Maps

theorem info_ats : (Tryd.prog.info? 22).map (fun i => (i.zero, i.size, i.bytes)) = some (some (.slice none 0 0), 1, 24) := by kernel_rfl
/-- A row of its own of slices of atoms; the atoms lie elsewhere. -/
def AssV (w : World) (base : Nat) (v : Value) (n : Nat) (L : List (List At)) (us : List Value) : Prop :=
  us.length = L.length ∧ w.ownsRow base 22 1 v n us ∧ ∀ i (_ : i < L.length) (h' : i < us.length), ∃ B m d, us[i] = .slice B m d ∧ Ats (fun k => v.ownBlock ≠ some k) w (.slice B m d) L[i]
theorem AssV.num {w : World} {base n : Nat} {v : Value} {L : List (List At)} {us : List Value} (h : AssV w base v n L us) : n = L.length := by
  have := h.2.1.1
  rw [h.1] at this
  omega
theorem AssV.ext {w w' : World} {base n : Nat} {v : Value} {L : List (List At)} {us : List Value} (h : AssV w base v n L us) (he : Ext w w') : AssV w' base v n L us :=
  ⟨h.1, own_ext' h.2.1 he, fun i hi hi' => let ⟨B, m, d, h1, h2⟩ := h.2.2 i hi hi'; ⟨B, m, d, h1, h2.ext he⟩⟩
theorem AssV.nil (w : World) (base : Nat) : AssV w base (.slice none 0 0) 0 [] [] := ⟨rfl, World.ownsRow_nil _ _ _ _, fun i h => by simp at h⟩
theorem AssV.more {wr wb w9 : World} {base n : Nat} {v v9 : Value} {L : List (List At)} {us : List Value} {l : List At} {B : Option Addr} {m d : Nat} (h : AssV wr base v n L us) (he : Ext wr wb)
    (ha : Ats (fun k => v.ownBlock ≠ some k) wb (.slice B m d) l)
    (hr : w9.ownsRow base 22 1 v9 (n + 1) (us ++ [.slice B m d])) (hg : wb.grownBy w9 v.ownBlock) (hl : Lands wb v v9) : AssV w9 base v9 (n + 1) (L ++ [l]) (us ++ [.slice B m d]) := by
  obtain ⟨hln, hrow, hts⟩ := h
  have hne : ∀ k, k < wb.heap.size → v.ownBlock ≠ some k → v9.ownBlock ≠ some k := fun k hk h1 h2 => by
    rcases hl with hl | hl
    · exact h1 (hl ▸ h2)
    · rw [hl] at h2; injection h2 with h2; omega
  have hup : ∀ {u : Value} {xs : List At}, Ats (fun k => v.ownBlock ≠ some k) wb u xs → Ats (fun k => v9.ownBlock ≠ some k) w9 u xs := fun hu => (hu.mono (fun k hk h1 => And.intro h1 hk)).fr (grown_fr hg) (fun k hk e => hk.1 e) |>.mono (fun k _ hk => hne k hk.2 hk.1)
  refine ⟨by simp [hln], hr, fun i hi hi' => ?_⟩
  rcases Nat.lt_or_ge i L.length with hx | hx
  · rw [List.getElem_append_left (by omega)]
    obtain ⟨B', m', d', h1, h2⟩ := hts i hx (by omega)
    have e2 : (L ++ [l])[i] = L[i] := List.getElem_append_left hx
    rw [e2]
    exact ⟨B', m', d', h1, hup (h2.ext he)⟩
  · have e : i = L.length := by simp at hi; omega
    subst e
    have e2 : (L ++ [l])[L.length] = l := by simp
    have e3 : (us ++ [Value.slice B m d])[L.length] = Value.slice B m d := by rw [List.getElem_append_right (by omega)]; simp [hln]
    rw [e2, e3]
    exact ⟨B, m, d, rfl, hup ha⟩

def atS (q : Qr) (i : Nat) : List At := ((q.rs[i]?).map Ru.ats).getD []
theorem atS_get {q : Qr} {i : Nat} (h : i < q.rs.length) : atS q i = q.rs[i].ats := by unfold atS; rw [List.getElem?_eq_getElem h]; rfl
/-- The reference: rule k maps to rule i. -/
def relR (q : Qr) (k i : Nat) : Bool := homR (atS q k) q.hd (atS q i) q.hd
def cRf (q : Qr) (i : Nat) : List At := coreRef (atS q i) q.hd
def refL (q : Qr) : List (List At) := (keptL (relR q) q.rs.length).map (cRf q)
def noneTo (R : Nat → Nat → Bool) (i k : Nat) : Bool := !((List.range k).any (fun j => overB R j i))
theorem noneTo_succ (R : Nat → Nat → Bool) (i k : Nat) : noneTo R i (k + 1) = (noneTo R i k && !overB R k i) := by
  unfold noneTo
  rw [List.range_succ, List.any_append, Bool.not_or]
  simp
theorem noneTo_drop (R : Nat → Nat → Bool) (n i : Nat) : noneTo R i n = !dropB R n i := rfl

section
variable {w : World} {A : Option Addr} {c : Nat} {B : Option Addr} {d : Nat} {O : Option Addr} {co : Nat} {q : Qr}
set_option maxRecDepth 100000 in
set_option maxHeartbeats 6400000 in
theorem rminimal_any (hq : Qc w A c B d O co q) (oq : QOk q) (hyes : q.pure = true) :
    Calls Tryd.prog 25 #[.agg #[.slice A q.hd.length c, .int .i64 q.ag, .string q.av, .slice B q.rs.length d, .slice O q.no co]] w (Ret (fun x w' => ∃ us, AssV w' w.heap.size x (refL q).length (refL q) us) w) := by
  have hpq := Qr.pure_iff.1 hyes
  have HPQ : Hid (∀ i, i < q.rs.length → Pq (atS q i)) := Lib.hid (fun i hi => by
    rw [atS_get hi]
    exact hpq.pq oq.ax (List.getElem_mem hi))
  have hat := hq.rs.at2
  have HRA : Hid (∀ i, i < q.rs.length → ∃ ad B' n d', B = some ad ∧ ad.block < w.heap.size ∧ w.cell? (ad.add (i * 2)) = some (.slice B' n d') ∧ Ats (fun k => k < w.heap.size) w (.slice B' n d') (atS q i)) := Lib.hid (fun i hi => by
    obtain ⟨ad, B', n, d', C, e, h1, -, c0, -, ha, -⟩ := hat i hi
    have hlt := cell_lt c0
    rw [block_add] at hlt
    exact ⟨ad, B', n, d', h1, hlt, c0, by rw [atS_get hi]; exact ha.mono (fun k hk _ => hk)⟩)
  have HHD := Lib.hid hq.hd
  have hnh := oq.hl
  obtain ⟨na, hna⟩ : ∃ n, n = q.hd.length := ⟨_, rfl⟩
  obtain ⟨ma, hma⟩ : ∃ n, n = q.rs.length := ⟨_, rfl⟩
  have hma1 : 1 ≤ ma := by rw [hma]; exact hpq.2.1
  have hma3 : ma ≤ 3 := by rw [hma]; exact hpq.2.2.1
  have HHOM : Hid (∀ k i V v1 v2, k < ma → i < ma → Ext w V → Ats T1 V v1 (atS q k) → Ats T1 V v2 (atS q i) → Calls Tryd.prog 17 #[v1, .slice A na c, v2, .slice A na c] V (Ret (fun x _ => x = .bool (relR q k i)) V)) := Lib.hid (fun k i V v1 v2 hk hi hV h1 h2 => by
    rw [hna]
    exact hom25 h1 (hq.hd.ext hV) h2 (hq.hd.ext hV) (Nat.le_refl _) (by have := (HPQ.out k (by omega)).len; omega) (by have := (HPQ.out k (by omega)).t48; omega) (by have := (HPQ.out i (by omega)).len; omega) (by have := (HPQ.out i (by omega)).t48; omega) (by omega))
  have HCORE : Hid (∀ i V v1, i < ma → Ext w V → Ats (fun k => k < w.heap.size) V v1 (atS q i) → Calls Tryd.prog 14 #[v1, .slice A na c] V (Ret (fun x w' => ∃ A' n' c', x = .slice A' n' c' ∧ Ats (fun k => k < w.heap.size ∨ V.heap.size ≤ k) w' (.slice A' n' c') (cRf q i)) V)) := Lib.hid (fun i V v1 hi hV h1 => by
    rw [hna]
    refine (core25f h1 (hq.hd.ext hV) (by have := (HPQ.out i (by omega)).len; omega) (fun a ha => by have := ((HPQ.out i (by omega)).pu a ha).2; omega) (by omega)).mono ?_
    rintro e w' ⟨x, rfl, he, hx⟩
    obtain ⟨A', c', rfl⟩ := hx.sl
    exact Ret.mk he ⟨A', _, c', rfl, hx⟩)
  rw [← hna, ← hma]
  rw [← hma] at HRA
  obtain ⟨R, hR⟩ : ∃ R, R = relR q := ⟨_, rfl⟩
  rw [← hR] at HHOM
  have HRES : Hid (refL q = (keptL R ma).map (cRf q)) := Lib.hid (by rw [hR, hma]; rfl)
  clear hq oq hyes hpq hat hna hma hR HPQ HHD
  generalize q.ag = ag at *
  generalize q.av = av at *
  generalize q.no = no at *
  obtain ⟨p0, hp0, hz0, hz1, hz2⟩ := info_parts info_ats
  have HI0 := Lib.hid (And.intro hp0 (And.intro hz0 (And.intro hz1 hz2)))
  clear hp0 hz0 hz1 hz2
  obtain ⟨ad, rfl⟩ : ∃ ad, B = some ad := by obtain ⟨ad, _, _, _, e, _⟩ := HRA.out 0 (by omega); exact ⟨ad, e⟩
  have HRB : Hid (∀ i, i < ma → ∃ B' n d', w.cell? (ad.add (i * 2)) = some (.slice B' n d') ∧ Ats (fun k => k < w.heap.size) w (.slice B' n d') (atS q i)) := Lib.hid (fun i hi => by
    obtain ⟨ad', B', n, d', e, -, c0, ha⟩ := HRA.out i hi
    injection e with e
    subst e
    exact ⟨B', n, d', c0, ha⟩)
  clear HRA
  go_enter Tryd.func25, Tryd.ntmps25
  go_wp2_with fail
  have kq := Bk.new w 44 [.slice A na c, .int .i64 ag, .string av, .slice (some ad) ma d, .slice O no co]
  change Bk (w.alloc (.cells #[.slice A na c, .int .i64 ag, .string av, .slice (some ad) ma d, .slice O no co] 44)) _ _ _ at kq
  have hx1 : Ext w (w.alloc (.cells #[.slice A na c, .int .i64 ag, .string av, .slice (some ad) ma d, .slice O no co] 44)) := (Ext.refl w).alloc _
  generalize (w.alloc (.cells #[.slice A na c, .int .i64 ag, .string av, .slice (some ad) ma d, .slice O no co] 44)) = w1 at *
  have HKQ := Lib.hid kq; have HX1 := Lib.hid hx1
  clear kq hx1
  go_loopw [3, 4] (fun t p wr => ∃ (i k : Nat) (us : List Value), i ≤ ma ∧ p = .int .i64 (i : Int) ∧ AssV wr w.heap.size t k ((keptTo R ma i).map (cRf q)) us ∧ Bk wr w.heap.size 44 [.slice A na c, .int .i64 ag, .string av, .slice (some ad) ma d, .slice O no co] ∧ Ext w wr) (fun _ p _ => ma - (intOf p).toNat)
  case atStart => exact ⟨0, 0, [], Nat.zero_le _, rfl, AssV.nil _ _, HKQ.out, HX1.out⟩
  case round =>
    obtain ⟨i, k, us, hi, rfl, hV, hbk, hext⟩ := hrel
    obtain ⟨Ao, co2, rfl⟩ := own_slice hV.2.1
    have hki : k ≤ i := by have h1 := hV.num; have h2 := keptTo_length R ma i; rw [List.length_map] at h1; omega
    have a0 := hbk.cell (i := 0) (by simp); have a3 := hbk.cell (i := 3) (by simp)
    simp only [List.getElem_cons_zero, List.getElem_cons_succ] at a0 a3
    have HV := Lib.hid hV; have HBK := Lib.hid hbk; have HXT := Lib.hid hext
    obtain ⟨W, rfl⟩ : ∃ W : World, W = wr := ⟨_, rfl⟩
    clear hV hbk hext
    by_cases hlt : i < ma
    · have i1 : (0 : Int) ≤ (i : Int) := by omega
      have i2 : (i : Int) < (ma : Int) := by omega
      obtain ⟨B1, n1, d1, c1, ha1⟩ := HRB.out i hlt
      replace c1 := HXT.out.cell c1
      have HA1 := Lib.hid ha1; have HC1 := Lib.hid c1; have HC0 := Lib.hid (And.intro a0 a3)
      clear ha1 c1 
      go_wp2_with fail
      clear a0 a3
      go_loopw [5, 6] (fun t p wx => ∃ k : Nat, k ≤ ma ∧ p = .int .i64 (k : Int) ∧ t = .bool (noneTo R i k) ∧ Ext W wx) (fun _ p _ => ma - (intOf p).toNat)
      case atStart => exact ⟨0, Nat.zero_le _, rfl, rfl, Ext.refl _⟩
      case round =>
        obtain ⟨j, hj, rfl, rfl, hex⟩ := hrel
        have HEX := Lib.hid hex
        have a0 := hex.cell HC0.out.1; have a3 := hex.cell HC0.out.2; have c1 := hex.cell HC1.out
        obtain ⟨b, hb⟩ : ∃ b, b = noneTo R i j := ⟨_, rfl⟩
        rw [← hb]
        have HB := Lib.hid hb
        clear hb
        by_cases hjm : j < ma
        · have j1 : (0 : Int) ≤ (j : Int) := by omega
          have j2 : (j : Int) < (ma : Int) := by omega
          obtain ⟨B2, n2, d2, c2, ha2⟩ := HRB.out j hjm
          replace c2 := (HXT.out.trans hex).cell c2
          have HINTO : Hid (∀ V, Ext wr V → Calls Tryd.prog 17 #[.slice B2 n2 d2, .slice A na c, .slice B1 n1 d1, .slice A na c] V (Ret (fun x _ => x = .bool (R j i)) V)) := Lib.hid (fun V hV => by
            have h := (HXT.out.trans hex).trans hV
            exact HHOM.out j i V _ _ hjm hlt h ((ha2.ext h).mono (fun _ _ _ => trivial)) ((HA1.out.ext h).mono (fun _ _ _ => trivial)))
          have HBACK : Hid (∀ V, Ext wr V → Calls Tryd.prog 17 #[.slice B1 n1 d1, .slice A na c, .slice B2 n2 d2, .slice A na c] V (Ret (fun x _ => x = .bool (R i j)) V)) := Lib.hid (fun V hV => by
            have h := (HXT.out.trans hex).trans hV
            exact HHOM.out i j V _ _ hlt hjm h ((HA1.out.ext h).mono (fun _ _ _ => trivial)) ((ha2.ext h).mono (fun _ _ _ => trivial)))
          obtain ⟨b1, hb1⟩ : ∃ b, b = R j i := ⟨_, rfl⟩
          obtain ⟨b2, hb2⟩ : ∃ b, b = R i j := ⟨_, rfl⟩
          rw [← hb1] at HINTO
          rw [← hb2] at HBACK
          have HOV : Hid (noneTo R i (j + 1) = (b && !(decide (j ≠ i) && (b1 && (decide (j < i) || !b2))))) := Lib.hid (by rw [noneTo_succ, ← HB.out]; unfold overB; rw [hb1, hb2])
          clear hb1 hb2 ha2 hex
          go_upto_region 9 with fail
          go_region_held3 (fun V => Ext wr V ∧ V.cell? ⟨w.heap.size, 0, none⟩ = some (.slice A na c) ∧ V.cell? ⟨w.heap.size, 3, none⟩ = some (.slice (some ad) ma d) ∧ V.cell? (ad.add (i * 2)) = some (.slice B1 n1 d1) ∧ V.cell? (ad.add (j * 2)) = some (.slice B2 n2 d2))
            ((refine (fun he => ⟨he, Ext.cell he a0, Ext.cell he a3, Ext.cell he c1, Ext.cell he c2⟩) ?_; repeat (first | exact Ext.refl _ | exact (Ext.refl _).drew | refine Ext.drew ?_ | refine Ext.trans ?_ (by assumption))))
            (first
              | (go_at_call 17; (with_reducible refine (HINTO.out _ (And.left (by assumption))).mono ?_); rintro e wi ⟨yv, rfl, hei, rfl⟩))
          have hf1 := And.left (b := _ ∧ _) (by assumption)
          go_upto_region 10 with fail
          go_region_held3 (fun V => Ext wr V ∧ V.cell? ⟨w.heap.size, 0, none⟩ = some (.slice A na c) ∧ V.cell? ⟨w.heap.size, 3, none⟩ = some (.slice (some ad) ma d) ∧ V.cell? (ad.add (i * 2)) = some (.slice B1 n1 d1) ∧ V.cell? (ad.add (j * 2)) = some (.slice B2 n2 d2))
            ((refine (fun he => ⟨he, Ext.cell he a0, Ext.cell he a3, Ext.cell he c1, Ext.cell he c2⟩) ?_; repeat (first | exact hf1 | exact Ext.refl _ | exact (Ext.refl _).drew | refine Ext.drew ?_ | refine Ext.trans ?_ (by assumption))))
            (first
              | (go_at_call 17; (with_reducible refine (HBACK.out _ (And.left (by assumption))).mono ?_); rintro e wi ⟨yv, rfl, hei, rfl⟩))
          have HFIN := Lib.hid (And.left (b := _ ∧ _) (by assumption))
          clear a0 a3 c1 c2 hf1
          by_cases hij : j = i
          · subst hij
            have hno : noneTo R j (j + 1) = b := by rw [HOV.out]; simp
            have HNO := Lib.hid hno
            clear hno
            go_wp2_with fail
            go_roundw
            case rel => exact ⟨j + 1, by omega, by go_num, by rw [HNO.out], HEX.out.trans HFIN.out⟩
            case measure => simp [intOf]; omega
          have hne : ¬ (j : Int) = (i : Int) := by omega
          rcases b1 with _ | _
          · have hno : noneTo R i (j + 1) = b := by rw [HOV.out]; simp
            have HNO := Lib.hid hno
            clear hno
            go_wp2_with fail
            go_roundw
            case rel => exact ⟨j + 1, by omega, by go_num, by rw [HNO.out], HEX.out.trans HFIN.out⟩
            case measure => simp [intOf]; omega
          rcases b2 with _ | _
          · have hno : noneTo R i (j + 1) = false := by rw [HOV.out]; simp [hij]
            have HNO := Lib.hid hno
            clear hno
            go_wp2_with fail
            go_roundw
            case rel => exact ⟨j + 1, by omega, by go_num, by rw [HNO.out], HEX.out.trans HFIN.out⟩
            case measure => simp [intOf]; omega
          by_cases hlj : (j : Int) < (i : Int)
          · have hno : noneTo R i (j + 1) = false := by
              have h1 : j < i := by omega
              rw [HOV.out]; simp [hij, h1]
            have HNO := Lib.hid hno
            clear hno
            go_wp2_with fail
            go_roundw
            case rel => exact ⟨j + 1, by omega, by go_num, by rw [HNO.out], HEX.out.trans HFIN.out⟩
            case measure => simp [intOf]; omega
          · have hno : noneTo R i (j + 1) = b := by
              have h1 : ¬ j < i := by omega
              rw [HOV.out]; simp [h1]
            have HNO := Lib.hid hno
            clear hno
            go_wp2_with fail
            go_roundw
            case rel => exact ⟨j + 1, by omega, by go_num, by rw [HNO.out], HEX.out.trans HFIN.out⟩
            case measure => simp [intOf]; omega
        · obtain rfl : j = ma := by omega
          have hdj : ¬ (j : Int) < (j : Int) := by omega
          have HDR : Hid (keptTo R j (i + 1) = keptTo R j i ++ (if b = true then [i] else [])) := Lib.hid (by
            rw [keptTo_succ, HB.out, noneTo_drop]
            cases dropB R j i <;> simp)
          have HVR := Lib.hid (HV.out.ext hex); have HBKR := Lib.hid (HBK.out.ext hex); have HXR := Lib.hid (HXT.out.trans hex)
          clear hex
          rcases b with _ | _
          · clear a0 c1
            go_wp2_with fail
            go_roundw
            case rel => exact ⟨i + 1, k, us, by omega, by go_num, by rw [HDR.out]; simpa using HVR.out, HBKR.out, HXR.out⟩
            case measure => simp [intOf]; omega
          · have HCALL := Lib.hid (HCORE.out i wr.drew (.slice B1 n1 d1) hlt HXR.out.drew (HA1.out.ext HXR.out.drew))
            have hwr : w.heap.size ≤ wr.heap.size := HXR.out.size
            have hown : ∀ b, (Value.slice Ao k co2).ownBlock = some b → w.heap.size ≤ b ∧ b < wr.heap.size := fun b hb => HVR.out.2.1.lt b hb
            have HOWN := Lib.hid hown
            clear hown
            go_upto_region 14 with fail
            go_region_law (first
              | (refine step_append_at (by rfl) _ _ _ (by rfl) w.heap.size 22 p0 (.slice none 0 0) 1 24 Tryd.underlying59 HI0.out.1 HI0.out.2.1 HI0.out.2.2.1 HI0.out.2.2.2 rfl (by omega) (.slice Ao k co2) k us (by rfl) (by exact own_ext' HVR.out.2.1 (((Ext.refl wr).drew.trans HEI.out).alloc _)) ⟨wi.heap.size, 0, none⟩ 1 1 [.slice A' n' c'] (by rfl) (by rfl) (by exact laid_news wi _ _) (by simp [Value.oneCell']) (by simp only [maxLen]; omega) (by omega) (by have := HEI.out.size; simp at this ⊢; omega) ?_; intro v9 w9 hr9 hg9 hl9; have HR9 : Hid (AssV w9 w.heap.size v9 (k + 1) ((keptTo R j i).map (cRf q) ++ [cRf q i]) (us ++ [.slice A' n' c'])) := Lib.hid (AssV.more HVR.out (((Ext.refl wr).drew.trans HEI.out).alloc _) (HATS.out.ext ((Ext.refl wi).alloc _)) hr9 hg9 hl9); have HE9 : Hid (Ext w w9) := Lib.hid (((HXR.out.drew.trans HEI.out).alloc _).grown hg9 (fun b hb => (HOWN.out b hb).1)); have HB9 : Hid (Bk w9 w.heap.size 44 [.slice A na c, .int .i64 ag, .string av, .slice (some ad) j d, .slice O no co]) := Lib.hid (Bk.fr (HBKR.out.ext (((Ext.refl wr).drew.trans HEI.out).alloc _)) (grown_fr hg9) (fun e => own_bk HVR.out.2.1 HBKR.out (by decide) e rfl)); clear hr9 hg9 hl9)
              | (go_simp; (with_reducible refine HCALL.out.mono ?_); rintro e wi ⟨xv, rfl, hei, A', n', c', rfl, hats⟩; have HEI := Lib.hid hei; have HATS : Hid (Ats (fun b => (Value.slice Ao k co2).ownBlock ≠ some b) wi (.slice A' n' c') (cRf q i)) := Lib.hid (hats.mono (fun b _ hb e => by have h1 := HOWN.out b e; simp at hb; omega)); clear hei hats; go_wp2_with fail))
            all_goals
              clear a0 a3 c1
              go_wp2_with fail
              go_roundw
              case rel => exact ⟨i + 1, k + 1, us ++ [.slice A' n' c'], by omega, by go_num, by rw [HDR.out]; simpa using HR9.out, HB9.out, HE9.out⟩
              case measure => simp [intOf]; omega
    · obtain rfl : i = ma := by omega
      have hdi : ¬ (i : Int) < (i : Int) := by omega
      have hres : (keptTo R i i).map (cRf q) = refL q := by rw [HRES.out]; rfl
      have hnum := HV.out.num
      rw [hres] at hnum
      have HFINAL : Hid (∃ us, AssV W w.heap.size (.slice Ao k co2) (refL q).length (refL q) us) := Lib.hid ⟨us, by rw [← hres, ← HV.out.num]; exact HV.out⟩
      clear hres hnum
      go_wp2_with fail
      go_ret
      exact Ret.mk HXT.out HFINAL.out
end
end Go.Proofs.YtehklbdgkppmeaaDoor
