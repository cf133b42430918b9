/- MinimizeOrders: plain laws of containment, walk. -/
import Derived.Test.YtehklbdgkppmeaaDoorJi
namespace Go.Proofs.YtehklbdgkppmeaaDoor
open Go.RowKit Go.Maps

theorem firstI_isSome {n : Nat} {p : Nat → Bool} : (firstI n p).isSome = true ↔ ∃ i, i < n ∧ p i = true := by
  unfold firstI
  rw [List.find?_isSome]
  constructor
  · rintro ⟨i, hi, h⟩; exact ⟨i, List.mem_range.1 hi, h⟩
  · rintro ⟨i, hi, h⟩; exact ⟨i, List.mem_range.2 hi, h⟩
theorem contB_iff {a b : Qr} : contB a b = true ↔ ∀ r ∈ a.rs, ∃ s ∈ b.rs, hitB a b r s = true := by
  unfold contB
  rw [List.all_eq_true]
  refine forall_congr' (fun r => forall_congr' (fun _ => ?_))
  unfold hitN
  rw [firstI_isSome]
  constructor
  · rintro ⟨i, hi, h⟩
    rw [List.getElem?_eq_getElem hi] at h
    exact ⟨b.rs[i], List.getElem_mem hi, h⟩
  · rintro ⟨s, hs, h⟩
    obtain ⟨i, hi, rfl⟩ := List.getElem_of_mem hs
    exact ⟨i, hi, by rw [List.getElem?_eq_getElem hi]; exact h⟩
theorem hitB_iff {a b : Qr} {r s : Ru} (hn : b.hd.Nodup) (hl : a.hd.length = b.hd.length) : hitB a b r s = true ↔ HomF (pinZ b.hd a.hd) s.ats r.ats := homR_hom hl (.inl hn)
theorem PureQ.ok {hd : List ByteArray} {ag : Int} {rs : List Ru} (h : PureQ hd ag rs) {r : Ru} (hr : r ∈ rs) : ∀ a ∈ r.ats, a.Pu := (pureL_iff.1 (h.2.2.2.2 r hr).1).1
theorem cont_refl {a : Qr} (h : a.pure = true) : contB a a = true := by
  have hq := Qr.pure_iff.1 h
  refine contB_iff.2 (fun r hr => ⟨r, hr, (hitB_iff hq.2.2.2.1 rfl).2 ?_⟩)
  exact homF_incl (fun a ha => (hq.ok hr a ha).1.2) (fun a h => h) (fun s u h => (pinZ_self.1 h).2.symm)
theorem zip_at {α β : Type} {l : List α} {m : List β} {x : α} {y : β} (h : (x, y) ∈ l.zip m) : ∃ i, ∃ (h1 : i < l.length) (h2 : i < m.length), l[i] = x ∧ m[i] = y := by
  obtain ⟨i, hi, e⟩ := List.getElem_of_mem h
  rw [List.length_zip] at hi
  rw [List.getElem_zip] at e
  injection e with e1 e2
  exact ⟨i, by omega, by omega, e1, e2⟩
theorem zip_mk {α β : Type} {l : List α} {m : List β} {i : Nat} (h1 : i < l.length) (h2 : i < m.length) : (l[i], m[i]) ∈ l.zip m := by
  have h : i < (l.zip m).length := by rw [List.length_zip]; omega
  have e : (l.zip m)[i] = (l[i], m[i]) := List.getElem_zip
  rw [← e]
  exact List.getElem_mem h
theorem pinZ_comp {ah bh ch : List ByteArray} (h1 : ah.length = bh.length) (h2 : bh.length = ch.length) (hz : (⟨#[]⟩ : ByteArray) ∉ bh) {s u : ByteArray} (h : pinZ ch ah s u) : ∃ m, pinZ ch bh s m ∧ pinZ bh ah m u ∧ (m = ⟨#[]⟩ → u = ⟨#[]⟩) := by
  obtain ⟨i, hc, ha, e1, e2⟩ := zip_at h
  have hb : i < bh.length := by omega
  refine ⟨bh[i], ?_, ?_, fun e => absurd (e ▸ List.getElem_mem hb) hz⟩
  · unfold pinZ; rw [← e1]; exact zip_mk hc hb
  · unfold pinZ; rw [← e2]; exact zip_mk hb ha
theorem cont_trans {a b c : Qr} (hb : b.pure = true) (hc : c.pure = true) (h1 : a.hd.length = b.hd.length) (h2 : b.hd.length = c.hd.length) (hab : contB a b = true) (hbc : contB b c = true) : contB a c = true := by
  have hqb := Qr.pure_iff.1 hb
  have hqc := Qr.pure_iff.1 hc
  refine contB_iff.2 (fun r hr => ?_)
  obtain ⟨s, hs, k1⟩ := contB_iff.1 hab r hr
  obtain ⟨t, ht, k2⟩ := contB_iff.1 hbc s hs
  refine ⟨t, ht, (hitB_iff hqc.2.2.2.1 (h1.trans h2)).2 ?_⟩
  exact homF_comp ((hitB_iff hqc.2.2.2.1 h2).1 k2) ((hitB_iff hqb.2.2.2.1 h1).1 k1) (fun s u h => pinZ_comp h1 h2 hqb.noz h)

/-- What the frame knows of a query. -/
structure QG (q : Qr) : Prop where
  rg : ∀ r ∈ q.rs, Rg r.ats
  hs : ∀ v ∈ q.hd, v.size ≤ 1048574
  hl : q.hd.length ≤ 1048576
  rl : q.rs.length ≤ 1048576
theorem QG.ok {q : Qr} (h : QG q) (hf : fewQ q.hd q.rs = true) : QOk q := by
  obtain ⟨h1, h2, h3⟩ := fewQ_iff.1 hf
  rw [List.take_of_length_le h1] at h3
  exact ⟨fun r hr => (h.rg r hr).aok (fun a ha => by have := fewL.terms (h3 r hr) a ha; omega), h.hs, by omega, by omega⟩
def contT (a b : Qr) : Bool := decide (contE a b = 0) && contB a b

section
variable {w : World} {A : Option Addr} {c : Nat} {B : Option Addr} {d : Nat} {O : Option Addr} {co : Nat} {A' : Option Addr} {c' : Nat} {B' : Option Addr} {d' : Nat} {O' : Option Addr} {co' : Nat} {a b : Qr}
def TriPost (a b : Qr) (w : World) (e : Ending) (w' : World) : Prop := ∃ v, e = .returned (.tuple #[v, .bool (contT a b), .int .i64 (contE a b)]) ∧ Ext w w'
theorem contained_tri (ha : Qc w A c B d O co a) (hb : Qc w A' c' B' d' O' co' b) (oa : QOk a) (ob : QOk b) (htab : TabE w) :
    Calls Tryd.prog 20 #[.agg #[.slice A a.hd.length c, .int .i64 a.ag, .string a.av, .slice B a.rs.length d, .slice O a.no co], .agg #[.slice A' b.hd.length c', .int .i64 b.ag, .string b.av, .slice B' b.rs.length d', .slice O' b.no co']] w (TriPost a b w) := by
  have h : Calls Tryd.prog 20 #[.agg #[.slice A a.hd.length c, .int .i64 a.ag, .string a.av, .slice B a.rs.length d, .slice O a.no co], .agg #[.slice A' b.hd.length c', .int .i64 b.ag, .string b.av, .slice B' b.rs.length d', .slice O' b.no co']] w (ContPost a b w) := by
    by_cases h0 : contE a b = 0
    · exact contained_ok ha hb oa ob htab h0
    · exact contained_err ha hb oa ob h0
  refine h.mono (fun e w' hp => ?_)
  obtain ⟨he, hp⟩ := hp
  split at hp
  · rename_i h1
    obtain ⟨v, rfl, -⟩ := hp
    exact ⟨v, by rw [contT, h1.1, h1.2]; rfl, he⟩
  · rename_i h1
    subst hp
    refine ⟨.slice none 0 0, ?_, he⟩
    have : contT a b = false := by
      unfold contT
      by_cases h0 : contE a b = 0
      · cases hb : contB a b with
        | false => simp
        | true => exact absurd ⟨h0, hb⟩ h1
      · rw [decide_eq_false h0]; rfl
    rw [this]
end

/-- Query i of an array of three, in block g. -/
def QArr (w : World) (g : Nat) (qs : Nat → Qr) : Prop := ∀ i, i < 3 → ∃ A c B d O co, Qc w A c B d O co (qs i) ∧ w.cell? ⟨g, i * 5, none⟩ = some (.slice A (qs i).hd.length c) ∧ w.cell? ⟨g, i * 5 + 1, none⟩ = some (.int .i64 (qs i).ag) ∧ w.cell? ⟨g, i * 5 + 2, none⟩ = some (.string (qs i).av) ∧ w.cell? ⟨g, i * 5 + 3, none⟩ = some (.slice B (qs i).rs.length d) ∧ w.cell? ⟨g, i * 5 + 4, none⟩ = some (.slice O (qs i).no co)
theorem QArr.ext {w w' : World} {g : Nat} {qs : Nat → Qr} (h : QArr w g qs) (he : Ext w w') : QArr w' g qs := fun i hi => by
  obtain ⟨A, c, B, d, O, co, h0, h1, h2, h3, h4, h5⟩ := h i hi
  exact ⟨A, c, B, d, O, co, h0.ext he, he.cell h1, he.cell h2, he.cell h3, he.cell h4, he.cell h5⟩

set_option maxRecDepth 100000 in
set_option maxHeartbeats 6400000 in
theorem orders_any {w : World} {qs : Nat → Qr} {A0 B0 O0 A1 B1 O1 A2 B2 O2 : Option Addr} {c0 d0 e0 c1 d1 e1 c2 d2 e2 : Nat} (h0 : Qc w A0 c0 B0 d0 O0 e0 (qs 0)) (h1 : Qc w A1 c1 B1 d1 O1 e1 (qs 1)) (h2 : Qc w A2 c2 B2 d2 O2 e2 (qs 2)) (hg : ∀ i, i < 3 → QG (qs i)) (htab : TabE w) :
    Calls Tryd.prog 5 #[.agg #[.slice A0 (qs 0).hd.length c0, .int .i64 (qs 0).ag, .string (qs 0).av, .slice B0 (qs 0).rs.length d0, .slice O0 (qs 0).no e0, .slice A1 (qs 1).hd.length c1, .int .i64 (qs 1).ag, .string (qs 1).av, .slice B1 (qs 1).rs.length d1, .slice O1 (qs 1).no e1, .slice A2 (qs 2).hd.length c2, .int .i64 (qs 2).ag, .string (qs 2).av, .slice B2 (qs 2).rs.length d2, .slice O2 (qs 2).no e2]] w (Ret (fun x _ => x = .bool true) w) := by
  have HTAB := Lib.hid htab; have HG := Lib.hid hg
  have HQ0 : Hid (∀ W, Bk W w.heap.size 45 [.slice A0 (qs 0).hd.length c0, .int .i64 (qs 0).ag, .string (qs 0).av, .slice B0 (qs 0).rs.length d0, .slice O0 (qs 0).no e0, .slice A1 (qs 1).hd.length c1, .int .i64 (qs 1).ag, .string (qs 1).av, .slice B1 (qs 1).rs.length d1, .slice O1 (qs 1).no e1, .slice A2 (qs 2).hd.length c2, .int .i64 (qs 2).ag, .string (qs 2).av, .slice B2 (qs 2).rs.length d2, .slice O2 (qs 2).no e2] → Ext w W → QArr W w.heap.size qs) := Lib.hid (fun W hb hW i hi => by
    match i, hi with
    | 0, _ => exact ⟨A0, c0, B0, d0, O0, e0, h0.ext hW, hb.cell (i := 0) (by simp), hb.cell (i := 1) (by simp), hb.cell (i := 2) (by simp), hb.cell (i := 3) (by simp), hb.cell (i := 4) (by simp)⟩
    | 1, _ => exact ⟨A1, c1, B1, d1, O1, e1, h1.ext hW, hb.cell (i := 5) (by simp), hb.cell (i := 6) (by simp), hb.cell (i := 7) (by simp), hb.cell (i := 8) (by simp), hb.cell (i := 9) (by simp)⟩
    | 2, _ => exact ⟨A2, c2, B2, d2, O2, e2, h2.ext hW, hb.cell (i := 10) (by simp), hb.cell (i := 11) (by simp), hb.cell (i := 12) (by simp), hb.cell (i := 13) (by simp), hb.cell (i := 14) (by simp)⟩)
  clear h0 h1 h2 hg htab
  go_enter Tryd.func5, Tryd.ntmps5
  go_wp2_with fail
  have kq := Bk.new w 45 [.slice A0 (qs 0).hd.length c0, .int .i64 (qs 0).ag, .string (qs 0).av, .slice B0 (qs 0).rs.length d0, .slice O0 (qs 0).no e0, .slice A1 (qs 1).hd.length c1, .int .i64 (qs 1).ag, .string (qs 1).av, .slice B1 (qs 1).rs.length d1, .slice O1 (qs 1).no e1, .slice A2 (qs 2).hd.length c2, .int .i64 (qs 2).ag, .string (qs 2).av, .slice B2 (qs 2).rs.length d2, .slice O2 (qs 2).no e2]
  change Bk (w.alloc (.cells #[.slice A0 (qs 0).hd.length c0, .int .i64 (qs 0).ag, .string (qs 0).av, .slice B0 (qs 0).rs.length d0, .slice O0 (qs 0).no e0, .slice A1 (qs 1).hd.length c1, .int .i64 (qs 1).ag, .string (qs 1).av, .slice B1 (qs 1).rs.length d1, .slice O1 (qs 1).no e1, .slice A2 (qs 2).hd.length c2, .int .i64 (qs 2).ag, .string (qs 2).av, .slice B2 (qs 2).rs.length d2, .slice O2 (qs 2).no e2] 45)) _ _ _ at kq
  have hx : Ext w (w.alloc (.cells #[.slice A0 (qs 0).hd.length c0, .int .i64 (qs 0).ag, .string (qs 0).av, .slice B0 (qs 0).rs.length d0, .slice O0 (qs 0).no e0, .slice A1 (qs 1).hd.length c1, .int .i64 (qs 1).ag, .string (qs 1).av, .slice B1 (qs 1).rs.length d1, .slice O1 (qs 1).no e1, .slice A2 (qs 2).hd.length c2, .int .i64 (qs 2).ag, .string (qs 2).av, .slice B2 (qs 2).rs.length d2, .slice O2 (qs 2).no e2] 45)) := (Ext.refl w).alloc _
  generalize (w.alloc (.cells #[.slice A0 (qs 0).hd.length c0, .int .i64 (qs 0).ag, .string (qs 0).av, .slice B0 (qs 0).rs.length d0, .slice O0 (qs 0).no e0, .slice A1 (qs 1).hd.length c1, .int .i64 (qs 1).ag, .string (qs 1).av, .slice B1 (qs 1).rs.length d1, .slice O1 (qs 1).no e1, .slice A2 (qs 2).hd.length c2, .int .i64 (qs 2).ag, .string (qs 2).av, .slice B2 (qs 2).rs.length d2, .slice O2 (qs 2).no e2] 45)) = w1 at *
  have HQ1 := Lib.hid (HQ0.out _ kq hx)
  refine (awake_any (HTAB.out.fore hx)).mono ?_
  rintro e w2 ⟨y, rfl, he2, rfl⟩
  have HX2 := Lib.hid (hx.trans he2); have HQ2 := Lib.hid (HQ1.out.ext he2)
  clear kq hx he2 HQ1 HQ0
  go_wp2_with fail
  go_loopw [3] (fun q wr => ∃ i : Nat, i ≤ 3 ∧ q = .int .i64 (i : Int) ∧ (∀ j, j < i → fewQ (qs j).hd (qs j).rs = true ∧ (qs j).pure = true) ∧ Ext w2 wr) (fun q _ => 3 - (intOf q).toNat)
  case atStart => exact ⟨0, Nat.zero_le _, rfl, fun _ h => absurd h (by omega), Ext.refl _⟩
  case round =>
    obtain ⟨i, hi, rfl, hgo, hext⟩ := hrel
    have HGO := Lib.hid hgo; have HXT := Lib.hid hext
    have HXR := Lib.hid (HX2.out.trans hext)
    have HQR := Lib.hid (HQ2.out.ext hext)
    clear hgo hext
    by_cases hlt : i < 3
    · have i1 : (0 : Int) ≤ (i : Int) := by omega
      have i2 : (i : Int) < 3 := by omega
      obtain ⟨A, c, B, d, O, o, hq, q0, q1, q2, q3, q4⟩ := HQR.out i hlt
      have hgi := HG.out i hlt
      have hstep : fewQ (qs i).hd (qs i).rs = true → (qs i).pure = true → ∀ j, j < i + 1 → fewQ (qs j).hd (qs j).rs = true ∧ (qs j).pure = true := fun k1 k2 j hj => by
        rcases Nat.lt_or_ge j i with h | h
        · exact HGO.out j h
        · obtain rfl : j = i := by omega
          exact ⟨k1, k2⟩
      obtain ⟨q, hqq⟩ : ∃ q, q = qs i := ⟨_, rfl⟩
      rw [← hqq] at hq q0 q1 q2 q3 q4 hgi hstep
      have hfew := fewq_any (A := A) (c := c) (ag := q.ag) (av := q.av) (O := O) (no := q.no) (co := o) (hd := q.hd) hq.rs (fun r hr => ⟨(hgi.rg r hr).bd.len, (hgi.rg r hr).bd.all⟩)
      have HQC := Lib.hid hq; have HGI := Lib.hid hgi; have HSTEP := Lib.hid hstep
      obtain ⟨b, hb⟩ : ∃ b, b = fewQ q.hd q.rs := ⟨_, rfl⟩
      rw [← hb] at hfew
      have HFEW := Lib.hid hfew; have HB := Lib.hid hb
      obtain ⟨nh, hnh⟩ : ∃ k, k = q.hd.length := ⟨_, rfl⟩
      obtain ⟨nr, hnr⟩ : ∃ k, k = q.rs.length := ⟨_, rfl⟩
      obtain ⟨no, hno⟩ : ∃ k, k = q.no := ⟨_, rfl⟩
      obtain ⟨ag, hag⟩ : ∃ k, k = q.ag := ⟨_, rfl⟩
      obtain ⟨av, hav⟩ : ∃ k, k = q.av := ⟨_, rfl⟩
      rw [← hnh, ← hnr, ← hno, ← hag, ← hav] at HFEW
      rw [← hnh] at q0
      rw [← hag] at q1
      rw [← hav] at q2
      rw [← hnr] at q3
      rw [← hno] at q4
      have HNM := Lib.hid (And.intro hnh (And.intro hnr (And.intro hno (And.intro hag hav))))
      clear hq hgi hstep hqq hfew hb hnh hnr hno hag hav
      go_wp2_with fail
      refine HFEW.out.mono ?_
      rintro e w3 ⟨y, rfl, he3, rfl⟩
      have HE3 := Lib.hid he3
      replace q0 := he3.cell q0; replace q1 := he3.cell q1; replace q2 := he3.cell q2; replace q3 := he3.cell q3; replace q4 := he3.cell q4
      clear he3
      rcases b with _ | _
      · clear q0 q1 q2 q3 q4
        go_wp2_with fail
        go_ret
        exact Ret.mk (HXR.out.trans HE3.out) rfl
      have hqok := HGI.out.ok HB.out.symm
      have hpq := query25 (ag := q.ag) (av := q.av) (O := O) (no := q.no) (co := o) (HQC.out.hd.ext HE3.out) (HQC.out.rs.ext HE3.out) (fun r hr => (hqok.ax r hr).bd) (by have := hqok.hl; omega) (by have := hqok.rl; omega)
      obtain ⟨b, hb⟩ : ∃ b, b = q.pure := ⟨_, rfl⟩
      rw [show pureQ q.hd q.ag q.rs = b from hb.symm] at hpq
      obtain ⟨hnh, hnr, hno, hag, hav⟩ := HNM.out
      rw [← hnh, ← hnr, ← hno, ← hag, ← hav] at hpq
      have HPQ := Lib.hid hpq; have HB2 := Lib.hid hb; have HQOK := Lib.hid hqok
      clear hqok hpq hb hnh hnr hno hag hav
      go_wp2_with fail
      refine HPQ.out.mono ?_
      rintro e w4 ⟨y, rfl, he4, rfl⟩
      have HE4 := Lib.hid (HE3.out.trans he4)
      replace q0 := he4.cell q0; replace q1 := he4.cell q1; replace q2 := he4.cell q2; replace q3 := he4.cell q3; replace q4 := he4.cell q4
      clear he4
      rcases b with _ | _
      · clear q0 q1 q2 q3 q4
        go_wp2_with fail
        go_ret
        exact Ret.mk (HXR.out.trans HE4.out) rfl
      have HCALL : Hid (∀ V, Ext w4 V → Calls Tryd.prog 20 #[.agg #[.slice A nh c, .int .i64 ag, .string av, .slice B nr d, .slice O no o], .agg #[.slice A nh c, .int .i64 ag, .string av, .slice B nr d, .slice O no o]] V (fun e w' => ∃ v, e = .returned (.tuple #[v, .bool true, .int .i64 0]) ∧ Ext V w')) := Lib.hid (fun V hV => by
        obtain ⟨hnh, hnr, hno, hag, hav⟩ := HNM.out
        have h1 := HQC.out.ext (HE4.out.trans hV)
        have h := contained_tri h1 h1 HQOK.out HQOK.out (HTAB.out.fore ((HXR.out.trans HE4.out).trans hV))
        have e1 : contE q q = 0 := by unfold contE; rw [if_pos ⟨HB2.out.symm, HB2.out.symm⟩, if_pos rfl]
        have e2 : contT q q = true := by unfold contT; rw [e1, cont_refl HB2.out.symm]; rfl
        unfold TriPost at h
        rw [e1, e2, ← hnh, ← hnr, ← hno, ← hag, ← hav] at h
        exact h)
      go_upto_region 8 with fail
      go_region_held3 (fun V => Ext w4 V ∧ V.cell? ⟨w.heap.size, i * 5, none⟩ = some (.slice A nh c) ∧ V.cell? ⟨w.heap.size, i * 5 + 1, none⟩ = some (.int .i64 ag) ∧ V.cell? ⟨w.heap.size, i * 5 + 2, none⟩ = some (.string av) ∧ V.cell? ⟨w.heap.size, i * 5 + 3, none⟩ = some (.slice B nr d) ∧ V.cell? ⟨w.heap.size, i * 5 + 4, none⟩ = some (.slice O no o))
        ((refine (fun he => ⟨he, Ext.cell he q0, Ext.cell he q1, Ext.cell he q2, Ext.cell he q3, Ext.cell he q4⟩) ?_; repeat (first | exact Ext.refl _ | exact (Ext.refl _).drew | refine Ext.drew ?_ | refine Ext.trans ?_ (by assumption))))
        (first
          | (go_at_call 20; (with_reducible refine (HCALL.out _ (And.left (by assumption))).mono ?_); rintro e wi ⟨yv, rfl, hei⟩))
      have HFIN := Lib.hid (And.left (b := _ ∧ _) (by assumption))
      clear q0 q1 q2 q3 q4
      go_wp2_with fail
      go_roundw
      case rel => exact ⟨i + 1, by omega, by go_num, HSTEP.out HB.out.symm HB2.out.symm, (HXT.out.trans HE4.out).trans HFIN.out⟩
      case measure => simp [intOf]; omega
    · obtain rfl : i = 3 := by omega
      obtain ⟨A0, c0, B0, d0, O0, o0, hq0, a0, b0, e0, f0, g0⟩ := HQR.out 0 (by omega)
      obtain ⟨w0, p0⟩ := HGO.out 0 (by omega)
      have k0 := (HG.out 0 (by omega)).ok w0
      obtain ⟨q0, hqq0⟩ : ∃ q, q = qs 0 := ⟨_, rfl⟩
      rw [← hqq0] at hq0 a0 b0 e0 f0 g0 p0 k0
      have HQ0 := Lib.hid hq0; have HP0 := Lib.hid p0; have HK0 := Lib.hid k0
      simp only [Nat.reduceMul, Nat.reduceAdd] at a0 b0 e0 f0 g0
      clear hq0 p0 k0 w0 hqq0
      obtain ⟨A1, c1, B1, d1, O1, o1, hq1, a1, b1, e1, f1, g1⟩ := HQR.out 1 (by omega)
      obtain ⟨w1, p1⟩ := HGO.out 1 (by omega)
      have k1 := (HG.out 1 (by omega)).ok w1
      obtain ⟨q1, hqq1⟩ : ∃ q, q = qs 1 := ⟨_, rfl⟩
      rw [← hqq1] at hq1 a1 b1 e1 f1 g1 p1 k1
      have HQ1 := Lib.hid hq1; have HP1 := Lib.hid p1; have HK1 := Lib.hid k1
      simp only [Nat.reduceMul, Nat.reduceAdd] at a1 b1 e1 f1 g1
      clear hq1 p1 k1 w1 hqq1
      obtain ⟨A2, c2, B2, d2, O2, o2, hq2, a2, b2, e2, f2, g2⟩ := HQR.out 2 (by omega)
      obtain ⟨w2, p2⟩ := HGO.out 2 (by omega)
      have k2 := (HG.out 2 (by omega)).ok w2
      obtain ⟨q2, hqq2⟩ : ∃ q, q = qs 2 := ⟨_, rfl⟩
      rw [← hqq2] at hq2 a2 b2 e2 f2 g2 p2 k2
      have HQ2 := Lib.hid hq2; have HP2 := Lib.hid p2; have HK2 := Lib.hid k2
      simp only [Nat.reduceMul, Nat.reduceAdd] at a2 b2 e2 f2 g2
      clear hq2 p2 k2 w2 hqq2
      have HCx : Hid (∀ V, Ext wr V → Calls Tryd.prog 20 #[.agg #[.slice A0 q0.hd.length c0, .int .i64 q0.ag, .string q0.av, .slice B0 q0.rs.length d0, .slice O0 q0.no o0], .agg #[.slice A1 q1.hd.length c1, .int .i64 q1.ag, .string q1.av, .slice B1 q1.rs.length d1, .slice O1 q1.no o1]] V (TriPost q0 q1 V)) := Lib.hid (fun V hV => contained_tri (HQ0.out.ext hV) (HQ1.out.ext hV) HK0.out HK1.out (HTAB.out.fore (HXR.out.trans hV)))
      have HCy : Hid (∀ V, Ext wr V → Calls Tryd.prog 20 #[.agg #[.slice A1 q1.hd.length c1, .int .i64 q1.ag, .string q1.av, .slice B1 q1.rs.length d1, .slice O1 q1.no o1], .agg #[.slice A2 q2.hd.length c2, .int .i64 q2.ag, .string q2.av, .slice B2 q2.rs.length d2, .slice O2 q2.no o2]] V (TriPost q1 q2 V)) := Lib.hid (fun V hV => contained_tri (HQ1.out.ext hV) (HQ2.out.ext hV) HK1.out HK2.out (HTAB.out.fore (HXR.out.trans hV)))
      have HCz : Hid (∀ V, Ext wr V → Calls Tryd.prog 20 #[.agg #[.slice A0 q0.hd.length c0, .int .i64 q0.ag, .string q0.av, .slice B0 q0.rs.length d0, .slice O0 q0.no o0], .agg #[.slice A2 q2.hd.length c2, .int .i64 q2.ag, .string q2.av, .slice B2 q2.rs.length d2, .slice O2 q2.no o2]] V (TriPost q0 q2 V)) := Lib.hid (fun V hV => contained_tri (HQ0.out.ext hV) (HQ2.out.ext hV) HK0.out HK2.out (HTAB.out.fore (HXR.out.trans hV)))
      have HEx : Hid (contE q0 q1 = if q0.hd.length = q1.hd.length then 0 else 6) := Lib.hid (by unfold contE; rw [if_pos ⟨HP0.out, HP1.out⟩])
      have HEy : Hid (contE q1 q2 = if q1.hd.length = q2.hd.length then 0 else 6) := Lib.hid (by unfold contE; rw [if_pos ⟨HP1.out, HP2.out⟩])
      have HEz : Hid (contE q0 q2 = if q0.hd.length = q2.hd.length then 0 else 6) := Lib.hid (by unfold contE; rw [if_pos ⟨HP0.out, HP2.out⟩])
      have HTR : Hid (contE q0 q1 = 0 → contE q1 q2 = 0 → contE q0 q2 = 0 ∧ (contT q0 q1 = true → contT q1 q2 = true → contT q0 q2 = true)) := Lib.hid (fun h1 h2 => by
        obtain ⟨-, -, l1⟩ := contE_zero h1
        obtain ⟨-, -, l2⟩ := contE_zero h2
        have h3 : contE q0 q2 = 0 := by rw [HEz.out, if_pos (l1.trans l2)]
        refine ⟨h3, fun t1 t2 => ?_⟩
        unfold contT at t1 t2 ⊢
        rw [Bool.and_eq_true] at t1 t2 ⊢
        exact ⟨decide_eq_true h3, cont_trans HP1.out HP2.out l1 l2 t1.2 t2.2⟩)
      unfold TriPost at HCx HCy HCz
      obtain ⟨Ex, hEx⟩ : ∃ E, E = contE q0 q1 := ⟨_, rfl⟩
      obtain ⟨Tx, hTx⟩ : ∃ T, T = contT q0 q1 := ⟨_, rfl⟩
      rw [← hEx, ← hTx] at HCx
      obtain ⟨Ey, hEy⟩ : ∃ E, E = contE q1 q2 := ⟨_, rfl⟩
      obtain ⟨Ty, hTy⟩ : ∃ T, T = contT q1 q2 := ⟨_, rfl⟩
      rw [← hEy, ← hTy] at HCy
      obtain ⟨Ez, hEz⟩ : ∃ E, E = contE q0 q2 := ⟨_, rfl⟩
      obtain ⟨Tz, hTz⟩ : ∃ T, T = contT q0 q2 := ⟨_, rfl⟩
      rw [← hEz, ← hTz] at HCz
      rw [← hEx, ← hEy, ← hEz, ← hTx, ← hTy, ← hTz] at HTR
      clear hEx hEy hEz hTx hTy hTz HEx HEy HEz HQ0 HQ1 HQ2 HP0 HP1 HP2 HK0 HK1 HK2
      generalize q0.hd.length = n0 at *
      generalize q0.rs.length = m0 at *
      generalize q0.no = l0 at *
      generalize q0.ag = y0 at *
      generalize q0.av = x0 at *
      generalize q1.hd.length = n1 at *
      generalize q1.rs.length = m1 at *
      generalize q1.no = l1 at *
      generalize q1.ag = y1 at *
      generalize q1.av = x1 at *
      generalize q2.hd.length = n2 at *
      generalize q2.rs.length = m2 at *
      generalize q2.no = l2 at *
      generalize q2.ag = y2 at *
      generalize q2.av = x2 at *
      have HW := Lib.hid (Ext.refl wr)
      go_wp2_with fail
      refine (HCx.out _ HW.out).mono ?_
      rintro e ux ⟨vx, rfl, hex⟩
      replace a0 := hex.cell a0; replace b0 := hex.cell b0; replace e0 := hex.cell e0; replace f0 := hex.cell f0; replace g0 := hex.cell g0; replace a1 := hex.cell a1; replace b1 := hex.cell b1; replace e1 := hex.cell e1; replace f1 := hex.cell f1; replace g1 := hex.cell g1; replace a2 := hex.cell a2; replace b2 := hex.cell b2; replace e2 := hex.cell e2; replace f2 := hex.cell f2; replace g2 := hex.cell g2
      replace HW := Lib.hid (HW.out.trans hex)
      clear hex
      go_wp2_with fail
      refine (HCy.out _ HW.out).mono ?_
      rintro e uy ⟨vy, rfl, hey⟩
      replace a0 := hey.cell a0; replace b0 := hey.cell b0; replace e0 := hey.cell e0; replace f0 := hey.cell f0; replace g0 := hey.cell g0; replace a1 := hey.cell a1; replace b1 := hey.cell b1; replace e1 := hey.cell e1; replace f1 := hey.cell f1; replace g1 := hey.cell g1; replace a2 := hey.cell a2; replace b2 := hey.cell b2; replace e2 := hey.cell e2; replace f2 := hey.cell f2; replace g2 := hey.cell g2
      replace HW := Lib.hid (HW.out.trans hey)
      clear hey
      go_wp2_with fail
      refine (HCz.out _ HW.out).mono ?_
      rintro e uz ⟨vz, rfl, hez⟩
      replace a0 := hez.cell a0; replace b0 := hez.cell b0; replace e0 := hez.cell e0; replace f0 := hez.cell f0; replace g0 := hez.cell g0; replace a1 := hez.cell a1; replace b1 := hez.cell b1; replace e1 := hez.cell e1; replace f1 := hez.cell f1; replace g1 := hez.cell g1; replace a2 := hez.cell a2; replace b2 := hez.cell b2; replace e2 := hez.cell e2; replace f2 := hez.cell f2; replace g2 := hez.cell g2
      replace HW := Lib.hid (HW.out.trans hez)
      clear hez
      clear a0 b0 e0 f0 g0 a1 b1 e1 f1 g1 a2 b2 e2 f2 g2
      by_cases e1 : Ex = 0
      · by_cases e2 : Ey = 0
        · obtain ⟨e3, ht⟩ := HTR.out e1 e2
          subst e1 e2 e3
          rcases Tx with _ | _
          · clear ht
            go_wp2_with fail
            go_ret
            exact Ret.mk (HXR.out.trans HW.out) rfl
          · rcases Ty with _ | _
            · clear ht
              go_wp2_with fail
              go_ret
              exact Ret.mk (HXR.out.trans HW.out) rfl
            · obtain rfl : Tz = true := ht rfl rfl
              clear ht
              go_wp2_with fail
              go_ret
              exact Ret.mk (HXR.out.trans HW.out) rfl
        · have f2 : (Ey == 0) = false := beq_false_of_ne e2
          subst e1
          go_wp2_with fail
          go_ret
          exact Ret.mk (HXR.out.trans HW.out) rfl
      · have f1 : (Ex == 0) = false := beq_false_of_ne e1
        go_wp2_with fail
        go_ret
        exact Ret.mk (HXR.out.trans HW.out) rfl
end Go.Proofs.YtehklbdgkppmeaaDoor
