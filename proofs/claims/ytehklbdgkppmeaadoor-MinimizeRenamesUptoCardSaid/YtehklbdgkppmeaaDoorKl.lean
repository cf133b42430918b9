/- The walk of MinimizeRenames. -/
import Derived.Test.YtehklbdgkppmeaaDoorKi
import Derived.Test.YtehklbdgkppmeaaDoorKg
namespace Go.Proofs.YtehklbdgkppmeaaDoor
open Go.RowKit Go.Maps

/-- Names in atoms leave room for two letters. -/
def Tight (q : Qr) : Prop := ∀ r ∈ q.rs, ∀ a ∈ r.ats, ∀ t ∈ a.terms, t.var.size ≤ 1048572
theorem rn_aok {xs : List At} (h : AOk xs) (ht : ∀ a ∈ xs, ∀ t ∈ a.terms, t.var.size ≤ 1048572) : AOk (rnL xs) := by
  have hterm : ∀ a ∈ rnL xs, ∀ t ∈ a.terms, ∃ b ∈ xs, ∃ s ∈ b.terms, t = rnT s := fun a ha t hta => by
    obtain ⟨b, hb, rfl⟩ := List.mem_map.1 ha
    obtain ⟨s, hs, rfl⟩ := List.mem_map.1 hta
    exact ⟨b, hb, s, hs, rfl⟩
  refine ⟨⟨by unfold rnL; rw [List.length_map]; exact h.bd.len, by rw [allT_rn, List.length_map]; exact h.bd.all, fun a ha => ?_, fun a ha t hta => ?_⟩, fun a ha => ?_, fun a ha t hta => ?_⟩
  · obtain ⟨b, hb, rfl⟩ := List.mem_map.1 ha
    exact h.bd.rel b hb
  · obtain ⟨b, hb, s, hs, rfl⟩ := hterm a ha t hta
    have h1 := h.bd.str b hb s hs
    have h2 := ht b hb s hs
    by_cases hv : s.var = ⟨#[]⟩
    · rw [rnT_con hv]; exact h1
    · rw [rnT_var hv]
      exact ⟨by show (pre s.var).size ≤ _; rw [pre_size]; omega, h1.2⟩
  · obtain ⟨b, hb, rfl⟩ := List.mem_map.1 ha
    show (b.terms.map rnT).length ≤ 1000
    rw [List.length_map]
    exact h.small b hb
  · obtain ⟨b, hb, s, hs, rfl⟩ := hterm a ha t hta
    obtain ⟨h1, h2, h3, h4, h5, h6⟩ := h.terms b hb s hs
    have h7 := ht b hb s hs
    by_cases hv : s.var = ⟨#[]⟩
    · rw [rnT_con hv]; exact ⟨h1, h2, h3, h4, h5, h6⟩
    · rw [rnT_var hv]
      exact ⟨by show (pre s.var).size ≤ _; rw [pre_size]; omega, h2, h3, h4, h5, h6⟩
theorem preQ_ok {q : Qr} (h : q.pure = true) (ho : QOk q) (ht : Tight q) : QOk (preQ q) := by
  have hq := Qr.pure_iff.1 h
  refine ⟨fun r hr => ?_, fun u hu => ?_, by show (q.hd.map pre).length ≤ 1000; rw [List.length_map]; exact ho.hl, by show (q.rs.map rnR).length ≤ 1000; rw [List.length_map]; exact ho.rl⟩
  · obtain ⟨s, hs, rfl⟩ := List.mem_map.1 hr
    exact rn_aok (ho.ax s hs) (ht s hs)
  · obtain ⟨v, hv, rfl⟩ := List.mem_map.1 hu
    have h0 : 0 < q.rs.length := hq.2.1
    have hm := List.getElem_mem h0
    obtain ⟨t, h1, h2, -⟩ := varsT_iff.1 ((hq.2.2.2.2 _ hm).2 v hv)
    obtain ⟨a, ha, hta⟩ := allT_iff.1 h1
    have h3 := ht _ hm a ha t hta
    rw [h2] at h3
    rw [pre_size]
    omega
theorem RuB.fr {S : Nat → Prop} {w w' : World} {base n : Nat} {v : Value} {rs : List Ru} {ps : List (Value × Value)} (h : RuB w base v n rs ps) (hf : Fr S w w') (hb : ∀ k, base ≤ k → ¬ S k) : RuB w' base v n rs ps :=
  ⟨h.1, own_fr h.2.1 hf (fun k hk => hb k (own_ge h.2.1 hk)), fun i hi hi' => let ⟨B, m, d, C, e, h1, h2, h3⟩ := h.2.2 i hi hi'; ⟨B, m, d, C, e, h1, h2.fr hf (fun k hk => hb k hk.1), h3.fr hf (fun k hk => hb k hk.1)⟩⟩

section
variable {w : World} {A : Option Addr} {c : Nat} {B : Option Addr} {d : Nat} {O : Option Addr} {co : Nat} {q : Qr}
set_option maxRecDepth 100000 in
set_option maxHeartbeats 6400000 in
theorem renames_law (hq : Qc w A c B d O co q) (gq : QG q) (tq : Tight q) (hno : q.no ≤ 1048576) (htab : TabE w) :
    Calls Tryd.prog 8 #[.agg #[.slice A q.hd.length c, .int .i64 q.ag, .string q.av, .slice B q.rs.length d, .slice O q.no co]] w (Ret (fun x _ => x = .bool true) w) := by
  have HTAB := Lib.hid htab
  have HF := Lib.hid (fun W (hW : Ext w W) => fewq_any (A := A) (c := c) (ag := q.ag) (av := q.av) (O := O) (no := q.no) (co := co) (hd := q.hd) (hq.rs.ext hW) (fun r hr => ⟨(gq.rg r hr).bd.len, (gq.rg r hr).bd.all⟩))
  obtain ⟨f, hf⟩ : ∃ f, f = fewQ q.hd q.rs := ⟨_, rfl⟩
  have HQP : Hid (f = true → ∀ W, Ext w W → Calls Tryd.prog 19 #[.agg #[.slice A q.hd.length c, .int .i64 q.ag, .string q.av, .slice B q.rs.length d, .slice O q.no co]] W (Ret (fun x _ => x = .bool q.pure) W)) := Lib.hid (fun h1 W hW => by
    have ok := gq.ok (hf ▸ h1)
    exact query25 (hq.hd.ext hW) (hq.rs.ext hW) (fun r hr => (ok.ax r hr).bd) (by have := ok.hl; omega) (by have := ok.rl; omega))
  have HOK : Hid (f = true → QOk q) := Lib.hid (fun h1 => gq.ok (hf ▸ h1))
  have HB : Hid (f = true → q.pure = true → ∀ W, Ext w W → Calls Tryd.prog 24 #[.agg #[.slice A q.hd.length c, .int .i64 q.ag, .string q.av, .slice B q.rs.length d, .slice O q.no co]] W (fun e w' => ∃ A' c' B' d' O' co', e = .returned (.tuple #[.agg #[.slice A' q.hd.length c', .int .i64 0, .string ⟨#[]⟩, .slice B' (minRs q).length d', .slice O' q.no co'], .int .i64 0]) ∧ Ext W w' ∧ Rus T1 w' (.slice B' (minRs q).length d') (minRs q))) := Lib.hid (fun h1 h2 W hW => (minimal_yes (hq.ext hW) (gq.ok (hf ▸ h1)) h2 hno (htab.fore hW)).mono (fun e w' ⟨a1, a2, a3, a4, a5, a6, e1, e2, e3⟩ => ⟨a1, a2, a3, a4, a5, a6, e1, e2, e3.rs⟩))
  have HA : Hid (f = true → q.pure = true → ∀ W A' c' B' d', Ext w W → Qc W A' c' B' d' none 0 (preQ q) → Calls Tryd.prog 24 #[.agg #[.slice A' q.hd.length c', .int .i64 0, .string ⟨#[]⟩, .slice B' q.rs.length d', .slice none 0 0]] W (fun e w' => ∃ A' c' B' d' O' co', e = .returned (.tuple #[.agg #[.slice A' q.hd.length c', .int .i64 0, .string ⟨#[]⟩, .slice B' (minRs q).length d', .slice O' 0 co'], .int .i64 0]) ∧ Ext W w' ∧ Rus T1 w' (.slice B' (minRs q).length d') ((minRs q).map rnR))) := Lib.hid (fun h1 h2 W A' c' B' d' hW hm => by
    have ok := gq.ok (hf ▸ h1)
    have h := minimal_yes hm (preQ_ok h2 ok tq) (preQ_pure h2) (Nat.zero_le _) (htab.fore hW)
    unfold MinYes at h
    have e1 : (preQ q).hd.length = q.hd.length := List.length_map _
    have e2 : (preQ q).rs.length = q.rs.length := List.length_map _
    have e3 : (minRs (preQ q)).length = (minRs q).length := by rw [preQ_min h2, List.length_map]
    rw [e1, e2, e3] at h
    exact h.mono (fun e w' ⟨a1, a2, a3, a4, a5, a6, e4, e5, e6⟩ => ⟨a1, a2, a3, a4, a5, a6, e4, e5, by
      have h7 : Rus T1 w' (.slice a3 (minRs (preQ q)).length a4) (minRs (preQ q)) := e6.rs
      rw [e3, preQ_min h2] at h7
      exact h7⟩))
  have HEQ : Hid (f = true → q.pure = true → ∀ W A' c' B' d', Ext w W → Qc W A' c' B' d' none 0 (preQ q) → Calls Tryd.prog 21 #[.agg #[.slice A' q.hd.length c', .int .i64 0, .string ⟨#[]⟩, .slice B' q.rs.length d', .slice none 0 0], .agg #[.slice A q.hd.length c, .int .i64 q.ag, .string q.av, .slice B q.rs.length d, .slice O q.no co]] W (fun e w' => e = .returned (.tuple #[.bool true, .int .i64 0]) ∧ Ext W w')) := Lib.hid (fun h1 h2 W A' c' B' d' hW hm => by
    have ok := gq.ok (hf ▸ h1)
    have h := equivalent_any hm (hq.ext hW) (preQ_ok h2 ok tq) ok (htab.fore hW)
    unfold EqPost at h
    obtain ⟨e1, e2, e3⟩ := preQ_equiv h2
    have e4 : (preQ q).hd.length = q.hd.length := List.length_map _
    have e5 : (preQ q).rs.length = q.rs.length := List.length_map _
    rw [e1, e2, e3, e4, e5] at h
    exact h)
  have HQC : Hid (∀ W A' c' B' d', Strs T1 W (.slice A' q.hd.length c') (q.hd.map pre) → Rus T1 W (.slice B' q.rs.length d') (q.rs.map rnR) → Qc W A' c' B' d' none 0 (preQ q)) := Lib.hid (fun W A' c' B' d' h1 h2 => by
    have e4 : (q.hd.map pre).length = q.hd.length := List.length_map _
    have e5 : (q.rs.map rnR).length = q.rs.length := List.length_map _
    rw [← e4] at h1
    rw [← e5] at h2
    exact ⟨h1, h2, Kys.nil _ _⟩)
  have HPM : Hid (f = true → q.pure = true → ∀ r ∈ minRs q, Pq r.ats ∧ Bd r.ats) := Lib.hid (fun h1 h2 r hr => by
    have ok := gq.ok (hf ▸ h1)
    have hm := Qr.pure_iff.1 (min_pure h2 ok)
    exact ⟨hm.pq (min_ok h2 ok).ax hr, (min_okRu h2 ok hr).2.bd⟩)
  have HM3 : Hid (q.pure = true → (minRs q).length ≤ 3 ∧ q.rs.length ≤ 3) := Lib.hid (fun h2 => by have := (min_len h2).2; have := (Qr.pure_iff.1 h2).2.2.1; omega)
  have HRA := Lib.hid hq.rs.at2; have HHD := Lib.hid hq.hd
  have HRB : Hid (∀ r ∈ q.rs, Bd r.ats) := Lib.hid (fun r hr => (gq.rg r hr).bd)
  have HSZ := Lib.hid gq.hs
  have hhl := gq.hl
  rw [← hf] at HF
  clear hq gq htab hf hno tq
  obtain ⟨na, hna⟩ : ∃ n, n = q.hd.length := ⟨_, rfl⟩
  obtain ⟨nm, hnm⟩ : ∃ n, n = (minRs q).length := ⟨_, rfl⟩
  obtain ⟨mq, hmq⟩ : ∃ n, n = q.rs.length := ⟨_, rfl⟩
  rw [← hna] at HF HQP HB HA HEQ HQC HHD hhl ⊢
  rw [← hnm] at HB HA HM3
  rw [← hmq] at HF HQP HB HA HEQ HQC HM3 ⊢
  have HNA := Lib.hid hna; have HNM := Lib.hid hnm; have HMQ := Lib.hid hmq
  clear hna hnm hmq
  obtain ⟨no, hno⟩ : ∃ n, n = q.no := ⟨_, rfl⟩
  obtain ⟨ag, hag⟩ : ∃ n, n = q.ag := ⟨_, rfl⟩
  obtain ⟨av, hav⟩ : ∃ n, n = q.av := ⟨_, rfl⟩
  rw [← hag, ← hav, ← hno] at HF HQP HB HEQ ⊢
  clear hag hav hno
  obtain ⟨p, hp⟩ : ∃ p, p = q.pure := ⟨_, rfl⟩
  rw [← hp] at HQP HB HA HEQ HPM HM3
  clear hp
  obtain ⟨p0, hp0, hz0, hz1, hz2⟩ := info_parts info_rule
  have HI0 := Lib.hid (And.intro hp0 (And.intro hz0 (And.intro hz1 hz2)))
  clear hp0 hz0 hz1 hz2
  obtain ⟨j0, hj0, hy0, hy1, hy2⟩ := info_parts info_string
  have HJ0 := Lib.hid (And.intro hj0 (And.intro hy0 (And.intro hy1 hy2)))
  clear hj0 hy0 hy1 hy2
  go_enter Tryd.func8, Tryd.ntmps8
  go_wp2_with fail
  have kq := Bk.new w 44 [.slice A na c, .int .i64 ag, .string av, .slice B mq d, .slice O no co]
  change Bk (w.alloc (.cells #[.slice A na c, .int .i64 ag, .string av, .slice B mq d, .slice O no co] 44)) _ _ _ at kq
  have hx : Ext w (w.alloc (.cells #[.slice A na c, .int .i64 ag, .string av, .slice B mq d, .slice O no co] 44)) := (Ext.refl w).alloc _
  generalize (w.alloc (.cells #[.slice A na c, .int .i64 ag, .string av, .slice B mq d, .slice O no co] 44)) = w1 at *
  refine (awake_any (HTAB.out.fore hx)).mono ?_
  rintro e w2 ⟨y, rfl, he, rfl⟩
  replace kq := kq.ext he
  have HX := Lib.hid (hx.trans he)
  have a0 := kq.cell (i := 0) (by simp); have a1 := kq.cell (i := 1) (by simp); have a2 := kq.cell (i := 2) (by simp); have a3 := kq.cell (i := 3) (by simp); have a4 := kq.cell (i := 4) (by simp)
  simp only [List.getElem_cons_zero, List.getElem_cons_succ] at a0 a1 a2 a3 a4
  clear hx he
  go_wp2_with fail
  refine (HF.out _ HX.out).mono ?_
  rintro e w3 ⟨y, rfl, he, rfl⟩
  replace a0 := he.cell a0; replace a1 := he.cell a1; replace a2 := he.cell a2; replace a3 := he.cell a3; replace a4 := he.cell a4
  replace HX := Lib.hid (HX.out.trans he)
  replace kq := kq.ext he
  clear he
  rcases f with _ | _
  · clear a0 a1 a2 a3 a4 kq
    go_wp2_with fail
    go_ret
    exact Ret.mk HX.out rfl
  go_wp2_with fail
  refine (HQP.out (by trivial) _ HX.out).mono ?_
  rintro e w4 ⟨y, rfl, he, rfl⟩
  replace a0 := he.cell a0; replace a1 := he.cell a1; replace a2 := he.cell a2; replace a3 := he.cell a3; replace a4 := he.cell a4
  replace HX := Lib.hid (HX.out.trans he)
  replace kq := kq.ext he
  clear he
  rcases p with _ | _
  · clear a0 a1 a2 a3 a4 kq
    go_wp2_with fail
    go_ret
    exact Ret.mk HX.out rfl
  obtain ⟨hnm3, hmq3⟩ := HM3.out (by trivial)
  clear a0 a1 a2 a3 a4
  go_upto_region 6 with fail
  have kp := Bk.new w4 44 [.slice none 0 0, .int .i64 0, .string ⟨#[]⟩, .slice none 0 0, .slice none 0 0]
  change Bk (w4.alloc (.cells #[.slice none 0 0, .int .i64 0, .string ⟨#[]⟩, .slice none 0 0, .slice none 0 0] 44)) _ _ _ at kp
  have hx : Ext w4 (w4.alloc (.cells #[.slice none 0 0, .int .i64 0, .string ⟨#[]⟩, .slice none 0 0, .slice none 0 0] 44)) := (Ext.refl w4).alloc _
  have hw4 : w.heap.size < w4.heap.size := kq.lt
  generalize (w4.alloc (.cells #[.slice none 0 0, .int .i64 0, .string ⟨#[]⟩, .slice none 0 0, .slice none 0 0] 44)) = w5 at *
  replace HX := Lib.hid (HX.out.trans hx)
  replace kq := kq.ext hx
  have hw5 : w4.heap.size < w5.heap.size := kp.lt
  have HKQ := Lib.hid kq; have HKP := Lib.hid kp
  clear kq kp hx
  go_wp2_with fail
  go_loopw [4] (fun t wr => ∃ (i : Nat) (u : Value), i ≤ na ∧ t = .int .i64 (i : Int) ∧ Bk wr w4.heap.size 44 [u, .int .i64 0, .string ⟨#[]⟩, .slice none 0 0, .slice none 0 0] ∧ wr.ownsRow w5.heap.size 9 1 u i (((q.hd.take i).map pre).map Sv) ∧ Fr (fun b => b = w4.heap.size) w5 wr) (fun t _ => na - (intOf t).toNat)
  case atStart => exact ⟨0, _, Nat.zero_le _, rfl, HKP.out, World.ownsRow_nil _ _ _ _, Fr.refl _ _⟩
  case round =>
    obtain ⟨i, u, hi, rfl, hbk, hrow, hfr⟩ := hrel
    obtain ⟨Au, cu, rfl⟩ := own_slice hrow
    have HBK := Lib.hid hbk; have HROW := Lib.hid hrow; have HFR := Lib.hid hfr
    have HXR := Lib.hid (hfr.new HX.out (fun b hb => by omega))
    have hkq := HKQ.out.fr hfr (by omega)
    have HKQR := Lib.hid hkq
    have hwr5 : w5.heap.size ≤ wr.heap.size := hfr.size
    have a0 := hkq.cell (i := 0) (by simp); have a3 := hkq.cell (i := 3) (by simp)
    have g0 := hbk.cell (i := 0) (by simp); have gf := hbk.free 0
    simp only [List.getElem_cons_zero, List.getElem_cons_succ] at a0 a3 g0
    clear hbk hrow hfr hkq
    by_cases hlt : i < na
    · have i1 : (0 : Int) ≤ (i : Int) := by omega
      have i2 : (i : Int) < (na : Int) := by omega
      have hil : i < q.hd.length := by have := HNA.out; omega
      obtain ⟨adh, rfl, -, c0⟩ : ∃ adh, A = some adh ∧ True ∧ w.cell? (adh.add i) = some (.string q.hd[i]) := by
        obtain ⟨A9, c9, e, -, hcl⟩ := HHD.out
        injection e with e1
        subst e1
        obtain ⟨adh, h1, -, h2⟩ := hcl.str hil
        exact ⟨adh, h1, trivial, h2⟩
      replace c0 := HXR.out.cell c0
      have htk : ((q.hd.take (i + 1)).map pre).map Sv = ((q.hd.take i).map pre).map Sv ++ [.string (pre q.hd[i])] := by rw [List.take_succ_eq_append_getElem hil, List.map_append, List.map_append]; rfl
      have hss := HSZ.out _ (List.getElem_mem hil)
      obtain ⟨s, hs⟩ : ∃ s, s = q.hd[i] := ⟨_, rfl⟩
      rw [← hs] at c0 htk hss
      have hps : (⟨#[118, 95]⟩ : ByteArray) ++ s = pre s := rfl
      have hsz2 : ¬ 9223372036854775807 < 2 + s.size := by omega
      have HTK := Lib.hid htk
      have g0a := ((Ext.refl wr).alloc (.cells #[.string (pre s)] 9)).cell g0
      clear htk hs a3
      go_upto_region 9 with fail
      go_region_law (first
        | (refine step_append_at (by rfl) _ _ _ (by rfl) w5.heap.size 9 j0 (.string ⟨#[]⟩) 1 16 Tryd.underlying26 HJ0.out.1 HJ0.out.2.1 HJ0.out.2.2.1 HJ0.out.2.2.2 rfl (by omega) (.slice Au i cu) i (((q.hd.take i).map pre).map Sv) (by rfl) (by exact own_ext' HROW.out ((Ext.refl wr).alloc _).drew) ⟨wr.heap.size, 0, none⟩ 1 1 [.string (pre s)] (by rfl) (by rfl) (by exact laid_news wr _ _) (by simp [Value.oneCell']) (by simp only [maxLen]; omega) (by omega) (by simp; omega) ?_; intro v9 w9 hr9 hg9 hl9; obtain ⟨A9, c9, rfl⟩ := own_slice hr9; have hb9 : Bk w9 w4.heap.size 44 [.slice Au i cu, .int .i64 0, .string ⟨#[]⟩, .slice none 0 0, .slice none 0 0] := Bk.fr (HBK.out.ext ((Ext.refl wr).alloc _).drew) (grown_fr hg9) (fun e => own_bk HROW.out HBK.out (by decide) e rfl); have q9 := hb9.cell (i := 0) (by simp); have f9 := hb9.free 0; simp only [List.getElem_cons_zero, List.getElem_cons_succ] at q9; have HB9 := Lib.hid hb9; have HR9 := Lib.hid hr9; have HG9 := Lib.hid hg9; clear hb9 hr9 hg9 hl9))
      all_goals
        have HBB := Lib.hid (HB9.out.set 0 (.slice A9 (i + 1) c9))
        have hfz : Fr (fun b => b = w4.heap.size) w9 (w9.setCell ⟨w4.heap.size, 0, none⟩ (.slice A9 (i + 1) c9)) := (Fr.refl (fun b => b = w4.heap.size) w9).setCell (p := ⟨w4.heap.size, 0, none⟩) (.inl rfl) _
        have HFF : Hid (Fr (fun b => b = w4.heap.size) w5 (w9.setCell ⟨w4.heap.size, 0, none⟩ (.slice A9 (i + 1) c9))) := Lib.hid (((HFR.out.ext ((Ext.refl wr).alloc _).drew).grown HG9.out (fun b hb => .inr (own_ge HROW.out hb))).trans hfz)
        have HRR := Lib.hid (own_fr HR9.out hfz (fun b hb e => by have := own_ge HR9.out hb; omega))
        clear hfz q9 f9 g0 g0a
        go_wp2_with fail
        go_roundw
        case rel => exact ⟨i + 1, .slice A9 (i + 1) c9, by omega, by go_num, HBB.out, by rw [HTK.out]; exact HRR.out, HFF.out⟩
        case measure => simp [intOf]; omega
    · obtain rfl : i = na := by omega
      have hdi : ¬ (i : Int) < (i : Int) := by omega
      have et : q.hd.take i = q.hd := by rw [HNA.out]; exact List.take_length
      rw [et] at HROW
      clear et
      obtain ⟨w6, rfl⟩ : ∃ W : World, W = wr := ⟨_, rfl⟩
      go_wp2_with fail
      clear a0 a3 g0 gf
      go_loopw [5] (fun t wr => ∃ (j : Nat) (u : Value) (ps : List (Value × Value)), j ≤ mq ∧ t = .int .i64 (j : Int) ∧ Bk wr w4.heap.size 44 [.slice Au i cu, .int .i64 0, .string ⟨#[]⟩, u, .slice none 0 0] ∧ RuB wr w6.heap.size u j ((q.rs.take j).map rnR) ps ∧ Fr (fun b => b = w4.heap.size) w6 wr) (fun t _ => mq - (intOf t).toNat)
      case atStart => exact ⟨0, _, [], Nat.zero_le _, rfl, HBK.out, RuB.nil _ _, Fr.refl _ _⟩
      case round =>
        obtain ⟨j, u, ps, hj, rfl, hbk, hV, hfr⟩ := hrel
        obtain ⟨Ar, cr, rfl⟩ := own_slice hV.2.1
        obtain ⟨W, rfl⟩ : ∃ W : World, W = wr := ⟨_, rfl⟩
        have HBK2 := Lib.hid hbk; have HV := Lib.hid hV; have HFR2 := Lib.hid hfr
        have HXW := Lib.hid (hfr.new HXR.out (fun b hb => by omega))
        have hkq := HKQR.out.fr hfr (by omega)
        have HKQW := Lib.hid hkq
        have hw6 : w6.heap.size ≤ W.heap.size := hfr.size
        have a0 := hkq.cell (i := 0) (by simp); have a3 := hkq.cell (i := 3) (by simp)
        have g3 := hbk.cell (i := 3) (by simp); have gf := hbk.free 3
        simp only [List.getElem_cons_zero, List.getElem_cons_succ] at a0 a3 g3
        clear hbk hV hfr hkq
        by_cases hjm : j < mq
        · have j1 : (0 : Int) ≤ (j : Int) := by omega
          have j2 : (j : Int) < (mq : Int) := by omega
          have hjl : j < q.rs.length := by have := HMQ.out; omega
          obtain ⟨adr, Br, n, dr, Cr, er, rfl, -, c0, -, hat, -⟩ := HRA.out j hjl
          have hren := renamed25 ((hat.ext HXW.out).ext (Ext.refl W).drew) (HRB.out _ (List.getElem_mem hjl))
          replace c0 := HXW.out.cell c0
          have htk : (q.rs.take (j + 1)).map rnR = (q.rs.take j).map rnR ++ [rnR q.rs[j]] := by rw [List.take_succ_eq_append_getElem hjl, List.map_append]; rfl
          obtain ⟨r, hr⟩ : ∃ r, r = q.rs[j] := ⟨_, rfl⟩
          rw [← hr] at hren htk
          have HTK := Lib.hid htk
          have HREN : Hid (Calls Tryd.prog 26 #[.slice Br n dr, .string ⟨#[118, 95]⟩] W.drew (Ret (fun x w' => ∃ A' n' c', x = .slice A' n' c' ∧ Ats (fun k => W.heap.size ≤ k) w' (.slice A' n' c') (rnR r).ats) W.drew)) := Lib.hid (hren.mono (fun e w' hp => by
            obtain ⟨x, rfl, he, hx⟩ := hp
            obtain ⟨A', c', rfl⟩ := hx.sl
            exact Ret.mk he ⟨A', _, c', rfl, hx⟩))
          have HOWN : Hid (∀ b, (Value.slice Ar j cr).ownBlock = some b → w6.heap.size ≤ b ∧ b < W.heap.size) := Lib.hid (fun b hb => HV.out.2.1.lt b hb)
          clear hat hren htk hr a0
          go_upto_region 13 with fail
          go_region_law (first
            | (refine step_append_at (by rfl) _ _ _ (by rfl) w6.heap.size 25 p0 (.agg #[.slice none 0 0, .slice none 0 0]) 2 48 Tryd.underlying41 HI0.out.1 HI0.out.2.1 HI0.out.2.2.1 HI0.out.2.2.2 rfl (by omega) (.slice Ar j cr) j (pcat ps) (by rfl) (by exact own_ext' HV.out.2.1 (((Ext.refl W).drew.trans HEI.out).alloc _)) ⟨wi.heap.size, 0, none⟩ 1 1 [.slice A' n' c', .slice none 0 0] (by rfl) (by rfl) (by exact laid_news wi _ _) (by simp [Value.oneCell']) (by simp only [maxLen]; omega) (by omega) (by have := HEI.out.size; simp at this ⊢; omega) ?_; intro v9 w9 hr9 hg9 hl9; obtain ⟨A9, c9, e9⟩ := own_slice hr9; subst e9; have hxg := ((Ext.refl W).drew.trans HEI.out).alloc (.cells #[.slice A' n' c', .slice none 0 0] 25); have HR9 : Hid (RuB w9 w6.heap.size (.slice A9 (j + 1) c9) (j + 1) ((q.rs.take j).map rnR ++ [rnR r]) (ps ++ [(.slice A' n' c', .slice none 0 0)])) := Lib.hid (RuB.more HV.out hxg (HATS.out.ext ((Ext.refl wi).alloc _)) (Cns.nil _ _) hr9 hg9 hl9); have hb9 : Bk w9 w4.heap.size 44 [.slice Au i cu, .int .i64 0, .string ⟨#[]⟩, .slice Ar j cr, .slice none 0 0] := Bk.fr (HBK2.out.ext hxg) (grown_fr hg9) (fun e => own_bk HV.out.2.1 HBK2.out (by decide) e rfl); have q9 := hb9.cell (i := 3) (by simp); have f9 := hb9.free 3; simp only [List.getElem_cons_zero, List.getElem_cons_succ] at q9; have HB9 := Lib.hid hb9; have HF9 : Hid (Fr (fun b => b = w4.heap.size) w6 w9) := Lib.hid ((HFR2.out.ext hxg).grown hg9 (fun b hb => .inr (HOWN.out b hb).1)); clear hb9 hr9 hg9 hl9 hxg)
            | (go_simp; (with_reducible refine HREN.out.mono ?_); rintro e wi ⟨xv, rfl, hei, A', n', c', rfl, hats⟩; have HEI := Lib.hid hei; have HATS : Hid (Ats (fun b => w6.heap.size ≤ b ∧ (Value.slice Ar j cr).ownBlock ≠ some b) wi (.slice A' n' c') (rnR r).ats) := Lib.hid (hats.mono (fun b _ hb => ⟨by omega, fun e => by have h1 := HOWN.out b e; omega⟩)); (try (replace g3 := hei.cell ((Ext.refl W).drew.cell g3); have g3a := ((Ext.refl wi).alloc (.cells #[.slice A' n' c', .slice none 0 0] 25)).cell g3)); clear hei hats; go_wp2_with fail))
          all_goals
            have HBB := Lib.hid (HB9.out.set 3 (.slice A9 (j + 1) c9))
            have hfz : Fr (fun b => b = w4.heap.size) w9 (w9.setCell ⟨w4.heap.size, 3, none⟩ (.slice A9 (j + 1) c9)) := (Fr.refl (fun b => b = w4.heap.size) w9).setCell (p := ⟨w4.heap.size, 3, none⟩) (.inl rfl) _
            have HFF := Lib.hid (HF9.out.trans hfz)
            have HRR := Lib.hid (HR9.out.fr hfz (fun b hb e => by omega))
            clear hfz q9 f9 a3
            go_wp2_with fail
            go_roundw
            case rel => exact ⟨j + 1, .slice A9 (j + 1) c9, ps ++ [(.slice A' n' c', .slice none 0 0)], by omega, by go_num, HBB.out, by rw [HTK.out]; exact HRR.out, HFF.out⟩
            case measure => simp [intOf]; omega
        · obtain rfl : j = mq := by omega
          have hdj : ¬ (j : Int) < (j : Int) := by omega
          have et : q.rs.take j = q.rs := by rw [HMQ.out]; exact List.take_length
          have hrus := HV.out.rus
          rw [et] at hrus
          have hstr := Strs.of_own (own_fr HROW.out HFR2.out (fun b hb e => own_bk HROW.out HBK.out (by decide) hb e))
          have hsl : (q.hd.map pre).length = i := by rw [List.length_map]; exact HNA.out.symm
          have hqc := HQC.out W Au cu Ar cr (hstr.mono (fun _ _ _ => trivial)) (hrus.mono (fun _ _ _ => trivial))
          have HPC := Lib.hid hqc
          have hbk := HBK2.out
          have b0 := hbk.cell (i := 0) (by simp); have b1 := hbk.cell (i := 1) (by simp); have b2 := hbk.cell (i := 2) (by simp); have b3 := hbk.cell (i := 3) (by simp); have b4 := hbk.cell (i := 4) (by simp)
          have hkq := HKQW.out
          have a1 := hkq.cell (i := 1) (by simp); have a2 := hkq.cell (i := 2) (by simp); have a4 := hkq.cell (i := 4) (by simp)
          simp only [List.getElem_cons_zero, List.getElem_cons_succ] at a1 a2 a4 b0 b1 b2 b3 b4
          have HXL := Lib.hid HXW.out
          clear et hrus hstr hsl hqc hbk hkq g3 gf
          go_wp2_with fail
          refine (HEQ.out (by trivial) (by trivial) _ _ _ _ _ HXL.out HPC.out).mono ?_
          rintro e w7 ⟨rfl, he⟩
          replace a0 := he.cell a0; replace a1 := he.cell a1; replace a2 := he.cell a2; replace a3 := he.cell a3; replace a4 := he.cell a4; replace b0 := he.cell b0; replace b1 := he.cell b1; replace b2 := he.cell b2; replace b3 := he.cell b3; replace b4 := he.cell b4
          replace HXL := Lib.hid (HXL.out.trans he)
          replace HPC := Lib.hid (HPC.out.ext he)
          clear he
          go_wp2_with fail
          refine (HA.out (by trivial) (by trivial) _ _ _ _ _ HXL.out HPC.out).mono ?_
          rintro e w8 ⟨A3, c3, B3, d3, O3, co3, rfl, he, hra⟩
          replace a0 := he.cell a0; replace a1 := he.cell a1; replace a2 := he.cell a2; replace a3 := he.cell a3; replace a4 := he.cell a4
          replace HXL := Lib.hid (HXL.out.trans he)
          have HRUA := Lib.hid hra
          clear he hra b0 b1 b2 b3 b4
          go_upto_region 16 with fail
          have ka := Bk.new w8 44 [.slice A3 i c3, .int .i64 0, .string ⟨#[]⟩, .slice B3 nm d3, .slice O3 0 co3]
          change Bk (w8.alloc (.cells #[.slice A3 i c3, .int .i64 0, .string ⟨#[]⟩, .slice B3 nm d3, .slice O3 0 co3] 44)) _ _ _ at ka
          have hx : Ext w8 (w8.alloc (.cells #[.slice A3 i c3, .int .i64 0, .string ⟨#[]⟩, .slice B3 nm d3, .slice O3 0 co3] 44)) := (Ext.refl w8).alloc _
          generalize (w8.alloc (.cells #[.slice A3 i c3, .int .i64 0, .string ⟨#[]⟩, .slice B3 nm d3, .slice O3 0 co3] 44)) = w9 at *
          replace a0 := hx.cell a0; replace a1 := hx.cell a1; replace a2 := hx.cell a2; replace a3 := hx.cell a3; replace a4 := hx.cell a4
          replace HXL := Lib.hid (HXL.out.trans hx)
          replace HRUA := Lib.hid (HRUA.out.ext hx)
          have b3 := ka.cell (i := 3) (by simp)
          simp only [List.getElem_cons_zero, List.getElem_cons_succ] at b3
          clear ka hx
          go_wp2_with fail
          refine (HB.out (by trivial) (by trivial) _ HXL.out).mono ?_
          rintro e w10 ⟨A4, c4, B4, d4, O4, co4, rfl, he, hrb⟩
          replace b3 := he.cell b3
          replace HXL := Lib.hid (HXL.out.trans he)
          replace HRUA := Lib.hid (HRUA.out.ext he)
          have HRUB := Lib.hid hrb
          clear he hrb a0 a1 a2 a3 a4
          go_upto_region 17 with fail
          have kb := Bk.new w10 44 [.slice A4 i c4, .int .i64 0, .string ⟨#[]⟩, .slice B4 nm d4, .slice O4 no co4]
          change Bk (w10.alloc (.cells #[.slice A4 i c4, .int .i64 0, .string ⟨#[]⟩, .slice B4 nm d4, .slice O4 no co4] 44)) _ _ _ at kb
          have hx : Ext w10 (w10.alloc (.cells #[.slice A4 i c4, .int .i64 0, .string ⟨#[]⟩, .slice B4 nm d4, .slice O4 no co4] 44)) := (Ext.refl w10).alloc _
          generalize (w10.alloc (.cells #[.slice A4 i c4, .int .i64 0, .string ⟨#[]⟩, .slice B4 nm d4, .slice O4 no co4] 44)) = w11 at *
          replace b3 := hx.cell b3
          replace HXL := Lib.hid (HXL.out.trans hx)
          replace HRUA := Lib.hid (HRUA.out.ext hx)
          replace HRUB := Lib.hid (HRUB.out.ext hx)
          have e3 := kb.cell (i := 3) (by simp)
          simp only [List.getElem_cons_zero, List.getElem_cons_succ] at e3
          have HCC := Lib.hid (And.intro b3 e3)
          clear kb hx
          go_wp2_with fail
          clear b3 e3
          go_loopw [12] (fun t wr => ∃ k : Nat, k ≤ nm ∧ t = .int .i64 (k : Int) ∧ Ext w11 wr) (fun t _ => nm - (intOf t).toNat)
          case atStart => exact ⟨0, Nat.zero_le _, rfl, Ext.refl _⟩
          case round =>
            obtain ⟨k, hk, rfl, hext⟩ := hrel
            have HXT := Lib.hid hext
            obtain ⟨b3, e3⟩ := HCC.out
            replace b3 := hext.cell b3; replace e3 := hext.cell e3
            by_cases hkn : k < nm
            · have k1 : (0 : Int) ≤ (k : Int) := by omega
              have k2 : (k : Int) < (nm : Int) := by omega
              have hkl : k < (minRs q).length := by have := HNM.out; omega
              obtain ⟨ada, Ba, na2, da, Ca, ea, e1, -, f0, -, hra, -⟩ := HRUA.out.at2 k (by rw [List.length_map]; exact hkl)
              obtain ⟨adb, Bb, nb, db, Cb, eb, e2, -, g0, -, hrb, -⟩ := HRUB.out.at2 k hkl
              obtain ⟨hpx, hbx⟩ := HPM.out (by trivial) (by trivial) _ (List.getElem_mem hkl)
              have hra2 : Ats T1 w11 (.slice Ba na2 da) (rnL (minRs q)[k].ats) := by rw [List.getElem_map] at hra; exact hra
              obtain ⟨xs, hxs⟩ : ∃ xs, xs = (minRs q)[k].ats := ⟨_, rfl⟩
              rw [← hxs] at hra2 hrb hpx hbx
              subst e1 e2
              replace f0 := hext.cell f0; replace g0 := hext.cell g0
              have HREN : Hid (∀ V, Ext wr V → Calls Tryd.prog 26 #[.slice Bb nb db, .string ⟨#[118, 95]⟩] V (Ret (fun x w' => ∃ A' n' c', x = .slice A' n' c' ∧ Ats T1 w' (.slice A' n' c') (rnL xs)) V)) := Lib.hid (fun V hV => by
                refine (renamed25 (hrb.ext (hext.trans hV)) hbx).mono ?_
                rintro e w' ⟨x, rfl, he, hx⟩
                obtain ⟨A', c', rfl⟩ := hx.sl
                exact Ret.mk he ⟨A', _, c', rfl, hx.mono (fun _ _ _ => trivial)⟩)
              have HSAME : Hid (∀ V v, Ext wr V → Ats T1 V v (rnL xs) → Calls Tryd.prog 13 #[.slice Ba na2 da, v] V (Ret (fun x _ => x = .bool true) V)) := Lib.hid (fun V v hV hv => by
                have h := sames25 (hra2.ext (hext.trans hV)) hv (by unfold rnL; rw [List.length_map]; exact hbx.len) (by rw [allT_rn, List.length_map]; exact hbx.all)
                rw [sameL_refl] at h
                exact h)
              clear hra hra2 hrb hpx hbx hxs hext
              go_upto_region 22 with fail
              go_region_held3 (fun V => Ext wr V ∧ V.cell? ⟨w8.heap.size, 3, none⟩ = some (.slice (some ada) nm d3) ∧ V.cell? ⟨w10.heap.size, 3, none⟩ = some (.slice (some adb) nm d4) ∧ V.cell? (ada.add (k * 2)) = some (.slice Ba na2 da) ∧ V.cell? (adb.add (k * 2)) = some (.slice Bb nb db))
                ((refine (fun he => ⟨he, Ext.cell he b3, Ext.cell he e3, Ext.cell he f0, Ext.cell he g0⟩) ?_; repeat (first | exact Ext.refl _ | exact (Ext.refl _).drew | refine Ext.drew ?_ | refine Ext.trans ?_ (by assumption))))
                (first
                  | (go_at_call 26; (with_reducible refine (HREN.out _ (And.left (by assumption))).mono ?_); rintro e wi ⟨yv, rfl, hei, A', n', c', rfl, hats⟩)
                  | (go_at_call 13; (with_reducible refine (HSAME.out _ _ (And.left (by assumption)) (by first | assumption | exact hats.ext (by assumption) | exact hats.ext (Ext.refl _).drew)).mono ?_); rintro e wi ⟨yv, rfl, hei, rfl⟩))
              have HFIN := Lib.hid (And.left (b := _ ∧ _) (by assumption))
              clear b3 e3 f0 g0
              go_wp2_with fail
              go_roundw
              case rel => exact ⟨k + 1, by omega, by go_num, HXT.out.trans HFIN.out⟩
              case measure => simp [intOf]; omega
            · obtain rfl : k = nm := by omega
              have hdk : ¬ (k : Int) < (k : Int) := by omega
              clear hext
              go_wp2_with fail
              go_ret
              exact Ret.mk (HXL.out.trans HXT.out) rfl
end
end Go.Proofs.YtehklbdgkppmeaaDoor
