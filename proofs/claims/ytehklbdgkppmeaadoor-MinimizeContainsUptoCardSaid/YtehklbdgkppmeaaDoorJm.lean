/- The walk of MinimizeContains. -/
import Derived.Test.YtehklbdgkppmeaaDoorJl
namespace Go.Proofs.YtehklbdgkppmeaaDoor
open Go.RowKit Go.Maps

section
variable {w : World} {A : Option Addr} {c : Nat} {B : Option Addr} {d : Nat} {O : Option Addr} {co : Nat} {A' : Option Addr} {c' : Nat} {B' : Option Addr} {d' : Nat} {O' : Option Addr} {co' : Nat} {a b : Qr}
def contL (a b : Qr) : List Int := if contT a b = true then contN a b a.rs else []
def Tri2Post (a b : Qr) (w : World) (e : Ending) (w' : World) : Prop := ∃ A c, e = .returned (.tuple #[.slice A (contL a b).length c, .bool (contT a b), .int .i64 (contE a b)]) ∧ Ext w w' ∧ Ins T1 w' (.slice A (contL a b).length c) (contL a b)
theorem Ins.sl {F : Nat → Prop} {w : World} {v : Value} {zs : List Int} (h : Ins F w v zs) : ∃ A c, v = .slice A zs.length c := let ⟨A, c, e, _⟩ := h; ⟨A, c, e⟩
theorem contained_full (ha : Qc w A c B d O co a) (hb : Qc w A' c' B' d' O' co' b) (oa : QOk a) (ob : QOk b) (htab : TabE w) :
    Calls Tryd.prog 20 #[.agg #[.slice A a.hd.length c, .int .i64 a.ag, .string a.av, .slice B a.rs.length d, .slice O a.no co], .agg #[.slice A' b.hd.length c', .int .i64 b.ag, .string b.av, .slice B' b.rs.length d', .slice O' b.no co']] w (Tri2Post a b w) := by
  have h : Calls Tryd.prog 20 #[.agg #[.slice A a.hd.length c, .int .i64 a.ag, .string a.av, .slice B a.rs.length d, .slice O a.no co], .agg #[.slice A' b.hd.length c', .int .i64 b.ag, .string b.av, .slice B' b.rs.length d', .slice O' b.no co']] w (ContPost a b w) := by
    by_cases h0 : contE a b = 0
    · exact contained_ok ha hb oa ob htab h0
    · exact contained_err ha hb oa ob h0
  refine h.mono (fun e w' hp => ?_)
  obtain ⟨he, hp⟩ := hp
  split at hp
  · rename_i h1
    obtain ⟨v, rfl, hv⟩ := hp
    have ht : contT a b = true := by rw [contT, h1.1, h1.2]; rfl
    have hl : contL a b = contN a b a.rs := by rw [contL, if_pos ht]
    rw [← hl] at hv
    obtain ⟨A9, c9, rfl⟩ := hv.sl
    exact ⟨A9, c9, by rw [ht, h1.1], he, hv⟩
  · rename_i h1
    subst hp
    have ht : contT a b = false := by
      unfold contT
      by_cases h0 : contE a b = 0
      · cases hb : contB a b with
        | false => simp
        | true => exact absurd ⟨h0, hb⟩ h1
      · rw [decide_eq_false h0]; rfl
    have hl : contL a b = [] := by rw [contL, if_neg (by rw [ht]; simp)]
    refine ⟨none, 0, by rw [ht, hl]; rfl, he, by rw [hl]; exact Ins.nil _ _⟩
theorem contT_eq {a b : Qr} (h : contE a b = 0) : contT a b = contB a b := by unfold contT; rw [h]; rfl

set_option maxRecDepth 100000 in
set_option maxHeartbeats 6400000 in
theorem contains_any (ha : Qc w A c B d O co a) (hb : Qc w A' c' B' d' O' co' b) (ga : QG a) (gb : QG b) (htab : TabE w) :
    Calls Tryd.prog 6 #[.agg #[.slice A a.hd.length c, .int .i64 a.ag, .string a.av, .slice B a.rs.length d, .slice O a.no co], .agg #[.slice A' b.hd.length c', .int .i64 b.ag, .string b.av, .slice B' b.rs.length d', .slice O' b.no co']] w (Ret (fun x _ => x = .bool true) w) := by
  have HTAB := Lib.hid htab
  have HFA := Lib.hid (fun W (hW : Ext w W) => fewq_any (A := A) (c := c) (ag := a.ag) (av := a.av) (O := O) (no := a.no) (co := co) (hd := a.hd) (ha.rs.ext hW) (fun r hr => ⟨(ga.rg r hr).bd.len, (ga.rg r hr).bd.all⟩))
  have HFB := Lib.hid (fun W (hW : Ext w W) => fewq_any (A := A') (c := c') (ag := b.ag) (av := b.av) (O := O') (no := b.no) (co := co') (hd := b.hd) (hb.rs.ext hW) (fun r hr => ⟨(gb.rg r hr).bd.len, (gb.rg r hr).bd.all⟩))
  obtain ⟨fa, hfa⟩ : ∃ f, f = fewQ a.hd a.rs := ⟨_, rfl⟩
  obtain ⟨fb, hfb⟩ : ∃ f, f = fewQ b.hd b.rs := ⟨_, rfl⟩
  have HC1 : Hid (fa = true → fb = true → ∀ W, Ext w W → Calls Tryd.prog 20 #[.agg #[.slice A a.hd.length c, .int .i64 a.ag, .string a.av, .slice B a.rs.length d, .slice O a.no co], .agg #[.slice A' b.hd.length c', .int .i64 b.ag, .string b.av, .slice B' b.rs.length d', .slice O' b.no co']] W (fun e w' => ∃ A c, e = .returned (.tuple #[.slice A (contL a b).length c, .bool (contT a b), .int .i64 (contE a b)]) ∧ Ext W w' ∧ Ins T1 w' (.slice A (contL a b).length c) (contL a b))) := Lib.hid (fun h1 h2 W hW => contained_full (ha.ext hW) (hb.ext hW) (ga.ok (hfa ▸ h1)) (gb.ok (hfb ▸ h2)) (htab.fore hW))
  have HC2 : Hid (fa = true → fb = true → ∀ W, Ext w W → Calls Tryd.prog 21 #[.agg #[.slice A a.hd.length c, .int .i64 a.ag, .string a.av, .slice B a.rs.length d, .slice O a.no co], .agg #[.slice A' b.hd.length c', .int .i64 b.ag, .string b.av, .slice B' b.rs.length d', .slice O' b.no co']] W (fun e w' => e = .returned (.tuple #[.bool (contT a b && contT b a), .int .i64 (contE a b)]) ∧ Ext W w')) := Lib.hid (fun h1 h2 W hW => equivalent_any (ha.ext hW) (hb.ext hW) (ga.ok (hfa ▸ h1)) (gb.ok (hfb ▸ h2)) (htab.fore hW))
  have HQA : Hid (fa = true → ∀ W, Ext w W → Calls Tryd.prog 19 #[.agg #[.slice A a.hd.length c, .int .i64 a.ag, .string a.av, .slice B a.rs.length d, .slice O a.no co]] W (Ret (fun x _ => x = .bool a.pure) W)) := Lib.hid (fun h1 W hW => by
    have ok := ga.ok (hfa ▸ h1)
    exact query25 (ha.hd.ext hW) (ha.rs.ext hW) (fun r hr => (ok.ax r hr).bd) (by have := ok.hl; omega) (by have := ok.rl; omega))
  have HQB : Hid (fb = true → ∀ W, Ext w W → Calls Tryd.prog 19 #[.agg #[.slice A' b.hd.length c', .int .i64 b.ag, .string b.av, .slice B' b.rs.length d', .slice O' b.no co']] W (Ret (fun x _ => x = .bool b.pure) W)) := Lib.hid (fun h1 W hW => by
    have ok := gb.ok (hfb ▸ h1)
    exact query25 (hb.hd.ext hW) (hb.rs.ext hW) (fun r hr => (ok.ax r hr).bd) (by have := ok.hl; omega) (by have := ok.rl; omega))
  have HR1 : Hid (fa = true → fb = true → contE a b = 0 → ∀ W, Ext w W → Calls Tryd.prog 22 #[.agg #[.slice A a.hd.length c, .int .i64 a.ag, .string a.av, .slice B a.rs.length d, .slice O a.no co], .agg #[.slice A' b.hd.length c', .int .i64 b.ag, .string b.av, .slice B' b.rs.length d', .slice O' b.no co']] W (fun e w' => ∃ v, e = .returned (.tuple #[v, .bool (contT a b)]) ∧ Ext W w' ∧ Ins T1 w' v (contL a b))) := Lib.hid (fun h1 h2 h0 W hW => by
    have h := rcontained_any (ha.ext hW) (hb.ext hW) (ga.ok (hfa ▸ h1)) (gb.ok (hfb ▸ h2)) h0
    unfold RcPost at h
    unfold contL
    rw [contT_eq h0]
    exact h)
  have HR2 : Hid (fa = true → fb = true → contE a b = 0 → ∀ W, Ext w W → Calls Tryd.prog 22 #[.agg #[.slice A' b.hd.length c', .int .i64 b.ag, .string b.av, .slice B' b.rs.length d', .slice O' b.no co'], .agg #[.slice A a.hd.length c, .int .i64 a.ag, .string a.av, .slice B a.rs.length d, .slice O a.no co]] W (fun e w' => ∃ v, e = .returned (.tuple #[v, .bool (contT b a)]) ∧ Ext W w')) := Lib.hid (fun h1 h2 h0 W hW => by
    have h := rcontained_any (hb.ext hW) (ha.ext hW) (gb.ok (hfb ▸ h2)) (ga.ok (hfa ▸ h1)) (contE_symm h0)
    rw [contT_eq (contE_symm h0)]
    exact h.mono (fun e w' ⟨v, e1, e2, _⟩ => ⟨v, e1, e2⟩))
  have HE : Hid (contE a b = if a.pure = true ∧ b.pure = true then (if a.hd.length = b.hd.length then 0 else 6) else 1) := Lib.hid rfl
  have HT : Hid (contE a b ≠ 0 → contT a b = false) := Lib.hid (fun h => by
    cases e : contT a b with
    | false => rfl
    | true => exact absurd (contT_zero e) h)
  have HL : Hid (contT a b = false → contL a b = []) := Lib.hid (fun h => by rw [contL, if_neg (by rw [h]; simp)])
  have HLL : Hid ((contL a b).length ≤ 1048576) := Lib.hid (by
    unfold contL
    split
    · unfold contN; rw [List.length_map]; exact ga.rl
    · simp)
  rw [← hfa] at HFA
  rw [← hfb] at HFB
  clear ha hb ga gb htab hfa hfb
  obtain ⟨E, hE⟩ : ∃ E, E = contE a b := ⟨_, rfl⟩
  rw [← hE] at HC1 HC2 HR1 HR2 HE HT
  obtain ⟨t1, ht1⟩ : ∃ E, E = contT a b := ⟨_, rfl⟩
  rw [← ht1] at HC1 HC2 HR1 HT HL
  obtain ⟨t2, ht2⟩ : ∃ E, E = contT b a := ⟨_, rfl⟩
  rw [← ht2] at HC2 HR2
  obtain ⟨zs, hzs⟩ : ∃ E, E = contL a b := ⟨_, rfl⟩
  rw [← hzs] at HC1 HR1 HL HLL
  obtain ⟨pa, hpa⟩ : ∃ E, E = a.pure := ⟨_, rfl⟩
  rw [← hpa] at HQA HE
  obtain ⟨pb, hpb⟩ : ∃ E, E = b.pure := ⟨_, rfl⟩
  rw [← hpb] at HQB HE
  clear hE ht1 ht2 hzs hpa hpb
  generalize a.hd.length = na at *
  generalize b.hd.length = nb at *
  generalize a.rs.length = ma at *
  generalize b.rs.length = mb at *
  generalize a.no = oa1 at *
  generalize b.no = ob1 at *
  generalize a.ag = ag at *
  generalize b.ag = bg at *
  generalize a.av = aa at *
  generalize b.av = ba at *
  go_enter Tryd.func6, Tryd.ntmps6
  go_wp2_with fail
  have h2 := two_q w [.slice A na c, .int .i64 ag, .string aa, .slice B ma d, .slice O oa1 co] [.slice A' nb c', .int .i64 bg, .string ba, .slice B' mb d', .slice O' ob1 co'] _ rfl
  change Bk ((w.alloc (.cells #[.slice A na c, .int .i64 ag, .string aa, .slice B ma d, .slice O oa1 co] 44)).alloc (.cells #[.slice A' nb c', .int .i64 bg, .string ba, .slice B' mb d', .slice O' ob1 co'] 44)) _ _ _ ∧ Bk ((w.alloc (.cells #[.slice A na c, .int .i64 ag, .string aa, .slice B ma d, .slice O oa1 co] 44)).alloc (.cells #[.slice A' nb c', .int .i64 bg, .string ba, .slice B' mb d', .slice O' ob1 co'] 44)) _ _ _ ∧ Ext w ((w.alloc (.cells #[.slice A na c, .int .i64 ag, .string aa, .slice B ma d, .slice O oa1 co] 44)).alloc (.cells #[.slice A' nb c', .int .i64 bg, .string ba, .slice B' mb d', .slice O' ob1 co'] 44)) at h2
  generalize ((w.alloc (.cells #[.slice A na c, .int .i64 ag, .string aa, .slice B ma d, .slice O oa1 co] 44)).alloc (.cells #[.slice A' nb c', .int .i64 bg, .string ba, .slice B' mb d', .slice O' ob1 co'] 44)) = w1 at *
  obtain ⟨ka, kb, hx⟩ := h2
  have a0 := ka.cell (i := 0) (by simp); have a1 := ka.cell (i := 1) (by simp); have a2 := ka.cell (i := 2) (by simp); have a3 := ka.cell (i := 3) (by simp); have a4 := ka.cell (i := 4) (by simp)
  have b0 := kb.cell (i := 0) (by simp); have b1 := kb.cell (i := 1) (by simp); have b2 := kb.cell (i := 2) (by simp); have b3 := kb.cell (i := 3) (by simp); have b4 := kb.cell (i := 4) (by simp)
  simp only [List.getElem_cons_zero, List.getElem_cons_succ] at a0 a1 a2 a3 a4 b0 b1 b2 b3 b4
  clear ka kb
  refine (awake_any (HTAB.out.fore hx)).mono ?_
  rintro e w2 ⟨y, rfl, he, rfl⟩
  replace a0 := he.cell a0; replace a1 := he.cell a1; replace a2 := he.cell a2; replace a3 := he.cell a3; replace a4 := he.cell a4
  replace b0 := he.cell b0; replace b1 := he.cell b1; replace b2 := he.cell b2; replace b3 := he.cell b3; replace b4 := he.cell b4
  have HX := Lib.hid (hx.trans he)
  clear hx he
  go_wp2_with fail
  refine (HFA.out _ HX.out).mono ?_
  rintro e w3 ⟨y, rfl, he, rfl⟩
  replace a0 := he.cell a0; replace a1 := he.cell a1; replace a2 := he.cell a2; replace a3 := he.cell a3; replace a4 := he.cell a4
  replace b0 := he.cell b0; replace b1 := he.cell b1; replace b2 := he.cell b2; replace b3 := he.cell b3; replace b4 := he.cell b4
  replace HX := Lib.hid (HX.out.trans he)
  clear he
  rcases fa with _ | _
  · clear a0 a1 a2 a3 a4 b0 b1 b2 b3 b4
    go_wp2_with fail
    go_ret
    exact Ret.mk HX.out rfl
  go_wp2_with fail
  refine (HFB.out _ HX.out).mono ?_
  rintro e w4 ⟨y, rfl, he, rfl⟩
  replace a0 := he.cell a0; replace a1 := he.cell a1; replace a2 := he.cell a2; replace a3 := he.cell a3; replace a4 := he.cell a4
  replace b0 := he.cell b0; replace b1 := he.cell b1; replace b2 := he.cell b2; replace b3 := he.cell b3; replace b4 := he.cell b4
  replace HX := Lib.hid (HX.out.trans he)
  clear he
  rcases fb with _ | _
  · clear a0 a1 a2 a3 a4 b0 b1 b2 b3 b4
    go_wp2_with fail
    go_ret
    exact Ret.mk HX.out rfl
  go_wp2_with fail
  refine (HC1.out (by trivial) (by trivial) _ HX.out).mono ?_
  rintro e w5 ⟨AL, cL, rfl, he, hins⟩
  replace a0 := he.cell a0; replace a1 := he.cell a1; replace a2 := he.cell a2; replace a3 := he.cell a3; replace a4 := he.cell a4
  replace b0 := he.cell b0; replace b1 := he.cell b1; replace b2 := he.cell b2; replace b3 := he.cell b3; replace b4 := he.cell b4
  replace HX := Lib.hid (HX.out.trans he)
  have HINS := Lib.hid hins
  obtain ⟨nl, hnl⟩ : ∃ k, k = zs.length := ⟨_, rfl⟩
  rw [← hnl] at HINS ⊢
  have HNL := Lib.hid hnl
  clear he hins hnl
  go_wp2_with fail
  refine (HC2.out (by trivial) (by trivial) _ HX.out).mono ?_
  rintro e w6 ⟨rfl, he⟩
  replace a0 := he.cell a0; replace a1 := he.cell a1; replace a2 := he.cell a2; replace a3 := he.cell a3; replace a4 := he.cell a4
  replace b0 := he.cell b0; replace b1 := he.cell b1; replace b2 := he.cell b2; replace b3 := he.cell b3; replace b4 := he.cell b4
  replace HX := Lib.hid (HX.out.trans he)
  replace HINS := Lib.hid (HINS.out.ext he)
  clear he
  obtain ⟨tt, htt⟩ : ∃ k, k = (t1 && t2) := ⟨_, rfl⟩
  rw [← htt]
  have HTT := Lib.hid htt
  clear htt
  go_wp2_with fail
  refine (HQA.out (by trivial) _ HX.out).mono ?_
  rintro e w7 ⟨y, rfl, he, rfl⟩
  replace a0 := he.cell a0; replace a1 := he.cell a1; replace a2 := he.cell a2; replace a3 := he.cell a3; replace a4 := he.cell a4
  replace b0 := he.cell b0; replace b1 := he.cell b1; replace b2 := he.cell b2; replace b3 := he.cell b3; replace b4 := he.cell b4
  replace HX := Lib.hid (HX.out.trans he)
  replace HINS := Lib.hid (HINS.out.ext he)
  clear he
  rcases pa with _ | _
  · have e1 : E = 1 := by rw [HE.out]; simp
    subst e1
    have e2 : t1 = false := HT.out (by omega)
    subst e2
    have e3 : tt = false := by rw [HTT.out]; rfl
    subst e3
    have e4 : nl = 0 := by rw [HNL.out, HL.out (by trivial)]; rfl
    subst e4
    clear a0 a1 a2 a3 a4 b0 b1 b2 b3 b4
    go_wp2_with fail
    go_ret
    exact Ret.mk HX.out rfl
  go_wp2_with fail
  refine (HQB.out (by trivial) _ HX.out).mono ?_
  rintro e w8 ⟨y, rfl, he, rfl⟩
  replace a0 := he.cell a0; replace a1 := he.cell a1; replace a2 := he.cell a2; replace a3 := he.cell a3; replace a4 := he.cell a4
  replace b0 := he.cell b0; replace b1 := he.cell b1; replace b2 := he.cell b2; replace b3 := he.cell b3; replace b4 := he.cell b4
  replace HX := Lib.hid (HX.out.trans he)
  replace HINS := Lib.hid (HINS.out.ext he)
  clear he
  rcases pb with _ | _
  · have e1 : E = 1 := by rw [HE.out]; simp
    subst e1
    have e2 : t1 = false := HT.out (by omega)
    subst e2
    have e3 : tt = false := by rw [HTT.out]; rfl
    subst e3
    have e4 : nl = 0 := by rw [HNL.out, HL.out (by trivial)]; rfl
    subst e4
    clear a0 a1 a2 a3 a4 b0 b1 b2 b3 b4
    go_wp2_with fail
    go_ret
    exact Ret.mk HX.out rfl
  by_cases hl : na = nb
  · have e1 : E = 0 := by rw [HE.out]; simp [hl]
    subst e1
    subst hl
    go_wp2_with fail
    refine (HR1.out (by trivial) (by trivial) (by trivial) _ HX.out).mono ?_
    rintro e w9 ⟨v, rfl, he, hv⟩
    obtain ⟨Av, cv, rfl⟩ := hv.sl
    replace a0 := he.cell a0; replace a1 := he.cell a1; replace a2 := he.cell a2; replace a3 := he.cell a3; replace a4 := he.cell a4
    replace b0 := he.cell b0; replace b1 := he.cell b1; replace b2 := he.cell b2; replace b3 := he.cell b3; replace b4 := he.cell b4
    replace HX := Lib.hid (HX.out.trans he)
    replace HINS := Lib.hid (HINS.out.ext he)
    have HV := Lib.hid hv
    rw [← HNL.out] at HV ⊢
    clear he hv
    go_wp2_with fail
    refine (HR2.out (by trivial) (by trivial) (by trivial) _ HX.out).mono ?_
    rintro e w10 ⟨v', rfl, he⟩
    replace HX := Lib.hid (HX.out.trans he)
    have hsame := same_ints (HINS.out.ext he) (HV.out.ext he) HLL.out
    rw [decide_eq_true rfl] at hsame
    have HSAME := Lib.hid hsame
    clear he hsame a0 a1 a2 a3 a4 b0 b1 b2 b3 b4
    have htt := HTT.out
    clear HTT
    rcases t1 with _ | _ <;> rcases t2 with _ | _
    all_goals
      obtain rfl := htt
      go_wp2_with fail
      refine HSAME.out.mono ?_
      rintro e w11 ⟨y, rfl, he, rfl⟩
      have HXL := Lib.hid (HX.out.trans he)
      clear he
      go_wp2_with fail
      go_ret
      exact Ret.mk HXL.out rfl
  · have e1 : E = 6 := by rw [HE.out]; simp [hl]
    subst e1
    have e2 : t1 = false := HT.out (by omega)
    subst e2
    have e3 : tt = false := by rw [HTT.out]; rfl
    subst e3
    have e4 : nl = 0 := by rw [HNL.out, HL.out (by trivial)]; rfl
    subst e4
    have hl2 : ¬ (na : Int) = (nb : Int) := by omega
    clear hl a1 a2 a3 a4 b1 b2 b3 b4
    go_wp2_with fail
    all_goals first
      | contradiction
      | (go_ret
         exact Ret.mk HX.out rfl)
end
end Go.Proofs.YtehklbdgkppmeaaDoor
