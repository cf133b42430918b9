/- Contracts: ordinallaw24.odd; homomorphism.Check on rules that are not pure. -/
import Derived.Test.YtiahaofjmcjdiaaDoorRi
import Derived.Test.YtiahaofjmcjdiaaDoorHi
namespace Go.Proofs.YtiahaofjmcjdiaaDoor
open Go.RowKit

structure Even (ps : List (ByteArray × Tm)) : Prop where
  len : ps.length ≤ 8
  ok : ∀ p ∈ ps, p.1.size + p.2.var.size + p.2.str.size ≤ 60 ∧ p.2.Ok
def OddOut (ps : List (ByteArray × Tm)) (x : Value) : Prop := ∃ b, x = .bool b ∧ (b = false → Even ps)

set_option maxRecDepth 20000 in
set_option maxHeartbeats 1600000 in
theorem odd_any {F : Nat → Prop} {w : World} {v : Value} {ps : List (ByteArray × Tm)} (h : Prs F w v ps) (hl : ps.length ≤ 1048576) (hsz : ∀ p ∈ ps, p.1.size ≤ 1048576 ∧ p.2.var.size ≤ 1048576 ∧ p.2.str.size ≤ 1048576) :
    Calls Tryd.prog 16 #[v] w (Ret (fun x _ => OddOut ps x) w) := by
  obtain ⟨A, c, rfl, hc, hcl⟩ := h
  obtain ⟨n, hn⟩ : ∃ n, n = ps.length := ⟨_, rfl⟩
  rw [← hn] at hc hl ⊢
  have HN := Lib.hid hn; have HCL := Lib.hid hcl; have HSZ := Lib.hid hsz
  clear hn hcl hsz
  go_enter Tryd.func16, Tryd.ntmps16
  go_wp2_with fail
  go_loopw [7] (fun q wr => ∃ i : Nat, i ≤ n ∧ q = .int .i64 (i : Int) ∧ (∀ j (h : j < ps.length), j < i → ps[j].1.size + ps[j].2.var.size + ps[j].2.str.size ≤ 60 ∧ ps[j].2.Ok) ∧ Ext w wr) (fun q _ => n - (intOf q).toNat)
  case atStart => exact ⟨0, Nat.zero_le _, rfl, fun _ _ h => absurd h (by omega), Ext.refl _⟩
  case round =>
    obtain ⟨i, hi, rfl, hgo, hext⟩ := hrel
    have HGO := Lib.hid hgo; have HE := Lib.hid hext
    clear hgo
    by_cases hlt : i < n
    · have i1 : (0 : Int) ≤ (i : Int) := by omega
      have i2 : (i : Int) < (n : Int) := by omega
      have hix : i < ps.length := by have := HN.out; omega
      obtain ⟨ad, rfl, -, c0, c1, c2, c3, c4⟩ := HCL.out.pair (i := i) hix
      replace c0 := hext.cell c0
      replace c1 := hext.cell c1
      replace c2 := hext.cell c2
      replace c3 := hext.cell c3
      replace c4 := hext.cell c4
      have hsb := HSZ.out _ (List.getElem_mem hix)
      obtain ⟨pr, hpr⟩ : ∃ pr, pr = ps[i] := ⟨_, rfl⟩
      rw [← hpr] at c0 c1 c2 c3 c4 hsb
      have hnext : pr.1.size + pr.2.var.size + pr.2.str.size ≤ 60 ∧ pr.2.Ok → ∀ k (h : k < ps.length), k < i + 1 → ps[k].1.size + ps[k].2.var.size + ps[k].2.str.size ≤ 60 ∧ ps[k].2.Ok := fun hxo k hk hkj => by
        rcases Nat.lt_or_ge k i with h | h
        · exact HGO.out k hk h
        · obtain rfl : k = i := by omega
          rw [← hpr]; exact hxo
      obtain ⟨s, x⟩ := pr
      simp only at c0 c1 c2 c3 c4 hsb hnext
      have HNX := Lib.hid hnext
      clear hnext hpr hext
      obtain ⟨p0, hp0⟩ : ∃ p0, p0 = s.size := ⟨_, rfl⟩
      obtain ⟨p1, hp1⟩ : ∃ p1, p1 = x.var.size := ⟨_, rfl⟩
      obtain ⟨p2, hp2⟩ : ∃ p2, p2 = x.str.size := ⟨_, rfl⟩
      have HP := Lib.hid (And.intro hp0 (And.intro hp1 hp2))
      rw [← hp0, ← hp1, ← hp2] at hsb
      have hI0 : (s.size : Int) = (p0 : Int) := by rw [hp0]
      have hI1 : (x.var.size : Int) = (p1 : Int) := by rw [hp1]
      have hI2 : (x.str.size : Int) = (p2 : Int) := by rw [hp2]
      obtain ⟨p3, hp3⟩ : ∃ p3, p3 = p0 + p1 := ⟨_, rfl⟩
      have hI3 : (p0 : Int) + (p1 : Int) = (p3 : Int) := by omega
      obtain ⟨p4, hp4⟩ : ∃ p4, p4 = p3 + p2 := ⟨_, rfl⟩
      have hI4 : (p3 : Int) + (p2 : Int) = (p4 : Int) := by omega
      have HP3 := Lib.hid (And.intro hp3 hp4)
      obtain ⟨hsb0, hsb1, hsb2⟩ := hsb
      have hb3 : p3 ≤ 2097152 := by omega
      have hb4 : p4 ≤ 3145728 := by omega
      clear hp0 hp1 hp2 hp3 hp4
      by_cases h60b : 60 < p4
      · have h60c : decide ((60 : Int) < (p4 : Int)) = true := decide_eq_true (by omega)
        go_wp2_with fail
        go_ret
        exact Ret.mk (HE.out.alloc _) ⟨true, rfl, fun h => by cases h⟩
      · have h60c : decide ((60 : Int) < (p4 : Int)) = false := decide_eq_false (by omega)
        have H60 : Hid (s.size + x.var.size + x.str.size ≤ 60) := Lib.hid (by have := HP.out; have := HP3.out; omega)
        by_cases hv : x.var = ⟨#[]⟩
        · have hve := var_eq hv
          have HV := Lib.hid hv
          clear hv
          go_wp2_with fail
          go_roundw
          case rel => exact ⟨i + 1, by omega, by go_num, HNX.out ⟨H60.out, .inl HV.out⟩, HE.out.alloc _⟩
          case measure => simp [intOf]; omega
        · have hve := var_ne hv
          clear hv
          by_cases hz : x.kind = 0 ∧ x.int = 0 ∧ x.str = ⟨#[]⟩
          · have HZ := Lib.hid hz
            have hz3 : x.str.toList = [] := by rw [hz.2.2, nil_toList]
            obtain ⟨hz1, hz2, -⟩ := hz
            go_wp2_with fail
            all_goals first
              | contradiction
              | (go_roundw
                 case rel => exact ⟨i + 1, by omega, by go_num, HNX.out ⟨H60.out, .inr HZ.out⟩, HE.out.alloc _⟩
                 case measure => simp [intOf]; omega)
          · have HZ := Lib.hid hz
            clear hz
            go_wp2_with fail
            all_goals first
              | (exfalso; exact HZ.out ⟨by assumption, by assumption, str_nil (by assumption)⟩)
              | (go_ret
                 exact Ret.mk (HE.out.alloc _) ⟨true, rfl, fun h => by cases h⟩)
    · obtain rfl : i = n := by omega
      have hdn : ¬ (i : Int) < (i : Int) := by omega
      clear hext
      by_cases h8 : 8 < i
      · have h8' : decide ((8 : Int) < (i : Int)) = true := decide_eq_true (by omega)
        go_wp2_with fail
        go_ret
        exact Ret.mk HE.out ⟨true, rfl, fun h => by cases h⟩
      · have h8' : decide ((8 : Int) < (i : Int)) = false := decide_eq_false (by omega)
        go_wp2_with fail
        go_ret
        exact Ret.mk HE.out ⟨false, rfl, fun _ => ⟨by have := HN.out; omega, fun p hp => by
          obtain ⟨j, hj, rfl⟩ := List.getElem_of_mem hp
          exact HGO.out j hj (by have := HN.out; omega)⟩⟩

set_option maxRecDepth 20000 in
set_option maxHeartbeats 800000 in
theorem check_bad {F G : Nat → Prop} {w : World} {svF svT : Value} {AF AT Ax Am : Option Addr} {ncF ccF ncT ccT nx cx nm cm : Nat} {xs ys : List At} (hF : Ats F w svF xs) (hT : Ats G w svT ys) (hbx : Bd xs) (hby : Bd ys) (hp : Hid (hpureB xs ncF = false ∨ hpureB ys ncT = false)) :
    Calls Tryd.prog 18 #[.agg #[svF, .slice AF ncF ccF], .agg #[svT, .slice AT ncT ccT], .slice Ax nx cx, .slice Am nm cm] w (Ret (fun x _ => x = .bool false) w) := by
  have HF := Lib.hid hF; have HT := Lib.hid hT; have HBX := Lib.hid hbx; have HBY := Lib.hid hby
  obtain ⟨A1, c1, n1, h1⟩ : ∃ A c n, svF = .slice A n c := by obtain ⟨A, c, vs, hv, _⟩ := hF; exact ⟨A, c, _, hv⟩
  obtain ⟨A2, c2, n2, h2⟩ : ∃ A c n, svT = .slice A n c := by obtain ⟨A, c, vs, hv, _⟩ := hT; exact ⟨A, c, _, hv⟩
  subst h1 h2
  clear hF hT hbx hby
  go_enter Tryd.func18, Tryd.ntmps18
  go_wp2_with fail
  have h3 := two_new w [.slice A1 n1 c1, .slice AF ncF ccF] [.slice A2 n2 c2, .slice AT ncT ccT] 25 25 _ rfl
  change Bk ((w.alloc (.cells #[.slice A1 n1 c1, .slice AF ncF ccF] 25)).alloc (.cells #[.slice A2 n2 c2, .slice AT ncT ccT] 25)) _ _ _ ∧ Bk ((w.alloc (.cells #[.slice A1 n1 c1, .slice AF ncF ccF] 25)).alloc (.cells #[.slice A2 n2 c2, .slice AT ncT ccT] 25)) _ _ _ ∧ Ext w ((w.alloc (.cells #[.slice A1 n1 c1, .slice AF ncF ccF] 25)).alloc (.cells #[.slice A2 n2 c2, .slice AT ncT ccT] 25)) at h3
  generalize ((w.alloc (.cells #[.slice A1 n1 c1, .slice AF ncF ccF] 25)).alloc (.cells #[.slice A2 n2 c2, .slice AT ncT ccT] 25)) = w1 at *
  obtain ⟨-, k2, hx⟩ := h3
  refine (hpure_any (HF.out.ext hx) HBX.out.len HBX.out.all).mono ?_
  rintro e w2 ⟨y, rfl, he2, rfl⟩
  have HX2 := Lib.hid (hx.trans he2)
  have k2' := k2.ext he2
  have b0 := k2'.cell (i := 0) (by simp)
  have b1 := k2'.cell (i := 1) (by simp)
  simp only [List.getElem_cons_zero, List.getElem_cons_succ] at b0 b1
  clear hx he2 k2 k2'
  rcases h1 : hpureB xs ncF with _ | _
  · clear hp h1
    go_wp2_with fail
    go_ret
    exact Ret.mk HX2.out rfl
  · have hp2 : hpureB ys ncT = false := by rcases hp.out with h | h; rw [h1] at h; cases h; exact h
    clear h1
    go_wp2_with fail
    refine (hpure_any (HT.out.ext HX2.out) HBY.out.len HBY.out.all).mono ?_
    rintro e w3 ⟨y, rfl, he3, rfl⟩
    rw [hp2]
    have HX3 := Lib.hid (HX2.out.trans he3)
    clear he3 hp2 b0 b1
    go_wp2_with fail
    go_ret
    exact Ret.mk HX3.out rfl
end Go.Proofs.YtiahaofjmcjdiaaDoor
