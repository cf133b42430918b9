/- Contract: ordinalref24.Find, by induction on the images that are wanting. -/
import Derived.Test.YtiahaofjmcjdiaaDoorRc
import Derived.Deep.Upon
namespace Go.Proofs.YtiahaofjmcjdiaaDoor
open Go.RowKit

/-- The reference's search. -/
noncomputable def findR (fs ts : List RAt) (fx vs all : List Int) : Nat → List Int → Option (List Int)
  | 0, is => if isR fs ts vs is fx = true then some is else none
  | k + 1, is => all.findSome? (fun x => findR fs ts fx vs all k (is ++ [x]))
def RfP (R : Option (List Int)) (w : World) (e : Ending) (w' : World) : Prop :=
  Ext w w' ∧ ∃ A n c b, e = .returned (.tuple #[.slice A n c, .bool b]) ∧ match R with
    | some l => b = true ∧ Ins (fun _ => True) w' (.slice A n c) l
    | none => b = false
theorem RfP.yes {l : List Int} {R : Option (List Int)} {w w' : World} {A : Option Addr} {n c : Nat} (hr : R = some l) (he : Ext w w') (h : Ins (fun _ => True) w' (.slice A n c) l) : RfP R w (.returned (.tuple #[.slice A n c, .bool true])) w' := by
  subst hr; exact ⟨he, A, n, c, true, rfl, rfl, h⟩
theorem RfP.no {R : Option (List Int)} {w w' : World} {A : Option Addr} {n c : Nat} (hr : R = none) (he : Ext w w') : RfP R w (.returned (.tuple #[.slice A n c, .bool false])) w' := by
  subst hr; exact ⟨he, A, n, c, false, rfl, rfl⟩

/-- append(s, y...) where both rows are the call's own. -/
theorem wpList_append_row {P : Program} {w : World} {ops : Array Oper} {rest : List Oper} {o : Oper} {a : Act} {Q : Exit → Act → World → Prop} (hgd : o.guard = none) (s y : Operand) (t : TypeId)
    (ho : o.op = .call { callee := .builtin .append, args := #[s, y], argTypes := #[t, t] })
    (e : TypeId) (i : TypeInfo) (z : Value) (size bytes : Nat) (ht : P.underlying t = some (.slice e)) (hi : P.info? e = some i) (hz : i.zero = some z) (hsize : i.size = size) (hby : i.bytes = bytes) (hzs : z.cells.size = size) (hsz : 0 < size)
    (hs : a.eval s = .slice none 0 0) (b : Nat) (u : Value) (m : Nat) (news : List Value) (hx : a.eval y = u) (hown : w.ownsRow b e size u m news) (h1 : ∀ u ∈ news, u.oneCell' = true)
    (h63 : m ≤ maxLen) (hbytes : m * bytes ≤ 140737488355328)
    (h : ∀ v' w', w'.ownsRow w.heap.size e size v' m news → Ext w w' → wpList P ops Q rest (a.put o.dst v') w') : wpList P ops Q (o :: rest) a w := by
  rcases hown.2 with ⟨rfl, rfl⟩ | ⟨g, cap, cur, rfl, hbg, hg, hnc, hcm, hcs, htake⟩
  · have hn : news = [] := by have := hown.1; simpa using this
    subst hn
    refine wpList_plain hgd fun K hK => ?_
    have hr := run_append_nothing (P := P) w t t o.type e i ht hi none 0 0 (Nat.le_refl _) (.slice none 0 0) (Src.ofNil w ht 0)
    unfold Oper.wp execOp
    simp only [ho, resolve, invoke, builtin, Sem.run_bind, Sem.run_pure, Result.andThen_ok, List.map_toArray, List.map_cons, List.map_nil, hs, hx, hr]
    exact hK _ _ (h _ _ (World.ownsRow_nil _ _ _ _) (Ext.refl _))
  · refine wpList_append_at hgd s y t ho w.heap.size e i z size bytes ht hi hz hsize hby hzs hsz (.slice none 0 0) 0 [] hs (World.ownsRow_nil _ _ _ _) ⟨g, 0, none⟩ m cap news hx hown.1 (hown.cells (g := g) rfl) h1 (by omega) (by simpa using hbytes) (Nat.le_refl _) (fun v' w' k1 k2 _ => h v' w' (by simpa using k1) ((Ext.refl w).grown k2 (fun k hk => by simp [Value.ownBlock] at hk)))

theorem own_ge {w : World} {b s n k : Nat} {e : TypeId} {v : Value} {xs : List Value} (h : w.ownsRow b e s v n xs) (hk : v.ownBlock = some k) : b ≤ k := by
  rcases h.2 with ⟨rfl, rfl⟩ | ⟨g, cap, cur, rfl, hb, -⟩
  · simp [Value.ownBlock] at hk
  · simp [Value.ownBlock] at hk; omega
theorem one_ints (zs : List Int) : ∀ u ∈ zs.map I64, u.oneCell' = true := by
  intro u hu
  obtain ⟨x, -, rfl⟩ := List.mem_map.1 hu
  rfl

set_option maxRecDepth 20000 in
set_option maxHeartbeats 1600000 in
theorem rfind_any {F G K : Nat → Prop} {vf vt vx : Value} {fs ts : List RAt} {fx : List Int} (hlf : fs.length ≤ 1048576) (hlt : ts.length ≤ 1048576) (haf : (allR fs).length ≤ 1000000) (hat : (allR ts).length ≤ 1000000) (hlx : fx.length ≤ 1048576) (hta : ∀ a ∈ fs, a.terms.length ≤ 1048576) :
    ∀ (k : Nat) (is : List Int) (b : Nat) (w : World) (vi : Value), Ras F w vf fs → Ras G w vt ts → Ins K w vx fx → w.ownsRow b 3 1 vi is.length (is.map I64) → is.length + k = (termsL true (allR fs)).length →
    Calls Tryd.prog 12 #[vf, vt, vi, vx] w (RfP (findR fs ts fx (termsL true (allR fs)) (termsL false (allR ts)) k is) w) := by
  have hvl := termsL_length true (allR fs)
  have hal := termsL_length false (allR ts)
  have HT := Lib.hid hta; have HLF := Lib.hid hlf; have HLT := Lib.hid hlt; have HAF := Lib.hid haf; have HAT := Lib.hid hat; have HLX := Lib.hid hlx; have HVL := Lib.hid hvl; have HAL := Lib.hid hal
  clear hta hlf hlt haf hat hlx hvl hal
  obtain ⟨vs, hvs⟩ : ∃ vs, vs = termsL true (allR fs) := ⟨_, rfl⟩
  obtain ⟨al, hall⟩ : ∃ al, al = termsL false (allR ts) := ⟨_, rfl⟩
  rw [← hvs, ← hall]
  rw [← hvs] at HVL
  rw [← hall] at HAL
  have HVS := Lib.hid hvs; have HALL := Lib.hid hall
  clear hvs hall
  intro k
  induction k with
  | zero =>
    intro is b w vi hf ht hx hi hlen
    obtain ⟨n, hn⟩ : ∃ n, n = is.length := ⟨_, rfl⟩
    have hvn : vs.length = n := by omega
    rw [← hn] at hi
    obtain ⟨A1, c1, rfl⟩ := own_slice hi
    have HF := Lib.hid hf; have HTT := Lib.hid ht; have HX := Lib.hid hx; have HI := Lib.hid hi; have HN := Lib.hid hn; have HVN := Lib.hid hvn
    have hnb : n ≤ 1000000 := by have := HVL.out; have := HAF.out; omega
    clear hf ht hx hi hn hvn hlen
    go_enter Tryd.func12, Tryd.ntmps12
    go_wp2_with fail
    refine (terms_ref HF.out HLF.out (by have := HAF.out; omega)).mono ?_
    rintro e w1 ⟨y, rfl, he1, hr1⟩
    rw [← HVS.out, HVN.out] at hr1
    obtain ⟨A2, c2, rfl⟩ := own_slice hr1
    have HE1 := Lib.hid he1; have HR1 := Lib.hid hr1
    clear he1 hr1
    go_wp2_with fail
    have hi1 := own_fr HI.out (HE1.out.fr (fun _ => False)) (fun _ _ h => h)
    refine (is_any (vs := vs) (is := is) (HF.out.ext HE1.out) (HTT.out.ext HE1.out) (Ins.of_own HR1.out) (Ins.of_own hi1) (HX.out.ext HE1.out) HLF.out HLT.out (by have := HVN.out; omega) (by have := HVN.out; have := HN.out; omega) HLX.out HT.out).mono ?_
    rintro e w2 ⟨y, rfl, he2, rfl⟩
    have HE2 := Lib.hid (HE1.out.trans he2); have HI2 := Lib.hid (own_fr hi1 (he2.fr (fun _ => False)) (fun _ _ h => h))
    clear he2 hi1
    rcases hb : isR fs ts vs is fx with _ | _
    · have HB := Lib.hid hb
      clear hb
      go_wp2_with fail
      go_ret2
      exact RfP.no (by rw [findR, HB.out]; rfl) HE2.out
    · have HB := Lib.hid hb
      clear hb
      go_wp2_with fail
      go_ret2
      exact RfP.yes (l := is) (by rw [findR, HB.out]; rfl) HE2.out ((Ins.of_own HI2.out).mono (fun _ _ _ => trivial))
  | succ k ih =>
    intro is b w vi hf ht hx hi hlen
    obtain ⟨n, hn⟩ : ∃ n, n = is.length := ⟨_, rfl⟩
    obtain ⟨m, hm⟩ : ∃ m, m = vs.length := ⟨_, rfl⟩
    obtain ⟨na, hna⟩ : ∃ na, na = al.length := ⟨_, rfl⟩
    have hne : ((n : Int) == (m : Int)) = false := by have : ¬ (n : Int) = (m : Int) := by omega
                                                      simp [this]
    rw [← hn] at hi
    obtain ⟨A1, c1, rfl⟩ := own_slice hi
    have hnb : n ≤ 1000000 := by have := HVL.out; have := HAF.out; omega
    have hnab : na ≤ 1000000 := by have := HAL.out; have := HAT.out; omega
    have HF := Lib.hid hf; have HTT := Lib.hid ht; have HX := Lib.hid hx; have HI := Lib.hid hi; have HN := Lib.hid hn; have HM := Lib.hid hm; have HNA := Lib.hid hna; have HLEN := Lib.hid hlen; have IH := Lib.hid ih
    clear hf ht hx hi hn hm hna hlen ih
    obtain ⟨i0, hi0, hz0, hz1, hz2⟩ := info_parts info_int
    have HI0 := Lib.hid (And.intro hi0 (And.intro hz0 (And.intro hz1 hz2))); clear hi0 hz0 hz1 hz2
    go_enter Tryd.func12, Tryd.ntmps12
    go_wp2_with fail
    refine (terms_ref HF.out HLF.out (by have := HAF.out; omega)).mono ?_
    rintro e w1 ⟨y, rfl, he1, hr1⟩
    rw [← HVS.out, ← HM.out] at hr1
    obtain ⟨A2, c2, rfl⟩ := own_slice hr1
    have HE1 := Lib.hid he1
    clear he1 hr1
    go_wp2_with fail
    refine (terms_ref (HTT.out.ext HE1.out) HLT.out (by have := HAT.out; omega)).mono ?_
    rintro e w2 ⟨y, rfl, he2, hr2⟩
    rw [← HALL.out, ← HNA.out] at hr2
    obtain ⟨A3, c3, rfl⟩ := own_slice hr2
    have HE2 := Lib.hid (HE1.out.trans he2); have HR2 := Lib.hid hr2
    clear he2 hr2
    go_wp2_with fail
    go_loopw [12] (fun q wr => ∃ i : Nat, i ≤ na ∧ q = .int .i64 (i : Int) ∧ (∀ j (h : j < al.length), j < i → findR fs ts fx vs al k (is ++ [al[j]]) = none) ∧ Ext w2 wr) (fun q _ => na - (intOf q).toNat)
    case atStart => exact ⟨0, Nat.zero_le _, rfl, fun _ _ h => absurd h (by omega), Ext.refl _⟩
    case round =>
      obtain ⟨i, hi, rfl, hnone, hext⟩ := hrel
      have HNONE := Lib.hid hnone; have HEX := Lib.hid hext
      clear hnone
      by_cases hil : i < na
      · have i1 : (0 : Int) ≤ (i : Int) := by omega
        have i2 : (i : Int) < (na : Int) := by omega
        have hia : i < al.length := by have := HNA.out; omega
        obtain ⟨A, c, eA, -, hca⟩ := Cl.of_own HR2.out
        injection eA with eA _ ec
        subst eA ec
        obtain ⟨ad, rfl, -, d0⟩ := hca.int (i := i) hia
        obtain ⟨x, hx⟩ : ∃ x, x = al[i] := ⟨_, rfl⟩
        rw [← hx] at d0
        replace d0 := hext.cell d0
        have HX0 := Lib.hid hx; have HD0 := Lib.hid d0
        have HIR := Lib.hid (own_fr HI.out ((HE2.out.trans hext).fr (fun _ => False)) (fun _ _ h => h))
        clear hx hca hext d0
        have hml : is.length = n := HN.out.symm
        go_wp2_with (first
          | (at_builtin; refine wpList_append_row rfl _ _ 38 rfl 3 i0 (.int .i64 0) 1 8 Tryd.underlying38 HI0.out.1 HI0.out.2.1 HI0.out.2.2.1 HI0.out.2.2.2 rfl (by omega) rfl b (.slice A1 n c1) n (is.map I64) rfl HIR.out (one_ints _) (by simp only [maxLen]; omega) (by omega) ?_; intro v3 w3 hr3 he3; obtain ⟨A5, c5, rfl⟩ := own_slice hr3; have d1 := he3.cell HD0.out; have HR3 := Lib.hid hr3; have HE3 := Lib.hid he3; have hw3 : wr.heap.size ≤ w3.heap.size := he3.size; clear hr3 he3)
          | (at_builtin; refine wpList_append_at rfl _ _ 38 rfl wr.heap.size 3 i0 (.int .i64 0) 1 8 Tryd.underlying38 HI0.out.1 HI0.out.2.1 HI0.out.2.2.1 HI0.out.2.2.2 rfl (by omega) _ _ (is.map I64) rfl (HR3.out.alloc _) ⟨w3.heap.size, 0, none⟩ 1 1 [I64 x] rfl rfl (laid_news w3 _ _) (by simp [Value.oneCell']) (by simp only [maxLen]; omega) (by omega) (by simp; omega) ?_; intro v' w4 hr' hgr hland; have HR4 := Lib.hid hr'; have HE4 := Lib.hid (((Ext.refl w3).alloc _).fr (fun k => wr.heap.size ≤ k) |>.comp (grown_fr hgr) (fun k hk => .inl (own_ge HR3.out hk))); clear hr' hgr hland d1))
        have he4 : Ext wr w4 := HE4.out.new HE3.out (fun k hk => hk)
        have HX4 := Lib.hid (HEX.out.trans he4)
        clear he4
        refine (IH.out (is ++ [x]) wr.heap.size w4 _ (HF.out.ext (HE2.out.trans HX4.out)) (HTT.out.ext (HE2.out.trans HX4.out)) (HX.out.ext (HE2.out.trans HX4.out)) (by have := HR4.out; simpa [hml] using this) (by have := HLEN.out; simp; omega)).mono ?_
        rintro e w5 ⟨he5, A7, n7, c7, b7, rfl, h7⟩
        have HX5 := Lib.hid (HX4.out.trans he5)
        clear he5
        have HS : Hid (findR fs ts fx vs al k (is ++ [al[i]]) = findR fs ts fx vs al k (is ++ [x])) := Lib.hid (by rw [← HX0.out])
        rcases hq : findR fs ts fx vs al k (is ++ [x]) with _ | l
        · rw [hq] at h7 HS
          subst h7
          clear hq
          go_wp2_with fail
          go_roundw
          case rel =>
            refine ⟨i + 1, by omega, by go_num, fun j hj hji => ?_, HX5.out⟩
            rcases Nat.lt_or_ge j i with h | h
            · exact HNONE.out j hj h
            · obtain rfl : j = i := by omega
              exact HS.out
          case measure => simp [intOf]; omega
        · rw [hq] at h7 HS
          obtain ⟨rfl, h7⟩ := h7
          have H7 := Lib.hid h7
          clear hq h7
          go_wp2_with fail
          go_ret2
          exact RfP.yes (l := l) (find_first hia HS.out HNONE.out) (HE2.out.trans HX5.out) H7.out
      · obtain rfl : i = na := by omega
        have hdn : ¬ (i : Int) < (i : Int) := by omega
        clear hext
        go_wp2_with fail
        go_ret2
        exact RfP.no (find_none (fun j hj => HNONE.out j hj (by have := HNA.out; omega))) (HE2.out.trans HEX.out)
end Go.Proofs.YtiahaofjmcjdiaaDoor
