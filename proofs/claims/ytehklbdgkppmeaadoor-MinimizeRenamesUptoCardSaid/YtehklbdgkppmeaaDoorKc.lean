/- Contract: minimize.Minimal of a pure query. -/
import Derived.Test.YtehklbdgkppmeaaDoorKb
namespace Go.Proofs.YtehklbdgkppmeaaDoor
open Go.RowKit Go.Maps

theorem own_some {w : World} {base size n : Nat} {e : TypeId} {v : Value} {xs : List Value} (h : w.ownsRow base e size v n xs) (hn : 0 < n) : ∃ g cap, v = .slice (some ⟨g, 0, none⟩) n cap ∧ n ≤ cap ∧ base ≤ g ∧ g < w.heap.size ∧ w.ownsRow base e size (.slice (some ⟨g, 0, none⟩) 0 cap) 0 [] := by
  have hlt : ∀ k, v.ownBlock = some k → k < w.heap.size := fun k hk => (h.lt k hk).2
  obtain ⟨hl, h⟩ := h
  rcases h with ⟨rfl, h0⟩ | ⟨g, cap, cur, rfl, hb, hc, hnc, hm, hs, hx⟩
  · omega
  · exact ⟨g, cap, rfl, hnc, hb, hlt g rfl, by simp, .inr ⟨g, cap, cur, rfl, hb, hc, Nat.zero_le _, hm, hs, by simp⟩⟩
theorem pcat_one : ∀ {ps : List (Value × Value)}, (∀ p ∈ ps, p.1.oneCell' = true ∧ p.2.oneCell' = true) → ∀ u ∈ pcat ps, u.oneCell' = true := fun {ps} h u hu => by
  obtain ⟨p, hp, hu⟩ := List.mem_flatMap.1 hu
  simp only [List.mem_cons, List.not_mem_nil, or_false] at hu
  rcases hu with rfl | rfl
  · exact (h p hp).1
  · exact (h p hp).2
theorem RuB.one {w : World} {base n : Nat} {v : Value} {rs : List Ru} {ps : List (Value × Value)} (h : RuB w base v n rs ps) : ∀ u ∈ pcat ps, u.oneCell' = true := pcat_one (fun p hp => by
  obtain ⟨i, hi, rfl⟩ := List.getElem_of_mem hp
  obtain ⟨B, m, d, C, e, h1, -, -⟩ := h.2.2 i (by have := h.1; omega) hi
  rw [h1]
  exact ⟨rfl, rfl⟩)
theorem all_rows {F : Nat → Prop} {w : World} {A : Option Addr} {n c : Nat} {q : Qr} {m : Nat} (h : Rus F w (.slice A n c) ((List.range m).map (cRu q))) (hm : 0 < m) : ∃ ad, A = some ad ∧ F ad.block ∧ ∀ i, i < m → ∃ B n d C e,
    w.cell? (ad.add (i * 2)) = some (.slice B n d) ∧ w.cell? ⟨(ad.add (i * 2)).block, (ad.add (i * 2)).off + 1, none⟩ = some (.slice C 0 e) ∧ Ats F w (.slice B n d) (csAt q i) ∧ Cns F w (.slice C 0 e) 0 := by
  have h2 := h.at2
  obtain ⟨ad, -, -, -, -, -, rfl, hF, -⟩ := h2 0 (by simpa using hm)
  refine ⟨ad, rfl, hF, fun i hi => ?_⟩
  obtain ⟨ad', B, n, d, C, e, e1, -, c0, c1, ha, hc⟩ := h2 i (by simpa using hi)
  injection e1 with e1
  subst e1
  simp only [List.getElem_map, List.getElem_range] at c0 c1 ha hc
  exact ⟨B, n, d, C, e, c0, c1, ha, hc⟩
theorem Bk.five {w : World} {g : Nat} {t : TypeId} {v0 v1 v2 v3 v4 : Value} (h : Bk w g t [v0, v1, v2, v3, v4]) : w.cell? ⟨g, 0, none⟩ = some v0 ∧ w.cell? ⟨g, 1, none⟩ = some v1 ∧ w.cell? ⟨g, 2, none⟩ = some v2 ∧ w.cell? ⟨g, 3, none⟩ = some v3 ∧ w.cell? ⟨g, 4, none⟩ = some v4 ∧
    w.frozen? ⟨g, 0, none⟩ = false ∧ w.frozen? ⟨g, 1, none⟩ = false ∧ w.frozen? ⟨g, 2, none⟩ = false ∧ w.frozen? ⟨g, 3, none⟩ = false ∧ w.frozen? ⟨g, 4, none⟩ = false :=
  ⟨h.cell (i := 0) (by simp), h.cell (i := 1) (by simp), h.cell (i := 2) (by simp), h.cell (i := 3) (by simp), h.cell (i := 4) (by simp), h.free 0, h.free 1, h.free 2, h.free 3, h.free 4⟩
theorem Kys.fr {S F : Nat → Prop} {w w' : World} {v : Value} {n : Nat} (h : Kys F w v n) (hf : Fr S w w') (hs : ∀ k, F k → ¬ S k) : Kys F w' v n := let ⟨A, c, xs, h1, h2, h3, h4, h5, h6⟩ := h; ⟨A, c, xs, h1, h2, h3, h4.fr hf hs, h5, h6⟩
theorem Kys.mono {F G : Nat → Prop} {w : World} {v : Value} {n : Nat} (h : Kys F w v n) (hs : ∀ k, k < w.heap.size → F k → G k) : Kys G w v n := let ⟨A, c, xs, h1, h2, h3, h4, h5, h6⟩ := h; ⟨A, c, xs, h1, h2, h3, h4.mono hs, h5, h6⟩
theorem Kys.of_own {w : World} {base n : Nat} {v : Value} {xs : List Value} {F : Nat → Prop} (h : w.ownsRow base 84 2 v n xs) (h1 : ∀ u ∈ xs, u.oneCell' = true) (hF : ∀ k, base ≤ k → F k) : Kys F w v n := by
  have hn : v = .slice none 0 0 ∧ n = 0 ∨ ∃ g cap, v = .slice (some ⟨g, 0, none⟩) n cap := by
    rcases h.2 with ⟨rfl, h0⟩ | ⟨g, cap, cur, rfl, -⟩
    · exact .inl ⟨rfl, h0⟩
    · exact .inr ⟨g, cap, rfl⟩
  obtain ⟨A, c, rfl, hc, hcl⟩ := Cl.of_own h
  refine ⟨A, c, xs, rfl, hc, h.1, hcl.mono (fun _ _ h => hF _ h.2), h1, fun e => ?_⟩
  subst e
  rcases hn with ⟨e, rfl⟩ | ⟨g, cap, e⟩
  · injection e with _ _ e; exact ⟨rfl, e⟩
  · cases e

section
variable {w : World} {A : Option Addr} {c : Nat} {B : Option Addr} {d : Nat} {O : Option Addr} {co : Nat} {q : Qr}
set_option maxRecDepth 100000 in
set_option maxHeartbeats 6400000 in
theorem minimal_yes (hq : Qc w A c B d O co q) (oq : QOk q) (hyes : q.pure = true) (hno : q.no ≤ 1048576) (htab : TabE w) :
    Calls Tryd.prog 24 #[.agg #[.slice A q.hd.length c, .int .i64 q.ag, .string q.av, .slice B q.rs.length d, .slice O q.no co]] w (MinYes q w) := by
  have hpq := Qr.pure_iff.1 hyes
  have HP : Hid (∀ W, Ext w W → Calls Tryd.prog 39 #[.agg #[.slice A q.hd.length c, .int .i64 q.ag, .string q.av, .slice B q.rs.length d, .slice O q.no co]] W (Ret (fun x _ => x = .bool true) W)) := Lib.hid (fun W hW => by
    have h := mpure_any (ag := q.ag) (av := q.av) (O := O) (no := q.no) (co := co) (hq.hd.ext hW) (hq.rs.ext hW) (fun r hr => (oq.ax r hr).bd) (fun v hv => by have := oq.hs v hv; omega) (by have := oq.hl; omega) (by have := oq.rl; omega)
    rw [show pureQ q.hd q.ag q.rs = true from hyes] at h
    exact h)
  obtain ⟨ks, hkl, hkcl, hk1⟩ : ∃ ks : List Value, ks.length = q.no * 2 ∧ Cl T1 w O ks ∧ ∀ u ∈ ks, u.oneCell' = true := by
    obtain ⟨O', co', ks, e, -, h2, h3, h4, -⟩ := hq.od
    injection e with e1
    subst e1
    exact ⟨ks, h2, h3, h4⟩
  have hhcl : Cl T1 w A (q.hd.map Sv) := by
    obtain ⟨A', c', e, -, h3⟩ := hq.hd
    injection e with e1
    subst e1
    exact h3
  have HSTR : Hid (∀ V, Ext w V → w.heap.size + 1 < V.heap.size → Calls Tryd.prog 44 #[.slice A q.hd.length c] V (Ret (fun x w' => ∃ A' c', x = .slice A' q.hd.length c' ∧ Strs (fun k => w.heap.size + 1 < k) w' (.slice A' q.hd.length c') q.hd) V)) := Lib.hid (fun V hV hVl => by
    refine (clone_strs (n := q.hd.length) (c := c) (hhcl.ext hV) (by simp) (fun u hu => by obtain ⟨s, -, rfl⟩ := List.mem_map.1 hu; rfl) (by have := oq.hl; omega)).mono ?_
    rintro e w' ⟨x, rfl, he, hx⟩
    obtain ⟨A', c', rfl⟩ := own_slice hx
    exact Ret.mk he ⟨A', c', rfl, (Strs.of_own hx).mono (fun _ _ h => by have := h.2; omega)⟩)
  have HKEY : Hid (∀ V, Ext w V → w.heap.size + 1 < V.heap.size → Calls Tryd.prog 45 #[.slice O q.no co] V (Ret (fun x w' => ∃ A' c', x = .slice A' q.no c' ∧ Kys (fun k => w.heap.size + 1 < k) w' (.slice A' q.no c') q.no) V)) := Lib.hid (fun V hV hVl => by
    refine (clone_keys (n := q.no) (c := co) (hkcl.ext hV) hkl hk1 hno).mono ?_
    rintro e w' ⟨x, rfl, he, hx⟩
    obtain ⟨A', c', rfl⟩ := own_slice hx
    exact Ret.mk he ⟨A', c', rfl, Kys.of_own hx hk1 (fun k h => by omega)⟩)
  have HCORE : Hid (∀ i (hi : i < q.rs.length) V B n dd C e, Ext w V → Ats T1 w (.slice B n dd) q.rs[i].ats → Cns T1 w (.slice C q.rs[i].nc e) q.rs[i].nc → Calls Tryd.prog 11 #[.agg #[.slice B n dd, .slice C q.rs[i].nc e], .slice A q.hd.length c] V (fun e w' => ∃ A' n' c' B' d', e = .returned (.tuple #[.agg #[.slice A' n' c', .slice B' 0 d'], .int .i64 0]) ∧ Ext V w' ∧ Ats (fun k => V.heap.size ≤ k) w' (.slice A' n' c') (csAt q i) ∧ Cns (fun k => V.heap.size ≤ k) w' (.slice B' 0 d') 0)) := Lib.hid (fun i hi V B n dd C e hV ha hc => by
    have hm := List.getElem_mem hi
    have h1 := hpq.2.2.2.2 _ hm
    have hnc : q.rs[i].nc = 0 := hpq.nc hm
    rw [hnc] at hc ⊢
    have h2 := h1.1
    rw [hnc] at h2
    rw [csAt_get hi]
    exact mcore_yes (ha.ext hV) (hc.ext hV) (hq.hd.ext hV) (oq.ax _ hm) h2 (htab.fore hV) (by have := oq.hl; omega) (fun v hv => by have := oq.hs v hv; omega))
  have HPQ : Hid (∀ i, i < q.rs.length → Pq (csAt q i)) := Lib.hid (fun i hi => by
    have hm := List.getElem_mem hi
    rw [csAt_get hi]
    exact (hpq.pq oq.ax hm).sub ((core_sub _ _).trans (dedR_sub _)))
  have HMAP : Hid (∀ (F G : Nat → Prop) i j V svF svT AF AT cF cT, i < q.rs.length → j < q.rs.length → Ext w V → Ats F V svF (csAt q j) → Ats G V svT (csAt q i) → Calls Tryd.prog 35 #[.agg #[svF, .slice AF 0 cF], .agg #[svT, .slice AT 0 cT], .slice A q.hd.length c] V (Ret (fun x _ => x = .bool (relM q j i)) V)) := Lib.hid (fun F G i j V svF svT AF AT cF cT hi hj hV hF hT => maps_any hF hT (hq.hd.ext hV) (HPQ.out j hj) (HPQ.out i hi) (by have := oq.hl; omega) (fun v hv => by have := oq.hs v hv; omega))
  have HRA := Lib.hid hq.rs.at2
  have HFIN : Hid (∀ W A' c' B' d' O' co', Strs T1 W (.slice A' q.hd.length c') q.hd → Rus T1 W (.slice B' (minRs q).length d') (minRs q) → Kys T1 W (.slice O' q.no co') q.no → Qc W A' c' B' d' O' co' (minQ q)) := Lib.hid (fun W A' c' B' d' O' co' h1 h2 h3 => ⟨h1, h2, h3⟩)
  obtain ⟨na, hna⟩ : ∃ n, n = q.hd.length := ⟨_, rfl⟩
  obtain ⟨ma, hma⟩ : ∃ n, n = q.rs.length := ⟨_, rfl⟩
  have hma1 : 1 ≤ ma := by rw [hma]; exact hpq.2.1
  have hma3 : ma ≤ 3 := by rw [hma]; exact hpq.2.2.1
  obtain ⟨no, hno⟩ : ∃ n, n = q.no := ⟨_, rfl⟩
  have HPOST : Hid (∀ A' c' B' n d' O' co' W, n = (minRs q).length → Ext w W → Qc W A' c' B' d' O' co' (minQ q) → MinYes q w (.returned (.tuple #[.agg #[.slice A' na c', .int .i64 0, .string ⟨#[]⟩, .slice B' n d', .slice O' no co'], .int .i64 0])) W) := Lib.hid (fun A' c' B' n d' O' co' W hn h1 h2 => by subst hn; exact ⟨A', c', B', d', O', co', by rw [hna, hno], h1, h2⟩)
  obtain ⟨POST, hPOST⟩ : ∃ P, P = MinYes q w := ⟨_, rfl⟩
  rw [← hPOST] at HPOST ⊢
  rw [← hna] at HP HSTR HCORE HMAP HFIN ⊢
  rw [← hma] at HP ⊢
  rw [← hno] at HP HKEY HFIN ⊢
  have HMA := Lib.hid hma
  clear hq oq hyes htab hpq hkl hkcl hk1 hhcl hna hma hno hPOST
  generalize q.ag = ag at HP ⊢
  generalize q.av = av at HP ⊢
  obtain ⟨p0, hp0, hz0, hz1, hz2⟩ := info_parts info_rule
  have HI0 := Lib.hid (And.intro hp0 (And.intro hz0 (And.intro hz1 hz2)))
  clear hp0 hz0 hz1 hz2
  go_enter Tryd.func24, Tryd.ntmps24
  go_wp2_with fail
  go_step3
  go_wp2_with fail
  have h2 := two_q w [.slice A na c, .int .i64 ag, .string av, .slice B ma d, .slice O no co] [.slice none 0 0, .int .i64 0, .string ⟨#[]⟩, .slice none 0 0, .slice none 0 0] _ rfl
  change Bk ((w.alloc (.cells #[.slice A na c, .int .i64 ag, .string av, .slice B ma d, .slice O no co] 44)).alloc (.cells #[.slice none 0 0, .int .i64 0, .string ⟨#[]⟩, .slice none 0 0, .slice none 0 0] 44)) _ _ _ ∧ Bk ((w.alloc (.cells #[.slice A na c, .int .i64 ag, .string av, .slice B ma d, .slice O no co] 44)).alloc (.cells #[.slice none 0 0, .int .i64 0, .string ⟨#[]⟩, .slice none 0 0, .slice none 0 0] 44)) _ _ _ ∧ Ext w ((w.alloc (.cells #[.slice A na c, .int .i64 ag, .string av, .slice B ma d, .slice O no co] 44)).alloc (.cells #[.slice none 0 0, .int .i64 0, .string ⟨#[]⟩, .slice none 0 0, .slice none 0 0] 44)) at h2
  generalize ((w.alloc (.cells #[.slice A na c, .int .i64 ag, .string av, .slice B ma d, .slice O no co] 44)).alloc (.cells #[.slice none 0 0, .int .i64 0, .string ⟨#[]⟩, .slice none 0 0, .slice none 0 0] 44)) = w1 at *
  obtain ⟨kq, kz, hx⟩ := h2
  refine (HP.out _ hx).mono ?_
  rintro e w2 ⟨y, rfl, he2, rfl⟩
  replace kq := kq.ext he2
  replace kz := kz.ext he2
  have HX2 := Lib.hid (hx.trans he2); have HKQ := Lib.hid kq; have HKZ := Lib.hid kz
  have hw2 : w.heap.size + 1 < w2.heap.size := kz.lt
  have a3 := kq.cell (i := 3) (by simp)
  simp only [List.getElem_cons_zero, List.getElem_cons_succ] at a3
  clear he2 hx kq kz
  go_wp2_with fail
  clear a3
  go_loopw [4, 22] (fun t p wr => ∃ (i : Nat) (ps : List (Value × Value)), i ≤ ma ∧ p = .int .i64 (i : Int) ∧ RuB wr w2.heap.size t i ((List.range i).map (cRu q)) ps ∧ Ext w2 wr) (fun _ p _ => ma - (intOf p).toNat)
  case atStart => exact ⟨0, [], Nat.zero_le _, rfl, RuB.nil _ _, Ext.refl _⟩
  case round =>
    obtain ⟨i, ps, hi, rfl, hV, hext⟩ := hrel
    obtain ⟨At, ct, rfl⟩ := own_slice hV.2.1
    have HV := Lib.hid hV; have HXT := Lib.hid hext
    have hwr : w2.heap.size ≤ wr.heap.size := hext.size
    have HXR := Lib.hid (HX2.out.trans hext)
    by_cases hlt : i < ma
    · have i1 : (0 : Int) ≤ (i : Int) := by omega
      have i2 : (i : Int) < (ma : Int) := by omega
      have hib : i < q.rs.length := by have := HMA.out; omega
      obtain ⟨ad, Br, n, dr, Cr, er, rfl, -, c0, c1, hat, hcn⟩ := HRA.out i hib
      have HCALL := Lib.hid (fun V (hV : Ext w V) => HCORE.out i hib V Br n dr Cr er hV hat hcn)
      obtain ⟨nc, hnc⟩ : ∃ k, k = q.rs[i].nc := ⟨_, rfl⟩
      rw [← hnc] at HCALL c1
      replace c0 := HXR.out.cell c0; replace c1 := HXR.out.cell c1
      have htk : (List.range (i + 1)).map (cRu q) = (List.range i).map (cRu q) ++ [cRu q i] := by rw [List.range_succ, List.map_append]; rfl
      have HTK := Lib.hid htk
      have hkq := HKQ.out.ext hext
      clear hat hcn hnc htk hV hext
      go_upto_region 7 with fail
      have k5 := Bk.new wr 25 [.slice Br n dr, .slice Cr nc er]
      change Bk (wr.alloc (.cells #[.slice Br n dr, .slice Cr nc er] 25)) _ _ _ at k5
      have hx5 : Ext wr (wr.alloc (.cells #[.slice Br n dr, .slice Cr nc er] 25)) := (Ext.refl wr).alloc _
      generalize (wr.alloc (.cells #[.slice Br n dr, .slice Cr nc er] 25)) = w5 at *
      replace hkq := hkq.ext hx5
      have a0 := hkq.cell (i := 0) (by simp)
      have r0 := k5.cell (i := 0) (by simp); have r1 := k5.cell (i := 1) (by simp)
      simp only [List.getElem_cons_zero, List.getElem_cons_succ] at a0 r0 r1
      have HX5 := Lib.hid hx5
      clear c0 c1 k5 hkq hx5
      go_wp2_with fail
      refine (HCALL.out _ (HXR.out.trans HX5.out)).mono ?_
      rintro e w6 ⟨A6, n6, c6, B6, d6, rfl, he6, hA6, hC6⟩
      have he6' : Ext wr w6 := HX5.out.trans he6
      have hown : ∀ k, (Value.slice At i ct).ownBlock = some k → k < w5.heap.size := fun k hk => by have h1 := (HV.out.2.1.lt k hk).2; have h2 := HX5.out.size; omega
      have HA6 : Hid (Ats (fun k => w2.heap.size ≤ k ∧ (Value.slice At i ct).ownBlock ≠ some k) w6 (.slice A6 n6 c6) (csAt q i)) := Lib.hid (hA6.mono (fun k _ hk => ⟨by have := HX5.out.size; omega, fun e => by have h1 := hown k e; omega⟩))
      have HC6 : Hid (Cns (fun k => w2.heap.size ≤ k ∧ (Value.slice At i ct).ownBlock ≠ some k) w6 (.slice B6 0 d6) 0) := Lib.hid (hC6.mono (fun k _ hk => ⟨by have := HX5.out.size; omega, fun e => by have h1 := hown k e; omega⟩))
      have HV6 := Lib.hid (HV.out.ext he6'); have HX6 := Lib.hid (HXT.out.trans he6')
      clear he6 he6' hA6 hC6 hown a0 r0 r1
      go_upto_region 10 with fail
      have k7 := Bk.new w6 25 [.slice A6 n6 c6, .slice B6 0 d6]
      change Bk (w6.alloc (.cells #[.slice A6 n6 c6, .slice B6 0 d6] 25)) _ _ _ at k7
      have hx7 : Ext w6 (w6.alloc (.cells #[.slice A6 n6 c6, .slice B6 0 d6] 25)) := (Ext.refl w6).alloc _
      generalize (w6.alloc (.cells #[.slice A6 n6 c6, .slice B6 0 d6] 25)) = w7 at *
      have r0 := k7.cell (i := 0) (by simp); have r1 := k7.cell (i := 1) (by simp)
      simp only [List.getElem_cons_zero, List.getElem_cons_succ] at r0 r1
      have HV7 := Lib.hid (HV6.out.ext hx7); have HX7 := Lib.hid (HX6.out.trans hx7); have HA7 := Lib.hid (HA6.out.ext hx7); have HC7 := Lib.hid (HC6.out.ext hx7)
      have hw7 : w2.heap.size ≤ w7.heap.size := HX7.out.size
      clear k7 hx7
      go_wp2_with (first | (at_builtin; refine wpList_append_at rfl _ _ 41 rfl w2.heap.size 25 p0 (.agg #[.slice none 0 0, .slice none 0 0]) 2 48 Tryd.underlying41 HI0.out.1 HI0.out.2.1 HI0.out.2.2.1 HI0.out.2.2.2 rfl (by omega) (.slice At i ct) i (pcat ps) rfl (HV7.out.2.1.alloc _) ⟨w7.heap.size, 0, none⟩ 1 1 [.slice A6 n6 c6, .slice B6 0 d6] rfl rfl (laid_news w7 _ _) (by simp [Value.oneCell']) (by simp only [maxLen]; omega) (by omega) (by simp; omega) ?_; intro v8 w8 hr8 hg8 hl8; have HR8 : Hid (RuB w8 w2.heap.size v8 (i + 1) ((List.range i).map (cRu q) ++ [cRu q i]) (ps ++ [(.slice A6 n6 c6, .slice B6 0 d6)])) := Lib.hid (RuB.more HV7.out ((Ext.refl w7).alloc _) (HA7.out.ext ((Ext.refl w7).alloc _)) (HC7.out.ext ((Ext.refl w7).alloc _)) hr8 hg8 hl8); have HE8 : Hid (Ext w2 w8) := Lib.hid ((HX7.out.alloc _).grown hg8 (fun q hq => own_ge HV7.out.2.1 hq)); clear hr8 hg8 hl8))
      go_roundw
      case rel => exact ⟨i + 1, ps ++ [(.slice A6 n6 c6, .slice B6 0 d6)], by omega, by go_num, by rw [HTK.out]; exact HR8.out, HE8.out⟩
      case measure => simp [intOf]; omega
    · obtain rfl : i = ma := by omega
      have hdn : ¬ (i : Int) < (i : Int) := by omega
      obtain ⟨w4, rfl⟩ : ∃ W : World, W = wr := ⟨_, rfl⟩
      have hwx := hext
      obtain ⟨g, cap, hv, hic, hbg, hg4, hown0⟩ := own_some hV.2.1 (by omega)
      injection hv with hv1 hv2 hv3
      subst hv1 hv3
      have HDAT : Hid (∀ k (_ : k < ((List.range i).map (cRu q)).length) (h' : k < ps.length), ∃ B m d C e, ps[k] = (.slice B m d, .slice C ((List.range i).map (cRu q))[k].nc e) ∧ Ats (fun k => k ≠ g ∧ w2.heap.size ≤ k) w4 (.slice B m d) ((List.range i).map (cRu q))[k].ats ∧ Cns (fun k => k ≠ g ∧ w2.heap.size ≤ k) w4 (.slice C ((List.range i).map (cRu q))[k].nc e) ((List.range i).map (cRu q))[k].nc) := Lib.hid (fun k h h' => by
        obtain ⟨B, m, d, C, e, h1, h2, h3⟩ := hV.2.2 k h h'
        exact ⟨B, m, d, C, e, h1, h2.mono (fun k _ h => ⟨fun e => h.2 (by rw [e]; rfl), h.1⟩), h3.mono (fun k _ h => ⟨fun e => h.2 (by rw [e]; rfl), h.1⟩)⟩)
      have HROW := Lib.hid hV.2.1; have HONE := Lib.hid hV.one; have hpl := hV.1
      have HCLO : Hid (Calls Tryd.prog 43 #[.slice (some ⟨g, 0, none⟩) i ct] w4 (Ret (fun x w' => w'.ownsRow w4.heap.size 25 2 x i (pcat ps)) w4)) := Lib.hid (by
        obtain ⟨A', c', e, -, hcl⟩ := Cl.of_own HROW.out
        injection e with e1 e2 e3
        subst e1
        exact clone_rules hcl HROW.out.1 HONE.out (by omega))
      have HOWN0 := Lib.hid hown0; have HPL := Lib.hid hpl
      have hcap : (0 : Int) ≤ (ct : Int) := by omega
      have hcap2 : ¬ ct = 0 := by omega
      clear hV hext hown0 hpl HV HXT
      go_wp2_with fail
      refine HCLO.out.mono ?_
      rintro e w5 ⟨AL, rfl, he5, hrow5⟩
      obtain ⟨AA, cA, rfl⟩ := own_slice hrow5
      have hrus : Rus (fun k => k ≠ g ∧ w2.heap.size ≤ k) w5 (.slice AA i cA) ((List.range i).map (cRu q)) := Rus.of_row HPL.out hrow5 (fun k hk => by have := hwx.size; omega) (fun k h h' => by
        obtain ⟨B, m, d, C, e, h1, h2, h3⟩ := HDAT.out k h h'
        exact ⟨B, m, d, C, e, h1, h2.ext he5, h3.ext he5⟩)
      obtain ⟨adA, rfl, hFA, hall⟩ := all_rows (hrus.mono (G := fun k => k ≠ g ∧ w2.heap.size ≤ k ∧ k < w5.heap.size) (fun k hk h => ⟨h.1, h.2, hk⟩)) (by omega)
      have HALL := Lib.hid hall; have HFA := Lib.hid hFA; have HX5 := Lib.hid (HXR.out.trans he5); have HOWN5 := Lib.hid (own_ext' HOWN0.out he5)
      have HKQ5 := Lib.hid ((HKQ.out.ext (hwx.trans he5))); have HKZ5 := Lib.hid ((HKZ.out.ext (hwx.trans he5)))
      have hg5 : g < w5.heap.size := Nat.lt_of_lt_of_le hg4 he5.size
      obtain ⟨R, hR⟩ : ∃ R, R = relM q := ⟨_, rfl⟩
      rw [← hR] at HMAP
      have HR := Lib.hid hR
      clear he5 hrow5 hrus hall hFA HDAT HROW HONE HCLO HOWN0 HPL HKQ HKZ HCORE hR
      go_wp2_with fail
      go_step3
      go_wp2_with fail
      go_loopg [10, 48] i (fun n t p wr => ∃ (j k : Nat) (ps : List (Value × Value)), j + n = i ∧ p = .int .i64 (j : Int) ∧ RuB wr w2.heap.size t k ((keptTo R i j).map (cRu q)) ps ∧ (∀ b, t.ownBlock = some b → b = g ∨ w5.heap.size ≤ b) ∧ Fr (fun b => b = g) w5 wr)
      case atStart => exact ⟨0, 0, [], by omega, rfl, ⟨rfl, HOWN5.out, fun k h => by simp [keptTo] at h⟩, fun b hb => .inl (by injection hb with hb; exact hb.symm), Fr.refl _ _⟩
      case round =>
        obtain ⟨j, k, ps2, hji, rfl, hV, hown, hfr⟩ := hrel
        obtain ⟨N, rfl⟩ : ∃ N, N = gk := ⟨_, rfl⟩
        obtain ⟨Ar, cr, rfl⟩ := own_slice hV.2.1
        obtain ⟨W, rfl⟩ : ∃ W : World, W = wr := ⟨_, rfl⟩
        have hkl : k ≤ j := by have h1 := hV.num; have h2 := keptTo_length R i j; rw [List.length_map] at h1; omega
        have HV := Lib.hid hV; have HOWN := Lib.hid hown; have HFR := Lib.hid hfr
        have HXW := Lib.hid (hfr.new HX5.out (fun b hb => by have := HX2.out.size; omega))
        have hq5 := HKQ5.out.fr hfr (by omega)
        have hz5 := HKZ5.out.fr hfr (by omega)
        have HKQW := Lib.hid hq5; have HKZW := Lib.hid hz5
        have hw5W : w5.heap.size ≤ W.heap.size := hfr.size
        have hw25 : w2.heap.size ≤ w5.heap.size := by omega
        clear hV hown hq5 hz5
        by_cases hjm : j < i
        · have j1 : (0 : Int) ≤ (j : Int) := by omega
          have j2 : (j : Int) < (i : Int) := by omega
          have hjl : j < q.rs.length := by have := HMA.out; omega
          obtain ⟨B1, n1, d1, C1, e1, c0, c1, hA1, hC1⟩ := HALL.out j hjm
          have hnF : ∀ b, b ≠ g ∧ w2.heap.size ≤ b ∧ b < w5.heap.size → ¬ b = g := fun b hb e => hb.1 e
          replace c0 := hfr.cell c0 (by rw [block_add]; exact hnF _ HFA.out)
          replace c1 := hfr.cell c1 (by show ¬ (adA.add (j * 2)).block = g; rw [block_add]; exact hnF _ HFA.out)
          have HA1 := Lib.hid (hA1.fr hfr hnF); have HC1 := Lib.hid (hC1.fr hfr hnF)
          clear hA1 hC1 hfr
          go_upto_region 17 with fail
          have k6 := Bk.new W 25 [.slice B1 n1 d1, .slice C1 0 e1]
          change Bk (W.alloc (.cells #[.slice B1 n1 d1, .slice C1 0 e1] 25)) _ _ _ at k6
          have hx6 : Ext W (W.alloc (.cells #[.slice B1 n1 d1, .slice C1 0 e1] 25)) := (Ext.refl W).alloc _
          generalize (W.alloc (.cells #[.slice B1 n1 d1, .slice C1 0 e1] 25)) = w6 at *
          have HK6 := Lib.hid k6; have HX6 := Lib.hid hx6
          clear k6 hx6 c0 c1
          go_wp2_with fail
          go_loopg [55] i (fun n p wx => ∃ (l : Nat), l + n = i ∧ p = .int .i64 (l : Int) ∧ (∀ x, x < l → overB R x j = false) ∧ Ext w6 wx)
          case atStart => exact ⟨0, by omega, rfl, fun x h => absurd h (by omega), Ext.refl _⟩
          case round =>
            obtain ⟨l, hli, rfl, hno, hex⟩ := hrel
            have HNO := Lib.hid hno; have HEX := Lib.hid (HX6.out.trans hex); have HE6 := Lib.hid hex
            clear hno hex
            by_cases hlm : l < i
            · have l1 : (0 : Int) ≤ (l : Int) := by omega
              have l2 : (l : Int) < (i : Int) := by omega
              have hll : l < q.rs.length := by have := HMA.out; omega
              obtain ⟨B2, n2, d2, C2, e2, f0, f1, hA2, hC2⟩ := HALL.out l hlm
              have hnF : ∀ b, b ≠ g ∧ w2.heap.size ≤ b ∧ b < w5.heap.size → ¬ b = g := fun b hb e => hb.1 e
              replace f0 := HEX.out.cell (HFR.out.cell f0 (by rw [block_add]; exact hnF _ HFA.out))
              replace f1 := HEX.out.cell (HFR.out.cell f1 (by show ¬ (adA.add (l * 2)).block = g; rw [block_add]; exact hnF _ HFA.out))
              have HA2 := Lib.hid ((hA2.fr HFR.out hnF).ext HEX.out); have HC2 := Lib.hid ((hC2.fr HFR.out hnF).ext HEX.out)
              clear hA2 hC2
              go_upto_region 20 with fail
              have k8 := Bk.new wr 25 [.slice B2 n2 d2, .slice C2 0 e2]
              change Bk (wr.alloc (.cells #[.slice B2 n2 d2, .slice C2 0 e2] 25)) _ _ _ at k8
              have hx8 : Ext wr (wr.alloc (.cells #[.slice B2 n2 d2, .slice C2 0 e2] 25)) := (Ext.refl wr).alloc _
              generalize (wr.alloc (.cells #[.slice B2 n2 d2, .slice C2 0 e2] 25)) = w8 at *
              have HX8 := Lib.hid (HEX.out.trans hx8); have HE8 := Lib.hid (HE6.out.trans hx8)
              have hmap1 : ∀ V, Ext w8 V → Calls Tryd.prog 35 #[.agg #[.slice B2 n2 d2, .slice C2 0 e2], .agg #[.slice B1 n1 d1, .slice C1 0 e1], .slice A na c] V (Ret (fun x _ => x = .bool (R l j)) V) := fun V hV => HMAP.out _ _ j l V _ _ C2 C1 e2 e1 hjl hll (HXW.out.trans (HX8.out.trans hV)) (HA2.out.ext (hx8.trans hV)) (HA1.out.ext (HX8.out.trans hV))
              have hmap2 : ∀ V, Ext w8 V → Calls Tryd.prog 35 #[.agg #[.slice B1 n1 d1, .slice C1 0 e1], .agg #[.slice B2 n2 d2, .slice C2 0 e2], .slice A na c] V (Ret (fun x _ => x = .bool (R j l)) V) := fun V hV => HMAP.out _ _ l j V _ _ C1 C2 e1 e2 hll hjl (HXW.out.trans (HX8.out.trans hV)) (HA1.out.ext (HX8.out.trans hV)) (HA2.out.ext (hx8.trans hV))
              have r0 := (HK6.out.ext HE8.out).cell (i := 0) (by simp); have r1 := (HK6.out.ext HE8.out).cell (i := 1) (by simp)
              have s0 := k8.cell (i := 0) (by simp); have s1 := k8.cell (i := 1) (by simp)
              have a0 := (HKQW.out.ext HX8.out).cell (i := 0) (by simp)
              simp only [List.getElem_cons_zero, List.getElem_cons_succ] at r0 r1 s0 s1 a0
              have HM1 := Lib.hid hmap1; have HM2 := Lib.hid hmap2
              clear hmap1 hmap2 f0 f1 k8 hx8
              obtain ⟨b1, hb1⟩ : ∃ b, b = R l j := ⟨_, rfl⟩
              obtain ⟨b2, hb2⟩ : ∃ b, b = R j l := ⟨_, rfl⟩
              rw [← hb1] at HM1
              rw [← hb2] at HM2
              have HOV : Hid (overB R l j = (decide (l ≠ j) && (b1 && (decide (l < j) || !b2)))) := Lib.hid (by unfold overB; rw [hb1, hb2])
              clear hb1 hb2
              have hstay : overB R l j = false → ∀ x, x < l + 1 → overB R x j = false := fun h x hx => by
                rcases Nat.lt_or_ge x l with h1 | h1
                · exact HNO.out x h1
                · obtain rfl : x = l := by omega
                  exact h
              have HSTAY := Lib.hid hstay
              clear hstay
              have HOUT : Hid (∀ V, Ext w8 V → overB R l j = true → RuB V w2.heap.size (.slice Ar k cr) k ((keptTo R i (j + 1)).map (cRu q)) ps2 ∧ Fr (fun b => b = g) w5 V) := Lib.hid (fun V hV h => by
                rw [keptTo_succ, if_pos (drop_yes hlm h), List.append_nil]
                exact ⟨HV.out.ext (HX8.out.trans hV), HFR.out.ext (HX8.out.trans hV)⟩)
              by_cases hlj : l = j
              · subst hlj
                clear r0 r1 s0 s1 a0
                go_wp2_with fail
                go_roundg (gk - 1)
                case measure => omega
                case rel => exact ⟨l + 1, by omega, by go_num, HSTAY.out (by rw [HOV.out]; simp), HE8.out⟩
              have hne : ¬ (j : Int) = (l : Int) := by omega
              go_wp2_with fail
              refine (HM1.out _ (Ext.refl _)).mono ?_
              rintro e w9 ⟨y, rfl, he9, rfl⟩
              have HE9 := Lib.hid he9
              replace r0 := he9.cell r0; replace r1 := he9.cell r1; replace s0 := he9.cell s0; replace s1 := he9.cell s1; replace a0 := he9.cell a0
              clear he9
              rcases b1 with _ | _
              · clear r0 r1 s0 s1 a0
                go_wp2_with fail
                go_roundg (gk - 1)
                case measure => omega
                case rel => exact ⟨l + 1, by omega, by go_num, HSTAY.out (by rw [HOV.out]; simp), HE8.out.trans HE9.out⟩
              by_cases hlj2 : (l : Int) < (j : Int)
              · clear r0 r1 s0 s1 a0
                have hov : overB R l j = true := by rw [HOV.out]; have h1 : l < j := by omega
                                                    simp [hlj, h1]
                have HYES := Lib.hid hov
                clear hov
                go_wp2_with fail
                go_roundg (N - 1)
                case measure => omega
                case rel => exact ⟨j + 1, k, ps2, by omega, by go_num, (HOUT.out _ HE9.out HYES.out).1, HOWN.out, (HOUT.out _ HE9.out HYES.out).2⟩
              go_wp2_with fail
              refine (HM2.out _ HE9.out).mono ?_
              rintro e w10 ⟨y, rfl, he10, rfl⟩
              have HE10 := Lib.hid (HE9.out.trans he10)
              clear he10 r0 r1 s0 s1 a0
              have hnl : ¬ l < j := by omega
              rcases b2 with _ | _
              · have hov : overB R l j = true := by rw [HOV.out]; simp [hlj]
                have HYES := Lib.hid hov
                clear hov
                go_wp2_with fail
                go_roundg (N - 1)
                case measure => omega
                case rel => exact ⟨j + 1, k, ps2, by omega, by go_num, (HOUT.out _ HE10.out HYES.out).1, HOWN.out, (HOUT.out _ HE10.out HYES.out).2⟩
              · have hov : overB R l j = false := by rw [HOV.out]; simp [hlj, hnl]
                have HYES := Lib.hid hov
                clear hov
                go_wp2_with fail
                go_roundg (gk - 1)
                case measure => omega
                case rel => exact ⟨l + 1, by omega, by go_num, HSTAY.out HYES.out, HE8.out.trans HE10.out⟩
            · obtain rfl : l = i := by omega
              have hdl : ¬ (l : Int) < (l : Int) := by omega
              have HKP : Hid (keptTo R l (j + 1) = keptTo R l j ++ [j]) := Lib.hid (by rw [keptTo_succ, if_neg (by rw [drop_no HNO.out]; simp)])
              have r0 := (HK6.out.ext HE6.out).cell (i := 0) (by simp); have r1 := (HK6.out.ext HE6.out).cell (i := 1) (by simp)
              simp only [List.getElem_cons_zero, List.getElem_cons_succ] at r0 r1
              have HVR := Lib.hid (HV.out.ext HEX.out)
              have hw2r : w2.heap.size ≤ wr.heap.size := by have := HEX.out.size; omega
              have hno' : ∀ b, (b ≠ g ∧ w2.heap.size ≤ b ∧ b < w5.heap.size) → w2.heap.size ≤ b ∧ (Value.slice Ar k cr).ownBlock ≠ some b := fun b hb => ⟨hb.2.1, fun e => by
                rcases HOWN.out b e with h | h
                · exact hb.1 h
                · omega⟩
              have HAR : Hid (Ats (fun b => w2.heap.size ≤ b ∧ (Value.slice Ar k cr).ownBlock ≠ some b) wr (.slice B1 n1 d1) (csAt q j)) := Lib.hid ((HA1.out.ext HEX.out).mono (fun b _ hb => hno' b hb))
              have HCR : Hid (Cns (fun b => w2.heap.size ≤ b ∧ (Value.slice Ar k cr).ownBlock ≠ some b) wr (.slice C1 0 e1) 0) := Lib.hid ((HC1.out.ext HEX.out).mono (fun b _ hb => hno' b hb))
              have HFRR := Lib.hid (HFR.out.ext HEX.out)
              have hwr5 : w5.heap.size ≤ wr.heap.size := HFRR.out.size
              clear hno'
              go_wp2_with (first | (at_builtin; refine wpList_append_at rfl _ _ 41 rfl w2.heap.size 25 p0 (.agg #[.slice none 0 0, .slice none 0 0]) 2 48 Tryd.underlying41 HI0.out.1 HI0.out.2.1 HI0.out.2.2.1 HI0.out.2.2.2 rfl (by omega) (.slice Ar k cr) k (pcat ps2) rfl (HVR.out.2.1.alloc _) ⟨wr.heap.size, 0, none⟩ 1 1 [.slice B1 n1 d1, .slice C1 0 e1] rfl rfl (laid_news wr _ _) (by simp [Value.oneCell']) (by simp only [maxLen]; omega) (by omega) (by simp; omega) ?_; intro v8 w8 hr8 hg8 hl8; have HR8 : Hid (RuB w8 w2.heap.size v8 (k + 1) ((keptTo R l j).map (cRu q) ++ [cRu q j]) (ps2 ++ [(.slice B1 n1 d1, .slice C1 0 e1)])) := Lib.hid (RuB.more HVR.out ((Ext.refl wr).alloc _) (HAR.out.ext ((Ext.refl wr).alloc _)) (HCR.out.ext ((Ext.refl wr).alloc _)) hr8 hg8 hl8); have HF8 : Hid (Fr (fun b => b = g) w5 w8) := Lib.hid ((HFRR.out.ext ((Ext.refl wr).alloc _)).grown hg8 (fun b hb => HOWN.out b hb)); have HO8 : Hid (∀ b, v8.ownBlock = some b → b = g ∨ w5.heap.size ≤ b) := Lib.hid (fun b hb => by (rcases hl8 with h8 | h8); exact HOWN.out b (h8 ▸ hb); rw [h8] at hb; injection hb with hb; have h9 := ((Ext.refl wr).alloc (.cells #[.slice B1 n1 d1, .slice C1 0 e1] 25)).size; right; rw [← hb]; exact Nat.le_trans hwr5 h9); clear hr8 hg8 hl8))
              go_roundg (N - 1)
              case measure => omega
              case rel => exact ⟨j + 1, k + 1, ps2 ++ [(.slice B1 n1 d1, .slice C1 0 e1)], by omega, by go_num, by rw [HKP.out, List.map_append]; exact HR8.out, HO8.out, HF8.out⟩
        · obtain rfl : j = i := by omega
          have hdj : ¬ (j : Int) < (j : Int) := by omega
          have hmin : (keptTo R j j).map (cRu q) = minRs q := by rw [keptTo_all, HR.out, HMA.out]; rfl
          have hnum : k = (minRs q).length := by rw [← hmin]; exact HV.out.num
          have HMIN := Lib.hid hmin; have HNUM := Lib.hid hnum
          have hz := HKZW.out.ext (Ext.refl W).drew
          obtain ⟨z0, z1, z2, z3, z4, f0, f1, f2, f3, f4⟩ := hz.five
          have hqq := HKQW.out.ext (Ext.refl W).drew
          have a0 := hqq.cell (i := 0) (by simp); have a4 := hqq.cell (i := 4) (by simp)
          simp only [List.getElem_cons_zero, List.getElem_cons_succ] at a0 a4
          have HZ := Lib.hid hz; have HQQ := Lib.hid hqq
          have hxd := HXW.out.drew
          have hszd : w.heap.size + 1 < W.drew.heap.size := hz.lt
          have HRUS : Hid (Rus (fun b => w2.heap.size ≤ b) W.drew (.slice Ar k cr) (minRs q)) := Lib.hid (by rw [← hmin]; exact HV.out.rus.ext (Ext.refl W).drew)
          clear hmin hnum hz hqq hfr
          go_upto_region 24 with fail
          go_region_law (first
            | (go_simp; (with_reducible refine (HSTR.out _ (by assumption) (by omega)).mono ?_); rintro e ws ⟨xs, rfl, hes, As, cs, rfl, hss⟩; have hxs : Ext w ws := Ext.trans (by assumption) hes; (try (replace a4 := hes.cell a4)); clear z0 z1 z2 z3 z4 f0 f1 f2 f3 f4; replace HZ := Lib.hid (HZ.out.ext hes); obtain ⟨z0, z1, z2, z3, z4, f0, f1, f2, f3, f4⟩ := HZ.out.five; replace HRUS := Lib.hid (HRUS.out.ext hes); have hsz := hes.size; go_wp2_with fail)
            | (go_simp; (with_reducible refine (HKEY.out _ (by assumption) (by omega)).mono ?_); rintro e wk ⟨xk, rfl, hek, Ak, ck, rfl, hkk⟩; have hxk : Ext w wk := Ext.trans (by assumption) hek; (try (replace a0 := hek.cell a0)); clear z0 z1 z2 z3 z4 f0 f1 f2 f3 f4; replace HZ := Lib.hid (HZ.out.ext hek); obtain ⟨z0, z1, z2, z3, z4, f0, f1, f2, f3, f4⟩ := HZ.out.five; replace HRUS := Lib.hid (HRUS.out.ext hek); have hsz := hek.size; go_wp2_with fail))
          all_goals
            first
              | (have FS := Lib.hid (hss.ext hek); have FK := Lib.hid hkk; have FX := Lib.hid hxk; obtain ⟨V, rfl⟩ : ∃ V : World, V = wk := ⟨_, rfl⟩)
              | (have FS := Lib.hid hss; have FK := Lib.hid (hkk.ext hes); have FX := Lib.hid hxs; obtain ⟨V, rfl⟩ : ∃ V : World, V = ws := ⟨_, rfl⟩)
            have hs := (((((HZ.out.set 0 (.slice As na cs)).set 1 (.int .i64 0)).set 2 (.string ⟨#[]⟩)).set 3 (.slice Ar k cr)).set 4 (.slice Ak no ck))
            clear hes hss hek hkk hxs hxk z0 z1 z2 z3 z4 f0 f1 f2 f3 f4 a0 a4
            go_wp2_with fail
            have hf : Fr (fun b => b = w.heap.size + 1) V (((((V.setCell ⟨w.heap.size + 1, 0, none⟩ (.slice As na cs)).setCell ⟨w.heap.size + 1, 1, none⟩ (.int .i64 0)).setCell ⟨w.heap.size + 1, 2, none⟩ (.string ⟨#[]⟩)).setCell ⟨w.heap.size + 1, 3, none⟩ (.slice Ar k cr)).setCell ⟨w.heap.size + 1, 4, none⟩ (.slice Ak no ck)) := (((((Fr.refl (fun b => b = w.heap.size + 1) V).setCell (p := ⟨w.heap.size + 1, 0, none⟩) (.inl rfl) _).setCell (p := ⟨w.heap.size + 1, 1, none⟩) (.inl rfl) _).setCell (p := ⟨w.heap.size + 1, 2, none⟩) (.inl rfl) _).setCell (p := ⟨w.heap.size + 1, 3, none⟩) (.inl rfl) _).setCell (p := ⟨w.heap.size + 1, 4, none⟩) (.inl rfl) _
            generalize (((((V.setCell ⟨w.heap.size + 1, 0, none⟩ (.slice As na cs)).setCell ⟨w.heap.size + 1, 1, none⟩ (.int .i64 0)).setCell ⟨w.heap.size + 1, 2, none⟩ (.string ⟨#[]⟩)).setCell ⟨w.heap.size + 1, 3, none⟩ (.slice Ar k cr)).setCell ⟨w.heap.size + 1, 4, none⟩ (.slice Ak no ck)) = wz at *
            have s0 := hs.cell (i := 0) (by simp); have s1 := hs.cell (i := 1) (by simp); have s2 := hs.cell (i := 2) (by simp); have s3 := hs.cell (i := 3) (by simp); have s4 := hs.cell (i := 4) (by simp)
            simp at s0 s1 s2 s3 s4
            have hez := hf.new FX.out (fun b hb => by omega)
            have hS := (FS.out.fr hf (fun b hb e => by omega)).mono (G := T1) (fun _ _ _ => trivial)
            have hK := (FK.out.fr hf (fun b hb e => by omega)).mono (G := T1) (fun _ _ _ => trivial)
            have hR := (HRUS.out.fr hf (fun b hb e => by omega)).mono (G := T1) (fun _ _ _ => trivial)
            have hfin := HFIN.out wz As cs Ar cr Ak ck hS (by rw [← HNUM.out]; exact hR) hK
            refine bodyPost_ret (v := .tuple #[.agg #[.slice As na cs, .int .i64 0, .string ⟨#[]⟩, .slice Ar k cr, .slice Ak no ck], .int .i64 0]) ?_ rfl (HPOST.out As cs Ar k cr Ak ck wz HNUM.out hez hfin)
            simp [results, Tryd.results24, go_sem, s0, s1, s2, s3, s4]
end
end Go.Proofs.YtehklbdgkppmeaaDoor
