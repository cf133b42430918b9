/- Contract: minimize.Core. -/
import Derived.Test.YtehklbdgkppmeaaDoorJa
namespace Go.Proofs.YtehklbdgkppmeaaDoor
open Go.RowKit Go.Maps

theorem dedR_sub (xs : List At) : (dedR xs).Sublist xs := by
  suffices h : ∀ (ys l : List At), (ys.foldl dedS l).Sublist (l ++ ys) from by simpa [dedR] using h xs []
  intro ys
  induction ys with
  | nil => intro l; simp
  | cons a ys ih =>
    intro l
    have h1 := ih (dedS l a)
    have h2 : (dedS l a).Sublist (l ++ [a]) := by
      unfold dedS
      split
      · exact List.sublist_append_left _ _
      · exact List.Sublist.refl _
    have h3 := h1.trans (List.Sublist.append h2 (List.Sublist.refl ys))
    simpa using h3
theorem Prs.nil (F : Nat → Prop) (w : World) : Prs F w (.slice none 0 0) [] := ⟨none, 0, rfl, Nat.le_refl _, .inl rfl⟩
def coreP (xs : List At) (fx : List ByteArray) : List At := coreL (okP fx (varsT (allT (dedR xs)))) (dedR xs).length (dedR xs)
def CoreYes (xs : List At) (fx : List ByteArray) (w : World) (e : Ending) (w' : World) : Prop :=
  ∃ A n c B d, e = .returned (.tuple #[.agg #[.slice A n c, .slice B 0 d], .int .i64 0]) ∧ Ext w w' ∧ Ats (fun k => w.heap.size ≤ k) w' (.slice A n c) (coreP xs fx) ∧ Cns (fun k => w.heap.size ≤ k) w' (.slice B 0 d) 0

set_option maxRecDepth 20000 in
set_option maxHeartbeats 1600000 in
theorem mcore_no {F : Nat → Prop} {w : World} {sv vf : Value} {Ac : Option Addr} {nc cc : Nat} {xs : List At} (h : Ats F w sv xs) (hbd : Bd xs) (hno : pureL xs nc = false) :
    Calls Tryd.prog 11 #[.agg #[sv, .slice Ac nc cc], vf] w (fun e w' => e = .returned (.tuple #[.agg #[.slice none 0 0, .slice none 0 0], .int .i64 1]) ∧ Ext w w') := by
  have HCALL : Hid (∀ W, Ext w W → Calls Tryd.prog 28 #[.agg #[sv, .slice Ac nc cc]] W (Ret (fun x _ => x = .bool false) W)) := Lib.hid (fun W hW => by
    have h1 := purerule_any (Ac := Ac) (nc := nc) (cc := cc) (h.ext hW) hbd
    rw [hno] at h1
    exact h1)
  obtain ⟨A, c, rfl⟩ := h.sl
  generalize xs.length = n at *
  clear h hbd hno
  go_enter Tryd.func11, Tryd.ntmps11
  go_wp2_with fail
  have h2 := two_new w [.slice A n c, .slice Ac nc cc] [.slice none 0 0, .slice none 0 0] 25 25 _ rfl
  change Bk ((w.alloc (.cells #[.slice A n c, .slice Ac nc cc] 25)).alloc (.cells #[.slice none 0 0, .slice none 0 0] 25)) _ _ _ ∧ Bk ((w.alloc (.cells #[.slice A n c, .slice Ac nc cc] 25)).alloc (.cells #[.slice none 0 0, .slice none 0 0] 25)) _ _ _ ∧ Ext w ((w.alloc (.cells #[.slice A n c, .slice Ac nc cc] 25)).alloc (.cells #[.slice none 0 0, .slice none 0 0] 25)) at h2
  generalize ((w.alloc (.cells #[.slice A n c, .slice Ac nc cc] 25)).alloc (.cells #[.slice none 0 0, .slice none 0 0] 25)) = w1 at *
  obtain ⟨kr, kz, hx⟩ := h2
  refine (HCALL.out _ hx).mono ?_
  rintro e w2 ⟨y, rfl, he2, rfl⟩
  have hez := hx.trans he2
  have hkz := kz.ext he2
  have z0 := hkz.cell (i := 0) (by simp); have z1 := hkz.cell (i := 1) (by simp); have f0 := hkz.free 0; have f1 := hkz.free 1
  simp only [List.getElem_cons_zero, List.getElem_cons_succ] at z0 z1
  have HEZ := Lib.hid hez; have HKZ := Lib.hid hkz
  clear hez hkz hx he2 kr kz
  go_wp2_with fail
  have hs := ((HKZ.out.set 0 (.slice none 0 0)).set 1 (.slice none 0 0))
  have hf : Ext w ((w2.setCell ⟨w.heap.size + 1, 0, none⟩ (.slice none 0 0)).setCell ⟨w.heap.size + 1, 1, none⟩ (.slice none 0 0)) := (HEZ.out.setCell (p := ⟨w.heap.size + 1, 0, none⟩) (Nat.le_succ _) _).setCell (p := ⟨w.heap.size + 1, 1, none⟩) (Nat.le_succ _) _
  generalize ((w2.setCell ⟨w.heap.size + 1, 0, none⟩ (.slice none 0 0)).setCell ⟨w.heap.size + 1, 1, none⟩ (.slice none 0 0)) = wz at *
  have s0 := hs.cell (i := 0) (by simp); have s1 := hs.cell (i := 1) (by simp)
  simp at s0 s1
  refine bodyPost_ret (v := .tuple #[.agg #[.slice none 0 0, .slice none 0 0], .int .i64 1]) ?_ rfl ⟨rfl, hf⟩
  simp [results, Tryd.results11, go_sem, s0, s1]

/-- The state of Core's loop: the current rule in block gC. -/
structure CoI (w W wr : World) (gC : Nat) (D l : List At) (A : Option Addr) (n c : Nat) (B : Option Addr) (d : Nat) : Prop where
  bk : Bk wr gC 25 [.slice A n c, .slice B 0 d]
  ats : Ats (fun k => w.heap.size + 1 < k ∧ k ≠ gC) wr (.slice A n c) l
  cns : Cns (fun k => w.heap.size + 1 < k ∧ k ≠ gC) wr (.slice B 0 d) 0
  sub : l.Sublist D
  fr : Fr (fun k => k = gC) W wr
theorem CoI.fore {w W wr wr' : World} {gC : Nat} {D l : List At} {A : Option Addr} {n c : Nat} {B : Option Addr} {d : Nat} (h : CoI w W wr gC D l A n c B d) (he : Ext wr wr') : CoI w W wr' gC D l A n c B d :=
  ⟨h.bk.ext he, h.ats.ext he, h.cns.ext he, h.sub, h.fr.ext he⟩
theorem CoI.num {w W wr : World} {gC : Nat} {D l : List At} {A : Option Addr} {n c : Nat} {B : Option Addr} {d : Nat} (h : CoI w W wr gC D l A n c B d) : n = l.length := by
  obtain ⟨_, _, e⟩ := h.ats.sl
  injection e
theorem CoI.next {w W wr wr' : World} {gC : Nat} {D l m : List At} {A : Option Addr} {n c : Nat} {B : Option Addr} {d : Nat} {A' : Option Addr} {n' c' : Nat} (h : CoI w W wr gC D l A n c B d) (he : Ext wr wr') (hm : Ats (fun k => w.heap.size + 1 < k ∧ k ≠ gC) wr' (.slice A' n' c') m) (hs : m.Sublist l) :
    CoI w W ((wr'.setCell ⟨gC, 0, none⟩ (.slice A' n' c')).setCell ⟨gC, 1, none⟩ (.slice none 0 0)) gC D m A' n' c' none 0 := by
  have hf : Fr (fun k => k = gC) wr' ((wr'.setCell ⟨gC, 0, none⟩ (.slice A' n' c')).setCell ⟨gC, 1, none⟩ (.slice none 0 0)) := ((Fr.refl (fun k => k = gC) wr').setCell (p := ⟨gC, 0, none⟩) (.inl rfl) _).setCell (p := ⟨gC, 1, none⟩) (.inl rfl) _
  exact ⟨((h.bk.ext he).set 0 _).set 1 _, hm.fr hf (fun k hk e => hk.2 e), Cns.nil _ _, hs.trans h.sub, (h.fr.ext he).trans hf⟩

set_option maxRecDepth 20000 in
set_option maxHeartbeats 3200000 in
theorem mcore_yes {F G H : Nat → Prop} {w : World} {sv vf vc : Value} {xs : List At} {fx : List ByteArray} (hX : Ats F w sv xs) (hC : Cns G w vc 0) (hF : Strs H w vf fx) (hax : AOk xs) (hyes : pureL xs 0 = true) (htab : TabE w) (hfx : fx.length ≤ 1000) (hfs : ∀ v ∈ fx, v.size ≤ 1048576) :
    Calls Tryd.prog 11 #[.agg #[sv, vc], vf] w (CoreYes xs fx w) := by
  obtain ⟨A, c, rfl⟩ := hX.sl
  obtain ⟨Ac, cc, hvc⟩ : ∃ A c, vc = .slice A 0 c := by obtain ⟨A, c, _, e, _⟩ := hC; exact ⟨A, c, e⟩
  subst hvc
  obtain ⟨C, cC, hvf⟩ : ∃ A c, vf = .slice A fx.length c := by obtain ⟨A, c, e, _⟩ := hF; exact ⟨A, c, e⟩
  subst hvf
  have hpq : Pq (dedR xs) := (Pq.of hyes hax.bd).sub (dedR_sub xs)
  have HPURE : Hid (∀ W, Ext w W → Calls Tryd.prog 28 #[.agg #[.slice A xs.length c, .slice Ac 0 cc]] W (Ret (fun x _ => x = .bool true) W)) := Lib.hid (fun W hW => by
    have h1 := purerule_any (Ac := Ac) (nc := 0) (cc := cc) (hX.ext hW) hax.bd
    rw [hyes] at h1
    exact h1)
  have HAPP : Hid (∀ W, Ext w W → Calls Tryd.prog 29 #[.agg #[.slice A xs.length c, .slice Ac 0 cc], .slice none 0 0] W (fun e w' => Ext W w' ∧ ∃ A' n' c' B' d', e = .returned (.agg #[.slice A' n' c', .slice B' 0 d']) ∧ Ats (fun k => W.heap.size ≤ k) w' (.slice A' n' c') (dedR xs) ∧ Cns (fun k => W.heap.size ≤ k) w' (.slice B' 0 d') 0)) := Lib.hid (fun W hW => by
    have h1 := happly_any (ps := []) (hX.ext hW) (hC.ext hW) (Prs.nil H W) hax (by omega) (Lib.hid (by simp)) (by simp) (htab.fore hW) (Lib.hid (fun s t h => by simp [firstP] at h))
    rw [app_ded (fun a ha => ((pureL_iff.1 hyes).1 a ha).1.1)] at h1
    exact h1)
  obtain ⟨D, hD⟩ : ∃ D, D = dedR xs := ⟨_, rfl⟩
  rw [← hD] at HAPP hpq
  have HRES : Hid (coreP xs fx = coreL (okP fx (varsT (allT D))) D.length D) := Lib.hid (by rw [hD]; rfl)
  have HPQ := Lib.hid hpq; have HFX := Lib.hid hF; have HFS := Lib.hid hfs
  obtain ⟨n, hn⟩ : ∃ n, n = xs.length := ⟨_, rfl⟩
  obtain ⟨nf, hnf⟩ : ∃ n, n = fx.length := ⟨_, rfl⟩
  rw [← hn] at HPURE HAPP ⊢
  rw [← hnf] at HFX hfx ⊢
  have HNF := Lib.hid hnf
  clear hX hC hF hax hyes htab hfs hpq hD hn hnf
  go_enter Tryd.func11, Tryd.ntmps11
  go_wp2_with fail
  have h2 := two_new w [.slice A n c, .slice Ac 0 cc] [.slice none 0 0, .slice none 0 0] 25 25 _ rfl
  change Bk ((w.alloc (.cells #[.slice A n c, .slice Ac 0 cc] 25)).alloc (.cells #[.slice none 0 0, .slice none 0 0] 25)) _ _ _ ∧ Bk ((w.alloc (.cells #[.slice A n c, .slice Ac 0 cc] 25)).alloc (.cells #[.slice none 0 0, .slice none 0 0] 25)) _ _ _ ∧ Ext w ((w.alloc (.cells #[.slice A n c, .slice Ac 0 cc] 25)).alloc (.cells #[.slice none 0 0, .slice none 0 0] 25)) at h2
  generalize ((w.alloc (.cells #[.slice A n c, .slice Ac 0 cc] 25)).alloc (.cells #[.slice none 0 0, .slice none 0 0] 25)) = w1 at *
  obtain ⟨kr, kz, hx⟩ := h2
  refine (HPURE.out _ hx).mono ?_
  rintro e w2 ⟨y, rfl, he2, rfl⟩
  replace hx := hx.trans he2
  replace kr := kr.ext he2
  replace kz := kz.ext he2
  have r0 := kr.cell (i := 0) (by simp); have r1 := kr.cell (i := 1) (by simp)
  simp only [List.getElem_cons_zero, List.getElem_cons_succ] at r0 r1
  clear he2
  go_wp2_with fail
  refine (HAPP.out _ hx).mono ?_
  rintro e w3 ⟨he3, A3, n3, c3, B3, d3, rfl, hA3, hC3⟩
  have hn3 : n3 = D.length := by obtain ⟨_, _, e⟩ := hA3.sl; injection e
  have HX3 := Lib.hid (hx.trans he3); have HKZ3 := Lib.hid (kz.ext he3)
  have hw2 : w.heap.size + 1 < w2.heap.size := kz.lt
  have HA3 : Hid (Ats (fun k => w.heap.size + 1 < k ∧ k ≠ w3.heap.size) w3 (.slice A3 n3 c3) D) := Lib.hid (hA3.mono (fun k hk h => ⟨by omega, by omega⟩))
  have HC3 : Hid (Cns (fun k => w.heap.size + 1 < k ∧ k ≠ w3.heap.size) w3 (.slice B3 0 d3) 0) := Lib.hid (hC3.mono (fun k hk h => ⟨by omega, by omega⟩))
  have HN3 := Lib.hid hn3
  have hw1 : w.heap.size + 1 < w3.heap.size := HKZ3.out.lt
  clear hx kr kz he3 hA3 hC3 r0 r1 hn3
  go_wp2_with fail
  have k4 := Bk.new w3 25 [.slice A3 n3 c3, .slice B3 0 d3]
  change Bk (w3.alloc (.cells #[.slice A3 n3 c3, .slice B3 0 d3] 25)) _ _ _ at k4
  have hx4 : Ext w3 (w3.alloc (.cells #[.slice A3 n3 c3, .slice B3 0 d3] 25)) := (Ext.refl w3).alloc _
  obtain ⟨gC, hgC⟩ : ∃ g, g = w3.heap.size := ⟨_, rfl⟩
  rw [← hgC] at k4 HA3 HC3 hw1 ⊢
  have hw4 : gC < (w3.alloc (.cells #[.slice A3 n3 c3, .slice B3 0 d3] 25)).heap.size := k4.lt
  generalize (w3.alloc (.cells #[.slice A3 n3 c3, .slice B3 0 d3] 25)) = w4 at *
  have HX4 := Lib.hid (HX3.out.trans hx4); have HK4 := Lib.hid k4; have HA4 := Lib.hid (HA3.out.ext hx4); have HC4 := Lib.hid (HC3.out.ext hx4); have HKZ4 := Lib.hid (HKZ3.out.ext hx4)
  have b0 := k4.cell (i := 0) (by simp); have b1 := k4.cell (i := 1) (by simp)
  simp only [List.getElem_cons_zero, List.getElem_cons_succ] at b0 b1
  clear hgC k4 hx4 HX3 HA3 HC3 HKZ3
  refine (variables_any (Ac := B3) (cc := d3) HA4.out HPQ.out.bd).mono ?_
  rintro e w5 ⟨bP, nP, rfl, he5, hbP, hmP⟩
  have k5 := HK4.out.ext he5
  replace b0 := k5.cell (i := 0) (by simp)
  simp only [List.getElem_cons_zero] at b0
  have b0' := (k5.alloc (.cells #[.map (some bP)] 68)).cell (i := 0) (by simp)
  simp only [List.getElem_cons_zero] at b0'
  have HX5 := Lib.hid (HX4.out.trans he5); have HK5 := Lib.hid k5; have HA5 := Lib.hid (HA4.out.ext he5); have HC5 := Lib.hid (HC4.out.ext he5); have HKZ5 := Lib.hid (HKZ4.out.ext he5); have HMP := Lib.hid hmP
  clear he5 k5 hmP b1 HX4 HK4 HA4 HC4 HKZ4
  have hnb : n3 ≤ 8 := by have := HPQ.out.len; have := HN3.out; omega
  go_wp2_with fail
  have k6 := Bk.new w5 68 [.map (some bP)]
  change Bk (w5.alloc (.cells #[.map (some bP)] 68)) _ _ _ at k6
  have hx6 : Ext w5 (w5.alloc (.cells #[.map (some bP)] 68)) := (Ext.refl w5).alloc _
  have hw5 : gC < w5.heap.size := HK5.out.lt
  obtain ⟨gP, hgP⟩ : ∃ g, g = w5.heap.size := ⟨_, rfl⟩
  rw [← hgP] at k6 hw5 ⊢
  generalize (w5.alloc (.cells #[.map (some bP)] 68)) = W at *
  have HX6 := Lib.hid (HX5.out.trans hx6); have HK6 := Lib.hid k6; have HMP6 := Lib.hid (HMP.out.ext hx6); have HKZ6 := Lib.hid (HKZ5.out.ext hx6)
  have HI6 : Hid (CoI w W W gC D D A3 n3 c3 B3 d3) := Lib.hid ⟨HK5.out.ext hx6, HA5.out.ext hx6, HC5.out.ext hx6, List.Sublist.refl _, Fr.refl _ _⟩
  obtain ⟨VD, hVD⟩ : ∃ V, V = varsT (allT D) := ⟨_, rfl⟩
  rw [← hVD] at HMP6 HRES
  clear hgP k6 hx6 b0 b0' HX5 HK5 HA5 HC5 HKZ5 HMP hVD
  go_loopw [8] (fun q wr => ∃ (j : Nat) (l : List At) (A : Option Addr) (n c : Nat) (B : Option Addr) (d : Nat), q = .int .i64 ((j : Int) - 1) ∧ j ≤ n ∧ CoI w W wr gC D l A n c B d ∧ coreL (okP fx VD) j l = coreP xs fx) (fun q _ => (intOf q + 1).toNat)
  case atStart => exact ⟨n3, D, A3, n3, c3, B3, d3, rfl, Nat.le_refl _, HI6.out, by rw [HRES.out, HN3.out]⟩
  case round =>
    obtain ⟨j, l, A, n, c, B, d, rfl, hjn, hI, hcore⟩ := hrel
    have hnum := hI.num
    have hpl := HPQ.out.sub hI.sub
    have hn8 : n ≤ 8 := by have := hpl.len; omega
    have hxr := hI.fr.new HX6.out (fun k hk => by omega)
    have HI := Lib.hid hI; have HPL := Lib.hid hpl; have HXR := Lib.hid hxr; have HN := Lib.hid hnum
    have b0 := hI.bk.cell (i := 0) (by simp); have b1 := hI.bk.cell (i := 1) (by simp)
    simp only [List.getElem_cons_zero, List.getElem_cons_succ] at b0 b1
    have hgCr := hI.bk.lt
    have hwr := hxr.size
    rcases j with _ | j
    · have e1 : ((0 : Nat) : Int) - 1 = -1 := rfl
      rw [e1]
      have HCORE : Hid (l = coreP xs fx) := Lib.hid hcore
      clear e1 hcore hpl hnum hxr hI
      have hkz := HKZ6.out.fr HI.out.fr (by omega)
      have z0 := hkz.cell (i := 0) (by simp); have z1 := hkz.cell (i := 1) (by simp); have f0 := hkz.free 0; have f1 := hkz.free 1
      simp only [List.getElem_cons_zero, List.getElem_cons_succ] at z0 z1
      have HKZ := Lib.hid hkz
      clear hkz
      go_wp2_with fail
      have hs := ((HKZ.out.set 0 (.slice A n c)).set 1 (.slice B 0 d))
      have hf : Fr (fun k => k = w.heap.size + 1) wr ((wr.setCell ⟨w.heap.size + 1, 0, none⟩ (.slice A n c)).setCell ⟨w.heap.size + 1, 1, none⟩ (.slice B 0 d)) := ((Fr.refl (fun k => k = w.heap.size + 1) wr).setCell (p := ⟨w.heap.size + 1, 0, none⟩) (.inl rfl) _).setCell (p := ⟨w.heap.size + 1, 1, none⟩) (.inl rfl) _
      generalize ((wr.setCell ⟨w.heap.size + 1, 0, none⟩ (.slice A n c)).setCell ⟨w.heap.size + 1, 1, none⟩ (.slice B 0 d)) = wz at *
      have s0 := hs.cell (i := 0) (by simp); have s1 := hs.cell (i := 1) (by simp)
      simp at s0 s1
      have hez := hf.new HXR.out (fun k hk => by omega)
      refine bodyPost_ret (v := .tuple #[.agg #[.slice A n c, .slice B 0 d], .int .i64 0]) ?_ rfl ⟨A, n, c, B, d, rfl, hez, ?_, ?_⟩
      · simp [results, Tryd.results11, go_sem, s0, s1]
      · rw [← HCORE.out]
        exact (HI.out.ats.fr hf (fun k hk e => by omega)).mono (fun k _ hk => by omega)
      · exact (HI.out.cns.fr hf (fun k hk e => by omega)).mono (fun k _ hk => by omega)
    · have e1 : ((j + 1 : Nat) : Int) - 1 = (j : Int) := by omega
      rw [e1]
      have i1 : (0 : Int) ≤ (j : Int) := by omega
      have hn0 : 0 < n := by omega
      have HCORE : Hid (coreL (okP fx VD) j (if okP fx VD l (l.eraseIdx j) = true then l.eraseIdx j else l) = coreP xs fx) := Lib.hid hcore
      have haf : Ats (fun k => (w.heap.size + 1 < k ∧ k ≠ gC) ∧ k < wr.heap.size) wr (.slice A n c) l := hI.ats.mono (fun k hk h => ⟨h, hk⟩)
      have hclone := clone_atoms haf (by omega) (by omega)
      rw [← hnum] at hclone
      obtain ⟨M, hM⟩ : ∃ M, M = l.eraseIdx j := ⟨_, rfl⟩
      have hms : M.Sublist l := by rw [hM]; exact List.eraseIdx_sublist _ _
      rw [← hM] at HCORE
      have HCL := Lib.hid hclone; have HM := Lib.hid hM; have HMS := Lib.hid hms; have HPM := Lib.hid (hpl.sub hms)
      clear e1 hcore hpl hnum hxr hI haf hclone hM hms
      go_wp2_with fail
      refine HCL.out.mono ?_
      rintro e w7 ⟨v7, rfl, he7, hG7⟩
      obtain ⟨A7, c7, rfl⟩ := hG7.sl
      have HDEL := Lib.hid (delete_atom (i := j) hG7 (fun k hk => hk.2) (by omega) (by omega))
      rw [← HM.out] at HDEL
      have HOWN := Lib.hid (fun k hk => hG7.own (k := k) hk)
      have HE7 := Lib.hid he7
      clear hG7 he7 b0 b1
      go_wp2_with fail
      refine HDEL.out.mono ?_
      rintro e w8 ⟨v8, rfl, hG8, hf8⟩
      obtain ⟨A8, c8, rfl⟩ := hG8.sl
      have he8 : Ext wr w8 := hf8.new HE7.out (fun k hk => HOWN.out k hk)
      have hm8 : Ats (fun k => w.heap.size + 1 < k ∧ k ≠ gC) w8 (.slice A8 (n - 1) c8) M := hG8.ats.mono (fun k _ h => by
        rcases h with h | h
        · exact h.1
        · exact ⟨by omega, by omega⟩)
      obtain ⟨nm, hnm⟩ : ∃ k, k = n - 1 := ⟨_, rfl⟩
      rw [← hnm] at hm8 ⊢
      have hjm : j ≤ nm := by omega
      have HE8 := Lib.hid he8; have HM8 := Lib.hid hm8
      have hw8 := he8.size
      clear hf8 hG8 he8 hm8 hnm HDEL HOWN HE7
      go_wp2_with fail
      have k9 := Bk.new w8 25 [.slice A8 nm c8, .slice none 0 0]
      change Bk (w8.alloc (.cells #[.slice A8 nm c8, .slice none 0 0] 25)) _ _ _ at k9
      have hx9 : Ext w8 (w8.alloc (.cells #[.slice A8 nm c8, .slice none 0 0] 25)) := (Ext.refl w8).alloc _
      obtain ⟨gW, hgW⟩ : ∃ g, g = w8.heap.size := ⟨_, rfl⟩
      rw [← hgW] at k9 hw8 ⊢
      generalize (w8.alloc (.cells #[.slice A8 nm c8, .slice none 0 0] 25)) = w9 at *
      have HE9 := Lib.hid (HE8.out.trans hx9); have HM9 := Lib.hid (HM8.out.ext hx9); have HK9 := Lib.hid k9
      clear hgW k9 hx9 HE8 HM8
      refine (variables_any (Ac := none) (cc := 0) HM9.out HPM.out.bd).mono ?_
      rintro e w10 ⟨bM, nM, rfl, he10, hbM, hmM⟩
      have HE10 := Lib.hid (HE9.out.trans he10); have HM10 := Lib.hid (HM9.out.ext he10); have HK10 := Lib.hid (HK9.out.ext he10); have HMM := Lib.hid hmM
      clear he10 hmM HE9 HM9 HK9
      go_wp2_with fail
      have k11 := Bk.new w10 68 [.map (some bM)]
      change Bk (w10.alloc (.cells #[.map (some bM)] 68)) _ _ _ at k11
      have hx11 : Ext w10 (w10.alloc (.cells #[.map (some bM)] 68)) := (Ext.refl w10).alloc _
      obtain ⟨gM, hgM⟩ : ∃ g, g = w10.heap.size := ⟨_, rfl⟩
      rw [← hgM] at k11 ⊢
      generalize (w10.alloc (.cells #[.map (some bM)] 68)) = w11 at *
      have HE11 := Lib.hid (HE10.out.trans hx11); have HM11 := Lib.hid (HM10.out.ext hx11); have HK11 := Lib.hid k11; have HKW11 := Lib.hid (HK10.out.ext hx11); have HMM11 := Lib.hid (HMM.out.ext hx11)
      have HKP11 := Lib.hid ((HK6.out.fr HI.out.fr (by omega)).ext (HE10.out.trans hx11))
      have HMP11 := Lib.hid ((HMP6.out.fr HI.out.fr (by omega)).ext (HE10.out.trans hx11))
      clear hgM k11 hx11 HE10 HM10 HK10 HMM
      obtain ⟨VM, hVM⟩ : ∃ V, V = varsT (allT M) := ⟨_, rfl⟩
      rw [← hVM] at HMM11
      have HVM := Lib.hid hVM
      clear hVM
      refine (contains_core1 (p := fun s => decide (s ∈ VD) && !decide (s ∈ VM)) (HFX.out.ext (HXR.out.trans HE11.out)) (by have := HNF.out; omega) (fun s hs W' hW' => core1 (HKP11.out.ext hW') (HK11.out.ext hW') (HMP11.out.ext hW') (HMM11.out.ext hW') (by have := HFS.out s hs; simp only [maxLen]; omega))).mono ?_
      rintro e w12 ⟨y, rfl, he12, rfl⟩
      have HE12 := Lib.hid (HE11.out.trans he12); have HM12 := Lib.hid (HM11.out.ext he12); have HKW12 := Lib.hid (HKW11.out.ext he12)
      have HOK : Hid (okP fx VD l M = (!(fx.any (fun s => decide (s ∈ VD) && !decide (s ∈ VM))) && (findS l M fx).isSome)) := Lib.hid (by rw [HVM.out]; rfl)
      clear he12 HE11 HM11 HKW11 HK11 HMM11 HKP11 HMP11
      obtain ⟨b, hb⟩ : ∃ b, b = fx.any (fun s => decide (s ∈ VD) && !decide (s ∈ VM)) := ⟨_, rfl⟩
      rw [← hb] at HOK ⊢
      clear hb
      rcases b with _ | _
      · have hI12 := HI.out.fore HE12.out
        have b0 := hI12.bk.cell (i := 0) (by simp); have b1 := hI12.bk.cell (i := 1) (by simp); have f0 := hI12.bk.free 0; have f1 := hI12.bk.free 1
        have g0 := HKW12.out.cell (i := 0) (by simp); have g1 := HKW12.out.cell (i := 1) (by simp)
        simp only [List.getElem_cons_zero, List.getElem_cons_succ] at b0 b1 g0 g1
        have HI12 := Lib.hid hI12
        rw [Bool.not_false, Bool.true_and] at HOK
        clear hI12
        go_wp2_with fail
        refine (maps_any HI12.out.ats HM12.out (HFX.out.ext (HXR.out.trans HE12.out)) HPL.out HPM.out (by have := HNF.out; omega) HFS.out).mono ?_
        rintro e w13 ⟨y, rfl, he13, rfl⟩
        have HE13 := Lib.hid (HE12.out.trans he13); have HM13 := Lib.hid (HM12.out.ext he13)
        replace b0 := he13.cell b0; replace b1 := he13.cell b1; replace g0 := he13.cell g0; replace g1 := he13.cell g1
        replace f0 := (HI12.out.bk.ext he13).free 0; replace f1 := (HI12.out.bk.ext he13).free 1
        clear he13 HI12 HE12 HM12
        obtain ⟨b, hb⟩ : ∃ b, b = (findS l M fx).isSome := ⟨_, rfl⟩
        rw [← hb] at HOK ⊢
        clear hb
        rcases b with _ | _
        · rw [HOK.out] at HCORE
          go_wp2_with fail
          go_roundw
          case rel => exact ⟨j, l, A, n, c, B, d, by go_num, by omega, HI.out.fore HE13.out, HCORE.out⟩
          case measure => simp [intOf]
        · rw [HOK.out] at HCORE
          go_wp2_with fail
          go_roundw
          case rel => exact ⟨j, M, A8, nm, c8, none, 0, by go_num, hjm, HI.out.next HE13.out HM13.out HMS.out, HCORE.out⟩
          case measure => simp [intOf]
      · rw [Bool.not_true, Bool.false_and] at HOK
        rw [HOK.out] at HCORE
        go_wp2_with fail
        go_roundw
        case rel => exact ⟨j, l, A, n, c, B, d, by go_num, by omega, HI.out.fore HE12.out, HCORE.out⟩
        case measure => simp [intOf]
end Go.Proofs.YtehklbdgkppmeaaDoor
