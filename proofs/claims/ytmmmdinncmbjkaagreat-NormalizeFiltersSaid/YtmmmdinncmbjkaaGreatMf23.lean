/- Contracts: selected, remaining, Project on what is empty. Contract: normalize.Load, given what load answers. -/
import Derived.Test.YtmmmdinncmbjkaaGreatMf22
namespace Go.Proofs.YtmmmdinncmbjkaaGreat
open Go.RowKit Go.Maps
theorem three_blk (w : World) (t u v : TypeId) (cs ds es : List Value) : Bk (((w.alloc (.cells cs.toArray t)).alloc (.cells ds.toArray u)).alloc (.cells es.toArray v)) w.heap.size t cs ∧ Bk (((w.alloc (.cells cs.toArray t)).alloc (.cells ds.toArray u)).alloc (.cells es.toArray v)) (w.heap.size + 1) u ds ∧ Bk (((w.alloc (.cells cs.toArray t)).alloc (.cells ds.toArray u)).alloc (.cells es.toArray v)) (w.heap.size + 1 + 1) v es := by
  obtain ⟨h1, h2⟩ := two_blk w t u cs ds
  refine ⟨h1.alloc _, h2.alloc _, ?_⟩
  have h := Bk.new ((w.alloc (.cells cs.toArray t)).alloc (.cells ds.toArray u)) v es
  have e : ((w.alloc (.cells cs.toArray t)).alloc (.cells ds.toArray u)).heap.size = w.heap.size + 1 + 1 := by simp
  rw [e] at h
  exact h
set_option maxRecDepth 20000 in
set_option maxHeartbeats 1600000 in
theorem remaining_nil {w : World} {a : Int} {R X : Option Addr} {n c d : Nat} :
    Calls Tryz.prog 53 #[.agg #[.int .i64 a, .slice R n c], .slice X 0 d] w (fun e w' => Ext w w' ∧ e = .returned (.tuple #[.agg #[.int .i64 a, .slice R n c], .int .i64 0])) := by
  have k3 := three_blk w 54 147 54 [.int .i64 a, .slice R n c] [.slice X 0 d] [.int .i64 0, .slice none 0 0]
  have hx : Ext w (((w.alloc (.cells #[.int .i64 a, .slice R n c] 54)).alloc (.cells #[.slice X 0 d] 147)).alloc (.cells #[.int .i64 0, .slice none 0 0] 54)) := (((Ext.refl w).alloc _).alloc _).alloc _
  go_enter Tryz.func53, Tryz.ntmps53
  go_upto_region 1 with fail
  change Bk (((w.alloc (.cells #[.int .i64 a, .slice R n c] 54)).alloc (.cells #[.slice X 0 d] 147)).alloc (.cells #[.int .i64 0, .slice none 0 0] 54)) _ _ _ ∧ Bk (((w.alloc (.cells #[.int .i64 a, .slice R n c] 54)).alloc (.cells #[.slice X 0 d] 147)).alloc (.cells #[.int .i64 0, .slice none 0 0] 54)) _ _ _ ∧ Bk (((w.alloc (.cells #[.int .i64 a, .slice R n c] 54)).alloc (.cells #[.slice X 0 d] 147)).alloc (.cells #[.int .i64 0, .slice none 0 0] 54)) _ _ _ at k3
  generalize (((w.alloc (.cells #[.int .i64 a, .slice R n c] 54)).alloc (.cells #[.slice X 0 d] 147)).alloc (.cells #[.int .i64 0, .slice none 0 0] 54)) = w1 at *
  obtain ⟨ka, kb, kc⟩ := k3
  have a0 := ka.cell (i := 0) (by simp); have a1 := ka.cell (i := 1) (by simp); have b0 := kb.cell (i := 0) (by simp); have c0 := kc.cell (i := 0) (by simp); have c1 := kc.cell (i := 1) (by simp)
  simp only [List.getElem_cons_zero, List.getElem_cons_succ] at a0 a1 b0 c0 c1
  have f0 := kc.free 0; have f1 := kc.free 1
  have hlt := kc.lt
  go_wp2_with fail
  have kz : Bk ((w1.setCell ⟨w.heap.size + 1 + 1, 0, none⟩ (.int .i64 a)).setCell ⟨w.heap.size + 1 + 1, 1, none⟩ (.slice R n c)) (w.heap.size + 1 + 1) 54 [.int .i64 a, .slice R n c] := (kc.set 0 _).set 1 _
  have hez : Ext w ((w1.setCell ⟨w.heap.size + 1 + 1, 0, none⟩ (.int .i64 a)).setCell ⟨w.heap.size + 1 + 1, 1, none⟩ (.slice R n c)) := (hx.setCell (p := ⟨w.heap.size + 1 + 1, 0, none⟩) (by show w.heap.size ≤ w.heap.size + 1 + 1; omega) _).setCell (p := ⟨w.heap.size + 1 + 1, 1, none⟩) (by show w.heap.size ≤ w.heap.size + 1 + 1; omega) _
  generalize ((w1.setCell ⟨w.heap.size + 1 + 1, 0, none⟩ (.int .i64 a)).setCell ⟨w.heap.size + 1 + 1, 1, none⟩ (.slice R n c)) = wz at *
  have z0 := kz.cell (i := 0) (by simp); have z1 := kz.cell (i := 1) (by simp)
  simp only [List.getElem_cons_zero, List.getElem_cons_succ] at z0 z1
  exact bodyPost_ret (v := .tuple #[.agg #[.int .i64 a, .slice R n c], .int .i64 0]) (by simp [results, Tryz.results53, go_sem, z0, z1]) rfl ⟨hez, rfl⟩
set_option maxRecDepth 20000 in
set_option maxHeartbeats 1600000 in
theorem sorted_empty {w : World} {R : Option Addr} {c : Nat} {f : Value} :
    Calls Tryz.prog 104 #[.slice R 0 c, f] w (fun e w' => e = .returned (.bool true) ∧ w = w') := by
  go_enter Tryz.func104, Tryz.ntmps104
  go_wp2_with fail
  go_loopw [5] (fun t wr => t = .int .i64 (-1) ∧ w = wr) (fun _ _ => 0)
  case atStart => exact ⟨rfl, rfl⟩
  case round =>
    obtain ⟨rfl, rfl⟩ := hrel
    go_wp2_with fail
    go_ret
    exact ⟨rfl, rfl⟩
set_option maxRecDepth 20000 in
set_option maxHeartbeats 1600000 in
theorem compact_empty {w : World} {R : Option Addr} {c : Nat} {f : Value} :
    Calls Tryz.prog 106 #[.slice R 0 c, f] w (fun e w' => e = .returned (.slice R 0 c) ∧ w = w') := by
  go_enter Tryz.func106, Tryz.ntmps106
  go_wp2_with fail
  go_ret
  exact ⟨rfl, rfl⟩
set_option maxRecDepth 20000 in
set_option maxHeartbeats 1600000 in
theorem build_empty {w : World} {R : Option Addr} {c : Nat} {a : Int} :
    Calls Tryz.prog 78 #[.int .i64 a, .slice R 0 c] w (fun e w' => Ext w w' ∧ e = .returned (.tuple #[.agg #[.int .i64 a, .slice R 0 c], .int .i64 0])) := by
  have kb := Bk.new w 54 [.int .i64 0, .slice none 0 0]
  have hx : Ext w (w.alloc (.cells #[.int .i64 0, .slice none 0 0] 54)) := (Ext.refl w).alloc _
  go_enter Tryz.func78, Tryz.ntmps78
  go_upto_region 1 with fail
  change Bk (w.alloc (.cells #[.int .i64 0, .slice none 0 0] 54)) _ _ _ at kb
  generalize (w.alloc (.cells #[.int .i64 0, .slice none 0 0] 54)) = w1 at *
  go_wp2_with fail
  refine sorted_empty.mono ?_
  rintro e w2 ⟨rfl, rfl⟩
  go_wp2_with fail
  refine compact_empty.mono ?_
  rintro e w2 ⟨rfl, rfl⟩
  have b0 := kb.cell (i := 0) (by simp); have b1 := kb.cell (i := 1) (by simp)
  simp only [List.getElem_cons_zero, List.getElem_cons_succ] at b0 b1
  have f0 := kb.free 0; have f1 := kb.free 1
  have hlt := kb.lt
  go_wp2_with fail
  go_loopw [20] (fun t wr => t = .int .i64 0 ∧ w1 = wr) (fun _ _ => 0)
  case atStart => exact ⟨rfl, rfl⟩
  case round =>
    obtain ⟨rfl, rfl⟩ := hrel
    go_wp2_with fail
    have kz : Bk ((w1.setCell ⟨w.heap.size, 0, none⟩ (.int .i64 a)).setCell ⟨w.heap.size, 1, none⟩ (.slice R 0 c)) w.heap.size 54 [.int .i64 a, .slice R 0 c] := (kb.set 0 _).set 1 _
    have hez : Ext w ((w1.setCell ⟨w.heap.size, 0, none⟩ (.int .i64 a)).setCell ⟨w.heap.size, 1, none⟩ (.slice R 0 c)) := (hx.setCell (p := ⟨w.heap.size, 0, none⟩) (Nat.le_refl _) _).setCell (p := ⟨w.heap.size, 1, none⟩) (Nat.le_refl _) _
    generalize ((w1.setCell ⟨w.heap.size, 0, none⟩ (.int .i64 a)).setCell ⟨w.heap.size, 1, none⟩ (.slice R 0 c)) = wz at *
    have z0 := kz.cell (i := 0) (by simp); have z1 := kz.cell (i := 1) (by simp)
    simp only [List.getElem_cons_zero, List.getElem_cons_succ] at z0 z1
    exact bodyPost_ret (v := .tuple #[.agg #[.int .i64 a, .slice R 0 c], .int .i64 0]) (by simp [results, Tryz.results78, go_sem, z0, z1]) rfl ⟨hez, rfl⟩
theorem info_row : (Tryz.prog.info? 81).map (fun i => (i.zero, i.size, i.bytes)) = some (some (.slice none 0 0), 1, 24) := by kernel_rfl
end Go.Proofs.YtmmmdinncmbjkaaGreat
namespace Go.Proofs.YtmmmdinncmbjkaaGreat
open Go.RowKit Go.Maps
/-- A relation in a slice of relations. -/
def rdRe : Rdg Re where
  sz := 2
  R := fun F w cs x => ∃ u, cs = [.int .i64 x.ar, u] ∧ Sl rdRow F w u x.rows
  len := fun ⟨_, e, _⟩ => by rw [e]; rfl
  fr := fun ⟨u, e, h⟩ hf hs => ⟨u, e, h.fr hf hs⟩
  mono := fun ⟨u, e, h⟩ hs => ⟨u, e, h.mono (by decide) hs⟩
theorem info_re : (Tryz.prog.info? 54).map (fun i => (i.zero, i.size, i.bytes)) = some (some (.agg #[.int .i64 0, .slice none 0 0]), 2, 32) := by kernel_rfl
/-- What load answers. -/
def LoadPost (r : Except Int Re) (w : World) (e : Ending) (w' : World) : Prop :=
  Ext w w' ∧ ((∃ c, r = .error c ∧ c ≠ 0 ∧ e = .returned (.tuple #[.agg #[.int .i64 0, .slice none 0 0], .int .i64 c])) ∨
    ∃ x A n c, r = .ok x ∧ e = .returned (.tuple #[.agg #[.int .i64 x.ar, .slice A n c], .int .i64 0]) ∧ Sl rdRow (fun k => w.heap.size ≤ k) w' (.slice A n c) x.rows)
/-- What Load answers. -/
def LoadsPost (res : Src → Except Int Re) (srcs : List Src) (w : World) (e : Ending) (w' : World) : Prop :=
  Ext w w' ∧ ((∃ (c : Int) (i : Nat) (h : i < srcs.length), res srcs[i] = .error c ∧ c ≠ 0 ∧ (∃ l : List Re, (srcs.take i).map res = l.map .ok) ∧ e = .returned (.tuple #[.slice none 0 0, .int .i64 c])) ∨
    ∃ l A n c, srcs.map res = l.map .ok ∧ e = .returned (.tuple #[.slice A n c, .int .i64 0]) ∧ Sl rdRe (fun k => w.heap.size ≤ k) w' (.slice A n c) l)
/-- The source that reads as s. -/
def SrcV (F : Nat → Prop) (w : World) (v : Value) (s : Src) : Prop :=
  ∃ A1 c1 A2 c2 A3 c3 A4 c4 A5 c5, v = .agg #[.string s.rel, .slice A1 s.vars.length c1, .slice A2 s.cols.length c2, .slice A3 s.same.length c3, .slice A4 s.fs.length c4, .slice A5 s.nots.length c5] ∧ Ins F w (.slice A1 s.vars.length c1) s.vars ∧ Ins F w (.slice A2 s.cols.length c2) s.cols ∧ Sl rdPi F w (.slice A3 s.same.length c3) s.same ∧ Sl rdFl F w (.slice A4 s.fs.length c4) s.fs ∧ Sl rdNt F w (.slice A5 s.nots.length c5) s.nots
set_option maxRecDepth 20000 in
set_option maxHeartbeats 3200000 in
theorem loads_any {F : Nat → Prop} {w : World} {V D : Value} {f : Int} {B : Option Addr} {m d : Nat} {srcs : List Src} {b : Nat} {res : Src → Except Int Re} (hV : ∃ A n c, V = .slice A n c) (hD : ∃ A n c, D = .slice A n c) (h : Sl rdSrc F w (.slice B m d) srcs) (hm : m ≤ 1048576)
    (hres : ∀ W, Ext w W → ∀ s ∈ srcs, ∀ v, SrcV F W v s → Calls Tryz.prog 31 #[v, .agg #[.map (some b)]] W (LoadPost (res s) W)) :
    Calls Tryz.prog 9 #[.agg #[V, .int .i64 f, D, .slice B m d], .agg #[.map (some b)]] w (LoadsPost res srcs w) := by
  obtain ⟨A1, n1, c1, rfl⟩ := hV
  obtain ⟨A2, n2, c2, rfl⟩ := hD
  have hnm := h.cap.1
  have HS := Lib.hid h; have HM := Lib.hid hnm; have HRES := Lib.hid hres
  obtain ⟨p0, hp0, hx0, hx1, hx2⟩ := info_parts info_re
  have HP0 := Lib.hid (And.intro hp0 (And.intro hx0 (And.intro hx1 hx2))); clear hp0 hx0 hx1 hx2
  clear h hnm hres
  go_enter Tryz.func9, Tryz.ntmps9
  go_upto_region 1 with fail
  have k2 := two_blk w 40 26 [.slice A1 n1 c1, .int .i64 f, .slice A2 n2 c2, .slice B m d] [.map (some b)]
  change Bk ((w.alloc (.cells #[.slice A1 n1 c1, .int .i64 f, .slice A2 n2 c2, .slice B m d] 40)).alloc (.cells #[.map (some b)] 26)) _ _ _ ∧ Bk ((w.alloc (.cells #[.slice A1 n1 c1, .int .i64 f, .slice A2 n2 c2, .slice B m d] 40)).alloc (.cells #[.map (some b)] 26)) _ _ _ at k2
  have hx1 : Ext w ((w.alloc (.cells #[.slice A1 n1 c1, .int .i64 f, .slice A2 n2 c2, .slice B m d] 40)).alloc (.cells #[.map (some b)] 26)) := ((Ext.refl w).alloc _).alloc _
  generalize ((w.alloc (.cells #[.slice A1 n1 c1, .int .i64 f, .slice A2 n2 c2, .slice B m d] 40)).alloc (.cells #[.map (some b)] 26)) = w1 at *
  obtain ⟨ka, kb⟩ := k2
  have b3 := ka.cell (i := 3) (by simp)
  simp only [List.getElem_cons_zero, List.getElem_cons_succ] at b3
  have HX1 := Lib.hid hx1; have HKB := Lib.hid kb
  clear ka kb hx1
  go_wp2_with fail
  clear b3
  go_loopw [6, 14] (fun u t wr => ∃ (i k : Nat) (l : List Re) (css : List (List Value)), i ≤ m ∧ t = .int .i64 (i : Int) ∧ Hid ((srcs.take i).map res = l.map Except.ok) ∧ k ≤ i ∧ Rw rdRe wr w1.heap.size 54 u k l css ∧ Ext w1 wr) (fun _ t _ => m - (intOf t).toNat)
  case atStart => exact ⟨0, 0, [], [], Nat.zero_le _, rfl, Lib.hid rfl, Nat.le_refl _, Rw.empty _ _ _ _, Ext.refl _⟩
  case round =>
    obtain ⟨i, k, l, css, hi, rfl, HE, hk, hrw, hxr⟩ := hrel
    obtain ⟨Au, cu, rfl⟩ := own_slice hrw.own
    obtain ⟨W, rfl⟩ : ∃ W : World, W = wr := ⟨_, rfl⟩
    have hx := HX1.out.trans hxr
    have HX := Lib.hid hx; have HXR := Lib.hid hxr; have HRW := Lib.hid hrw
    by_cases hlt : i < m
    · have i1 : (0 : Int) ≤ (i : Int) := by omega
      have i2 : (i : Int) < (m : Int) := by omega
      have hil : i < srcs.length := by have := HM.out; omega
      obtain ⟨ad, A1', e1, A2', e2, A3', e3, A4', e4, A5', e5, rfl, -, s0, s1, s2, s3, s4, s5, g1, g2, g3, g4, g5⟩ := HS.out.src hil
      replace s0 := hx.cell s0; replace s1 := hx.cell s1; replace s2 := hx.cell s2; replace s3 := hx.cell s3; replace s4 := hx.cell s4; replace s5 := hx.cell s5
      have hsv : ∀ W', Ext w W' → SrcV F W' (.agg #[.string srcs[i].rel, .slice A1' srcs[i].vars.length e1, .slice A2' srcs[i].cols.length e2, .slice A3' srcs[i].same.length e3, .slice A4' srcs[i].fs.length e4, .slice A5' srcs[i].nots.length e5]) srcs[i] := fun W' hW' => ⟨A1', e1, A2', e2, A3', e3, A4', e4, A5', e5, rfl, g1.ext hW', g2.ext hW', g3.ext hW', g4.ext hW', g5.ext hW'⟩
      have hcl := fun (W' : World) (hW' : Ext w W') => HRES.out W' hW' srcs[i] (List.getElem_mem hil) _ (hsv W' hW')
      have hstep : ∀ x, res srcs[i] = .ok x → (srcs.take (i + 1)).map res = (l ++ [x]).map Except.ok := fun x hx => by
        rw [List.take_succ_eq_append_getElem hil, List.map_append, HE.out, List.map_append]
        simp [hx]
      have hfin : ∀ c, res srcs[i] = .error c → c ≠ 0 → ∀ w', Ext w w' → LoadsPost res srcs w (.returned (.tuple #[.slice none 0 0, .int .i64 c])) w' := fun c hc h0 w' hw' => ⟨hw', .inl ⟨c, i, hil, hc, h0, ⟨l, HE.out⟩, rfl⟩⟩
      obtain ⟨rs, hrs⟩ : ∃ r, r = res srcs[i] := ⟨_, rfl⟩
      rw [← hrs] at hcl hstep hfin
      generalize srcs[i].vars.length = q1 at *
      generalize srcs[i].cols.length = q2 at *
      generalize srcs[i].same.length = q3 at *
      generalize srcs[i].fs.length = q4 at *
      generalize srcs[i].nots.length = q5 at *
      generalize srcs[i].rel = rl at *
      have HCL := Lib.hid hcl; have HSTEP := Lib.hid hstep; have HFIN := Lib.hid hfin
      clear hrw hx hsv hcl hstep hfin hrs g1 g2 g3 g4 g5
      go_upto_region 5 with fail
      have kt := Bk.new W 36 [.string rl, .slice A1' q1 e1, .slice A2' q2 e2, .slice A3' q3 e3, .slice A4' q4 e4, .slice A5' q5 e5]
      change Bk (W.alloc (.cells #[.string rl, .slice A1' q1 e1, .slice A2' q2 e2, .slice A3' q3 e3, .slice A4' q4 e4, .slice A5' q5 e5] 36)) _ _ _ at kt
      have hx2 : Ext W (W.alloc (.cells #[.string rl, .slice A1' q1 e1, .slice A2' q2 e2, .slice A3' q3 e3, .slice A4' q4 e4, .slice A5' q5 e5] 36)) := (Ext.refl W).alloc _
      generalize (W.alloc (.cells #[.string rl, .slice A1' q1 e1, .slice A2' q2 e2, .slice A3' q3 e3, .slice A4' q4 e4, .slice A5' q5 e5] 36)) = W2 at *
      have t0 := kt.cell (i := 0) (by simp); have t1 := kt.cell (i := 1) (by simp); have t2 := kt.cell (i := 2) (by simp); have t3 := kt.cell (i := 3) (by simp); have t4 := kt.cell (i := 4) (by simp); have t5 := kt.cell (i := 5) (by simp)
      simp only [List.getElem_cons_zero, List.getElem_cons_succ] at t0 t1 t2 t3 t4 t5
      have HX2 := Lib.hid (HX.out.trans hx2); have HXR2 := Lib.hid (HXR.out.trans hx2); have HRW2 := Lib.hid (HRW.out.ext hx2)
      have d0 := (HKB.out.ext HXR2.out).cell (i := 0) (by simp)
      simp only [List.getElem_cons_zero, List.getElem_cons_succ] at d0
      have hww : w1.heap.size ≤ W2.heap.size := HXR2.out.size
      clear kt hx2 s0 s1 s2 s3 s4 s5 hxr
      go_wp2_with fail
      refine (HCL.out _ HX2.out).mono ?_
      rintro e w5 ⟨he5, ⟨c, hc, h0, rfl⟩ | ⟨x, A9, n9, c9, hok, rfl, hrows⟩⟩
      · have HFN := Lib.hid (HFIN.out c hc h0)
        have HX5 := Lib.hid (HX2.out.trans he5)
        have hcb : (c == 0) = false := by simpa using h0
        clear hc h0 he5 t0 t1 t2 t3 t4 t5 d0
        go_wp2_with fail
        go_ret2
        exact HFN.out _ (HX5.out.alloc _)
      · have HST := Lib.hid (HSTEP.out x hok)
        have HRW5 := Lib.hid (HRW2.out.ext he5); have HX5 := Lib.hid (HX2.out.trans he5); have HXR5 := Lib.hid (HXR2.out.trans he5)
        have HOWN : Hid (∀ q, (Value.slice Au k cu).ownBlock = some q → w1.heap.size ≤ q ∧ q < W2.heap.size) := Lib.hid (fun q hq => HRW2.out.own.lt q hq)
        have HROW : Hid (Sl rdRow (fun q => w1.heap.size ≤ q ∧ (Value.slice Au k cu).ownBlock ≠ some q) w5 (.slice A9 n9 c9) x.rows) := Lib.hid (hrows.mono (by decide) (fun q _ hq => ⟨by omega, fun e => by have h1 := (HOWN.out q e).2; omega⟩))
        have hws : w1.heap.size ≤ w5.heap.size := HXR5.out.size
        obtain ⟨ar, har⟩ : ∃ a, a = x.ar := ⟨_, rfl⟩
        rw [← har]
        have HAR := Lib.hid har
        clear hrows he5 hok har t0 t1 t2 t3 t4 t5 d0
        go_upto_region 8 with fail
        have kr := Bk.new w5 54 [.int .i64 ar, .slice A9 n9 c9]
        change Bk (w5.alloc (.cells #[.int .i64 ar, .slice A9 n9 c9] 54)) _ _ _ at kr
        have hx6 : Ext w5 (w5.alloc (.cells #[.int .i64 ar, .slice A9 n9 c9] 54)) := (Ext.refl w5).alloc _
        generalize (w5.alloc (.cells #[.int .i64 ar, .slice A9 n9 c9] 54)) = w6 at *
        have r0 := kr.cell (i := 0) (by simp); have r1 := kr.cell (i := 1) (by simp)
        simp only [List.getElem_cons_zero, List.getElem_cons_succ] at r0 r1
        have HRW6 := Lib.hid (HRW5.out.ext hx6); have HX6 := Lib.hid (HX5.out.trans hx6); have HXR6 := Lib.hid (HXR5.out.trans hx6); have HROW6 := Lib.hid (HROW.out.ext hx6)
        have hws6 : w1.heap.size ≤ w6.heap.size := HXR6.out.size
        have hlt6 := kr.lt
        clear kr hx6
        go_wp2_with (first
          | (at_builtin; refine wpList_append_at rfl _ _ 41 rfl w1.heap.size 54 p0 (.agg #[.int .i64 0, .slice none 0 0]) 2 32 Tryz.underlying41 HP0.out.1 HP0.out.2.1 HP0.out.2.2.1 HP0.out.2.2.2 rfl (by omega) (.slice Au k cu) k css.flatten rfl (HRW6.out.own.alloc _) ⟨w6.heap.size, 0, none⟩ 1 1 [.int .i64 ar, .slice A9 n9 c9] rfl rfl (laid_news w6 _ _) (by simp [Value.oneCell']) (by simp only [maxLen]; omega) (by omega) (by simp; omega) ?_; intro v8 w8 hr8 hg8 hl8; obtain ⟨A8, c8, e8⟩ := own_slice hr8; subst e8; have HRW8 := Lib.hid (Rw.more (x := x) HRW6.out ((Ext.refl w6).alloc _) ⟨_, by rw [← HAR.out], HROW6.out.ext ((Ext.refl w6).alloc _)⟩ hr8 hg8 hl8); have HX8 := Lib.hid ((HXR6.out.alloc _).grown hg8 (fun b hb => own_ge HRW6.out.own hb)); clear hr8 hg8 hl8))
        go_roundw
        case rel => exact ⟨i + 1, k + 1, _, _, by omega, by go_num, HST, by omega, HRW8.out, HX8.out⟩
        case measure => simp [intOf]; omega
    · obtain rfl : i = m := by omega
      have hdi : ¬ (i : Int) < (i : Int) := by omega
      have et : srcs.take i = srcs := List.take_of_length_le (by have := HM.out; omega)
      have HQ : Hid (Sl rdRe (fun k => w.heap.size ≤ k) W (.slice Au k cu) l ∧ srcs.map res = l.map Except.ok) := Lib.hid (by
        refine ⟨(hrw.sl (by decide)).mono (by decide) (fun q _ hq => by have := HX1.out.size; omega), ?_⟩
        have h := HE.out
        rw [et] at h
        exact h)
      clear et hrw hx hxr
      go_wp2_with fail
      go_ret2
      exact ⟨HX.out, .inr ⟨l, _, _, _, HQ.out.2, rfl, HQ.out.1⟩⟩
end Go.Proofs.YtmmmdinncmbjkaaGreat
