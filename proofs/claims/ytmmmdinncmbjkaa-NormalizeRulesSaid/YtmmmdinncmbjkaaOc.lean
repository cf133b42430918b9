/- Contract: normalize.Rule, where it hands back an error. -/
import Derived.Test.YtmmmdinncmbjkaaOa
namespace Go.Proofs.Ytmmmdinncmbjkaa
open Go.RowKit Go.Maps

set_option maxRecDepth 20000 in
set_option maxHeartbeats 1600000 in
theorem rule_no {F G : Nat → Prop} {w : World} {A B O S : Option Addr} {ca cb co nS cs : Nat} {ri : Int} {q : Qy} {ss : List Sc} (h : QyR F w A ca B cb O co q) (hS : Sl rdSc G w (.slice S nS cs) ss) (hz : QyZ q) (hlo : q.od.length ≤ 1048576) (hls : ss.length ≤ maxLen) (hc : checkE ss q ≠ 0) :
    Calls Try.prog 8 #[.agg #[.slice A q.hd.length ca, .int .i64 q.ag, .string q.av, .slice B q.rs.length cb, .slice O q.od.length co], .int .i64 ri, .slice S nS cs] w (RuleNo (checkE ss q) w) := by
  have HCK := Lib.hid (fun (V : World) (hV : Ext w V) => check_any (h.ext hV) (hS.ext hV) hz hlo hls)
  obtain ⟨x, hx⟩ : ∃ x, x = checkE ss q := ⟨_, rfl⟩
  rw [← hx] at HCK hc ⊢
  obtain ⟨nh, hnh⟩ : ∃ n, n = q.hd.length := ⟨_, rfl⟩
  obtain ⟨nr, hnr⟩ : ∃ n, n = q.rs.length := ⟨_, rfl⟩
  obtain ⟨no, hno⟩ : ∃ n, n = q.od.length := ⟨_, rfl⟩
  obtain ⟨ag, hag⟩ : ∃ x, x = q.ag := ⟨_, rfl⟩
  obtain ⟨av, hav⟩ : ∃ x, x = q.av := ⟨_, rfl⟩
  rw [← hnh, ← hnr, ← hno, ← hag, ← hav] at HCK
  rw [← hnh, ← hnr, ← hno, ← hag, ← hav]
  have hne : (x != 0) = true := by rw [bne_iff_ne]; exact hc
  clear h hS hz hlo hls hc hx hnh hnr hno hag hav
  go_enter Try.func8, Try.ntmps8
  go_upto_region 1 with fail
  have kq := Bk.new w 27 [.slice A nh ca, .int .i64 ag, .string av, .slice B nr cb, .slice O no co]
  change Bk (w.alloc (.cells #[.slice A nh ca, .int .i64 ag, .string av, .slice B nr cb, .slice O no co] 27)) _ _ _ at kq
  have hx1 : Ext w (w.alloc (.cells #[.slice A nh ca, .int .i64 ag, .string av, .slice B nr cb, .slice O no co] 27)) := (Ext.refl w).alloc _
  have hs1 : (w.alloc (.cells #[.slice A nh ca, .int .i64 ag, .string av, .slice B nr cb, .slice O no co] 27)).heap.size = w.heap.size + 1 := by simp
  generalize (w.alloc (.cells #[.slice A nh ca, .int .i64 ag, .string av, .slice B nr cb, .slice O no co] 27)) = w1 at *
  have kr := Bk.new w1 33 [.slice none 0 0, .int .i64 0, .slice none 0 0, .slice none 0 0]
  change Bk (w1.alloc (.cells #[.slice none 0 0, .int .i64 0, .slice none 0 0, .slice none 0 0] 33)) _ _ _ at kr
  have hx2 : Ext w1 (w1.alloc (.cells #[.slice none 0 0, .int .i64 0, .slice none 0 0, .slice none 0 0] 33)) := (Ext.refl w1).alloc _
  have hs2 : (w1.alloc (.cells #[.slice none 0 0, .int .i64 0, .slice none 0 0, .slice none 0 0] 33)).heap.size = w1.heap.size + 1 := by simp
  generalize (w1.alloc (.cells #[.slice none 0 0, .int .i64 0, .slice none 0 0, .slice none 0 0] 33)) = w2 at *
  rw [hs1] at kr hs2
  have HKQ := Lib.hid (kq.ext hx2); have HKR := Lib.hid kr; have HX2 := Lib.hid (hx1.trans hx2)
  clear kq kr hx1 hx2 hs1
  have q0 := HKQ.out.cell (i := 0) (by simp); have q1 := HKQ.out.cell (i := 1) (by simp); have q2 := HKQ.out.cell (i := 2) (by simp); have q3 := HKQ.out.cell (i := 3) (by simp); have q4 := HKQ.out.cell (i := 4) (by simp)
  simp only [List.getElem_cons_zero, List.getElem_cons_succ] at q0 q1 q2 q3 q4
  go_wp2_with fail
  refine (HCK.out _ HX2.out).mono ?_
  rintro e w3 ⟨he, A1, n1, c1, B1, m1, d1, rfl⟩
  have hs3 : w2.heap.size ≤ w3.heap.size := he.size
  have hlt3 : w.heap.size < w3.heap.size := by omega
  have hlt4 : w.heap.size + 1 < w3.heap.size := by omega
  have hx3 : Ext w3 (w3.alloc (.cells #[.slice A1 n1 c1, .slice B1 m1 d1] 40)) := (Ext.refl w3).alloc _
  replace HX2 := Lib.hid ((HX2.out.trans he).trans hx3)
  replace HKR := Lib.hid ((HKR.out.ext he).ext hx3)
  replace q3 := he.cell q3
  clear he hs2 hs3 q0 q1 q2 q4
  obtain ⟨w4, hw4⟩ : ∃ u, u = w3.alloc (.cells #[.slice A1 n1 c1, .slice B1 m1 d1] 40) := ⟨_, rfl⟩
  rw [← hw4] at HX2 HKR hx3
  have r0 := HKR.out.cell (i := 0) (by simp); have r1 := HKR.out.cell (i := 1) (by simp); have r2 := HKR.out.cell (i := 2) (by simp); have r3 := HKR.out.cell (i := 3) (by simp)
  have fz0 := HKR.out.free 0; have fz1 := HKR.out.free 1; have fz2 := HKR.out.free 2; have fz3 := HKR.out.free 3
  simp only [List.getElem_cons_zero, List.getElem_cons_succ] at r0 r1 r2 r3
  go_upto_region 3 with fail
  rw [← hw4]
  clear hw4 hx3 hlt3 hlt4 q3
  go_wp2_with fail
  have kz : Bk ((((w4.setCell ⟨w.heap.size + 1, 0, none⟩ (.slice none 0 0)).setCell ⟨w.heap.size + 1, 1, none⟩ (.int .i64 0)).setCell ⟨w.heap.size + 1, 2, none⟩ (.slice none 0 0)).setCell ⟨w.heap.size + 1, 3, none⟩ (.slice none 0 0)) (w.heap.size + 1) 33 [.slice none 0 0, .int .i64 0, .slice none 0 0, .slice none 0 0] := ((((HKR.out.set 0 _).set 1 _).set 2 _).set 3 _)
  have hez : Ext w ((((w4.setCell ⟨w.heap.size + 1, 0, none⟩ (.slice none 0 0)).setCell ⟨w.heap.size + 1, 1, none⟩ (.int .i64 0)).setCell ⟨w.heap.size + 1, 2, none⟩ (.slice none 0 0)).setCell ⟨w.heap.size + 1, 3, none⟩ (.slice none 0 0)) := ((((HX2.out.setCell (p := ⟨w.heap.size + 1, 0, none⟩) (Nat.le_succ _) _).setCell (p := ⟨w.heap.size + 1, 1, none⟩) (Nat.le_succ _) _).setCell (p := ⟨w.heap.size + 1, 2, none⟩) (Nat.le_succ _) _).setCell (p := ⟨w.heap.size + 1, 3, none⟩) (Nat.le_succ _) _)
  generalize ((((w4.setCell ⟨w.heap.size + 1, 0, none⟩ (.slice none 0 0)).setCell ⟨w.heap.size + 1, 1, none⟩ (.int .i64 0)).setCell ⟨w.heap.size + 1, 2, none⟩ (.slice none 0 0)).setCell ⟨w.heap.size + 1, 3, none⟩ (.slice none 0 0)) = wz at *
  have z0 := kz.cell (i := 0) (by simp); have z1 := kz.cell (i := 1) (by simp); have z2 := kz.cell (i := 2) (by simp); have z3 := kz.cell (i := 3) (by simp)
  simp only [List.getElem_cons_zero, List.getElem_cons_succ] at z0 z1 z2 z3
  exact bodyPost_ret (v := .tuple #[.agg #[.slice none 0 0, .int .i64 0, .slice none 0 0, .slice none 0 0], .int .i64 x]) (by simp [results, Try.results8, go_sem, z0, z1, z2, z3]) rfl ⟨rfl, hez⟩
set_option maxRecDepth 20000 in
set_option maxHeartbeats 1600000 in
theorem rule_range {F G : Nat → Prop} {w : World} {A B O S : Option Addr} {ca cb co nS cs : Nat} {ri : Int} {q : Qy} {ss : List Sc} (h : QyR F w A ca B cb O co q) (hS : Sl rdSc G w (.slice S nS cs) ss) (hz : QyZ q) (hlo : q.od.length ≤ 1048576) (hls : ss.length ≤ maxLen) (hc : checkE ss q = 0) (hr : ri < 0 ∨ (q.rs.length : Int) ≤ ri) :
    Calls Try.prog 8 #[.agg #[.slice A q.hd.length ca, .int .i64 q.ag, .string q.av, .slice B q.rs.length cb, .slice O q.od.length co], .int .i64 ri, .slice S nS cs] w (RuleNo 3 w) := by
  have HCK := Lib.hid (fun (V : World) (hV : Ext w V) => check_any (h.ext hV) (hS.ext hV) hz hlo hls)
  rw [hc] at HCK
  obtain ⟨nh, hnh⟩ : ∃ n, n = q.hd.length := ⟨_, rfl⟩
  obtain ⟨nr, hnr⟩ : ∃ n, n = q.rs.length := ⟨_, rfl⟩
  obtain ⟨no, hno⟩ : ∃ n, n = q.od.length := ⟨_, rfl⟩
  obtain ⟨ag, hag⟩ : ∃ x, x = q.ag := ⟨_, rfl⟩
  obtain ⟨av, hav⟩ : ∃ x, x = q.av := ⟨_, rfl⟩
  rw [← hnh, ← hnr, ← hno, ← hag, ← hav] at HCK
  rw [← hnh, ← hnr, ← hno, ← hag, ← hav]
  rw [← hnr] at hr
  clear h hS hz hlo hls hc hnh hnr hno hag hav
  by_cases hneg : ri < 0
  case' pos => clear hr
  case' neg => replace hr : (nr : Int) ≤ ri := by omega
  all_goals
    go_enter Try.func8, Try.ntmps8
    go_upto_region 1 with fail
    have kq := Bk.new w 27 [.slice A nh ca, .int .i64 ag, .string av, .slice B nr cb, .slice O no co]
    change Bk (w.alloc (.cells #[.slice A nh ca, .int .i64 ag, .string av, .slice B nr cb, .slice O no co] 27)) _ _ _ at kq
    have hx1 : Ext w (w.alloc (.cells #[.slice A nh ca, .int .i64 ag, .string av, .slice B nr cb, .slice O no co] 27)) := (Ext.refl w).alloc _
    have hs1 : (w.alloc (.cells #[.slice A nh ca, .int .i64 ag, .string av, .slice B nr cb, .slice O no co] 27)).heap.size = w.heap.size + 1 := by simp
    generalize (w.alloc (.cells #[.slice A nh ca, .int .i64 ag, .string av, .slice B nr cb, .slice O no co] 27)) = w1 at *
    have kr := Bk.new w1 33 [.slice none 0 0, .int .i64 0, .slice none 0 0, .slice none 0 0]
    change Bk (w1.alloc (.cells #[.slice none 0 0, .int .i64 0, .slice none 0 0, .slice none 0 0] 33)) _ _ _ at kr
    have hx2 : Ext w1 (w1.alloc (.cells #[.slice none 0 0, .int .i64 0, .slice none 0 0, .slice none 0 0] 33)) := (Ext.refl w1).alloc _
    have hs2 : (w1.alloc (.cells #[.slice none 0 0, .int .i64 0, .slice none 0 0, .slice none 0 0] 33)).heap.size = w1.heap.size + 1 := by simp
    generalize (w1.alloc (.cells #[.slice none 0 0, .int .i64 0, .slice none 0 0, .slice none 0 0] 33)) = w2 at *
    rw [hs1] at kr hs2
    have HKQ := Lib.hid (kq.ext hx2); have HKR := Lib.hid kr; have HX2 := Lib.hid (hx1.trans hx2)
    clear kq kr hx1 hx2 hs1
    have q0 := HKQ.out.cell (i := 0) (by simp); have q1 := HKQ.out.cell (i := 1) (by simp); have q2 := HKQ.out.cell (i := 2) (by simp); have q3 := HKQ.out.cell (i := 3) (by simp); have q4 := HKQ.out.cell (i := 4) (by simp)
    simp only [List.getElem_cons_zero, List.getElem_cons_succ] at q0 q1 q2 q3 q4
    go_wp2_with fail
    refine (HCK.out _ HX2.out).mono ?_
    rintro e w3 ⟨he, A1, n1, c1, B1, m1, d1, rfl⟩
    have hs3 : w2.heap.size ≤ w3.heap.size := he.size
    have hlt3 : w.heap.size < w3.heap.size := by omega
    have hlt4 : w.heap.size + 1 < w3.heap.size := by omega
    have hx3 : Ext w3 (w3.alloc (.cells #[.slice A1 n1 c1, .slice B1 m1 d1] 40)) := (Ext.refl w3).alloc _
    replace HX2 := Lib.hid ((HX2.out.trans he).trans hx3)
    replace HKR := Lib.hid ((HKR.out.ext he).ext hx3)
    replace q3 := he.cell q3
    clear he hs2 hs3 q0 q1 q2 q4
    obtain ⟨w4, hw4⟩ : ∃ u, u = w3.alloc (.cells #[.slice A1 n1 c1, .slice B1 m1 d1] 40) := ⟨_, rfl⟩
    rw [← hw4] at HX2 HKR hx3
    have r0 := HKR.out.cell (i := 0) (by simp); have r1 := HKR.out.cell (i := 1) (by simp); have r2 := HKR.out.cell (i := 2) (by simp); have r3 := HKR.out.cell (i := 3) (by simp)
    have fz0 := HKR.out.free 0; have fz1 := HKR.out.free 1; have fz2 := HKR.out.free 2; have fz3 := HKR.out.free 3
    simp only [List.getElem_cons_zero, List.getElem_cons_succ] at r0 r1 r2 r3
    go_upto_region 5 with fail
    rw [← hw4]
    clear hw4 hx3 hlt3 hlt4 q3
    go_wp2_with fail
    have kz : Bk ((((w4.setCell ⟨w.heap.size + 1, 0, none⟩ (.slice none 0 0)).setCell ⟨w.heap.size + 1, 1, none⟩ (.int .i64 0)).setCell ⟨w.heap.size + 1, 2, none⟩ (.slice none 0 0)).setCell ⟨w.heap.size + 1, 3, none⟩ (.slice none 0 0)) (w.heap.size + 1) 33 [.slice none 0 0, .int .i64 0, .slice none 0 0, .slice none 0 0] := ((((HKR.out.set 0 _).set 1 _).set 2 _).set 3 _)
    have hez : Ext w ((((w4.setCell ⟨w.heap.size + 1, 0, none⟩ (.slice none 0 0)).setCell ⟨w.heap.size + 1, 1, none⟩ (.int .i64 0)).setCell ⟨w.heap.size + 1, 2, none⟩ (.slice none 0 0)).setCell ⟨w.heap.size + 1, 3, none⟩ (.slice none 0 0)) := ((((HX2.out.setCell (p := ⟨w.heap.size + 1, 0, none⟩) (Nat.le_succ _) _).setCell (p := ⟨w.heap.size + 1, 1, none⟩) (Nat.le_succ _) _).setCell (p := ⟨w.heap.size + 1, 2, none⟩) (Nat.le_succ _) _).setCell (p := ⟨w.heap.size + 1, 3, none⟩) (Nat.le_succ _) _)
    generalize ((((w4.setCell ⟨w.heap.size + 1, 0, none⟩ (.slice none 0 0)).setCell ⟨w.heap.size + 1, 1, none⟩ (.int .i64 0)).setCell ⟨w.heap.size + 1, 2, none⟩ (.slice none 0 0)).setCell ⟨w.heap.size + 1, 3, none⟩ (.slice none 0 0)) = wz at *
    have z0 := kz.cell (i := 0) (by simp); have z1 := kz.cell (i := 1) (by simp); have z2 := kz.cell (i := 2) (by simp); have z3 := kz.cell (i := 3) (by simp)
    simp only [List.getElem_cons_zero, List.getElem_cons_succ] at z0 z1 z2 z3
    exact bodyPost_ret (v := .tuple #[.agg #[.slice none 0 0, .int .i64 0, .slice none 0 0, .slice none 0 0], .int .i64 3]) (by simp [results, Try.results8, go_sem, z0, z1, z2, z3]) rfl ⟨rfl, hez⟩
end Go.Proofs.Ytmmmdinncmbjkaa
