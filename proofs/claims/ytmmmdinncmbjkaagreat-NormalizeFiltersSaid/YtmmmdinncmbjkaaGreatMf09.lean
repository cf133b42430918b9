/- Contract: check.find. Contract: check.infer. -/
import Derived.Test.YtmmmdinncmbjkaaGreatMf08
namespace Go.Proofs.YtmmmdinncmbjkaaGreat
open Go.RowKit Go.Maps
def FindSc (F : Nat → Prop) (ss : List Sc) (s : ByteArray) (w : World) (e : Ending) (w' : World) : Prop :=
  Ext w w' ∧ ((findS ss s = none ∧ e = .returned (.tuple #[.agg #[.string ⟨#[]⟩, .slice none 0 0], .bool false])) ∨ ∃ x B d, findS ss s = some x ∧ x ∈ ss ∧ e = .returned (.tuple #[.agg #[.string x.name, .slice B x.kinds.length d], .bool true]) ∧ Ins F w' (.slice B x.kinds.length d) x.kinds)
theorem findS_at {ss : List Sc} {s : ByteArray} {i : Nat} (hi : i < ss.length) (h0 : ∀ j (_ : j < i) (_ : j < ss.length), ss[j].name ≠ s) (h1 : ss[i].name = s) : findS ss s = some ss[i] := by
  unfold findS
  induction ss generalizing i with
  | nil => simp at hi
  | cons a ss ih =>
    rcases i with _ | i
    · rw [List.find?_cons_of_pos (by simpa using h1)]; rfl
    · have ha := h0 0 (by omega) (by simp)
      rw [List.find?_cons_of_neg (by simpa using ha)]
      exact ih (i := i) (by simpa using hi) (fun j hj hl => h0 (j + 1) (by omega) (by simpa using hl)) (by simpa using h1)
theorem findS_no {ss : List Sc} {s : ByteArray} (h0 : ∀ j (_ : j < ss.length), ss[j].name ≠ s) : findS ss s = none := by
  unfold findS
  rw [List.find?_eq_none]
  intro x hx
  obtain ⟨j, hj, rfl⟩ := List.getElem_of_mem hx
  simpa using h0 j hj
set_option maxRecDepth 20000 in
set_option maxHeartbeats 1600000 in
theorem find_any {F : Nat → Prop} {w : World} {v : Value} {ss : List Sc} {s : ByteArray} (h : Sl rdSc F w v ss) (hl : ss.length ≤ maxLen) :
    Calls Tryz.prog 93 #[v, .string s] w (FindSc F ss s w) := by
  unfold maxLen at hl
  obtain ⟨A, c, rfl⟩ := h.sl
  obtain ⟨n, hn⟩ : ∃ n, n = ss.length := ⟨_, rfl⟩
  rw [← hn] at h hl ⊢
  have HN := Lib.hid hn; have HS := Lib.hid h
  clear hn h
  go_enter Tryz.func93, Tryz.ntmps93
  go_wp2_with fail
  have hx : Ext w (w.alloc (.cells #[.string ⟨#[]⟩, .slice none 0 0] 45)) := (Ext.refl w).alloc _
  have kb := Bk.new w 45 [.string ⟨#[]⟩, .slice none 0 0]
  change Bk (w.alloc (.cells #[.string ⟨#[]⟩, .slice none 0 0] 45)) _ _ _ at kb
  generalize (w.alloc (.cells #[.string ⟨#[]⟩, .slice none 0 0] 45)) = w1 at *
  have HK := Lib.hid kb
  clear kb
  go_loopw [10] (fun t wr => ∃ i : Nat, i ≤ n ∧ t = .int .i64 (i : Int) ∧ Hid (∀ j (_ : j < i) (_ : j < ss.length), ss[j].name ≠ s) ∧ Ext w1 wr) (fun t _ => n - (intOf t).toNat)
  case atStart => exact ⟨0, Nat.zero_le _, rfl, Lib.hid (fun j hj => by omega), Ext.refl _⟩
  case round =>
    obtain ⟨i, hi, rfl, H, hxr⟩ := hrel
    obtain ⟨W, rfl⟩ : ∃ W : World, W = wr := ⟨_, rfl⟩
    have HX := Lib.hid (hx.trans hxr); have HX1 := Lib.hid hxr; have HKW := Lib.hid (HK.out.ext hxr)
    by_cases hlt : i < n
    · have i1 : (0 : Int) ≤ (i : Int) := by omega
      have i2 : (i : Int) < (n : Int) := by omega
      have hit : i < ss.length := by have := HN.out; omega
      obtain ⟨ad, B, d, rfl, -, d0, d1, hk⟩ := HS.out.sc hit
      replace d0 := HX.out.cell d0; replace d1 := HX.out.cell d1
      have hat := findS_at (s := s) hit H.out
      have hno : ss[i].name ≠ s → ∀ j (_ : j < i + 1) (_ : j < ss.length), ss[j].name ≠ s := fun h j hj hl => by
        rcases Nat.lt_or_ge j i with h2 | h2
        · exact H.out j h2 hl
        · have : j = i := by omega
          subst this; exact h
      have hmem := List.getElem_mem hit
      obtain ⟨x, hx⟩ : ∃ x, x = ss[i] := ⟨_, rfl⟩
      rw [← hx] at d0 d1 hk hat hno hmem
      have HK0 := Lib.hid hk; have HAT := Lib.hid hat; have HNO := Lib.hid hno; have HMEM := Lib.hid hmem
      obtain ⟨xn, xk⟩ := x
      simp only at d0 d1 HK0 HAT HNO
      obtain ⟨nk, hnk⟩ : ∃ nk, nk = xk.length := ⟨_, rfl⟩
      rw [← hnk] at d1 HK0
      have HNK := Lib.hid hnk
      clear hx hk hat hno hmem hxr hnk
      have b0 := HKW.out.cell (i := 0) (by simp); have b1 := HKW.out.cell (i := 1) (by simp); have bf0 := HKW.out.free 0; have bf1 := HKW.out.free 1
      simp only [List.getElem_cons_zero, List.getElem_cons_succ] at b0 b1
      have hW : w.heap.size < W.heap.size := HKW.out.lt
      by_cases he : xn = s
      · have HQ := Lib.hid (HAT.out he)
        have hbe : (xn.toList == s.toList) = true := by rw [he]; simp
        clear he
        go_wp2_with fail
        have kz : Bk (((W.setCell ⟨w.heap.size, 0, none⟩ (.string xn)).setCell ⟨w.heap.size, 1, none⟩ (.slice B nk d)).alloc (.cells #[.string xn, .slice B nk d] 45)) w.heap.size 45 [.string xn, .slice B nk d] := ((HKW.out.set 0 _).set 1 _).alloc _
        have hez : Ext w (((W.setCell ⟨w.heap.size, 0, none⟩ (.string xn)).setCell ⟨w.heap.size, 1, none⟩ (.slice B nk d)).alloc (.cells #[.string xn, .slice B nk d] 45)) := ((HX.out.setCell (p := ⟨w.heap.size, 0, none⟩) (Nat.le_refl _) _).setCell (p := ⟨w.heap.size, 1, none⟩) (Nat.le_refl _) _).alloc _
        have hkz : Ins F (((W.setCell ⟨w.heap.size, 0, none⟩ (.string xn)).setCell ⟨w.heap.size, 1, none⟩ (.slice B nk d)).alloc (.cells #[.string xn, .slice B nk d] 45)) (.slice B nk d) xk := HK0.out.ext hez
        generalize (((W.setCell ⟨w.heap.size, 0, none⟩ (.string xn)).setCell ⟨w.heap.size, 1, none⟩ (.slice B nk d)).alloc (.cells #[.string xn, .slice B nk d] 45)) = wz at *
        have z0 := kz.cell (i := 0) (by simp); have z1 := kz.cell (i := 1) (by simp)
        simp only [List.getElem_cons_zero, List.getElem_cons_succ] at z0 z1
        refine bodyPost_ret (v := .tuple #[.agg #[.string xn, .slice B nk d], .bool true]) (by simp [results, Tryz.results93, go_sem, z0, z1]) rfl ⟨hez, .inr ⟨⟨xn, xk⟩, B, d, HQ.out, HMEM.out, by rw [HNK.out], ?_⟩⟩
        rw [HNK.out] at hkz
        exact hkz
      · have hbe : (xn.toList == s.toList) = false := by
          have : xn.toList ≠ s.toList := fun e => he (toList_inj' e)
          simpa using this
        have HG := Lib.hid (HNO.out he)
        clear he
        go_wp2_with fail
        go_roundw
        case rel => exact ⟨i + 1, by omega, by go_num, HG, HX1.out.alloc _⟩
        case measure => simp [intOf]; omega
    · obtain rfl : i = n := by omega
      have hdi : ¬ (i : Int) < (i : Int) := by omega
      have HQ := Lib.hid (findS_no (ss := ss) (s := s) (fun j hj => H.out j (by have := HN.out; omega) hj))
      have b0 := HKW.out.cell (i := 0) (by simp); have b1 := HKW.out.cell (i := 1) (by simp); have bf0 := HKW.out.free 0; have bf1 := HKW.out.free 1
      simp only [List.getElem_cons_zero, List.getElem_cons_succ] at b0 b1
      go_wp2_with fail
      have kz : Bk ((W.setCell ⟨w.heap.size, 0, none⟩ (.string ⟨#[]⟩)).setCell ⟨w.heap.size, 1, none⟩ (.slice none 0 0)) w.heap.size 45 [.string ⟨#[]⟩, .slice none 0 0] := (HKW.out.set 0 _).set 1 _
      have hez : Ext w ((W.setCell ⟨w.heap.size, 0, none⟩ (.string ⟨#[]⟩)).setCell ⟨w.heap.size, 1, none⟩ (.slice none 0 0)) := (HX.out.setCell (p := ⟨w.heap.size, 0, none⟩) (Nat.le_refl _) _).setCell (p := ⟨w.heap.size, 1, none⟩) (Nat.le_refl _) _
      generalize ((W.setCell ⟨w.heap.size, 0, none⟩ (.string ⟨#[]⟩)).setCell ⟨w.heap.size, 1, none⟩ (.slice none 0 0)) = wz at *
      have z0 := kz.cell (i := 0) (by simp); have z1 := kz.cell (i := 1) (by simp)
      simp only [List.getElem_cons_zero, List.getElem_cons_succ] at z0 z1
      exact bodyPost_ret (v := .tuple #[.agg #[.string ⟨#[]⟩, .slice none 0 0], .bool false]) (by simp [results, Tryz.results93, go_sem, z0, z1]) rfl ⟨hez, .inl ⟨HQ.out, rfl⟩⟩
end Go.Proofs.YtmmmdinncmbjkaaGreat
namespace Go.Proofs.YtmmmdinncmbjkaaGreat
open Go.RowKit Go.Maps
def kmF (m : Km) : ByteArray → Option Value := fun s => (m s).map I64
theorem kmF_get (m : Km) (s : ByteArray) : (kmF m s).getD (.int .i64 0) = .int .i64 ((m s).getD 0) := by
  unfold kmF
  cases m s <;> rfl
theorem kmF_upd (m : Km) (s : ByteArray) (k : Int) : updV (kmF m) s (some (.int .i64 k)) = kmF (updK m s k) := by
  funext t
  unfold updV kmF updK
  by_cases h : t = s
  · rw [if_pos h, if_pos h]; rfl
  · rw [if_neg h, if_neg h]
/-- What check.infer leaves. -/
def InferPost (ss : List Sc) (r : Rl) (w : World) (e : Ending) (w' : World) : Prop :=
  Ext w w' ∧ ((∃ km b m, inferX ss r = .ok km ∧ e = .returned (.tuple #[.map (some b), .int .i64 0]) ∧ w.heap.size ≤ b ∧ m ≤ 1048576 ∧ MapV w' b m (kmF km)) ∨
    ∃ x, inferX ss r = .error x ∧ x ≠ 0 ∧ e = .returned (.tuple #[.map none, .int .i64 x]))
theorem kindT_con {m : Km} {t : Tm} {k : Int} (h : t.var = ⟨#[]⟩) : kindT m (t, k) = if t.kind = k then .ok m else .error 5 := if_pos h
theorem kindT_old {m : Km} {t : Tm} {k k0 : Int} (h : ¬ t.var = ⟨#[]⟩) (h1 : m t.var = some k0) : kindT m (t, k) = if k0 = k then .ok m else .error 5 := by
  unfold kindT
  rw [if_neg h]
  simp only [h1]
theorem kindT_new {m : Km} {t : Tm} {k : Int} (h : ¬ t.var = ⟨#[]⟩) (h1 : m t.var = none) : kindT m (t, k) = .ok (updK m t.var k) := by
  unfold kindT
  rw [if_neg h]
  simp only [h1]
theorem zero_int (w : World) : (zeroValue 3).run Tryz.prog w = .ok (.int .i64 0) w := by kernel_rfl
set_option maxRecDepth 20000 in
set_option maxHeartbeats 6400000 in
theorem infer_any {F G H : Nat → Prop} {w : World} {va vc vs : Value} {r : Rl} {ss : List Sc} (hA : Ats F w va r.ats) (hC : Sl rdCd H w vc r.cds) (hS : Sl rdSc G w vs ss) (hz : RlZ r) (hl1 : r.ats.length ≤ 524288) (hl2 : (allT r.ats).length ≤ 524288) (hls : ss.length ≤ maxLen) :
    Calls Tryz.prog 59 #[.agg #[va, vc], vs] w (InferPost ss r w) := by
  obtain ⟨C, cc, rfl⟩ := hC.sl
  obtain ⟨nc, hnc⟩ : ∃ nc, nc = r.cds.length := ⟨_, rfl⟩
  rw [← hnc]
  clear hnc hC
  obtain ⟨S, cs, rfl⟩ := hS.sl
  obtain ⟨nS, hnS⟩ : ∃ nS, nS = ss.length := ⟨_, rfl⟩
  rw [← hnS] at hS ⊢
  clear hnS
  replace hS : Sl rdSc (fun k => k < w.heap.size) w (.slice S nS cs) ss := hS.mono (by decide) (fun k hk _ => hk)
  obtain ⟨A, c, rfl, hc, hat⟩ := hA.at'
  obtain ⟨n, hn⟩ : ∃ n, n = r.ats.length := ⟨_, rfl⟩
  rw [← hn] at hc hl1 ⊢
  have HN := Lib.hid hn; have HAT := Lib.hid hat; have HZ := Lib.hid hz; have HL2 := Lib.hid hl2; have HS := Lib.hid hS; have HLS := Lib.hid hls
  have hmm := @run_makeMap Tryz.prog
  clear hn hat hz hA hl2 hS hls
  go_enter Tryz.func59, Tryz.ntmps59
  go_wp2_with fail
  have hx : Ext w ((w.alloc (.cells #[.slice A n c, .slice C nc cc] 73)).alloc (.map #[] 0)) := ((Ext.refl w).alloc _).alloc _
  have hm1 := MapV.made (w.alloc (.cells #[.slice A n c, .slice C nc cc] 73))
  rw [show (w.alloc (.cells #[.slice A n c, .slice C nc cc] 73)).heap.size = w.heap.size + 1 by simp] at hm1
  generalize ((w.alloc (.cells #[.slice A n c, .slice C nc cc] 73)).alloc (.map #[] 0)) = w1 at *
  have HM1 : Hid (MapV w1 (w.heap.size + 1) 0 (kmF (fun _ => none))) := Lib.hid hm1
  clear hm1 hmm
  go_loopw [19] (fun t wr => ∃ (i m : Nat) (km : Km), i ≤ n ∧ m ≤ (allT (r.ats.take i)).length ∧ t = .int .i64 (i : Int) ∧ Hid (runX (kindA ss) (r.ats.take i) (fun _ => none) = .ok km) ∧ MapV wr (w.heap.size + 1) m (kmF km) ∧ Ext w wr) (fun t _ => n - (intOf t).toNat)
  case atStart => exact ⟨0, 0, fun _ => none, Nat.zero_le _, Nat.zero_le _, rfl, Lib.hid rfl, HM1.out, hx⟩
  case round =>
    obtain ⟨i, m0, km, hi, hm0, rfl, HRUN, hM, hxr⟩ := hrel
    obtain ⟨W, rfl⟩ : ∃ W : World, W = wr := ⟨_, rfl⟩
    have HX := Lib.hid hxr; have HMM := Lib.hid hM; have HM0 := Lib.hid hm0
    have hwW : w.heap.size ≤ W.heap.size := hxr.size
    clear hM hm0
    by_cases hlt : i < n
    · have i1 : (0 : Int) ≤ (i : Int) := by omega
      have i2 : (i : Int) < (n : Int) := by omega
      have hix : i < r.ats.length := by have := HN.out; omega
      obtain ⟨ad, Bt, dt, rfl, -, c0, c1, c2, hd, hcl⟩ := HAT.out i hix
      replace c0 := HX.out.cell c0; replace c1 := HX.out.cell c1; replace c2 := HX.out.cell c2
      have hzx := HZ.out.tms _ (List.getElem_mem hix)
      have htl := terms_le hix
      have hal := allT_le (xs := r.ats) (i + 1)
      rw [allT_take hix, List.length_append] at hal
      have HAT2 := Lib.hid (allT_take hix)
      have hstop := fun e => runX_stop (f := kindA ss) (e := e) hix HRUN.out
      have htake := runX_take (f := kindA ss) hix HRUN.out
      obtain ⟨⟨ng, rl, ts⟩, ha⟩ : ∃ a, a = r.ats[i] := ⟨_, rfl⟩
      rw [← ha] at c0 c1 c2 hd hcl hzx htl hal HAT2 hstop htake
      simp only at c0 c1 c2 hd hcl hzx htl hal HAT2
      obtain ⟨nt, hnt⟩ : ∃ k, k = ts.length := ⟨_, rfl⟩
      rw [← hnt] at c2 hd htl hal
      have hnt2 : nt ≤ 524288 := by have := HL2.out; omega
      have HAL := Lib.hid hal; have HSTOP := Lib.hid hstop; have HTAKE := Lib.hid htake
      have HNT := Lib.hid hnt; have HCL := Lib.hid hcl; have HZX := Lib.hid hzx
      clear hnt hcl hzx ha htl hal hxr hstop htake
      go_wp2_with fail
      have kx := Bk.new W 109 [.bool ng, .string rl, .slice Bt nt dt]
      change Bk (W.alloc (.cells #[.bool ng, .string rl, .slice Bt nt dt] 109)) _ _ _ at kx
      have hx1 : Ext W (W.alloc (.cells #[.bool ng, .string rl, .slice Bt nt dt] 109)) := (Ext.refl W).alloc _
      generalize (W.alloc (.cells #[.bool ng, .string rl, .slice Bt nt dt] 109)) = W1 at *
      refine (find_any (s := rl) (HS.out.ext (HX.out.trans hx1)) HLS.out).mono ?_
      rintro e W2 ⟨he2, hpost⟩
      have HKX := Lib.hid (kx.ext he2); have HX2 := Lib.hid (hx1.trans he2)
      have hlt2 : W.heap.size < W2.heap.size := HKX.out.lt
      clear kx hx1 he2 c0 c1 c2
      rcases hpost with ⟨hnone, rfl⟩ | ⟨⟨xn, xk⟩, B, d, hsome, -, rfl, hk⟩
      · have HQ := Lib.hid (HSTOP.out 7 (by unfold kindA; simp only [hnone]))
        clear hnone
        go_wp2_with fail
        go_ret2
        exact ⟨(HX.out.trans HX2.out).alloc _, .inr ⟨7, HQ.out, by decide, rfl⟩⟩
      obtain ⟨nk, hnk⟩ : ∃ nk, nk = xk.length := ⟨_, rfl⟩
      simp only at hk ⊢
      rw [← hnk] at hk ⊢
      have hkA : ∀ m, kindA ss m ⟨ng, rl, ts⟩ = if nt = nk then runX kindT (ts.zip xk) m else .error 6 := fun m => by
        unfold kindA
        simp only [hsome]
        rw [HNT.out, hnk]
      have HKA := Lib.hid hkA; have HNK := Lib.hid hnk; have HK := Lib.hid hk
      clear hsome hkA hnk hk
      have g2 := HKX.out.cell (i := 2) (by simp)
      simp only [List.getElem_cons_zero, List.getElem_cons_succ] at g2
      by_cases hne : ¬ nt = nk
      · have HQ := Lib.hid (HSTOP.out 6 (by rw [HKA.out, if_neg hne]))
        have hne2 : ((nt : Int) != (nk : Int)) = true := by rw [bne_iff_ne]; omega
        clear hne
        go_wp2_with fail
        go_ret2
        exact ⟨(HX.out.trans HX2.out).alloc _, .inr ⟨6, HQ.out, by decide, rfl⟩⟩
      obtain rfl : nt = nk := by omega
      clear hne
      go_wp2_with fail
      have kz := Bk.new W2 45 [.string xn, .slice B nt d]
      change Bk (W2.alloc (.cells #[.string xn, .slice B nt d] 45)) _ _ _ at kz
      have hx3 : Ext W2 (W2.alloc (.cells #[.string xn, .slice B nt d] 45)) := (Ext.refl W2).alloc _
      generalize (W2.alloc (.cells #[.string xn, .slice B nt d] 45)) = W3 at *
      have HKZ := Lib.hid kz; have HX3 := Lib.hid (HX.out.trans (HX2.out.trans hx3)); have HMM3 := Lib.hid (HMM.out.ext (HX2.out.trans hx3)); have HK3 := Lib.hid (HK.out.ext hx3)
      clear kz hx3 g2
      go_loopw [42] (fun t wr => ∃ (j m : Nat) (kj : Km), j ≤ nt ∧ m ≤ m0 + j ∧ t = .int .i64 (j : Int) ∧ Hid (runX kindT ((ts.zip xk).take j) km = .ok kj) ∧ MapV wr (w.heap.size + 1) m (kmF kj) ∧ Fr (fun b => b = w.heap.size + 1) W3 wr) (fun t _ => nt - (intOf t).toNat)
      case atStart => exact ⟨0, m0, km, Nat.zero_le _, Nat.le_refl _, rfl, Lib.hid rfl, HMM3.out, Fr.refl _ _⟩
      case round =>
        obtain ⟨j, m, kj, hj, hm, rfl, HRJ, hM, hfr⟩ := hrel
        have hxj : Ext w wr := hfr.new HX3.out (fun b hb => by omega)
        have hbne : W2.heap.size ≠ w.heap.size + 1 := HMM3.out.ne HKZ.out
        have hkz := HKZ.out.fr hfr hbne
        have z1 := hkz.cell (i := 1) (by simp)
        simp only [List.getElem_cons_zero, List.getElem_cons_succ] at z1
        have HXJ := Lib.hid hxj; have HMJ := Lib.hid hM; have HFR := Lib.hid hfr
        have hbl : W2.heap.size < wr.heap.size := hkz.lt
        have hW : w.heap.size ≤ wr.heap.size := hxj.size
        have hmb : m < 1048576 := by have := HAL.out; have := HL2.out; have := HM0.out; omega
        clear hM hxj hfr hkz
        by_cases hjt : j < nt
        · have j1 : (0 : Int) ≤ (j : Int) := by omega
          have j2 : (j : Int) < (nt : Int) := by omega
          have hjl : j < ts.length := by have := HNT.out; omega
          have hjk : j < xk.length := by have := HNK.out; omega
          have hjz : j < (ts.zip xk).length := by rw [List.length_zip]; omega
          obtain ⟨adt, rfl, hF, d0, d1, d2, d3⟩ := HCL.out.term hjl
          replace d0 := HXJ.out.cell d0; replace d1 := HXJ.out.cell d1; replace d2 := HXJ.out.cell d2; replace d3 := HXJ.out.cell d3
          obtain ⟨adk, kk, hB, hkc, hkk, hkb⟩ : ∃ adk kk, B = some adk ∧ wr.cell? (adk.add j) = some (.int .i64 kk) ∧ kk = xk[j] ∧ adk.block < w.heap.size := by
            obtain ⟨B', d', e, -, hcl⟩ := HK3.out
            injection e with e1
            subst e1
            obtain ⟨adk, rfl, hG, h1⟩ := hcl.int hjk
            exact ⟨adk, _, rfl, HFR.out.cell h1 (by rw [block_add]; omega), rfl, hG⟩
          subst hB
          have hzt := (HZX.out _ (List.getElem_mem hjl)).1
          have hzip : (ts.zip xk)[j] = (ts[j], kk) := by rw [hkk]; exact List.getElem_zip
          have hst := fun e => runX_stop (f := kindT) (e := e) hjz HRJ.out
          have htk := runX_take (f := kindT) hjz HRJ.out
          rw [hzip] at hst htk
          obtain ⟨x, hx⟩ : ∃ x, x = ts[j] := ⟨_, rfl⟩
          rw [← hx] at d0 d1 d2 d3 hzt hst htk
          have HST : Hid (kindT kj (x, kk) = .error 5 → inferX ss r = .error 5) := Lib.hid (fun h => HSTOP.out 5 (by rw [HKA.out]; simpa using hst 5 h))
          have HTK := Lib.hid htk
          clear hkk hzip hst htk hx
          obtain ⟨xv, kd, it, st⟩ := x
          simp only at d0 d1 d2 d3 hzt
          have hkca := ((Ext.refl wr).alloc (.cells #[.string xv, .int .i64 kd, .int .i64 it, .string st] 136)).cell hkc
          have hkbn : (adk.add j).block ≠ w.heap.size + 1 := by rw [block_add]; omega
          by_cases hv : xv = ⟨#[]⟩
          · have hve := var_eq hv
            by_cases hkd : kd = kk
            · have HG := Lib.hid (show runX kindT ((ts.zip xk).take (j + 1)) km = .ok kj by rw [HTK.out, kindT_con hv, if_pos hkd])
              have hb : (kd != kk) = false := by rw [hkd]; simp
              clear hv hkd
              go_wp2_with fail
              go_roundw
              case rel => exact ⟨j + 1, m, kj, by omega, by omega, by go_num, HG, HMJ.out.ext ((Ext.refl wr).alloc _), HFR.out.alloc _⟩
              case measure => simp [intOf]; omega
            · have HQ := Lib.hid (HST.out (by rw [kindT_con hv, if_neg hkd]))
              have hb : (kd != kk) = true := by rw [bne_iff_ne]; exact hkd
              clear hv hkd
              go_wp2_with fail
              go_ret2
              exact ⟨HXJ.out.alloc _, .inr ⟨5, HQ.out, by decide, rfl⟩⟩
          · have hve := var_ne hv
            have HV := Lib.hid hv
            rcases hkj : kj xv with _ | k0
            · have HG := Lib.hid (show runX kindT ((ts.zip xk).take (j + 1)) km = .ok (updK kj xv kk) by rw [HTK.out, kindT_new hv hkj])
              have HU1 : Hid ((kmF kj xv).getD (.int .i64 0) = .int .i64 0) := Lib.hid (by rw [kmF_get, hkj]; rfl)
              have HU2 : Hid ((kmF kj xv).isSome = false) := Lib.hid (by unfold kmF; rw [hkj]; rfl)
              have hb : (kk != kk) = false := by simp
              clear hv hkj
              have hup : ∀ w5, (wr.alloc (.cells #[.string xv, .int .i64 kd, .int .i64 it, .string st] 136)).grownBy w5 (some (w.heap.size + 1)) → Hid (Fr (fun b => b = w.heap.size + 1) wr w5 ∧ w5.cell? ⟨W2.heap.size, 1, none⟩ = some (.slice (some adk) nt d) ∧ w5.cell? (adk.add j) = some (.int .i64 kk)) := fun w5 hg5 => Lib.hid (by
                have h1 : Fr (fun b => b = w.heap.size + 1) wr w5 := ((Fr.refl (fun b => b = w.heap.size + 1) wr).alloc (.cells #[.string xv, .int .i64 kd, .int .i64 it, .string st] 136)).grown hg5 (fun k e => .inl (by injection e with e; exact e.symm))
                exact ⟨h1, h1.cell z1 hbne, h1.cell hkc hkbn⟩)
              have HUP := Lib.hid hup
              clear hup
              go_wp2_with (first
                | (refine wpList_lookup_okV rfl _ _ 123 3 rfl Tryz.underlying123 (.int .i64 0) (zero_int _) (w.heap.size + 1) m _ rfl (HMJ.out.ext ((Ext.refl wr).alloc _)) xv rfl hzt (.int .i64 0) HU1.out false HU2.out ?_)
                | (refine wpList_update_V rfl _ _ _ 123 3 rfl Tryz.underlying123 (w.heap.size + 1) m (kmF kj) rfl (HMJ.out.ext ((Ext.refl wr).alloc _)) (by simp only [maxLen]; omega) xv (.int .i64 kk) rfl hzt rfl ?_; intro w5 hm5 hg5; obtain ⟨hf5, hz5, hk5⟩ := (HUP.out w5 hg5).out; have HM5 := Lib.hid hm5; have HF5 := Lib.hid hf5; clear hm5 hg5 hf5))
              go_roundw
              case rel => exact ⟨j + 1, m + 1, updK kj xv kk, by omega, by omega, by go_num, HG, by rw [← kmF_upd]; exact HM5.out, HFR.out.trans HF5.out⟩
              case measure => simp [intOf]; omega
            · have HU1 : Hid ((kmF kj xv).getD (.int .i64 0) = .int .i64 k0) := Lib.hid (by rw [kmF_get, hkj]; rfl)
              have HU2 : Hid ((kmF kj xv).isSome = true) := Lib.hid (by unfold kmF; rw [hkj]; rfl)
              by_cases hkd : k0 = kk
              · have HG := Lib.hid (show runX kindT ((ts.zip xk).take (j + 1)) km = .ok kj by rw [HTK.out, kindT_old hv hkj, if_pos hkd])
                have hb : (k0 != kk) = false := by rw [hkd]; simp
                clear hv hkj hkd
                go_wp2_with (first
                  | (refine wpList_lookup_okV rfl _ _ 123 3 rfl Tryz.underlying123 (.int .i64 0) (zero_int _) (w.heap.size + 1) m _ rfl (HMJ.out.ext ((Ext.refl wr).alloc _)) xv rfl hzt (.int .i64 k0) HU1.out true HU2.out ?_))
                go_roundw
                case rel => exact ⟨j + 1, m, kj, by omega, by omega, by go_num, HG, HMJ.out.ext ((Ext.refl wr).alloc _), HFR.out.alloc _⟩
                case measure => simp [intOf]; omega
              · have HQ := Lib.hid (HST.out (by rw [kindT_old hv hkj, if_neg hkd]))
                have hb : (k0 != kk) = true := by rw [bne_iff_ne]; exact hkd
                clear hv hkj hkd
                go_wp2_with (first
                  | (refine wpList_lookup_okV rfl _ _ 123 3 rfl Tryz.underlying123 (.int .i64 0) (zero_int _) (w.heap.size + 1) m _ rfl (HMJ.out.ext ((Ext.refl wr).alloc _)) xv rfl hzt (.int .i64 k0) HU1.out true HU2.out ?_))
                go_ret2
                exact ⟨HXJ.out.alloc _, .inr ⟨5, HQ.out, by decide, rfl⟩⟩
        · obtain rfl : j = nt := by omega
          have hdj : ¬ (j : Int) < (j : Int) := by omega
          have et : (ts.zip xk).take j = ts.zip xk := by rw [HNT.out]; exact List.take_of_length_le (by rw [List.length_zip]; omega)
          rw [et] at HRJ
          have HG := Lib.hid (show runX (kindA ss) (r.ats.take (i + 1)) (fun _ => none) = .ok kj by rw [HTAKE.out, HKA.out]; simpa using HRJ.out)
          clear et z1
          go_wp2_with fail
          go_roundw
          case rel => exact ⟨i + 1, m, kj, by omega, by rw [HAT2.out, List.length_append, ← HNT.out]; have := HM0.out; omega, by go_num, HG, HMJ.out, HXJ.out⟩
          case measure => simp [intOf]; omega
    · obtain rfl : i = n := by omega
      have hdi : ¬ (i : Int) < (i : Int) := by omega
      have et : r.ats.take i = r.ats := by rw [HN.out]; exact List.take_length
      rw [et] at HRUN HM0
      clear et
      go_wp2_with fail
      go_ret2
      exact ⟨HX.out, .inl ⟨km, w.heap.size + 1, m0, HRUN.out, rfl, by omega, by have := HM0.out; have := HL2.out; omega, HMM.out⟩⟩
end Go.Proofs.YtmmmdinncmbjkaaGreat
