/- Contract: normalize.Sets. -/
import Derived.Test.YtmmmdinncmbjkaaOi
namespace Go.Proofs.Ytmmmdinncmbjkaa
open Go.RowKit Go.Maps

def rdIn : Rdg (List Int) where
  sz := 1
  R := fun F w cs x => ∃ u, cs = [u] ∧ Ins F w u x
  len := fun ⟨_, e, _⟩ => by rw [e]; rfl
  fr := fun ⟨u, e, h⟩ hf hs => ⟨u, e, h.fr hf hs⟩
  mono := fun ⟨u, e, h⟩ hs => ⟨u, e, h.mono hs⟩
theorem info_ints : (Try.prog.info? 37).map (fun i => (i.zero, i.size, i.bytes)) = some (some (.slice none 0 0), 1, 24) := by kernel_rfl
theorem Sl.ins {F : Nat → Prop} {w : World} {A : Option Addr} {n c : Nat} {xs : List (List Int)} (h : Sl rdIn F w (.slice A n c) xs) {i : Nat} (hi : i < xs.length) : ∃ ad B d, A = some ad ∧ F ad.block ∧ w.cell? (ad.add i) = some (.slice B xs[i].length d) ∧ Ins F w (.slice B xs[i].length d) xs[i] := by
  obtain ⟨ad, cs, h1, h2, ⟨u, rfl, B, d, rfl, h3, h4⟩, h5, -⟩ := h.at hi
  have h6 := h5 (by simp)
  rw [show i * rdIn.sz = i from Nat.mul_one i] at h6
  exact ⟨ad, B, d, h1, h2, h6, B, d, rfl, h3, h4⟩
set_option maxRecDepth 20000 in
set_option maxHeartbeats 1600000 in
theorem sets_any {F : Nat → Prop} {w : World} {V D : Value} {f : Int} {B : Option Addr} {m d : Nat} {srcs : List Src} (hV : ∃ A n c, V = .slice A n c) (hD : ∃ A n c, D = .slice A n c) (h : Sl rdSrc F w (.slice B m d) srcs) (hm : m ≤ 1048576) (hl : ∀ s ∈ srcs, s.vars.length ≤ 1048576) :
    Calls Try.prog 15 #[.agg #[V, .int .i64 f, D, .slice B m d]] w (Ret (fun x w' => Sl rdIn (fun k => w.heap.size ≤ k) w' x (srcs.map Src.vars)) w) := by
  obtain ⟨A1, n1, c1, rfl⟩ := hV
  obtain ⟨A2, n2, c2, rfl⟩ := hD
  have hnm := h.cap.1
  have HS := Lib.hid h; have HM := Lib.hid hnm; have HL := Lib.hid hl
  obtain ⟨p0, hp0, hx0, hx1, hx2⟩ := info_parts info_ints
  have HP0 := Lib.hid (And.intro hp0 (And.intro hx0 (And.intro hx1 hx2))); clear hp0 hx0 hx1 hx2
  clear h hnm hl
  go_enter Try.func15, Try.ntmps15
  go_upto_region 1 with fail
  have kb := Bk.new w 33 [.slice A1 n1 c1, .int .i64 f, .slice A2 n2 c2, .slice B m d]
  change Bk (w.alloc (.cells #[.slice A1 n1 c1, .int .i64 f, .slice A2 n2 c2, .slice B m d] 33)) _ _ _ at kb
  have hx1 : Ext w (w.alloc (.cells #[.slice A1 n1 c1, .int .i64 f, .slice A2 n2 c2, .slice B m d] 33)) := (Ext.refl w).alloc _
  generalize (w.alloc (.cells #[.slice A1 n1 c1, .int .i64 f, .slice A2 n2 c2, .slice B m d] 33)) = w1 at *
  have b3 := kb.cell (i := 3) (by simp)
  simp only [List.getElem_cons_zero, List.getElem_cons_succ] at b3
  have HX1 := Lib.hid hx1
  clear kb hx1
  go_wp2_with fail
  clear b3
  go_loopw [3, 9] (fun u t wr => ∃ (i k : Nat) (l : List (List Int)) (css : List (List Value)), i ≤ m ∧ t = .int .i64 (i : Int) ∧ Hid (l = (srcs.take i).map Src.vars) ∧ k ≤ i ∧ Rw rdIn wr w.heap.size 37 u k l css ∧ Ext w wr) (fun _ t _ => m - (intOf t).toNat)
  case atStart => exact ⟨0, 0, [], [], Nat.zero_le _, rfl, Lib.hid rfl, Nat.le_refl _, Rw.empty _ _ _ _, HX1.out⟩
  case round =>
    obtain ⟨i, k, l, css, hi, rfl, HE, hk, hrw, hx⟩ := hrel
    obtain ⟨Au, cu, rfl⟩ := own_slice hrw.own
    obtain ⟨W, rfl⟩ : ∃ W : World, W = wr := ⟨_, rfl⟩
    have HX := Lib.hid hx; have HRW := Lib.hid hrw
    by_cases hlt : i < m
    · have i1 : (0 : Int) ≤ (i : Int) := by omega
      have i2 : (i : Int) < (m : Int) := by omega
      have hil : i < srcs.length := by have := HM.out; omega
      obtain ⟨ad, A1', e1, A2', e2, A3', e3, A4', e4, A5', e5, rfl, -, s0, s1, s2, s3, s4, s5, g1, -, -, -, -⟩ := HS.out.src hil
      replace s0 := hx.cell s0; replace s1 := hx.cell s1; replace s2 := hx.cell s2; replace s3 := hx.cell s3; replace s4 := hx.cell s4; replace s5 := hx.cell s5
      have hlv := HL.out _ (List.getElem_mem hil)
      have htk : (srcs.take (i + 1)).map Src.vars = (srcs.take i).map Src.vars ++ [srcs[i].vars] := by rw [List.take_succ_eq_append_getElem hil, List.map_append]; rfl
      obtain ⟨A9, c9, e9, -, gcl⟩ := g1
      injection e9 with e9 e9b e9c
      subst e9
      clear e9b e9c
      have hcl := fun (V : World) (hV : Ext w V) => clone_ints (n := srcs[i].vars.length) (c := e1) (gcl.ext hV) (by simp) (fun u hu => by obtain ⟨z, -, rfl⟩ := List.mem_map.1 hu; rfl) hlv
      obtain ⟨vs, hvs⟩ : ∃ v, v = srcs[i].vars := ⟨_, rfl⟩
      rw [← hvs] at s1 htk hcl
      obtain ⟨nv, hnv⟩ : ∃ v, v = vs.length := ⟨_, rfl⟩
      rw [← hnv] at s1 hcl
      have HTK := Lib.hid htk; have HCL := Lib.hid hcl
      generalize srcs[i].cols.length = q2 at *
      generalize srcs[i].same.length = q3 at *
      generalize srcs[i].fs.length = q4 at *
      generalize srcs[i].nots.length = q5 at *
      generalize srcs[i].rel = rl at *
      have HNV := Lib.hid hnv
      clear hrw hx gcl htk hcl hvs hnv
      go_upto_region 5 with fail
      have kt := Bk.new W 58 [.string rl, .slice A1' nv e1, .slice A2' q2 e2, .slice A3' q3 e3, .slice A4' q4 e4, .slice A5' q5 e5]
      change Bk (W.alloc (.cells #[.string rl, .slice A1' nv e1, .slice A2' q2 e2, .slice A3' q3 e3, .slice A4' q4 e4, .slice A5' q5 e5] 58)) _ _ _ at kt
      have hx2 : Ext W (W.alloc (.cells #[.string rl, .slice A1' nv e1, .slice A2' q2 e2, .slice A3' q3 e3, .slice A4' q4 e4, .slice A5' q5 e5] 58)) := (Ext.refl W).alloc _
      generalize (W.alloc (.cells #[.string rl, .slice A1' nv e1, .slice A2' q2 e2, .slice A3' q3 e3, .slice A4' q4 e4, .slice A5' q5 e5] 58)) = W2 at *
      have t1 := kt.cell (i := 1) (by simp)
      simp only [List.getElem_cons_zero, List.getElem_cons_succ] at t1
      have HX2 := Lib.hid (HX.out.trans hx2); have HRW2 := Lib.hid (HRW.out.ext hx2)
      have hww : w.heap.size ≤ W2.heap.size := HX2.out.size
      clear kt hx2 s0 s1 s2 s3 s4 s5
      go_wp2_with fail
      refine (HCL.out _ HX2.out).mono ?_
      rintro e w5 ⟨v, rfl, he5, hown⟩
      obtain ⟨Ac, cc, rfl⟩ := own_slice hown
      have HRW5 := Lib.hid (HRW2.out.ext he5); have HX5 := Lib.hid (HX2.out.trans he5)
      have HOWN : Hid (∀ b, (Value.slice Au k cu).ownBlock = some b → w.heap.size ≤ b ∧ b < W2.heap.size) := Lib.hid (fun b hb => HRW2.out.own.lt b hb)
      have HINS : Hid (Ins (fun b => w.heap.size ≤ b ∧ (Value.slice Au k cu).ownBlock ≠ some b) w5 (.slice Ac nv cc) vs) := Lib.hid (by
        have h := (Ins.of_own (zs := vs) hown).mono (G := fun b => w.heap.size ≤ b ∧ (Value.slice Au k cu).ownBlock ≠ some b) (fun b _ hb => ⟨by have := hb.2; omega, fun e => by have h1 := (HOWN.out b e).2; have h2 := hb.2; omega⟩)
        exact h)
      have hws : w.heap.size ≤ w5.heap.size := HX5.out.size
      clear hown he5 t1
      go_wp2_with (first
        | (at_builtin; refine wpList_append_at rfl _ _ 66 rfl w.heap.size 37 p0 (.slice none 0 0) 1 24 Try.underlying66 HP0.out.1 HP0.out.2.1 HP0.out.2.2.1 HP0.out.2.2.2 rfl (by omega) (.slice Au k cu) k css.flatten rfl (HRW5.out.own.alloc _) ⟨w5.heap.size, 0, none⟩ 1 1 [.slice Ac nv cc] rfl rfl (laid_news w5 _ _) (by simp [Value.oneCell']) (by simp only [maxLen]; omega) (by omega) (by simp; omega) ?_; intro v8 w8 hr8 hg8 hl8; obtain ⟨A8, c8, e8⟩ := own_slice hr8; subst e8; have HRW8 := Lib.hid (Rw.more (x := vs) HRW5.out ((Ext.refl w5).alloc _) ⟨_, rfl, HINS.out.ext ((Ext.refl w5).alloc _)⟩ hr8 hg8 hl8); have HX8 := Lib.hid ((HX5.out.alloc _).grown hg8 (fun b hb => own_ge HRW5.out.own hb)); clear hr8 hg8 hl8))
      go_roundw
      case rel => exact ⟨i + 1, k + 1, _, _, by omega, by go_num, Lib.hid (by rw [HTK.out, HE.out]), by omega, HRW8.out, HX8.out⟩
      case measure => simp [intOf]; omega
    · obtain rfl : i = m := by omega
      have hdi : ¬ (i : Int) < (i : Int) := by omega
      have et : srcs.take i = srcs := List.take_of_length_le (by have := HM.out; omega)
      have HQ : Hid (Sl rdIn (fun k => w.heap.size ≤ k) W (.slice Au k cu) (srcs.map Src.vars)) := Lib.hid (by
        have h := hrw.sl (by decide)
        rw [HE.out, et] at h
        exact h)
      clear et hrw hx
      go_wp2_with fail
      go_ret
      exact Ret.mk HX.out HQ.out
end Go.Proofs.Ytmmmdinncmbjkaa
