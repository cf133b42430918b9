/- Contract: the reference's Derive. -/
import Derived.Test.YtmmmdinncmbjkaaGreatLo36
namespace Go.Proofs.YtmmmdinncmbjkaaGreat
open Go.RowKit Go.Maps
/-- The tests of Derive on a row. -/
def derF (x : List Vl) (g : Fl) : Bool := holdI g.op (cmpV (x.getD g.col.toNat zv) ⟨g.kind, g.int, g.str⟩)
def derS (x : List Vl) (p : Pi) : Bool := decide (x.getD p.a.toNat zv = x.getD p.b.toNat zv)
def pickV (ps : List (Int × Int)) (x : List Vl) (v : Int) (c : Vl) : Vl := ps.foldl (fun a p => if p.1 = v then x.getD p.2.toNat zv else a) c
def notRow (s : Src) (x : List Vl) (y : Nt) : List Vl := (y.vars.zip y.cs).map (fun p => pickV (s.vars.zip s.cols) x p.1 p.2)
def derN (f : List Fc) (s : Src) (x : List Vl) (y : Nt) : Bool := !hasFc f y.rel (notRow s x y)
def derB (f : List Fc) (s : Src) (x : Fc) : Bool := ((decide (x.rel = s.rel) && s.fs.all (derF x.row)) && s.same.all (derS x.row)) && s.nots.all (derN f s x.row)
def addR (out : List (List Vl)) (r : List Vl) : List (List Vl) := if r ∈ out then out else out ++ [r]
def derOne (f : List Fc) (s : Src) (out : List (List Vl)) (x : Fc) : List (List Vl) := if derB f s x = true then addR out (projR s.cols x.row) else out
/-- What Derive answers. -/
def deriveL (f : List Fc) (s : Src) (l : List Fc) : List (List Vl) := l.foldl (derOne f s) []
theorem deriveL_take {f : List Fc} {s : Src} {l : List Fc} {i : Nat} (hi : i < l.length) : deriveL f s (l.take (i + 1)) = derOne f s (deriveL f s (l.take i)) l[i] := by
  unfold deriveL
  rw [List.take_succ_eq_append_getElem hi, List.foldl_append]
  rfl
theorem all_take {α : Type} {p : α → Bool} {l : List α} {i : Nat} (hi : i < l.length) (h : (l.take i).all p = true) : (l.take (i + 1)).all p = p l[i] := by
  rw [List.take_succ_eq_append_getElem hi, List.all_append, h]
  simp
theorem all_no {α : Type} {p : α → Bool} {l : List α} {i : Nat} {b : Bool} (h : (b && (l.take i).all p) = false) : (b && l.all p) = false := by
  rcases b with _ | _
  · rfl
  · rw [Bool.true_and] at h ⊢
    rw [List.all_eq_false] at h ⊢
    obtain ⟨x, hx, hp⟩ := h
    exact ⟨x, List.mem_of_mem_take hx, hp⟩
theorem pick_take {ps : List (Int × Int)} {x : List Vl} {v : Int} {c : Vl} {l : Nat} (hl : l < ps.length) : pickV (ps.take (l + 1)) x v c = if ps[l].1 = v then x.getD ps[l].2.toNat zv else pickV (ps.take l) x v c := by
  unfold pickV
  rw [List.take_succ_eq_append_getElem hl, List.foldl_append]
  rfl
theorem deriveL_len {f : List Fc} {s : Src} : ∀ {l : List Fc}, ∀ x ∈ deriveL f s l, x.length = s.cols.length := by
  suffices h : ∀ (l : List Fc) (out : List (List Vl)), (∀ x ∈ out, x.length = s.cols.length) → ∀ x ∈ l.foldl (derOne f s) out, x.length = s.cols.length from fun {l} => h l [] (by simp)
  intro l
  induction l with
  | nil => exact fun out h => h
  | cons a l ih =>
    intro out h
    rw [List.foldl_cons]
    refine ih _ (fun x hx => ?_)
    unfold derOne at hx
    split at hx
    · unfold addR at hx
      split at hx
      · exact h x hx
      · rcases List.mem_append.1 hx with h1 | h1
        · exact h x h1
        · rw [List.mem_singleton.1 h1]; simp [projR]
    · exact h x hx
/-- A source whose columns stand in the facts. -/
structure DerOk (s : Src) (f : List Fc) : Prop where
  n : f.length ≤ 1048576
  row : ∀ x ∈ f, x.row.length ≤ 1048576
  b1 : s.vars.length ≤ 1048576
  b3 : s.same.length ≤ 1048576
  b4 : s.fs.length ≤ 1048576
  b5 : s.nots.length ≤ 1048576
  vc : s.vars.length = s.cols.length
  nots : ∀ y ∈ s.nots, y.cs.length = y.vars.length ∧ y.vars.length ≤ 1048576
  ops : ∀ g ∈ s.fs, 0 ≤ g.op ∧ g.op ≤ 5
  fs : ∀ x ∈ f, x.rel = s.rel → ∀ g ∈ s.fs, 0 ≤ g.col ∧ g.col < (x.row.length : Int)
  same : ∀ x ∈ f, x.rel = s.rel → ∀ p ∈ s.same, (0 ≤ p.a ∧ p.a < (x.row.length : Int)) ∧ 0 ≤ p.b ∧ p.b < (x.row.length : Int)
  cols : ∀ x ∈ f, x.rel = s.rel → ∀ c ∈ s.cols, 0 ≤ c ∧ c < (x.row.length : Int)
theorem vcells_app1 (l : List Vl) (v : Vl) : vcells (l ++ [v]) = vcells l ++ [.int .i64 v.kind, .int .i64 v.int, .string v.str] := by rw [vcells_app]; rfl
/-- A Value in a row, by the index as an integer. -/
theorem Sl.vlI {F : Nat → Prop} {w : World} {A : Option Addr} {n c : Nat} {xs : List Vl} (h : Sl rdVl F w (.slice A n c) xs) {z : Int} (h0 : 0 ≤ z) (h1 : z < (xs.length : Int)) : ∃ (k : Nat) (ad : Addr), z = (k : Int) ∧ k < xs.length ∧ A = some ad ∧ w.cell? (ad.add (k * 3)) = some (.int .i64 (xs.getD z.toNat zv).kind) ∧ w.cell? ⟨(ad.add (k * 3)).block, (ad.add (k * 3)).off + 1, none⟩ = some (.int .i64 (xs.getD z.toNat zv).int) ∧ w.cell? ⟨(ad.add (k * 3)).block, (ad.add (k * 3)).off + 2, none⟩ = some (.string (xs.getD z.toNat zv).str) := by
  have hk : z.toNat < xs.length := by omega
  obtain ⟨ad, e, -, h2, h3, h4⟩ := h.vl hk
  have e2 : xs.getD z.toNat zv = xs[z.toNat] := by rw [List.getD_eq_getElem?_getD, List.getElem?_eq_getElem hk]; rfl
  rw [e2]
  exact ⟨z.toNat, ad, by omega, hk, e, h2, h3, h4⟩
set_option maxRecDepth 20000 in
set_option maxHeartbeats 12800000 in
theorem derive22 {F G : Nat → Prop} {w : World} {v : Value} {A : Option Addr} {n c : Nat} {s : Src} {f : List Fc} (hV : SrcV G w v s) (hf : Sl rdFc F w (.slice A n c) f) (hk : DerOk s f) :
    Calls Tryz.prog 17 #[v, .slice A n c] w (Ret (fun x w' => Sl rdRow (fun k => w.heap.size ≤ k) w' x (deriveL f s f)) w) := by
  obtain ⟨A1, c1, A2, c2, A3, c3, A4, c4, A5, c5, rfl, g1, g2, g3, g4, g5⟩ := hV
  obtain ⟨kn, krow, kb1, kb3, kb4, kb5, kvc, knots, kops, kfs, ksame, kcols⟩ := hk
  have hnf := hf.cap.1
  obtain ⟨i0, hi0, hz0, hz1, hz2⟩ := info_parts info_val
  have HV0 := Lib.hid (And.intro hi0 (And.intro hz0 (And.intro hz1 hz2))); clear hi0 hz0 hz1 hz2
  obtain ⟨j0, hj0, hy0, hy1, hy2⟩ := info_parts info_row
  have HR0 := Lib.hid (And.intro hj0 (And.intro hy0 (And.intro hy1 hy2))); clear hj0 hy0 hy1 hy2
  have HF := Lib.hid hf; have HNF := Lib.hid hnf; have HG1 := Lib.hid g1; have HG2 := Lib.hid g2; have HG3 := Lib.hid g3; have HG4 := Lib.hid g4; have HG5 := Lib.hid g5
  have HKN := Lib.hid kn; have HROW := Lib.hid krow; have HNOTS := Lib.hid knots; have HOPS := Lib.hid kops; have HFS := Lib.hid kfs; have HSM := Lib.hid ksame; have HCL := Lib.hid kcols; have HVC := Lib.hid kvc
  obtain ⟨n1, h1⟩ : ∃ k, k = s.vars.length := ⟨_, rfl⟩
  obtain ⟨n3, h3⟩ : ∃ k, k = s.same.length := ⟨_, rfl⟩
  obtain ⟨n4, h4⟩ : ∃ k, k = s.fs.length := ⟨_, rfl⟩
  obtain ⟨n5, h5⟩ : ∃ k, k = s.nots.length := ⟨_, rfl⟩
  obtain ⟨rl, h0⟩ : ∃ k, k = s.rel := ⟨_, rfl⟩
  rw [← kvc, ← h1] at HG2
  rw [← h1] at HG1 kb1
  rw [← h3] at HG3 kb3
  rw [← h4] at HG4 kb4
  rw [← h5] at HG5 kb5
  rw [← kvc, ← h1, ← h3, ← h4, ← h5, ← h0]
  have H0 := Lib.hid h0; have H1 := Lib.hid h1; have H3 := Lib.hid h3; have H4 := Lib.hid h4; have H5 := Lib.hid h5
  have hn : n ≤ 1048576 := by rw [hnf]; exact kn
  clear hf kn krow kvc knots kops kfs ksame kcols hnf g1 g2 g3 g4 g5 h0 h1 h3 h4 h5
  go_enter Tryz.func17, Tryz.ntmps17
  go_upto_region 1 with fail
  have ks := Bk.new w 77 [.string rl, .slice A1 n1 c1, .slice A2 n1 c2, .slice A3 n3 c3, .slice A4 n4 c4, .slice A5 n5 c5]
  change Bk (w.alloc (.cells #[.string rl, .slice A1 n1 c1, .slice A2 n1 c2, .slice A3 n3 c3, .slice A4 n4 c4, .slice A5 n5 c5] 77)) _ _ _ at ks
  have hx1 : Ext w (w.alloc (.cells #[.string rl, .slice A1 n1 c1, .slice A2 n1 c2, .slice A3 n3 c3, .slice A4 n4 c4, .slice A5 n5 c5] 77)) := (Ext.refl w).alloc _
  generalize (w.alloc (.cells #[.string rl, .slice A1 n1 c1, .slice A2 n1 c2, .slice A3 n3 c3, .slice A4 n4 c4, .slice A5 n5 c5] 77)) = w1 at *
  have HKS := Lib.hid ks; have HX1 := Lib.hid hx1
  have hw1 : w.heap.size < w1.heap.size := ks.lt
  clear ks hx1
  go_wp2_with fail
  go_loopw [5, 6] (fun o t wr => ∃ (i k : Nat) (l : List (List Vl)) (css : List (List Value)), i ≤ n ∧ t = .int .i64 (i : Int) ∧ Rw rdRow wr w1.heap.size 81 o k l css ∧ Hid (l = deriveL f s (f.take i)) ∧ k ≤ i ∧ Ext w1 wr) (fun _ t _ => n - (intOf t).toNat)
  case atStart => exact ⟨0, 0, [], [], Nat.zero_le _, rfl, Rw.empty _ _ _ _, Lib.hid (by simp [deriveL]), Nat.le_refl _, Ext.refl _⟩
  case round =>
    obtain ⟨i, k, l, css, hi, rfl, hrw, HE, hki, hx⟩ := hrel
    obtain ⟨Ao, co, rfl⟩ := own_slice hrw.own
    obtain ⟨W, rfl⟩ : ∃ W : World, W = wr := ⟨_, rfl⟩
    have HRW := Lib.hid hrw; have HX := Lib.hid hx
    by_cases hlt : i < n
    · have i1 : (0 : Int) ≤ (i : Int) := by omega
      have i2 : (i : Int) < (n : Int) := by omega
      have hil : i < f.length := by have := HNF.out; omega
      obtain ⟨ad, B, d, rfl, d0, d1, hs⟩ := HF.out.fc hil
      replace d0 := hx.cell (HX1.out.cell d0); replace d1 := hx.cell (HX1.out.cell d1)
      have hxl := HROW.out _ (List.getElem_mem hil)
      have hxf := HFS.out _ (List.getElem_mem hil); have hxs := HSM.out _ (List.getElem_mem hil); have hxc := HCL.out _ (List.getElem_mem hil)
      have htk := deriveL_take (f := f) (s := s) hil
      rw [← HE.out] at htk
      unfold derOne derB at htk
      obtain ⟨x, hxx⟩ : ∃ x, x = f[i] := ⟨_, rfl⟩
      rw [← hxx] at d0 d1 hs hxl hxf hxs hxc htk
      obtain ⟨xl, xr⟩ := x
      simp only at d0 d1 hs hxl hxf hxs hxc htk
      obtain ⟨lx, hlx⟩ : ∃ l, l = xr.length := ⟨_, rfl⟩
      rw [← hlx] at d1 hs hxl hxf hxs hxc
      rw [← H0.out] at htk hxf hxs hxc
      obtain ⟨b0, hb0⟩ : ∃ b, b = decide (xl = rl) := ⟨_, rfl⟩
      rw [← hb0] at htk
      have hbl : (xl.toList == rl.toList) = b0 := by
        rw [hb0]
        by_cases e : xl = rl
        · rw [str_eq e, decide_eq_true e]
        · rw [str_ne e, decide_eq_false e]
      have HXF : Hid (b0 = true → ∀ g ∈ s.fs, 0 ≤ g.col ∧ g.col < (lx : Int)) := Lib.hid (fun e => hxf (by rw [hb0] at e; exact of_decide_eq_true e))
      have HXS : Hid (b0 = true → ∀ p ∈ s.same, (0 ≤ p.a ∧ p.a < (lx : Int)) ∧ 0 ≤ p.b ∧ p.b < (lx : Int)) := Lib.hid (fun e => hxs (by rw [hb0] at e; exact of_decide_eq_true e))
      have HXC : Hid (b0 = true → ∀ c ∈ s.cols, 0 ≤ c ∧ c < (lx : Int)) := Lib.hid (fun e => hxc (by rw [hb0] at e; exact of_decide_eq_true e))
      have HTK := Lib.hid htk; have HS := Lib.hid hs; have HLX := Lib.hid hlx
      have a0 := (HKS.out.ext hx).cell (i := 0) (by simp)
      simp only [List.getElem_cons_zero, List.getElem_cons_succ] at a0
      clear hxx hlx hb0 htk hxf hxs hxc hs hrw hx
      go_upto_region 6 with fail
      go_quiet (fail)
      have HXQ := Lib.hid (HX.out.drewN nq)
      have HRW2 := Lib.hid (HRW.out.ext ((Ext.refl W).drewN nq))
      generalize (W.drewN nq) = w2 at *
      clear hbl d0 d1 a0
      go_upto_block 2 with fail
      go_cut [8] (fun s8 wx => ∃ b : Bool, s8 = .bool b ∧ Hid (b = (b0 && s.fs.all (derF xr))) ∧ Ext w2 wx)
      case first => as_aux_lemma =>
        clear HRW HRW2 HTK HE
        go_wp2_with fail
        go_loopw [8, 9] (fun o t wr => ∃ (k : Nat) (b : Bool), k ≤ n4 ∧ t = .int .i64 (k : Int) ∧ o = .bool b ∧ Hid (b = (b0 && (s.fs.take k).all (derF xr))) ∧ Ext w2 wr) (fun _ t _ => n4 - (intOf t).toNat)
        case atStart => exact ⟨0, b0, Nat.zero_le _, rfl, rfl, Lib.hid (by simp), Ext.refl _⟩
        case round =>
          obtain ⟨k2, b, hk2, rfl, rfl, HB, hx2⟩ := hrel
          obtain ⟨W2, rfl⟩ : ∃ W : World, W = wr := ⟨_, rfl⟩
          have HX2 := Lib.hid hx2
          rcases b with _ | _
          · clear hx2
            go_wp2_with fail
            go_meet
            exact ⟨false, rfl, Lib.hid (all_no HB.out.symm).symm, HX2.out⟩
          · have hxw2 := HXQ.out.trans hx2
            have z4 := (HKS.out.ext hxw2).cell (i := 4) (by simp)
            simp only [List.getElem_cons_zero, List.getElem_cons_succ] at z4
            by_cases hkl : k2 < n4
            · have k1 : (0 : Int) ≤ (k2 : Int) := by omega
              have k3 : (k2 : Int) < (n4 : Int) := by omega
              have hkf : k2 < s.fs.length := by have := H4.out; omega
              have hbb := HB.out
              simp only [Bool.true_eq, Bool.and_eq_true] at hbb
              obtain ⟨af, rfl, -, e0, e1, e2, e3, e4⟩ := HG4.out.fl hkf
              have hrg := HXF.out hbb.1 _ (List.getElem_mem hkf)
              have hop := HOPS.out _ (List.getElem_mem hkf)
              have hat := all_take hkf hbb.2
              obtain ⟨g, hg⟩ : ∃ g, g = s.fs[k2] := ⟨_, rfl⟩
              rw [← hg] at e0 e1 e2 e3 e4 hrg hop hat
              obtain ⟨col, op, kd, it, st⟩ := g
              simp only at e0 e1 e2 e3 e4 hrg hop
              obtain ⟨cn, ar, rfl, hcn, rfl, f0, f1, f2⟩ := HS.out.vlI hrg.1 (by have := HLX.out; omega)
              replace hat : (s.fs.take (k2 + 1)).all (derF xr) = holdI op (cmpV (xr.getD (cn : Int).toNat zv) ⟨kd, it, st⟩) := hat
              have hex := HX1.out.trans hxw2
              replace e0 := hex.cell e0; replace e1 := hex.cell e1; replace e2 := hex.cell e2; replace e3 := hex.cell e3; replace e4 := hex.cell e4; replace f0 := hex.cell f0; replace f1 := hex.cell f1; replace f2 := hex.cell f2
              have HH := Lib.hid (fun V => holds22 (xr.getD (cn : Int).toNat zv) ⟨kd, it, st⟩ op hop.1 hop.2 V)
              obtain ⟨q, hq⟩ : ∃ q, q = holdI op (cmpV (xr.getD (cn : Int).toNat zv) ⟨kd, it, st⟩) := ⟨_, rfl⟩
              rw [← hq] at HH hat
              obtain ⟨y, hy⟩ : ∃ y, y = xr.getD (cn : Int).toNat zv := ⟨_, rfl⟩
              rw [← hy] at HH f0 f1 f2
              obtain ⟨yk, yi, ys⟩ := y
              simp only [vagg] at HH f0 f1 f2
              have HB2 : Hid (q = (b0 && (s.fs.take (k2 + 1)).all (derF xr))) := Lib.hid (by rw [hat, hbb.1, Bool.true_and])
              have hc1 : (0 : Int) ≤ (cn : Int) := by omega
              have hc2 : (cn : Int) < (lx : Int) := by have := HLX.out; omega
              clear hbb hrg hop hat hg hq hy hxw2 hex hx2 hcn
              go_upto_region 10 with fail
              go_region_held3 (fun V => Ext W2 V ∧ V.cell? ⟨w.heap.size, 4, none⟩ = some (.slice (some af) n4 c4) ∧ V.cell? (af.add (k2 * 5)) = some (.int .i64 (cn : Int)) ∧ V.cell? ⟨(af.add (k2 * 5)).block, (af.add (k2 * 5)).off + 1, none⟩ = some (.int .i64 op) ∧ V.cell? ⟨(af.add (k2 * 5)).block, (af.add (k2 * 5)).off + 2, none⟩ = some (.int .i64 kd) ∧ V.cell? ⟨(af.add (k2 * 5)).block, (af.add (k2 * 5)).off + 3, none⟩ = some (.int .i64 it) ∧ V.cell? ⟨(af.add (k2 * 5)).block, (af.add (k2 * 5)).off + 4, none⟩ = some (.string st) ∧ V.cell? (ar.add (cn * 3)) = some (.int .i64 yk) ∧ V.cell? ⟨(ar.add (cn * 3)).block, (ar.add (cn * 3)).off + 1, none⟩ = some (.int .i64 yi) ∧ V.cell? ⟨(ar.add (cn * 3)).block, (ar.add (cn * 3)).off + 2, none⟩ = some (.string ys))
                ((refine (fun he => ⟨he, Ext.cell he z4, Ext.cell he e0, Ext.cell he e1, Ext.cell he e2, Ext.cell he e3, Ext.cell he e4, Ext.cell he f0, Ext.cell he f1, Ext.cell he f2⟩) ?_; repeat (first | exact Ext.refl _ | exact (Ext.refl _).drew | refine Ext.drew ?_ | refine Ext.trans ?_ (by assumption))))
                (first
                  | (go_at_call 23; (with_reducible refine (HH.out _).mono ?_); rintro e wi ⟨yv, rfl, hei, rfl⟩))
              have hfin := And.left (b := _ ∧ _) (by assumption)
              obtain ⟨X, rfl⟩ : ∃ X : World, X = wi := ⟨_, rfl⟩
              have HX3 := Lib.hid (HX2.out.trans hfin)
              clear hfin hei z4 e0 e1 e2 e3 e4 f0 f1 f2
              go_wp2_with fail
              go_roundw
              case rel => exact ⟨k2 + 1, q, by omega, by go_num, rfl, HB2, HX3.out⟩
              case measure => simp [intOf]; omega
            · obtain rfl : k2 = n4 := by omega
              have hdk : decide ((k2 : Int) < (k2 : Int)) = false := by simp
              have HB2 : Hid (true = (b0 && s.fs.all (derF xr))) := Lib.hid (by
                have h := HB.out
                rwa [List.take_of_length_le (by have := H4.out; omega)] at h)
              clear hx2 hxw2
              go_wp2_with fail
              go_meet
              exact ⟨true, rfl, HB2, HX2.out⟩
      case rest =>
        obtain ⟨b1, rfl, HB1, hx3⟩ := hcut
        obtain ⟨w3, rfl⟩ : ∃ W : World, W = wc := ⟨_, rfl⟩
        have HX3 := Lib.hid (HXQ.out.trans hx3); have HRW3 := Lib.hid (HRW2.out.ext hx3)
        clear hx3
        go_upto_block 4 with fail
        go_cut [8] (fun s8 wx => ∃ b : Bool, s8 = .bool b ∧ Hid (b = (b1 && s.same.all (derS xr))) ∧ Ext w3 wx)
        case first => as_aux_lemma =>
          clear HRW HRW2 HRW3 HTK HE
          go_wp2_with fail
          go_loopw [8, 10] (fun o t wr => ∃ (k : Nat) (b : Bool), k ≤ n3 ∧ t = .int .i64 (k : Int) ∧ o = .bool b ∧ Hid (b = (b1 && (s.same.take k).all (derS xr))) ∧ Ext w3 wr) (fun _ t _ => n3 - (intOf t).toNat)
          case atStart => exact ⟨0, b1, Nat.zero_le _, rfl, rfl, Lib.hid (by simp), Ext.refl _⟩
          case round =>
            obtain ⟨k2, b, hk2, rfl, rfl, HB, hx2⟩ := hrel
            obtain ⟨W2, rfl⟩ : ∃ W : World, W = wr := ⟨_, rfl⟩
            have HX2 := Lib.hid hx2
            rcases b with _ | _
            · clear hx2
              go_wp2_with fail
              go_meet
              exact ⟨false, rfl, Lib.hid (all_no HB.out.symm).symm, HX2.out⟩
            · have hxw2 := HX3.out.trans hx2
              have z3 := (HKS.out.ext hxw2).cell (i := 3) (by simp)
              simp only [List.getElem_cons_zero, List.getElem_cons_succ] at z3
              by_cases hkl : k2 < n3
              · have k1 : (0 : Int) ≤ (k2 : Int) := by omega
                have k3 : (k2 : Int) < (n3 : Int) := by omega
                have hkf : k2 < s.same.length := by have := H3.out; omega
                have hbb := HB.out
                simp only [Bool.true_eq, Bool.and_eq_true] at hbb
                have hb1 := HB1.out
                rw [hbb.1] at hb1
                simp only [Bool.true_eq, Bool.and_eq_true] at hb1
                obtain ⟨af, rfl, -, e0, e1⟩ := HG3.out.pi hkf
                have hrg := HXS.out hb1.1 _ (List.getElem_mem hkf)
                have hat := all_take hkf hbb.2
                obtain ⟨g, hg⟩ : ∃ g, g = s.same[k2] := ⟨_, rfl⟩
                rw [← hg] at e0 e1 hrg hat
                obtain ⟨pa, pb⟩ := g
                simp only at e0 e1 hrg
                obtain ⟨cn, ar, rfl, hcn, rfl, f0, f1, f2⟩ := HS.out.vlI hrg.1.1 (by have := HLX.out; omega)
                obtain ⟨cm, ar', rfl, hcm, e', j0, j1, j2⟩ := HS.out.vlI hrg.2.1 (by have := HLX.out; omega)
                injection e' with e'
                subst e'
                replace hat : (s.same.take (k2 + 1)).all (derS xr) = decide (xr.getD (cn : Int).toNat zv = xr.getD (cm : Int).toNat zv) := hat
                have hex := HX1.out.trans hxw2
                replace e0 := hex.cell e0; replace e1 := hex.cell e1; replace f0 := hex.cell f0; replace f1 := hex.cell f1; replace f2 := hex.cell f2; replace j0 := hex.cell j0; replace j1 := hex.cell j1; replace j2 := hex.cell j2
                obtain ⟨y, hy⟩ : ∃ y, y = xr.getD (cn : Int).toNat zv := ⟨_, rfl⟩
                obtain ⟨y2, hy2⟩ : ∃ y, y = xr.getD (cm : Int).toNat zv := ⟨_, rfl⟩
                rw [← hy] at hat f0 f1 f2
                rw [← hy2] at hat j0 j1 j2
                obtain ⟨yk, yi, ys⟩ := y
                obtain ⟨yk2, yi2, ys2⟩ := y2
                simp only at f0 f1 f2 j0 j1 j2
                have heq := fun W => eq_val W yk yk2 yi yi2 ys ys2
                rw [vl_beq] at heq
                obtain ⟨q, hq⟩ : ∃ q, q = decide ((⟨yk, yi, ys⟩ : Vl) = ⟨yk2, yi2, ys2⟩) := ⟨_, rfl⟩
                rw [← hq] at hat heq
                have HB2 : Hid (q = (b1 && (s.same.take (k2 + 1)).all (derS xr))) := Lib.hid (by rw [hat, hbb.1, Bool.true_and])
                have hc1 : (0 : Int) ≤ (cn : Int) := by omega
                have hc2 : (cn : Int) < (lx : Int) := by have := HLX.out; omega
                have hc3 : (0 : Int) ≤ (cm : Int) := by omega
                have hc4 : (cm : Int) < (lx : Int) := by have := HLX.out; omega
                clear hbb hb1 hrg hat hg hq hy hy2 hxw2 hex hx2 hcn hcm
                go_upto_region 14 with fail
                go_quiet (fail)
                have HX4 := Lib.hid (HX2.out.drewN nq)
                generalize (W2.drewN nq) = w4 at *
                clear z3 e0 e1 f0 f1 f2 j0 j1 j2 heq
                go_wp2_with fail
                go_roundw
                case rel => exact ⟨k2 + 1, q, by omega, by go_num, rfl, HB2, HX4.out⟩
                case measure => simp [intOf]; omega
              · obtain rfl : k2 = n3 := by omega
                have hdk : decide ((k2 : Int) < (k2 : Int)) = false := by simp
                have HB2 : Hid (true = (b1 && s.same.all (derS xr))) := Lib.hid (by
                  have h := HB.out
                  rwa [List.take_of_length_le (by have := H3.out; omega)] at h)
                clear hx2 hxw2
                go_wp2_with fail
                go_meet
                exact ⟨true, rfl, HB2, HX2.out⟩
        case rest =>
          obtain ⟨b2, rfl, HB2, hx4⟩ := hcut
          obtain ⟨w4, rfl⟩ : ∃ W : World, W = wc := ⟨_, rfl⟩
          have HX4 := Lib.hid (HX3.out.trans hx4); have HRW4 := Lib.hid (HRW3.out.ext hx4)
          clear hx4
          go_upto_block 6 with fail
          go_cut [8] (fun s8 wx => ∃ b : Bool, s8 = .bool b ∧ Hid (b = (b2 && s.nots.all (derN f s xr))) ∧ Ext w4 wx)
          case first => as_aux_lemma =>
            clear HRW HRW2 HRW3 HRW4 HTK HE
            go_wp2_with fail
            go_loopw [8, 11] (fun o t wr => ∃ (k : Nat) (b : Bool), k ≤ n5 ∧ t = .int .i64 (k : Int) ∧ o = .bool b ∧ Hid (b = (b2 && (s.nots.take k).all (derN f s xr))) ∧ Ext w4 wr) (fun _ t _ => n5 - (intOf t).toNat)
            case atStart => exact ⟨0, b2, Nat.zero_le _, rfl, rfl, Lib.hid (by simp), Ext.refl _⟩
            case round =>
              obtain ⟨k2, b, hk2, rfl, rfl, HB, hx2⟩ := hrel
              obtain ⟨W4, rfl⟩ : ∃ W : World, W = wr := ⟨_, rfl⟩
              have HX5 := Lib.hid hx2
              rcases b with _ | _
              · clear hx2
                go_wp2_with fail
                go_meet
                exact ⟨false, rfl, Lib.hid (all_no HB.out.symm).symm, HX5.out⟩
              · have hxw2 := HX4.out.trans hx2
                have HXW4 := Lib.hid hxw2
                have z5 := (HKS.out.ext hxw2).cell (i := 5) (by simp)
                simp only [List.getElem_cons_zero, List.getElem_cons_succ] at z5
                by_cases hkl : k2 < n5
                · have k1 : (0 : Int) ≤ (k2 : Int) := by omega
                  have k3 : (k2 : Int) < (n5 : Int) := by omega
                  have hkf : k2 < s.nots.length := by have := H5.out; omega
                  have hbb := HB.out
                  simp only [Bool.true_eq, Bool.and_eq_true] at hbb
                  have hb2 := HB2.out
                  rw [hbb.1] at hb2
                  simp only [Bool.true_eq, Bool.and_eq_true] at hb2
                  have hb1 := HB1.out
                  rw [hb2.1] at hb1
                  simp only [Bool.true_eq, Bool.and_eq_true] at hb1
                  have HXC2 := Lib.hid (HXC.out hb1.1)
                  obtain ⟨af, B1, d1, B2, d2, rfl, -, e0, e1, e2, hi1, hi2⟩ := HG5.out.nt hkf
                  have hny := HNOTS.out _ (List.getElem_mem hkf)
                  rw [hny.1] at e2 hi2
                  have hat := all_take hkf hbb.2
                  obtain ⟨y, hy⟩ : ∃ y, y = s.nots[k2] := ⟨_, rfl⟩
                  rw [← hy] at e0 e1 e2 hi1 hi2 hny hat
                  replace hat : (s.nots.take (k2 + 1)).all (derN f s xr) = !hasFc f y.rel (notRow s xr y) := hat
                  obtain ⟨nr, hnr⟩ : ∃ r, r = notRow s xr y := ⟨_, rfl⟩
                  rw [← hnr] at hat
                  obtain ⟨yl, ys, ycs⟩ := y
                  simp only at e0 e1 e2 hi1 hi2 hny hat
                  have hnl : nr.length = ys.length := by rw [hnr]; unfold notRow; simp [hny.1]
                  have HNR : Hid (∀ (j : Nat) (h1 : j < ys.length) (h2 : j < ycs.length), nr.take (j + 1) = nr.take j ++ [pickV (s.vars.zip s.cols) xr ys[j] ycs[j]]) := Lib.hid (fun j h1 h2 => by
                    rw [hnr]
                    unfold notRow
                    rw [List.take_succ_eq_append_getElem (by simp only [List.length_map, List.length_zip]; omega), List.getElem_map, List.getElem_zip])
                  obtain ⟨m1, hm1⟩ : ∃ m, m = ys.length := ⟨_, rfl⟩
                  rw [← hm1] at e1 e2 hi1 hi2 hnl
                  have hm5 : m1 ≤ 1048576 := by rw [hm1]; exact hny.2
                  obtain ⟨q, hq⟩ : ∃ q, q = hasFc f yl nr := ⟨_, rfl⟩
                  rw [← hq] at hat
                  have HQB : Hid ((!q) = (b2 && (s.nots.take (k2 + 1)).all (derN f s xr))) := Lib.hid (by rw [hat, hbb.1, Bool.true_and])
                  have HHAS := Lib.hid (fun (V : World) (hV : Ext w V) (H : Nat → Prop) (U : Option Addr) (cu : Nat) (hU : Sl rdVl H V (.slice U m1 cu) nr) => has22 (rl := yl) (HF.out.ext hV) hU hn hm5 HROW.out)
                  rw [← hq] at HHAS
                  have HI1 := Lib.hid hi1; have HI2 := Lib.hid hi2; have HM1 := Lib.hid hm1; have HNL := Lib.hid hnl; have HCSL := Lib.hid hny.1
                  have HE0 := Lib.hid (HX1.out.cell e0); have HE1 := Lib.hid (HX1.out.cell e1); have HE2 := Lib.hid (HX1.out.cell e2)
                  clear hbb hb1 hb2 hny hat hy hnr hm1 hq hi1 hi2 e0 e1 e2 hxw2 hx2 hnl HB
                  go_wp2_with fail
                  clear z5
                  go_loopw [12, 13] (fun u t wr => ∃ j : Nat, j ≤ m1 ∧ t = .int .i64 (j : Int) ∧ wr.ownsRow W4.heap.size 83 3 u j (vcells (nr.take j)) ∧ Ext W4 wr) (fun _ t _ => m1 - (intOf t).toNat)
                  case atStart => exact ⟨0, Nat.zero_le _, rfl, World.ownsRow_nil _ _ _ _, Ext.refl _⟩
                  case round =>
                    obtain ⟨j, hj, rfl, how, hx5⟩ := hrel
                    obtain ⟨Au, cu, rfl⟩ := own_slice how
                    obtain ⟨W5, rfl⟩ : ∃ W : World, W = wr := ⟨_, rfl⟩
                    have hxw5 := HXW4.out.trans hx5
                    have HOW := Lib.hid how; have HX6 := Lib.hid hx5; have HXW5 := Lib.hid hxw5
                    have z5 := (HKS.out.ext hxw5).cell (i := 5) (by simp)
                    simp only [List.getElem_cons_zero, List.getElem_cons_succ] at z5
                    have e1 := hxw5.cell HE1.out
                    have hsz5 : W4.heap.size ≤ W5.heap.size := hx5.size
                    by_cases hjl : j < m1
                    · have j1 : (0 : Int) ≤ (j : Int) := by omega
                      have j2 : (j : Int) < (m1 : Int) := by omega
                      have hjy : j < ys.length := by have := HM1.out; omega
                      have hjc : j < ycs.length := by have := HCSL.out; omega
                      obtain ⟨A9, c9, e9, -, hcl⟩ := HI1.out
                      injection e9 with e9 e9b e9c
                      subst e9
                      clear e9b e9c
                      obtain ⟨ay, rfl, -, n0⟩ := hcl.int hjy
                      obtain ⟨ac, rfl, -, q0, q1, q2⟩ := HI2.out.vl hjc
                      have htk := HNR.out j hjy hjc
                      have hex := HX1.out.trans hxw5
                      have HN0 := Lib.hid n0
                      replace q0 := hex.cell q0; replace q1 := hex.cell q1; replace q2 := hex.cell q2
                      have e2 := hxw5.cell HE2.out
                      obtain ⟨yv, hyv⟩ : ∃ y, y = ys[j] := ⟨_, rfl⟩
                      obtain ⟨yc, hyc⟩ : ∃ y, y = ycs[j] := ⟨_, rfl⟩
                      rw [← hyv] at HN0 htk
                      rw [← hyc] at q0 q1 q2 htk
                      obtain ⟨ck, ci, cst⟩ := yc
                      simp only at q0 q1 q2
                      have HTK2 := Lib.hid htk
                      clear n0 hcl htk hyv hyc how hx5 hxw5 hex
                      go_upto_region 23 with fail
                      have kv := Bk.new W5 83 [.int .i64 ck, .int .i64 ci, .string cst]
                      change Bk (W5.alloc (.cells #[.int .i64 ck, .int .i64 ci, .string cst] 83)) _ _ _ at kv
                      have hx6 : Ext W5 (W5.alloc (.cells #[.int .i64 ck, .int .i64 ci, .string cst] 83)) := (Ext.refl W5).alloc _
                      generalize (W5.alloc (.cells #[.int .i64 ck, .int .i64 ci, .string cst] 83)) = w6 at *
                      have hsz6 : W5.heap.size < w6.heap.size := kv.lt
                      obtain ⟨g6, hg6⟩ : ∃ g, g = W5.heap.size := ⟨_, rfl⟩
                      rw [← hg6] at kv ⊢
                      have hg61 : W5.heap.size ≤ g6 := by omega
                      have hg62 : g6 ≤ W5.heap.size := by omega
                      have HKV := Lib.hid kv; have HX7 := Lib.hid hx6; have HOW6 := Lib.hid (own_ext' HOW.out hx6)
                      have HOWL : Hid (∀ b, (Value.slice Au j cu).ownBlock = some b → W4.heap.size ≤ b ∧ b < g6) := Lib.hid (fun b hb => by have := HOW.out.lt b hb; omega)
                      clear kv hx6 hg6 z5 e1 e2 q0 q1 q2
                      go_wp2_with fail
                      go_loopw [15] (fun t wr => ∃ (p : Nat) (a : Vl), p ≤ n1 ∧ t = .int .i64 (p : Int) ∧ Hid (a = pickV ((s.vars.zip s.cols).take p) xr yv ⟨ck, ci, cst⟩) ∧ Bk wr g6 83 [.int .i64 a.kind, .int .i64 a.int, .string a.str] ∧ Fr (fun b => b = g6) w6 wr) (fun t _ => n1 - (intOf t).toNat)
                      case atStart => exact ⟨0, ⟨ck, ci, cst⟩, Nat.zero_le _, rfl, Lib.hid rfl, HKV.out, Fr.refl _ _⟩
                      case round =>
                        obtain ⟨p, a, hp, rfl, HA, hka, hfr⟩ := hrel
                        obtain ⟨ak, ai, ast⟩ := a
                        simp only at hka
                        obtain ⟨W6, rfl⟩ : ∃ W : World, W = wr := ⟨_, rfl⟩
                        have HKA := Lib.hid hka; have HFR := Lib.hid hfr
                        have hx8 : Ext W5 W6 := hfr.new HX7.out (fun b hb => by omega)
                        have hxw6 := HXW5.out.trans hx8
                        have HXE := Lib.hid (HX6.out.trans hx8)
                        have z1 := (HKS.out.ext hxw6).cell (i := 1) (by simp); have z2 := (HKS.out.ext hxw6).cell (i := 2) (by simp); have z5 := (HKS.out.ext hxw6).cell (i := 5) (by simp)
                        simp only [List.getElem_cons_zero, List.getElem_cons_succ] at z1 z2 z5
                        have hsz7 : w6.heap.size ≤ W6.heap.size := hfr.size
                        by_cases hpl : p < n1
                        · have p1 : (0 : Int) ≤ (p : Int) := by omega
                          have p2 : (p : Int) < (n1 : Int) := by omega
                          have hpv : p < s.vars.length := by have := H1.out; omega
                          have hpc : p < s.cols.length := by have := H1.out; have := HVC.out; omega
                          obtain ⟨A9, c9, e9, -, hcl⟩ := HG1.out
                          injection e9 with e9 e9b e9c
                          subst e9
                          clear e9b e9c
                          obtain ⟨av, rfl, -, v0⟩ := hcl.int hpv
                          obtain ⟨A9, c9, e9, -, hcl2⟩ := HG2.out
                          injection e9 with e9 e9b e9c
                          subst e9
                          clear e9b e9c
                          obtain ⟨aw, rfl, -, u0⟩ := hcl2.int hpc
                          have hrg := HXC2.out _ (List.getElem_mem hpc)
                          have hpt := pick_take (ps := s.vars.zip s.cols) (x := xr) (v := yv) (c := ⟨ck, ci, cst⟩) (l := p) (by rw [List.length_zip]; omega)
                          rw [List.getElem_zip] at hpt
                          simp only at hpt
                          rw [← HA.out] at hpt
                          obtain ⟨sv, hsv⟩ : ∃ z, z = s.vars[p] := ⟨_, rfl⟩
                          obtain ⟨sc, hsc⟩ : ∃ z, z = s.cols[p] := ⟨_, rfl⟩
                          rw [← hsv] at v0 hpt
                          rw [← hsc] at u0 hpt hrg
                          obtain ⟨cn, ar, rfl, hcn, rfl, f0, f1, f2⟩ := HS.out.vlI hrg.1 (by have := HLX.out; omega)
                          obtain ⟨y, hy⟩ : ∃ y, y = xr.getD (cn : Int).toNat zv := ⟨_, rfl⟩
                          rw [← hy] at f0 f1 f2 hpt
                          obtain ⟨yk, yi, yst⟩ := y
                          simp only at f0 f1 f2
                          have HPT := Lib.hid hpt
                          have hex := HX1.out.trans hxw6
                          replace v0 := hex.cell v0; replace u0 := hex.cell u0; replace f0 := hex.cell f0; replace f1 := hex.cell f1; replace f2 := hex.cell f2
                          have e1 := hxw6.cell HE1.out
                          have n0 := hex.cell HN0.out
                          have hc1 : (0 : Int) ≤ (cn : Int) := by omega
                          have hc2 : (cn : Int) < (lx : Int) := by have := HLX.out; omega
                          clear hcl hcl2 hrg hpt hsv hsc hy hex hx8 hxw6 hka hfr hcn
                          go_upto_region 26 with fail
                          by_cases heq : sv = yv
                          · have hbv : ((sv : Int) == yv) = true := by simpa using heq
                            have HA2 : Hid ((⟨yk, yi, yst⟩ : Vl) = pickV ((s.vars.zip s.cols).take (p + 1)) xr yv ⟨ck, ci, cst⟩) := Lib.hid (by rw [HPT.out, if_pos heq])
                            clear heq
                            go_quiet (fail)
                            have hdq := (Ext.refl W6).drewN nq
                            have HKA2 := Lib.hid (HKA.out.ext hdq); have HFR2 := Lib.hid (HFR.out.ext hdq)
                            replace z2 := hdq.cell z2; replace u0 := hdq.cell u0; replace f0 := hdq.cell f0; replace f1 := hdq.cell f1; replace f2 := hdq.cell f2
                            generalize (W6.drewN nq) = w7 at *
                            have b0' := HKA2.out.cell (i := 0) (by simp); have b1' := HKA2.out.cell (i := 1) (by simp); have b2' := HKA2.out.cell (i := 2) (by simp)
                            simp only [List.getElem_cons_zero, List.getElem_cons_succ] at b0' b1' b2'
                            have fr0 := HKA2.out.free 0; have fr1 := HKA2.out.free 1; have fr2 := HKA2.out.free 2
                            have kz : Bk (((w7.setCell ⟨g6, 0, none⟩ (.int .i64 yk)).setCell ⟨g6, 1, none⟩ (.int .i64 yi)).setCell ⟨g6, 2, none⟩ (.string yst)) g6 83 [.int .i64 yk, .int .i64 yi, .string yst] := ((HKA2.out.set 0 _).set 1 _).set 2 _
                            have hfz : Fr (fun b => b = g6) w6 (((w7.setCell ⟨g6, 0, none⟩ (.int .i64 yk)).setCell ⟨g6, 1, none⟩ (.int .i64 yi)).setCell ⟨g6, 2, none⟩ (.string yst)) := ((HFR2.out.setCell (p := ⟨g6, 0, none⟩) (.inl rfl) _).setCell (p := ⟨g6, 1, none⟩) (.inl rfl) _).setCell (p := ⟨g6, 2, none⟩) (.inl rfl) _
                            have HKZ := Lib.hid kz; have HFZ := Lib.hid hfz
                            clear kz hfz hdq z1 z5 e1 n0 v0 hbv
                            go_wp2_with fail
                            go_roundw
                            case rel => exact ⟨p + 1, ⟨yk, yi, yst⟩, by omega, by go_num, HA2, HKZ.out, HFZ.out⟩
                            case measure => simp [intOf]; omega
                          · have hbv : ((sv : Int) == yv) = false := by simpa using heq
                            have HA2 : Hid ((⟨ak, ai, ast⟩ : Vl) = pickV ((s.vars.zip s.cols).take (p + 1)) xr yv ⟨ck, ci, cst⟩) := Lib.hid (by rw [HPT.out, if_neg heq])
                            clear heq
                            go_quiet (fail)
                            have hdq := (Ext.refl W6).drewN nq
                            have HKA2 := Lib.hid (HKA.out.ext hdq); have HFR2 := Lib.hid (HFR.out.ext hdq)
                            generalize (W6.drewN nq) = w7 at *
                            clear hdq z1 z2 z5 e1 n0 v0 u0 f0 f1 f2 hbv
                            go_wp2_with fail
                            go_roundw
                            case rel => exact ⟨p + 1, ⟨ak, ai, ast⟩, by omega, by go_num, HA2, HKA2.out, HFR2.out⟩
                            case measure => simp [intOf]; omega
                        · obtain rfl : p = n1 := by omega
                          have hdp : ¬ (p : Int) < (p : Int) := by omega
                          have et : (s.vars.zip s.cols).take p = s.vars.zip s.cols := List.take_of_length_le (by rw [List.length_zip]; have := H1.out; omega)
                          have ha := HA.out
                          rw [et] at ha
                          have HTK3 : Hid (vcells (nr.take (j + 1)) = vcells (nr.take j) ++ [.int .i64 ak, .int .i64 ai, .string ast]) := Lib.hid (by rw [HTK2.out, ← ha, vcells_app1])
                          have HOW7 := Lib.hid (own_fr HOW6.out hfr (fun b hb => by have := (HOWL.out b hb).2; omega))
                          have HOWB : Hid (∀ b, (Value.slice Au j cu).ownBlock = some b → W4.heap.size ≤ b) := Lib.hid (fun b hb => (HOWL.out b hb).1)
                          have b0' := hka.cell (i := 0) (by simp); have b1' := hka.cell (i := 1) (by simp); have b2' := hka.cell (i := 2) (by simp)
                          simp only [List.getElem_cons_zero, List.getElem_cons_succ] at b0' b1' b2'
                          clear et ha hka hfr hx8 hxw6 z2 z5
                          go_wp2_with (first
                            | (at_builtin; refine wpList_append_at rfl _ _ 81 rfl W4.heap.size 83 i0 (.agg #[.int .i64 0, .int .i64 0, .string ⟨#[]⟩]) 3 32 Tryz.underlying81 HV0.out.1 HV0.out.2.1 HV0.out.2.2.1 HV0.out.2.2.2 rfl (by omega) (.slice Au j cu) j (vcells (nr.take j)) rfl (HOW7.out.alloc _) ⟨W6.heap.size, 0, none⟩ 1 1 [.int .i64 ak, .int .i64 ai, .string ast] rfl rfl (laid_news W6 _ _) (by simp [Value.oneCell']) (by simp only [maxLen]; omega) (by omega) (by simp; omega) ?_; intro v8 w8 hr8 hg8 hl8; obtain ⟨A8, c8, e8⟩ := own_slice hr8; subst e8; have HR8 := Lib.hid hr8; have HX8 := Lib.hid ((HXE.out.trans ((Ext.refl W6).alloc (.cells #[.int .i64 ak, .int .i64 ai, .string ast] 83))).grown hg8 (fun b hb => HOWB.out b hb)); clear hr8 hg8 hl8))
                          go_roundw
                          case rel => exact ⟨j + 1, by omega, by go_num, by rw [HTK3.out]; exact HR8.out, HX8.out⟩
                          case measure => simp [intOf]; omega
                    · obtain rfl : j = m1 := by omega
                      have hdj : ¬ (j : Int) < (j : Int) := by omega
                      have et : nr.take j = nr := List.take_of_length_le (by have := HNL.out; omega)
                      rw [et] at how
                      have hU := (Rw.of_flat (cells := Vl.cells) (sz := 3) (hl := fun _ => rfl) how).sl (by decide)
                      have HHS := Lib.hid (HHAS.out W5 (HX1.out.trans hxw5) _ _ _ hU)
                      have e0 := hxw5.cell HE0.out
                      clear et hU how hx5 hxw5
                      go_wp2_with fail
                      refine HHS.out.mono ?_
                      rintro e9 w9 ⟨yv, rfl, he9, rfl⟩
                      have HX9 := Lib.hid (HX5.out.trans (HX6.out.trans he9))
                      clear he9 z5 e0
                      go_wp2_with fail
                      go_roundw
                      case rel => exact ⟨k2 + 1, !q, by omega, by go_num, rfl, HQB, HX9.out⟩
                      case measure => simp [intOf]; omega
                · obtain rfl : k2 = n5 := by omega
                  have hdk : decide ((k2 : Int) < (k2 : Int)) = false := by simp
                  have HB3 : Hid (true = (b2 && s.nots.all (derN f s xr))) := Lib.hid (by
                    have h := HB.out
                    rwa [List.take_of_length_le (by have := H5.out; omega)] at h)
                  clear hx2 hxw2
                  go_wp2_with fail
                  go_meet
                  exact ⟨true, rfl, HB3, HX5.out⟩
          case rest =>
            obtain ⟨b3, rfl, HB3, hx5⟩ := hcut
            obtain ⟨w5, rfl⟩ : ∃ W : World, W = wc := ⟨_, rfl⟩
            have HX5 := Lib.hid (HX4.out.trans hx5); have HRW5 := Lib.hid (HRW4.out.ext hx5)
            have HTK3 : Hid (deriveL f s (f.take (i + 1)) = if b3 = true then addR l (projR s.cols xr) else l) := Lib.hid (by rw [HTK.out, HB3.out, HB2.out, HB1.out])
            have HBT : Hid (b3 = true → b0 = true) := Lib.hid (fun e => by
              have h3 := HB3.out
              rw [HB2.out, HB1.out, e] at h3
              simp only [Bool.true_eq, Bool.and_eq_true] at h3
              exact h3.1.1.1)
            clear hx5 HRW HRW2 HRW3 HRW4 HTK HB1 HB2 HB3
            rcases b3 with _ | _
            · have HE2 : Hid (l = deriveL f s (f.take (i + 1))) := Lib.hid (by rw [HTK3.out]; rfl)
              go_wp2_with fail
              go_roundw
              case rel => exact ⟨i + 1, k, l, css, by omega, by go_num, HRW5.out, HE2, by omega, HX5.out⟩
              case measure => simp [intOf]; omega
            · have HXC2 := Lib.hid (HXC.out (HBT.out rfl))
              go_upto_region 32 with fail
              have hro := World.ownsRow_made (base := w5.heap.size) (e := 83) (size := 3) w5 #[] 0 (Nat.le_refl _) (Nat.zero_le _) rfl
              have hx6 : Ext w5 (w5.alloc (.cells #[] 83)) := (Ext.refl w5).alloc _
              generalize (w5.alloc (.cells #[] 83)) = w6 at *
              have HRO := Lib.hid hro; have HX6 := Lib.hid hx6
              obtain ⟨pr, hpr⟩ : ∃ r, r = projR s.cols xr := ⟨_, rfl⟩
              have HPR := Lib.hid hpr
              have HPL : Hid (pr.length = n1) := Lib.hid (by rw [hpr, H1.out, HVC.out]; simp [projR])
              clear hro hx6 hpr
              go_wp2_with fail
              go_loopw [16, 17] (fun u t wr => ∃ j : Nat, j ≤ n1 ∧ t = .int .i64 (j : Int) ∧ wr.ownsRow w5.heap.size 83 3 u j (vcells (pr.take j)) ∧ Ext w5 wr) (fun _ t _ => n1 - (intOf t).toNat)
              case atStart => exact ⟨0, Nat.zero_le _, rfl, HRO.out, HX6.out⟩
              case round =>
                obtain ⟨j, hj, rfl, how, hx7⟩ := hrel
                obtain ⟨Au, cu, rfl⟩ := own_slice how
                obtain ⟨W6, rfl⟩ : ∃ W : World, W = wr := ⟨_, rfl⟩
                have hxw6 := HX5.out.trans hx7
                have HOW := Lib.hid how; have HXE := Lib.hid hx7; have HXW6 := Lib.hid hxw6
                have z2 := (HKS.out.ext hxw6).cell (i := 2) (by simp)
                simp only [List.getElem_cons_zero, List.getElem_cons_succ] at z2
                have hsz6 : w5.heap.size ≤ W6.heap.size := hx7.size
                by_cases hjl : j < n1
                · have j1 : (0 : Int) ≤ (j : Int) := by omega
                  have j2 : (j : Int) < (n1 : Int) := by omega
                  have hpc : j < s.cols.length := by have := H1.out; have := HVC.out; omega
                  obtain ⟨A9, c9, e9, -, hcl2⟩ := HG2.out
                  injection e9 with e9 e9b e9c
                  subst e9
                  clear e9b e9c
                  obtain ⟨aw, rfl, -, u0⟩ := hcl2.int hpc
                  have hrg := HXC2.out _ (List.getElem_mem hpc)
                  have htk : pr.take (j + 1) = pr.take j ++ [xr.getD s.cols[j].toNat zv] := by
                    rw [List.take_succ_eq_append_getElem (by have := HPL.out; omega)]
                    congr 2
                    have := HPR.out
                    subst this
                    unfold projR
                    rw [List.getElem_map]
                  obtain ⟨sc, hsc⟩ : ∃ z, z = s.cols[j] := ⟨_, rfl⟩
                  rw [← hsc] at u0 hrg htk
                  obtain ⟨cn, ar, rfl, hcn, rfl, f0, f1, f2⟩ := HS.out.vlI hrg.1 (by have := HLX.out; omega)
                  obtain ⟨y, hy⟩ : ∃ y, y = xr.getD (cn : Int).toNat zv := ⟨_, rfl⟩
                  rw [← hy] at f0 f1 f2 htk
                  obtain ⟨yk, yi, yst⟩ := y
                  simp only at f0 f1 f2
                  have HTK4 : Hid (vcells (pr.take (j + 1)) = vcells (pr.take j) ++ [.int .i64 yk, .int .i64 yi, .string yst]) := Lib.hid (by rw [htk, vcells_app1])
                  have hex := HX1.out.trans hxw6
                  replace u0 := hex.cell u0; replace f0 := hex.cell f0; replace f1 := hex.cell f1; replace f2 := hex.cell f2
                  have hc1 : (0 : Int) ≤ (cn : Int) := by omega
                  have hc2 : (cn : Int) < (lx : Int) := by have := HLX.out; omega
                  have HOWB : Hid (∀ b, (Value.slice Au j cu).ownBlock = some b → w5.heap.size ≤ b) := Lib.hid (fun b hb => own_ge HOW.out hb)
                  clear hcl2 hrg htk hsc hy hex hx7 hxw6 how hcn
                  go_wp2_with (first
                    | (at_builtin; refine wpList_append_at rfl _ _ 81 rfl w5.heap.size 83 i0 (.agg #[.int .i64 0, .int .i64 0, .string ⟨#[]⟩]) 3 32 Tryz.underlying81 HV0.out.1 HV0.out.2.1 HV0.out.2.2.1 HV0.out.2.2.2 rfl (by omega) (.slice Au j cu) j (vcells (pr.take j)) rfl (HOW.out.alloc _) ⟨W6.heap.size, 0, none⟩ 1 1 [.int .i64 yk, .int .i64 yi, .string yst] rfl rfl (laid_news W6 _ _) (by simp [Value.oneCell']) (by simp only [maxLen]; omega) (by omega) (by simp; omega) ?_; intro v8 w8 hr8 hg8 hl8; obtain ⟨A8, c8, e8⟩ := own_slice hr8; subst e8; have HR8 := Lib.hid hr8; have HX8 := Lib.hid ((HXE.out.trans ((Ext.refl W6).alloc (.cells #[.int .i64 yk, .int .i64 yi, .string yst] 83))).grown hg8 (fun b hb => HOWB.out b hb)); clear hr8 hg8 hl8))
                  go_roundw
                  case rel => exact ⟨j + 1, by omega, by go_num, by rw [HTK4.out]; exact HR8.out, HX8.out⟩
                  case measure => simp [intOf]; omega
                · obtain rfl : j = n1 := by omega
                  have hdj : ¬ (j : Int) < (j : Int) := by omega
                  have et : pr.take j = pr := List.take_of_length_le (by have := HPL.out; omega)
                  rw [et] at how
                  have HRW6 := Lib.hid (HRW5.out.ext hx7)
                  have hU := (Rw.of_flat (cells := Vl.cells) (sz := 3) (hl := fun _ => rfl) how).sl (by decide)
                  have hLL : ∀ x ∈ l, x.length ≤ 1048576 := fun x hx => by
                    rw [HE.out] at hx
                    rw [deriveL_len x hx]
                    have := H1.out; have := HVC.out
                    omega
                  have HIN := Lib.hid (in22 (HRW6.out.sl (by decide)) hU (by omega) (by omega) hLL)
                  have HU := Lib.hid hU
                  have HOO : Hid (∀ b, (Value.slice Ao k co).ownBlock = some b → w1.heap.size ≤ b ∧ b < w5.heap.size) := Lib.hid (fun b hb => HRW5.out.own.lt b hb)
                  have hsz15 : w1.heap.size ≤ w5.heap.size := HX5.out.size
                  have HUU : Hid (Sl rdVl (fun q => w1.heap.size ≤ q ∧ (Value.slice Ao k co).ownBlock ≠ some q) W6 (.slice Au j cu) pr) := Lib.hid (hU.mono (by decide) (fun q _ hq => ⟨by have h2 : w5.heap.size ≤ q := hq; omega, fun e => by have h1 := (HOO.out q e).2; have h2 : w5.heap.size ≤ q := hq; omega⟩))
                  rcases hrb : decide (pr ∈ l) with _ | _
                  · have HE2 : Hid (l ++ [pr] = deriveL f s (f.take (i + 1))) := Lib.hid (by
                      have h := HTK3.out
                      simp only [↓reduceIte] at h
                      rw [h, ← HPR.out]
                      unfold addR
                      rw [if_neg (of_decide_eq_false hrb)])
                    rw [hrb] at HIN
                    clear et hU how hx7 hxw6 hrb hLL
                    go_wp2_with fail
                    refine HIN.out.mono ?_
                    rintro e9 w9 ⟨yv, rfl, he9, rfl⟩
                    have HX9 := Lib.hid (HX5.out.trans (HXE.out.trans he9)); have HRW9 := Lib.hid (HRW6.out.ext he9); have HU9 := Lib.hid (HUU.out.ext he9)
                    have hsz9 : W6.heap.size ≤ w9.heap.size := he9.size
                    clear he9
                    go_wp2_with (first
                      | (at_builtin; refine wpList_append_at rfl _ _ 52 rfl w1.heap.size 81 j0 (.slice none 0 0) 1 24 Tryz.underlying52 HR0.out.1 HR0.out.2.1 HR0.out.2.2.1 HR0.out.2.2.2 rfl (by omega) (.slice Ao k co) k css.flatten rfl (HRW9.out.own.alloc _) ⟨w9.heap.size, 0, none⟩ 1 1 [.slice Au j cu] rfl rfl (laid_news w9 _ _) (by simp [Value.oneCell']) (by simp only [maxLen]; omega) (by omega) (by simp; omega) ?_; intro v8 w8 hr8 hg8 hl8; obtain ⟨A8, c8, e8⟩ := own_slice hr8; subst e8; have hxa := (Ext.refl w9).alloc (.cells #[.slice Au j cu] 81); have HRW8 := Lib.hid (Rw.more (x := pr) HRW9.out hxa ⟨_, rfl, HU9.out.ext hxa⟩ hr8 hg8 hl8); have HX8 := Lib.hid ((HX9.out.trans hxa).grown hg8 (fun b hb => (HOO.out b hb).1)); clear hxa hr8 hg8 hl8))
                    go_roundw
                    case rel => exact ⟨i + 1, k + 1, _, _, by omega, by go_num, HRW8.out, HE2, by omega, HX8.out⟩
                    case measure => simp [intOf]; omega
                  · have HE2 : Hid (l = deriveL f s (f.take (i + 1))) := Lib.hid (by
                      have h := HTK3.out
                      simp only [↓reduceIte] at h
                      rw [h, ← HPR.out]
                      unfold addR
                      rw [if_pos (of_decide_eq_true hrb)])
                    rw [hrb] at HIN
                    clear et hU how hx7 hxw6 hrb hLL
                    go_wp2_with fail
                    refine HIN.out.mono ?_
                    rintro e9 w9 ⟨yv, rfl, he9, rfl⟩
                    have HX9 := Lib.hid (HX5.out.trans (HXE.out.trans he9)); have HRW9 := Lib.hid (HRW6.out.ext he9)
                    clear he9
                    go_wp2_with fail
                    go_roundw
                    case rel => exact ⟨i + 1, k, l, css, by omega, by go_num, HRW9.out, HE2, by omega, HX9.out⟩
                    case measure => simp [intOf]; omega
    · obtain rfl : i = n := by omega
      have hdi : ¬ (i : Int) < (i : Int) := by omega
      have HQ : Hid (Sl rdRow (fun k => w.heap.size ≤ k) W (.slice Ao k co) (deriveL f s f)) := Lib.hid (by
        have h := (hrw.sl (by decide)).mono (G := fun k => w.heap.size ≤ k) (by decide) (fun q _ hq => by omega)
        rw [HE.out, List.take_of_length_le (by have := HNF.out; omega)] at h
        exact h)
      clear hrw hx
      go_wp2_with fail
      go_ret
      exact Ret.mk (HX1.out.trans HX.out) HQ.out
end Go.Proofs.YtmmmdinncmbjkaaGreat
