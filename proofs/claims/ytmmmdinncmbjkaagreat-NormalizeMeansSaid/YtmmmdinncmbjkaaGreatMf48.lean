/- Contract: the reference's Satisfies. -/
import Derived.Test.YtmmmdinncmbjkaaGreatMf45
namespace Go.Proofs.YtmmmdinncmbjkaaGreat
open Go.RowKit Go.Maps
theorem idxL_in {names : List ByteArray} {s : ByteArray} (h : s ∈ names) : idxL names s = (posN names s : Int) := if_pos h
theorem rowOf_take {names : List ByteArray} {a : List Vl} {ts : List Tm} {k : Nat} (hk : k < ts.length) : (rowOf names a ts).take (k + 1) = (rowOf names a ts).take k ++ [if ts[k].var = ⟨#[]⟩ then ts[k].vl else a.getD (posN names ts[k].var) zv] := by
  rw [List.take_succ_eq_append_getElem (by simp [rowOf, hk])]
  unfold rowOf
  rw [List.getElem_map]
set_option maxRecDepth 20000 in
set_option maxHeartbeats 3200000 in
theorem sat22 {F G H K L : Nat → Prop} {w : World} {An A C Fa R : Option Addr} {nn cn n c nc cc nf cf nr rc : Nat} {names : List ByteArray} {r : Rl} {f : List Fc} {a : List Vl} (hN : Strs F w (.slice An nn cn) names) (hA : Ats G w (.slice A n c) r.ats) (hC : Sl rdCd H w (.slice C nc cc) r.cds) (hf : Sl rdFc K w (.slice Fa nf cf) f) (ha : Sl rdVl L w (.slice R nr rc) a) (hnn : nn ≤ 1000) (hn : n ≤ 1000) (hnc : nc ≤ 1000) (hnf : nf ≤ 1048576) (hl : ∀ b ∈ r.ats, b.terms.length ≤ 1000) (hrow : ∀ x ∈ f, x.row.length ≤ 1048576) (hal : names.length ≤ a.length) (hnr : nr ≤ 1048576) (hcov : ∀ b ∈ r.ats, ∀ t ∈ b.terms, t.var ≠ ⟨#[]⟩ → t.var ∈ names) (hcv : ∀ d ∈ r.cds, d.var ∈ names) (hops : ∀ d ∈ r.cds, 0 ≤ d.op ∧ d.op ≤ 5) :
    Calls Tryz.prog 20 #[.slice An nn cn, .agg #[.slice A n c, .slice C nc cc], .slice Fa nf cf, .slice R nr rc] w (Ret (fun x _ => x = .bool (satB names r f a)) w) := by
  have hnx : n = r.ats.length := by
    obtain ⟨A', c', e⟩ := hA.sl
    injection e
  have hcx := hC.cap.1; have hax := ha.cap.1
  obtain ⟨i0, hi0, hz0, hz1, hz2⟩ := info_parts info_val
  have HV0 := Lib.hid (And.intro hi0 (And.intro hz0 (And.intro hz1 hz2))); clear hi0 hz0 hz1 hz2
  have HIX := Lib.hid (fun (s : ByteArray) (hs : s ∈ names) (V : World) (hV : Ext w V) => by
    have t := index_ref (s := s) (hN.ext hV) (by omega)
    rw [idxL_in hs] at t
    exact t)
  have HHAS := Lib.hid (fun (rl : ByteArray) (x : List Vl) (m : Nat) (hm : m ≤ 1048576) (V : World) (hV : Ext w V) (H9 : Nat → Prop) (U : Option Addr) (cu : Nat) (hU : Sl rdVl H9 V (.slice U m cu) x) => has22 (rl := rl) (hf.ext hV) hU hnf hm hrow)
  have HPOS : Hid (∀ s ∈ names, posN names s < a.length) := Lib.hid (fun s hs => by have := pos_lt hs; omega)
  have HA := Lib.hid hA.at2; have HC := Lib.hid hC; have HR := Lib.hid ha; have HL := Lib.hid hl; have HCOV := Lib.hid hcov; have HCV := Lib.hid hcv; have HOPS := Lib.hid hops; have HNX := Lib.hid hnx; have HCX := Lib.hid hcx; have HAX := Lib.hid hax
  clear hN hA hC hf ha hl hrow hal hcov hcv hops hnx hcx hax
  go_enter Tryz.func20, Tryz.ntmps20
  go_upto_region 1 with fail
  have kb := Bk.new w 73 [.slice A n c, .slice C nc cc]
  change Bk (w.alloc (.cells #[.slice A n c, .slice C nc cc] 73)) _ _ _ at kb
  have hx1 : Ext w (w.alloc (.cells #[.slice A n c, .slice C nc cc] 73)) := (Ext.refl w).alloc _
  generalize (w.alloc (.cells #[.slice A n c, .slice C nc cc] 73)) = w1 at *
  have HKB := Lib.hid kb; have HX1 := Lib.hid hx1
  clear kb hx1
  go_wp2_with fail
  go_loopw [9] (fun t wr => ∃ i : Nat, i ≤ n ∧ t = .int .i64 (i : Int) ∧ Hid ((r.ats.take i).all (atomB names f a) = true) ∧ Ext w1 wr) (fun t _ => n - (intOf t).toNat)
  case atStart => exact ⟨0, Nat.zero_le _, rfl, Lib.hid rfl, Ext.refl _⟩
  case round =>
    obtain ⟨i, hi, rfl, HALL, hx⟩ := hrel
    obtain ⟨W, rfl⟩ : ∃ W : World, W = wr := ⟨_, rfl⟩
    have HX := Lib.hid hx; have HXW := Lib.hid (HX1.out.trans hx)
    have q0 := (HKB.out.ext hx).cell (i := 0) (by simp)
    simp only [List.getElem_cons_zero] at q0
    by_cases hlt : i < n
    · have i1 : (0 : Int) ≤ (i : Int) := by omega
      have i2 : (i : Int) < (n : Int) := by omega
      have hia : i < r.ats.length := by have := HNX.out; omega
      obtain ⟨ad, B, d, rfl, -, e0, e1, e2, -, hcl⟩ := HA.out i hia
      have hm := List.getElem_mem hia
      have hlen := HL.out _ hm
      have hcov := HCOV.out _ hm
      have hat := all_take hia HALL.out
      have hno : (r.ats.take (i + 1)).all (atomB names f a) = false → satB names r f a = false := fun h => by
        unfold satB
        rw [← Bool.not_eq_true] at h
        rw [Bool.and_eq_false_iff]
        refine .inl (by rw [← Bool.not_eq_true]; exact fun h2 => h (List.all_eq_true.2 (fun s hs => List.all_eq_true.1 h2 s (List.mem_of_mem_take hs))))
      obtain ⟨b, hb⟩ : ∃ b, b = r.ats[i] := ⟨_, rfl⟩
      rw [← hb] at e0 e1 e2 hcl hlen hcov hat
      obtain ⟨ng, rl, ts⟩ := b
      simp only at e0 e1 e2 hcl hlen hcov
      unfold atomB at hat
      simp only at hat
      obtain ⟨x, hxx⟩ : ∃ x, x = rowOf names a ts := ⟨_, rfl⟩
      rw [← hxx] at hat
      have hxl : x.length = ts.length := by rw [hxx]; simp [rowOf]
      obtain ⟨nt, hnt⟩ : ∃ k, k = ts.length := ⟨_, rfl⟩
      rw [← hnt] at e2 hlen hxl
      have HHS := Lib.hid (HHAS.out rl x nt (by omega))
      obtain ⟨q, hq⟩ : ∃ q, q = hasFc f rl x := ⟨_, rfl⟩
      rw [← hq] at hat HHS
      have HAT := Lib.hid hat; have HNO := Lib.hid hno; have HCL := Lib.hid hcl; have HCOV2 := Lib.hid hcov; have HXX := Lib.hid hxx; have HXL := Lib.hid hxl; have HNT := Lib.hid hnt
      have HE0 := Lib.hid (HXW.out.cell e0); have HE1 := Lib.hid (HXW.out.cell e1); have HE2 := Lib.hid (HXW.out.cell e2)
      clear hb hat hno hcl hcov hxx hxl hnt hq hm e0 e1 e2 hx
      go_wp2_with fail
      clear q0
      go_loopw [10, 11] (fun u t wr => ∃ j : Nat, j ≤ nt ∧ t = .int .i64 (j : Int) ∧ wr.ownsRow W.heap.size 83 3 u j (vcells (x.take j)) ∧ Ext W wr) (fun _ t _ => nt - (intOf t).toNat)
      case atStart => exact ⟨0, Nat.zero_le _, rfl, World.ownsRow_nil _ _ _ _, Ext.refl _⟩
      case round =>
        obtain ⟨j, hj, rfl, how, hx7⟩ := hrel
        obtain ⟨Au, cu, rfl⟩ := own_slice how
        obtain ⟨W6, rfl⟩ : ∃ W : World, W = wr := ⟨_, rfl⟩
        have hxw6 := HX.out.trans hx7
        have HOW := Lib.hid how; have HXE := Lib.hid hx7; have HXW6 := Lib.hid hxw6
        have q0 := (HKB.out.ext hxw6).cell (i := 0) (by simp)
        simp only [List.getElem_cons_zero] at q0
        have e2 := hx7.cell HE2.out
        have hsz6 : W.heap.size ≤ W6.heap.size := hx7.size
        by_cases hjl : j < nt
        · have j1 : (0 : Int) ≤ (j : Int) := by omega
          have j2 : (j : Int) < (nt : Int) := by omega
          have hjt : j < ts.length := by have := HNT.out; omega
          obtain ⟨at', rfl, -, t0, t1, t2, t3⟩ := HCL.out.term hjt
          have hex := HX1.out.trans hxw6
          replace t0 := hex.cell t0; replace t1 := hex.cell t1; replace t2 := hex.cell t2; replace t3 := hex.cell t3
          have htk := rowOf_take (names := names) (a := a) hjt
          rw [← HXX.out] at htk
          have hcv := HCOV2.out _ (List.getElem_mem hjt)
          obtain ⟨tm, htm⟩ : ∃ t, t = ts[j] := ⟨_, rfl⟩
          rw [← htm] at t0 t1 t2 t3 htk hcv
          obtain ⟨tv, tk, ti, tst⟩ := tm
          simp only at t0 t1 t2 t3 htk hcv
          have HTK := Lib.hid htk; have HCV2 := Lib.hid hcv
          have HOWL : Hid (∀ b, (Value.slice Au j cu).ownBlock = some b → W.heap.size ≤ b) := Lib.hid (fun b hb => own_ge HOW.out hb)
          clear htk hcv htm hex hx7 hxw6 how
          go_upto_region 9 with fail
          have kv := Bk.new W6 136 [.string tv, .int .i64 tk, .int .i64 ti, .string tst]
          change Bk (W6.alloc (.cells #[.string tv, .int .i64 tk, .int .i64 ti, .string tst] 136)) _ _ _ at kv
          have hx8 : Ext W6 (W6.alloc (.cells #[.string tv, .int .i64 tk, .int .i64 ti, .string tst] 136)) := (Ext.refl W6).alloc _
          generalize (W6.alloc (.cells #[.string tv, .int .i64 tk, .int .i64 ti, .string tst] 136)) = W7 at *
          have b0 := kv.cell (i := 0) (by simp); have b1 := kv.cell (i := 1) (by simp); have b2 := kv.cell (i := 2) (by simp); have b3 := kv.cell (i := 3) (by simp)
          simp only [List.getElem_cons_zero, List.getElem_cons_succ] at b0 b1 b2 b3
          have HX8 := Lib.hid (HXE.out.trans hx8); have HOW8 := Lib.hid (own_ext' HOW.out hx8)
          have hsz7 : W.heap.size ≤ W7.heap.size := HX8.out.size
          clear kv hx8 t0 t1 t2 t3 q0 e2
          by_cases h0 : tv = ⟨#[]⟩
          · have hb := var_eq h0
            have HTK4 : Hid (vcells (x.take (j + 1)) = vcells (x.take j) ++ [.int .i64 tk, .int .i64 ti, .string tst]) := Lib.hid (by rw [HTK.out, if_pos h0]; exact vcells_app1 _ _)
            clear h0
            go_wp2_with (first
              | (at_builtin; refine wpList_append_at rfl _ _ 81 rfl W.heap.size 83 i0 (.agg #[.int .i64 0, .int .i64 0, .string ⟨#[]⟩]) 3 32 Tryz.underlying81 HV0.out.1 HV0.out.2.1 HV0.out.2.2.1 HV0.out.2.2.2 rfl (by omega) (.slice Au j cu) j (vcells (x.take j)) rfl (HOW8.out.alloc _) ⟨W7.heap.size, 0, none⟩ 1 1 [.int .i64 tk, .int .i64 ti, .string tst] rfl rfl (laid_news W7 _ _) (by simp [Value.oneCell']) (by simp only [maxLen]; omega) (by omega) (by simp; omega) ?_; intro v8 w8 hr8 hg8 hl8; obtain ⟨A8, c8, e8⟩ := own_slice hr8; subst e8; have HR8 := Lib.hid hr8; have HX9 := Lib.hid ((HX8.out.trans ((Ext.refl W7).alloc (.cells #[.int .i64 tk, .int .i64 ti, .string tst] 83))).grown hg8 (fun b hb => HOWL.out b hb)); clear hr8 hg8 hl8))
            go_roundw
            case rel => exact ⟨j + 1, by omega, by go_num, by rw [HTK4.out]; exact HR8.out, HX9.out⟩
            case measure => simp [intOf]; omega
          · have hb := var_ne h0
            have hmem := HCV2.out h0
            have hp := HPOS.out _ hmem
            have HTK3 : Hid (x.take (j + 1) = x.take j ++ [a.getD (posN names tv) zv]) := Lib.hid (by rw [HTK.out, if_neg h0])
            have HI := Lib.hid (HIX.out tv hmem W7 (HX1.out.trans (HX.out.trans HX8.out)))
            obtain ⟨p, hpp⟩ : ∃ p, p = posN names tv := ⟨_, rfl⟩
            rw [← hpp] at hp HTK3 HI
            obtain ⟨y, hy⟩ : ∃ y, y = a.getD p zv := ⟨_, rfl⟩
            obtain ⟨cn', adr, hcn, -, rfl, f0, f1, f2⟩ := HR.out.vlI (z := (p : Int)) (by omega) (by omega)
            obtain rfl : p = cn' := by omega
            rw [Int.toNat_natCast, ← hy] at f0 f1 f2
            rw [← hy] at HTK3
            obtain ⟨yk, yi, yst⟩ := y
            simp only at f0 f1 f2
            have HTK4 : Hid (vcells (x.take (j + 1)) = vcells (x.take j) ++ [.int .i64 yk, .int .i64 yi, .string yst]) := Lib.hid (by rw [HTK3.out, vcells_app1])
            have hc1 : (0 : Int) ≤ (p : Int) := by omega
            have hc2 : (p : Int) < (nr : Int) := by have := HAX.out; omega
            have hx9 := HX1.out.trans (HX.out.trans HX8.out)
            have HF0 := Lib.hid (hx9.cell f0); have HF1 := Lib.hid (hx9.cell f1); have HF2 := Lib.hid (hx9.cell f2)
            clear h0 hmem hp hpp hy hcn hx9 f0 f1 f2
            go_wp2_with fail
            refine HI.out.mono ?_
            rintro e W8 ⟨yv, rfl, he9, rfl⟩
            have HXA := Lib.hid (HX8.out.trans he9); have HOW9 := Lib.hid (own_ext' HOW8.out he9)
            have f0 := he9.cell HF0.out; have f1 := he9.cell HF1.out; have f2 := he9.cell HF2.out
            have hsz8 : W.heap.size ≤ W8.heap.size := HXA.out.size
            clear he9 b0 b1 b2 b3 hb
            go_wp2_with (first
              | (at_builtin; refine wpList_append_at rfl _ _ 81 rfl W.heap.size 83 i0 (.agg #[.int .i64 0, .int .i64 0, .string ⟨#[]⟩]) 3 32 Tryz.underlying81 HV0.out.1 HV0.out.2.1 HV0.out.2.2.1 HV0.out.2.2.2 rfl (by omega) (.slice Au j cu) j (vcells (x.take j)) rfl (HOW9.out.alloc _) ⟨W8.heap.size, 0, none⟩ 1 1 [.int .i64 yk, .int .i64 yi, .string yst] rfl rfl (laid_news W8 _ _) (by simp [Value.oneCell']) (by simp only [maxLen]; omega) (by omega) (by simp; omega) ?_; intro v8 w8 hr8 hg8 hl8; obtain ⟨A8, c8, e8⟩ := own_slice hr8; subst e8; have HR8 := Lib.hid hr8; have HX9 := Lib.hid ((HXA.out.trans ((Ext.refl W8).alloc (.cells #[.int .i64 yk, .int .i64 yi, .string yst] 83))).grown hg8 (fun b hb => HOWL.out b hb)); clear hr8 hg8 hl8))
            go_roundw
            case rel => exact ⟨j + 1, by omega, by go_num, by rw [HTK4.out]; exact HR8.out, HX9.out⟩
            case measure => simp [intOf]; omega
        · obtain rfl : j = nt := by omega
          have hdj : ¬ (j : Int) < (j : Int) := by omega
          have et : x.take j = x := List.take_of_length_le (by have := HXL.out; omega)
          rw [et] at how
          have hU := (Rw.of_flat (cells := Vl.cells) (sz := 3) (hl := fun _ => rfl) how).sl (by decide)
          have HCA := Lib.hid (fun (V : World) (hV : Ext W6 V) => HHS.out V (HX1.out.trans (hxw6.trans hV)) _ _ _ (hU.ext hV))
          have e0 := hx7.cell HE0.out; have e1 := hx7.cell HE1.out
          clear et hU how hx7 hxw6
          go_upto_region 12 with fail
          go_region_held3 (fun V => Ext W6 V ∧ V.cell? ⟨w.heap.size, 0, none⟩ = some (.slice (some ad) n c) ∧ V.cell? (ad.add (i * 3)) = some (.bool ng) ∧ V.cell? ⟨(ad.add (i * 3)).block, (ad.add (i * 3)).off + 1, none⟩ = some (.string rl))
            ((refine (fun he => ⟨he, Ext.cell he q0, Ext.cell he e0, Ext.cell he e1⟩) ?_; repeat (first | exact Ext.refl _ | exact (Ext.refl _).drew | refine Ext.drew ?_ | refine Ext.trans ?_ (by assumption))))
            (first
              | (go_at_call 43; (with_reducible refine (HCA.out _ (And.left (by assumption))).mono ?_); rintro e wi ⟨yv, rfl, hei, rfl⟩))
          have hfin : Ext W6 wi := And.left (b := _ ∧ _) (by assumption)
          obtain ⟨X, rfl⟩ : ∃ X : World, X = wi := ⟨_, rfl⟩
          have HX9 := Lib.hid (HXW6.out.trans hfin)
          clear hfin hei q0 e0 e1 e2
          rcases q with _ | _ <;> rcases ng with _ | _
          · have HB := Lib.hid (HNO.out (HAT.out.trans rfl))
            go_wp2_with fail
            go_ret
            exact Ret.mk (HX1.out.trans HX9.out) (by rw [HB.out]; rfl)
          · have HA2 := Lib.hid (HAT.out.trans rfl)
            go_wp2_with fail
            go_roundw
            case rel => exact ⟨i + 1, by omega, by go_num, HA2, HX9.out⟩
            case measure => simp [intOf]; omega
          · have HA2 := Lib.hid (HAT.out.trans rfl)
            go_wp2_with fail
            go_roundw
            case rel => exact ⟨i + 1, by omega, by go_num, HA2, HX9.out⟩
            case measure => simp [intOf]; omega
          · have HB := Lib.hid (HNO.out (HAT.out.trans rfl))
            go_wp2_with fail
            go_ret
            exact Ret.mk (HX1.out.trans HX9.out) (by rw [HB.out]; rfl)
    · obtain rfl : i = n := by omega
      have hdi : ¬ (i : Int) < (i : Int) := by omega
      have HA1 : Hid (r.ats.all (atomB names f a) = true) := Lib.hid (by
        have h := HALL.out
        rw [List.take_of_length_le (by have := HNX.out; omega)] at h
        exact h)
      clear hx
      go_wp2_with fail
      clear q0
      go_loopw [13] (fun t wr => ∃ k : Nat, k ≤ nc ∧ t = .int .i64 (k : Int) ∧ Hid ((r.cds.take k).all (holdC names a) = true) ∧ Ext W wr) (fun t _ => nc - (intOf t).toNat)
      case atStart => exact ⟨0, Nat.zero_le _, rfl, Lib.hid rfl, Ext.refl _⟩
      case round =>
        obtain ⟨k, hk, rfl, HALC, hxk⟩ := hrel
        obtain ⟨W2, rfl⟩ : ∃ W : World, W = wr := ⟨_, rfl⟩
        have HXK := Lib.hid hxk; have HX2 := Lib.hid (HX.out.trans hxk); have HXW2 := Lib.hid (HXW.out.trans hxk)
        have q1 := (HKB.out.ext (HX.out.trans hxk)).cell (i := 1) (by simp)
        simp only [List.getElem_cons_zero, List.getElem_cons_succ] at q1
        by_cases hkl : k < nc
        · have k1 : (0 : Int) ≤ (k : Int) := by omega
          have k2 : (k : Int) < (nc : Int) := by omega
          have hkc : k < r.cds.length := by have := HCX.out; omega
          obtain ⟨ac, rfl, -, e0, e1, e2, e3, e4⟩ := HC.out.cd hkc
          have hm := List.getElem_mem hkc
          have hmem := HCV.out _ hm; have hop := HOPS.out _ hm
          have hat := all_take hkc HALC.out
          have hno : (r.cds.take (k + 1)).all (holdC names a) = false → satB names r f a = false := fun h => by
            unfold satB
            rw [← Bool.not_eq_true] at h
            rw [Bool.and_eq_false_iff]
            refine .inr (by rw [← Bool.not_eq_true]; exact fun h2 => h (List.all_eq_true.2 (fun s hs => List.all_eq_true.1 h2 s (List.mem_of_mem_take hs))))
          obtain ⟨cd, hcd⟩ : ∃ b, b = r.cds[k] := ⟨_, rfl⟩
          rw [← hcd] at e0 e1 e2 e3 e4 hmem hop hat
          obtain ⟨cv, op, kd, it, st⟩ := cd
          simp only at e0 e1 e2 e3 e4 hmem hop
          unfold holdC at hat
          simp only at hat
          have hp := HPOS.out _ hmem
          have HI := Lib.hid (HIX.out cv hmem)
          obtain ⟨p, hpp⟩ : ∃ p, p = posN names cv := ⟨_, rfl⟩
          rw [← hpp] at hp HI hat
          obtain ⟨y, hy⟩ : ∃ y, y = a.getD p zv := ⟨_, rfl⟩
          obtain ⟨cn', adr, hcn, -, rfl, f0, f1, f2⟩ := HR.out.vlI (z := (p : Int)) (by omega) (by omega)
          obtain rfl : p = cn' := by omega
          rw [Int.toNat_natCast, ← hy] at f0 f1 f2
          rw [← hy] at hat
          have HH := Lib.hid (fun V => holds22 y ⟨kd, it, st⟩ op hop.1 hop.2 V)
          obtain ⟨q, hq⟩ : ∃ q, q = holdI op (cmpV y ⟨kd, it, st⟩) := ⟨_, rfl⟩
          rw [← hq] at HH hat
          obtain ⟨yk, yi, yst⟩ := y
          simp only [vagg] at HH f0 f1 f2
          have HAT := Lib.hid hat; have HNO := Lib.hid hno
          have hex := HXW2.out
          replace e0 := hex.cell e0; replace e1 := hex.cell e1; replace e2 := hex.cell e2; replace e3 := hex.cell e3; replace e4 := hex.cell e4; replace f0 := hex.cell f0; replace f1 := hex.cell f1; replace f2 := hex.cell f2
          have HI2 := Lib.hid (fun (V : World) (hV : Ext W2 V) => HI.out V (HXW2.out.trans hV))
          have hc1 : (0 : Int) ≤ (p : Int) := by omega
          have hc2 : (p : Int) < (nr : Int) := by have := HAX.out; omega
          clear hm hmem hop hat hno hcd hp hpp hy hcn hq hex hxk HI
          go_upto_region 17 with fail
          go_region_held3 (fun V => Ext W2 V ∧ V.cell? ⟨w.heap.size, 1, none⟩ = some (.slice (some ac) nc cc) ∧ V.cell? (ac.add (k * 5)) = some (.string cv) ∧ V.cell? ⟨(ac.add (k * 5)).block, (ac.add (k * 5)).off + 1, none⟩ = some (.int .i64 op) ∧ V.cell? ⟨(ac.add (k * 5)).block, (ac.add (k * 5)).off + 2, none⟩ = some (.int .i64 kd) ∧ V.cell? ⟨(ac.add (k * 5)).block, (ac.add (k * 5)).off + 3, none⟩ = some (.int .i64 it) ∧ V.cell? ⟨(ac.add (k * 5)).block, (ac.add (k * 5)).off + 4, none⟩ = some (.string st) ∧ V.cell? (adr.add (p * 3)) = some (.int .i64 yk) ∧ V.cell? ⟨(adr.add (p * 3)).block, (adr.add (p * 3)).off + 1, none⟩ = some (.int .i64 yi) ∧ V.cell? ⟨(adr.add (p * 3)).block, (adr.add (p * 3)).off + 2, none⟩ = some (.string yst))
            ((refine (fun he => ⟨he, Ext.cell he q1, Ext.cell he e0, Ext.cell he e1, Ext.cell he e2, Ext.cell he e3, Ext.cell he e4, Ext.cell he f0, Ext.cell he f1, Ext.cell he f2⟩) ?_; repeat (first | exact Ext.refl _ | exact (Ext.refl _).drew | refine Ext.drew ?_ | refine Ext.trans ?_ (by assumption))))
            (first
              | (go_at_call 21; (with_reducible refine (HI2.out _ (And.left (by assumption))).mono ?_); rintro e wa ⟨yv, rfl, hea, rfl⟩)
              | (go_at_call 23; (with_reducible refine (HH.out _).mono ?_); rintro e wb ⟨yw, rfl, heb, rfl⟩))
          have hfin : Ext W2 wb := And.left (b := _ ∧ _) (by assumption)
          obtain ⟨X, rfl⟩ : ∃ X : World, X = wb := ⟨_, rfl⟩
          have HX3 := Lib.hid (HXK.out.trans hfin)
          clear hfin hea heb q1 e0 e1 e2 e3 e4 f0 f1 f2
          rcases q with _ | _
          · have HB := Lib.hid (HNO.out HAT.out)
            go_wp2_with fail
            go_ret
            exact Ret.mk (HXW.out.trans HX3.out) (by rw [HB.out]; rfl)
          · go_wp2_with fail
            go_roundw
            case rel => exact ⟨k + 1, by omega, by go_num, HAT, HX3.out⟩
            case measure => simp [intOf]; omega
        · obtain rfl : k = nc := by omega
          have hdk : ¬ (k : Int) < (k : Int) := by omega
          have HB : Hid (satB names r f a = true) := Lib.hid (by
            have h := HALC.out
            rw [List.take_of_length_le (by have := HCX.out; omega)] at h
            unfold satB
            rw [HA1.out, h]
            rfl)
          clear hxk
          go_wp2_with fail
          go_ret
          exact Ret.mk HXW2.out (by rw [HB.out]; rfl)
end Go.Proofs.YtmmmdinncmbjkaaGreat
