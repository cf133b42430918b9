/- Contracts: ast.positive, check.variables. Contracts: slices.Contains at names, ast.checkHead, ast.checkAggregate. -/
import Derived.Test.YtmmmdinncmbjkaaGreatMf05
namespace Go.Proofs.YtmmmdinncmbjkaaGreat
open Go.RowKit Go.Maps
def hasV (l : List Tm) (s : ByteArray) : Bool := decide (s ≠ ⟨#[]⟩) && l.any (fun t => decide (t.var = s))
def hasF (l : List Tm) : ByteArray → Option Value := fun s => if hasV l s = true then some (.bool true) else none
theorem hasV_iff {l : List Tm} {s : ByteArray} : hasV l s = true ↔ s ≠ ⟨#[]⟩ ∧ ∃ t ∈ l, t.var = s := by
  unfold hasV
  rw [Bool.and_eq_true, decide_eq_true_iff, List.any_eq_true]
  simp
theorem hasF_nil : hasF [] = fun _ => none := by
  funext s
  unfold hasF
  rw [if_neg (fun h => by obtain ⟨-, t, h, -⟩ := hasV_iff.1 h; simp at h)]
theorem hasF_skip {l : List Tm} {t : Tm} (h : t.var = ⟨#[]⟩) : hasF (l ++ [t]) = hasF l := by
  funext s
  unfold hasF
  have e : hasV (l ++ [t]) s = hasV l s := bool_iff (by
    rw [hasV_iff, hasV_iff]
    constructor
    · rintro ⟨h1, u, hu, rfl⟩
      rcases List.mem_append.1 hu with hu | hu
      · exact ⟨h1, u, hu, rfl⟩
      · rw [List.mem_singleton.1 hu] at h1
        exact absurd h h1
    · rintro ⟨h1, u, hu, rfl⟩
      exact ⟨h1, u, List.mem_append_left _ hu, rfl⟩)
  rw [e]
theorem hasF_add {l : List Tm} {t : Tm} (h : ¬ t.var = ⟨#[]⟩) : updV (hasF l) t.var (some (.bool true)) = hasF (l ++ [t]) := by
  funext s
  unfold updV hasF
  by_cases hs : s = t.var
  · rw [if_pos hs, if_pos (hasV_iff.2 ⟨by rw [hs]; exact h, t, by simp, hs.symm⟩)]
  · rw [if_neg hs]
    have e : hasV (l ++ [t]) s = hasV l s := bool_iff (by
      rw [hasV_iff, hasV_iff]
      constructor
      · rintro ⟨h1, u, hu, rfl⟩
        rcases List.mem_append.1 hu with hu | hu
        · exact ⟨h1, u, hu, rfl⟩
        · rw [List.mem_singleton.1 hu] at hs
          exact absurd rfl hs
      · rintro ⟨h1, u, hu, rfl⟩
        exact ⟨h1, u, List.mem_append_left _ hu, rfl⟩)
    rw [e]
/-- A new map comes back. -/
def MapPost (w : World) (f : ByteArray → Option Value) (M : Nat) (e : Ending) (w' : World) : Prop := ∃ b m, e = .returned (.map (some b)) ∧ Ext w w' ∧ w.heap.size ≤ b ∧ m ≤ M ∧ MapV w' b m f
theorem MapV.made_le (w : World) : MapV (w.alloc (.map #[] 0)) w.heap.size 0 (hasF []) := by rw [hasF_nil]; exact MapV.made w
set_option maxRecDepth 20000 in
set_option maxHeartbeats 1600000 in
theorem variables_any {F : Nat → Prop} {w : World} {v : Value} {a : At} (hT : Ts F w v a.terms) (hz : TmZ a.terms) (hl : a.terms.length ≤ 1048576) :
    Calls Tryz.prog 118 #[.agg #[.bool a.neg, .string a.rel, v]] w (MapPost w (hasF a.terms) 1048576) := by
  obtain ⟨ng, rl, ts⟩ := a
  simp only at hT hz hl ⊢
  obtain ⟨A, c, rfl, hc, hcl⟩ := hT
  obtain ⟨n, hn⟩ : ∃ n, n = ts.length := ⟨_, rfl⟩
  rw [← hn] at hc hl ⊢
  have HN := Lib.hid hn; have HCL := Lib.hid hcl; have HZ := Lib.hid hz
  have hmm := @run_makeMap Tryz.prog
  clear hn hcl hz
  go_enter Tryz.func118, Tryz.ntmps118
  go_wp2_with fail
  have hx : Ext w ((w.alloc (.cells #[.bool ng, .string rl, .slice A n c] 109)).alloc (.map #[] 0)) := ((Ext.refl w).alloc _).alloc _
  have hm1 := MapV.made_le (w.alloc (.cells #[.bool ng, .string rl, .slice A n c] 109))
  rw [show (w.alloc (.cells #[.bool ng, .string rl, .slice A n c] 109)).heap.size = w.heap.size + 1 by simp] at hm1
  generalize ((w.alloc (.cells #[.bool ng, .string rl, .slice A n c] 109)).alloc (.map #[] 0)) = w1 at *
  have HM1 := Lib.hid hm1
  clear hm1 hmm
  go_loopw [10] (fun t wr => ∃ i m : Nat, i ≤ n ∧ m ≤ i ∧ t = .int .i64 (i : Int) ∧ MapV wr (w.heap.size + 1) m (hasF (ts.take i)) ∧ Ext w wr) (fun t _ => n - (intOf t).toNat)
  case atStart => exact ⟨0, 0, Nat.zero_le _, Nat.le_refl _, rfl, HM1.out, hx⟩
  case round =>
    obtain ⟨i, m, hi, hmi, rfl, hM, hxr⟩ := hrel
    obtain ⟨W, rfl⟩ : ∃ W : World, W = wr := ⟨_, rfl⟩
    have HX := Lib.hid hxr; have HMM := Lib.hid hM
    clear hM
    by_cases hlt : i < n
    · have i1 : (0 : Int) ≤ (i : Int) := by omega
      have i2 : (i : Int) < (n : Int) := by omega
      have hit : i < ts.length := by have := HN.out; omega
      obtain ⟨ad, rfl, -, d0, d1, d2, d3⟩ := HCL.out.term hit
      replace d0 := HX.out.cell d0; replace d1 := HX.out.cell d1; replace d2 := HX.out.cell d2; replace d3 := HX.out.cell d3
      have hzt := (HZ.out _ (List.getElem_mem hit)).1
      have htk := List.take_succ_eq_append_getElem hit
      obtain ⟨x, hx⟩ : ∃ x, x = ts[i] := ⟨_, rfl⟩
      rw [← hx] at d0 d1 d2 d3 hzt htk
      have HTK := Lib.hid htk
      have hW : w.heap.size ≤ W.heap.size := hxr.size
      clear htk hx hxr
      by_cases hv : x.var = ⟨#[]⟩
      · have hve := var_eq hv
        have HS := Lib.hid (hasF_skip (l := ts.take i) hv)
        clear hv
        go_wp2_with fail
        go_roundw
        case rel => exact ⟨i + 1, m, by omega, by omega, by go_num, by rw [HTK.out, HS.out]; exact HMM.out.ext ((Ext.refl W).alloc _), HX.out.alloc _⟩
        case measure => simp [intOf]; omega
      · have hve := var_ne hv
        have HS := Lib.hid (hasF_add (l := ts.take i) hv)
        clear hv
        go_wp2_with (first
          | (refine wpList_update_V rfl _ _ _ 168 4 rfl Tryz.underlying168 (w.heap.size + 1) m (hasF (ts.take i)) rfl (HMM.out.ext ((Ext.refl W).alloc _)) (by simp only [maxLen]; omega) x.var (.bool true) rfl hzt rfl ?_; intro w5 hm5 hg5; have HM5 := Lib.hid hm5; have HG5 := Lib.hid hg5; clear hm5 hg5))
        go_roundw
        case rel => exact ⟨i + 1, m + 1, by omega, by omega, by go_num, by rw [HTK.out, ← HS.out]; exact HM5.out, (HX.out.alloc _).grown HG5.out (fun k e => by injection e with e; omega)⟩
        case measure => simp [intOf]; omega
    · obtain rfl : i = n := by omega
      have hdi : ¬ (i : Int) < (i : Int) := by omega
      have et : ts.take i = ts := by rw [HN.out]; exact List.take_length
      rw [et] at HMM
      clear et
      go_wp2_with fail
      go_ret
      exact ⟨w.heap.size + 1, m, rfl, HX.out, by omega, by omega, HMM.out⟩
theorem posT_take {xs : List At} {i : Nat} (hi : i < xs.length) : posT (xs.take (i + 1)) = posT (xs.take i) ++ (if xs[i].neg = true then [] else xs[i].terms) := by
  rw [List.take_succ_eq_append_getElem hi]
  unfold posT
  rw [List.flatMap_append]
  simp
set_option maxRecDepth 20000 in
set_option maxHeartbeats 1600000 in
theorem positive_any {F : Nat → Prop} {w : World} {va : Value} {C : Option Addr} {nc cc : Nat} {xs : List At} (hA : Ats F w va xs) (hz : ∀ a ∈ xs, TmZ a.terms) (hl1 : xs.length ≤ 524288) (hl2 : (allT xs).length ≤ 524288) :
    Calls Tryz.prog 116 #[.agg #[va, .slice C nc cc]] w (MapPost w (hasF (posT xs)) 1048576) := by
  obtain ⟨A, c, rfl, hc, hat⟩ := hA.at'
  obtain ⟨n, hn⟩ : ∃ n, n = xs.length := ⟨_, rfl⟩
  rw [← hn] at hc hl1 ⊢
  have HN := Lib.hid hn; have HAT := Lib.hid hat; have HZ := Lib.hid hz; have HL2 := Lib.hid hl2
  have hmm := @run_makeMap Tryz.prog
  clear hn hat hz hA hl2
  go_enter Tryz.func116, Tryz.ntmps116
  go_wp2_with fail
  have hx : Ext w ((w.alloc (.cells #[.slice A n c, .slice C nc cc] 73)).alloc (.map #[] 0)) := ((Ext.refl w).alloc _).alloc _
  have hm1 := MapV.made_le (w.alloc (.cells #[.slice A n c, .slice C nc cc] 73))
  rw [show (w.alloc (.cells #[.slice A n c, .slice C nc cc] 73)).heap.size = w.heap.size + 1 by simp] at hm1
  generalize ((w.alloc (.cells #[.slice A n c, .slice C nc cc] 73)).alloc (.map #[] 0)) = w1 at *
  have HM1 := Lib.hid hm1
  clear hm1 hmm
  go_loopw [12] (fun t wr => ∃ i m : Nat, i ≤ n ∧ m ≤ (allT (xs.take i)).length ∧ t = .int .i64 (i : Int) ∧ MapV wr (w.heap.size + 1) m (hasF (posT (xs.take i))) ∧ Ext w wr) (fun t _ => n - (intOf t).toNat)
  case atStart => exact ⟨0, 0, Nat.zero_le _, Nat.zero_le _, rfl, HM1.out, hx⟩
  case round =>
    obtain ⟨i, m0, hi, hm0, rfl, hM, hxr⟩ := hrel
    obtain ⟨W, rfl⟩ : ∃ W : World, W = wr := ⟨_, rfl⟩
    have HX := Lib.hid hxr; have HMM := Lib.hid hM; have HM0 := Lib.hid hm0
    clear hM hm0
    by_cases hlt : i < n
    · have i1 : (0 : Int) ≤ (i : Int) := by omega
      have i2 : (i : Int) < (n : Int) := by omega
      have hix : i < xs.length := by have := HN.out; omega
      obtain ⟨ad, Bt, dt, rfl, -, c0, c1, c2, hd, hcl⟩ := HAT.out i hix
      replace c0 := HX.out.cell c0; replace c1 := HX.out.cell c1; replace c2 := HX.out.cell c2
      have hzx := HZ.out _ (List.getElem_mem hix)
      have htk := posT_take hix
      have htl := terms_le hix
      have hal := allT_le (xs := xs) (i + 1)
      rw [allT_take hix, List.length_append] at hal
      have HAT2 := Lib.hid (allT_take hix)
      obtain ⟨⟨ng, rl, ts⟩, ha⟩ : ∃ a, a = xs[i] := ⟨_, rfl⟩
      rw [← ha] at c0 c1 c2 hd hcl hzx htk htl hal HAT2
      simp only at c0 c1 c2 hd hcl hzx htk htl hal HAT2
      obtain ⟨nt, hnt⟩ : ∃ k, k = ts.length := ⟨_, rfl⟩
      rw [← hnt] at c2 hd htl hal
      have hnt2 : nt ≤ 524288 := by have := HL2.out; omega
      have HAL := Lib.hid hal
      have HTK := Lib.hid htk; have HNT := Lib.hid hnt; have HCL := Lib.hid hcl; have HZX := Lib.hid hzx
      clear htk hnt hcl hzx ha htl hal hxr
      go_wp2_with fail
      have kx := Bk.new W 109 [.bool ng, .string rl, .slice Bt nt dt]
      change Bk (W.alloc (.cells #[.bool ng, .string rl, .slice Bt nt dt] 109)) _ _ _ at kx
      have hx1 : Ext W (W.alloc (.cells #[.bool ng, .string rl, .slice Bt nt dt] 109)) := (Ext.refl W).alloc _
      have hW1 : W.heap.size < (W.alloc (.cells #[.bool ng, .string rl, .slice Bt nt dt] 109)).heap.size := kx.lt
      generalize (W.alloc (.cells #[.bool ng, .string rl, .slice Bt nt dt] 109)) = W1 at *
      have HKX := Lib.hid kx
      have HX1 := Lib.hid (HX.out.trans hx1)
      have HMM1 := Lib.hid (HMM.out.ext hx1)
      clear kx hx1 c0 c1 c2
      go_loopw [19] (fun t wr => ∃ j m : Nat, j ≤ nt ∧ m ≤ m0 + j ∧ t = .int .i64 (j : Int) ∧ MapV wr (w.heap.size + 1) m (hasF (posT (xs.take i) ++ (if ng = true then [] else ts.take j))) ∧ Ext w wr ∧ Bk wr W.heap.size 109 [.bool ng, .string rl, .slice Bt nt dt]) (fun t _ => nt - (intOf t).toNat)
      case atStart => exact ⟨0, m0, Nat.zero_le _, Nat.le_refl _, rfl, by have h := HMM1.out; rw [← List.append_nil (posT _)] at h; simpa using h, HX1.out, HKX.out⟩
      case round =>
        obtain ⟨j, m, hj, hm, rfl, hM, hxj, hbk⟩ := hrel
        have HXJ := Lib.hid hxj; have HMJ := Lib.hid hM; have HBK := Lib.hid hbk
        have g0 := hbk.cell (i := 0) (by simp)
        simp only [List.getElem_cons_zero] at g0
        have hW : w.heap.size ≤ wr.heap.size := hxj.size
        have hmb : m < 1048576 := by have := HAL.out; have := HL2.out; have := HM0.out; omega
        have hbne : W.heap.size ≠ w.heap.size + 1 := hM.ne hbk
        have hbl : W.heap.size < wr.heap.size := hbk.lt
        clear hM hxj hbk
        by_cases hjt : j < nt
        · have j1 : (0 : Int) ≤ (j : Int) := by omega
          have j2 : (j : Int) < (nt : Int) := by omega
          have hjl : j < ts.length := by have := HNT.out; omega
          obtain ⟨adt, rfl, -, d0, d1, d2, d3⟩ := HCL.out.term hjl
          replace d0 := HXJ.out.cell d0; replace d1 := HXJ.out.cell d1; replace d2 := HXJ.out.cell d2; replace d3 := HXJ.out.cell d3
          have hzt := (HZX.out _ (List.getElem_mem hjl)).1
          have htk := List.take_succ_eq_append_getElem hjl
          obtain ⟨x, hx⟩ : ∃ x, x = ts[j] := ⟨_, rfl⟩
          rw [← hx] at d0 d1 d2 d3 hzt htk
          have HTKJ := Lib.hid htk
          clear htk hx
          rcases ng with _ | _
          · by_cases hv : x.var = ⟨#[]⟩
            · have hve := var_eq hv
              have HS := Lib.hid (hasF_skip (l := posT (xs.take i) ++ ts.take j) hv)
              clear hv
              go_wp2_with fail
              go_roundw
              case rel => exact ⟨j + 1, m, by omega, by omega, by go_num, by have h := HMJ.out.ext ((Ext.refl wr).alloc (.cells #[.string x.var, .int .i64 x.kind, .int .i64 x.int, .string x.str] 136)); rw [if_neg (by decide)] at h ⊢; rw [HTKJ.out, ← List.append_assoc, HS.out]; exact h, HXJ.out.alloc _, HBK.out.alloc _⟩
              case measure => simp [intOf]; omega
            · have hve := var_ne hv
              have HS := Lib.hid (hasF_add (l := posT (xs.take i) ++ ts.take j) hv)
              clear hv
              have HMF : Hid (MapV wr (w.heap.size + 1) m (hasF (posT (xs.take i) ++ ts.take j))) := Lib.hid (by have h := HMJ.out; rw [if_neg (by decide)] at h; exact h)
              go_wp2_with (first
                | (refine wpList_update_V rfl _ _ _ 168 4 rfl Tryz.underlying168 (w.heap.size + 1) m (hasF (posT (xs.take i) ++ ts.take j)) rfl (HMF.out.ext ((Ext.refl wr).alloc _)) (by simp only [maxLen]; omega) x.var (.bool true) rfl hzt rfl ?_; intro w5 hm5 hg5; have HM5 := Lib.hid hm5; have HG5 := Lib.hid hg5; clear hm5 hg5))
              go_roundw
              case rel => exact ⟨j + 1, m + 1, by omega, by omega, by go_num, by rw [if_neg (by decide), HTKJ.out, ← List.append_assoc, ← HS.out]; exact HM5.out, (HXJ.out.alloc _).grown HG5.out (fun k e => by injection e with e; omega), (HBK.out.alloc _).fr (grown_fr HG5.out) (fun e => by injection e with e; omega)⟩
              case measure => simp [intOf]; omega
          · go_wp2_with fail
            go_roundw
            case rel => exact ⟨j + 1, m, by omega, by omega, by go_num, by have h := HMJ.out.ext ((Ext.refl wr).alloc (.cells #[.string x.var, .int .i64 x.kind, .int .i64 x.int, .string x.str] 136)); rw [if_pos rfl] at h; exact h, HXJ.out.alloc _, HBK.out.alloc _⟩
            case measure => simp [intOf]; omega
        · obtain rfl : j = nt := by omega
          have hdj : ¬ (j : Int) < (j : Int) := by omega
          have et : ts.take j = ts := by rw [HNT.out]; exact List.take_length
          rw [et] at HMJ
          clear et g0
          go_wp2_with fail
          go_roundw
          case rel => exact ⟨i + 1, m, by omega, by rw [HAT2.out, List.length_append, ← HNT.out]; have := HM0.out; omega, by go_num, by rw [HTK.out]; exact HMJ.out, HXJ.out⟩
          case measure => simp [intOf]; omega
    · obtain rfl : i = n := by omega
      have hdi : ¬ (i : Int) < (i : Int) := by omega
      have et : xs.take i = xs := by rw [HN.out]; exact List.take_length
      rw [et] at HMM HM0
      clear et
      go_wp2_with fail
      go_ret
      exact ⟨w.heap.size + 1, m0, rfl, HX.out, by omega, by have := HM0.out; have := HL2.out; omega, HMM.out⟩
end Go.Proofs.YtmmmdinncmbjkaaGreat
namespace Go.Proofs.YtmmmdinncmbjkaaGreat
open Go.RowKit Go.Maps
def IdxPost (l : List ByteArray) (s : ByteArray) (w : World) (e : Ending) (w' : World) : Prop := ∃ r : Int, e = .returned (.int .i64 r) ∧ ((r < 0 ∧ s ∉ l) ∨ (0 ≤ r ∧ s ∈ l)) ∧ w = w'
theorem toList_inj' {a b : ByteArray} (h : a.toList = b.toList) : a = b := by
  rw [ByteArray.toList_eq, ByteArray.toList_eq] at h
  exact Go.WideShapes.bytes_inj h
set_option maxRecDepth 20000 in
set_option maxHeartbeats 800000 in
theorem index_str {F : Nat → Prop} {w : World} {v : Value} {l : List ByteArray} {s : ByteArray} (h : Strs F w v l) (hl : l.length ≤ maxLen) :
    Calls Tryz.prog 135 #[v, .string s] w (IdxPost l s w) := by
  unfold maxLen at hl
  obtain ⟨A, c, rfl, hc, hat⟩ := h
  obtain ⟨n, hn⟩ : ∃ n, n = l.length := ⟨_, rfl⟩
  rw [← hn] at hc hl ⊢
  have HN := Lib.hid hn; have HAT := Lib.hid hat
  clear hn hat
  go_enter Tryz.func135, Tryz.ntmps135
  go_wp2_with fail
  go_loopw [8] (fun q wr => ∃ i : Nat, i ≤ n ∧ q = .int .i64 (i : Int) ∧ (∀ j (h : j < l.length), j < i → l[j] ≠ s) ∧ wr = w) (fun q _ => n - (intOf q).toNat)
  case atStart => exact ⟨0, Nat.zero_le _, rfl, fun _ _ h => absurd h (by omega), rfl⟩
  case round =>
    obtain ⟨i, hi, rfl, hgo, rfl⟩ := hrel
    have HGO := Lib.hid hgo
    clear hgo
    by_cases hlt : i < n
    · have i1 : (0 : Int) ≤ (i : Int) := by omega
      have i2 : (i : Int) < (n : Int) := by omega
      have hix : i < l.length := by have := HN.out; omega
      obtain ⟨ad, rfl, -, c0⟩ := HAT.out.str hix
      by_cases he : l[i] = s
      · have HR : Hid (s ∈ l) := Lib.hid (by rw [← he]; exact List.getElem_mem hix)
        rw [he] at c0
        clear he
        go_wp2_with fail
        go_ret
        exact ⟨i, rfl, .inr ⟨by omega, HR.out⟩, rfl⟩
      · have hne : ¬ s.toList = l[i].toList := fun e => he (toList_inj' e).symm
        obtain ⟨x, hx⟩ : ∃ x, x = l[i] := ⟨_, rfl⟩
        rw [← hx] at c0 hne
        have hne2 : (s.toList == x.toList) = false := by simp [hne]
        have HE := Lib.hid he
        clear he hx
        go_wp2_with fail
        all_goals first
          | contradiction
          | (go_roundw
             case rel =>
               refine ⟨i + 1, by omega, by go_num, fun j hj hji => ?_, trivial⟩
               rcases Nat.lt_or_ge j i with h | h
               · exact HGO.out j hj h
               · obtain rfl : j = i := by omega
                 exact HE.out
             case measure => simp [intOf]; omega)
    · obtain rfl : i = n := by omega
      have hdn : ¬ (i : Int) < (i : Int) := by omega
      have HR : Hid (s ∉ l) := Lib.hid (fun hm => by
        obtain ⟨j, hj, e⟩ := List.getElem_of_mem hm
        exact HGO.out j hj (by have := HN.out; omega) e)
      go_wp2_with fail
      go_ret
      exact ⟨-1, rfl, .inl ⟨by omega, HR.out⟩, rfl⟩
theorem contains_str {F : Nat → Prop} {w : World} {v : Value} {l : List ByteArray} {s : ByteArray} (h : Strs F w v l) (hl : l.length ≤ maxLen) :
    Calls Tryz.prog 113 #[v, .string s] w (fun e w' => e = .returned (.bool (decide (s ∈ l))) ∧ w = w') := by
  have H := Lib.hid (index_str (s := s) h hl)
  clear h hl
  go_enter Tryz.func113, Tryz.ntmps113
  go_wp2_with fail
  refine H.out.mono ?_
  rintro e w' ⟨r, rfl, hr, rfl⟩
  rcases hr with ⟨h1, h2⟩ | ⟨h1, h2⟩
  · have h3 : decide ((0 : Int) ≤ r) = false := by simp; omega
    have HR := Lib.hid (decide_eq_false h2)
    clear h2
    go_wp2_with fail
    go_ret
    rw [HR.out]
    exact ⟨rfl, rfl⟩
  · have HR := Lib.hid (decide_eq_true h2)
    clear h2
    go_wp2_with fail
    go_ret
    rw [HR.out]
    exact ⟨rfl, rfl⟩
theorem Strs.take {F : Nat → Prop} {w : World} {A : Option Addr} {n c : Nat} {l : List ByteArray} (h : Strs F w (.slice A n c) l) {i : Nat} (hi : i ≤ l.length) : Strs F w (.slice A i c) (l.take i) := by
  obtain ⟨A', c', e, hc, hcl⟩ := h
  injection e with e1 e2 e3
  subst e1 e3
  refine ⟨A, c, by rw [List.length_take, Nat.min_eq_left hi], by rw [List.length_take]; omega, ?_⟩
  rcases hcl with hcl | ⟨ad, h1, h2, h3⟩
  · exact .inl (by rw [List.map_eq_nil_iff] at hcl ⊢; rw [hcl]; simp)
  · exact .inr ⟨ad, h1, h2, fun j hj => by
      have hj2 : j < l.length := by simp at hj; omega
      rw [h3 j (by simpa using hj2)]
      simp⟩
set_option maxRecDepth 20000 in
set_option maxHeartbeats 800000 in
theorem checkHead_any {F : Nat → Prop} {w : World} {v : Value} {hd : List ByteArray} (h : Strs F w v hd) (hz : ∀ s ∈ hd, s.size ≤ maxLen) :
    Calls Tryz.prog 89 #[v] w (Ret (fun x _ => x = .int .i64 (headE hd)) w) := by
  have HS := Lib.hid h
  obtain ⟨A, c, rfl, hc, hat⟩ := h
  obtain ⟨n, hn⟩ : ∃ n, n = hd.length := ⟨_, rfl⟩
  rw [← hn] at hc HS ⊢
  have HN := Lib.hid hn; have HAT := Lib.hid hat; have HZ := Lib.hid hz
  clear hn hat hz
  by_cases h6 : ¬ n ≤ 6
  · have HE := Lib.hid (show headE hd = 12 from if_neg (by rw [← HN.out]; exact h6))
    have h7 : (6 : Int) < (n : Int) := by omega
    rw [HE.out]
    go_enter Tryz.func89, Tryz.ntmps89
    go_wp2_with fail
    go_ret
    exact Ret.mk (Ext.refl w) rfl
  have h7 : ¬ (6 : Int) < (n : Int) := by omega
  have hEE : headE hd = _ := if_pos (by rw [← HN.out]; omega)
  obtain ⟨f, hf⟩ : ∃ f : Nat → Int, f = (fun i => if nameB (hd.getD i ⟨#[]⟩) = true then (if hd.getD i ⟨#[]⟩ ∈ hd.take i then 8 else 0) else 7) := ⟨_, rfl⟩
  rw [← hf, ← HN.out] at hEE
  have HEE := Lib.hid hEE; have HF := Lib.hid hf
  clear hEE hf
  go_enter Tryz.func89, Tryz.ntmps89
  go_wp2_with fail
  go_loopw [10] (fun q wr => ∃ i : Nat, i ≤ n ∧ q = .int .i64 (i : Int) ∧ Hid (∀ j, j < i → f j = 0) ∧ w = wr) (fun q _ => n - (intOf q).toNat)
  case atStart => exact ⟨0, Nat.zero_le _, rfl, Lib.hid (fun _ h => absurd h (by omega)), rfl⟩
  case round =>
    obtain ⟨i, hi, rfl, H, rfl⟩ := hrel
    by_cases hlt : i < n
    · have i1 : (0 : Int) ≤ (i : Int) := by omega
      have i2 : (i : Int) < (n : Int) := by omega
      have i3 : (i : Int) ≤ (c : Int) := by omega
      have hix : i < hd.length := by have := HN.out; omega
      obtain ⟨ad, rfl, -, c0⟩ := HAT.out.str hix
      have hzi := HZ.out _ (List.getElem_mem hix)
      have hg : hd.getD i ⟨#[]⟩ = hd[i] := by simp [hix]
      have hfi : f i = if nameB hd[i] = true then (if hd[i] ∈ hd.take i then 8 else 0) else 7 := by rw [HF.out]; simp only [hg]
      have hgo : f i = 0 → ∀ j, j < i + 1 → f j = 0 := fun h j hj => by
        rcases Nat.lt_or_ge j i with h1 | h1
        · exact H.out j h1
        · have : j = i := by omega
          subst this; exact h
      have hst : ∀ m : Int, m ≠ 0 → f i = m → headE hd = m := fun m hm h => by rw [HEE.out, firstI_at hlt H.out (by rw [h]; exact hm), h]
      have HC := Lib.hid (contains_str (s := hd[i]) (HS.out.take (i := i) (by omega)) (by rw [List.length_take]; simp only [maxLen]; omega))
      obtain ⟨x, hx⟩ : ∃ x, x = hd[i] := ⟨_, rfl⟩
      rw [← hx] at c0 hzi hfi HC
      have HFI := Lib.hid hfi; have HGO := Lib.hid hgo; have HST := Lib.hid hst
      clear hg hfi hgo hst hx
      by_cases hnm : nameB x = true
      · by_cases hin : x ∈ hd.take i
        · have HQ := Lib.hid (HST.out 8 (by decide) (by rw [HFI.out, if_pos hnm, if_pos hin]))
          have HNM := Lib.hid hnm; have HIN := Lib.hid (decide_eq_true hin)
          clear hnm hin
          go_wp2_with fail
          refine (valid_any x _ hzi).mono ?_
          rintro e w' ⟨rfl, rfl⟩
          rw [HNM.out]
          go_wp2_with fail
          refine HC.out.mono ?_
          rintro e w' ⟨rfl, rfl⟩
          rw [HIN.out]
          go_wp2_with fail
          go_ret
          exact Ret.mk (Ext.refl _) (ret_i HQ.out)
        · have HG := Lib.hid (HGO.out (by rw [HFI.out, if_pos hnm, if_neg hin]))
          have HNM := Lib.hid hnm; have HIN := Lib.hid (decide_eq_false hin)
          clear hnm hin
          go_wp2_with fail
          refine (valid_any x _ hzi).mono ?_
          rintro e w' ⟨rfl, rfl⟩
          rw [HNM.out]
          go_wp2_with fail
          refine HC.out.mono ?_
          rintro e w' ⟨rfl, rfl⟩
          rw [HIN.out]
          go_wp2_with fail
          go_roundw
          case rel => exact ⟨i + 1, by omega, by go_num, HG, trivial⟩
          case measure => simp [intOf]; omega
      · have HQ := Lib.hid (HST.out 7 (by decide) (by rw [HFI.out, if_neg hnm]))
        rw [Bool.not_eq_true] at hnm
        have HNM := Lib.hid hnm
        clear hnm
        go_wp2_with fail
        refine (valid_any x _ hzi).mono ?_
        rintro e w' ⟨rfl, rfl⟩
        rw [HNM.out]
        go_wp2_with fail
        go_ret
        exact Ret.mk (Ext.refl _) (ret_i HQ.out)
    · obtain rfl : i = n := by omega
      have hdi : ¬ (i : Int) < (i : Int) := by omega
      have HQ : Hid (headE hd = 0) := Lib.hid (by rw [HEE.out]; exact firstI_zero.2 H.out)
      go_wp2_with fail
      go_ret
      exact Ret.mk (Ext.refl _) (ret_i HQ.out)
set_option maxRecDepth 20000 in
set_option maxHeartbeats 800000 in
theorem checkAgg_any {w : World} {A B O : Option Addr} {na ca nb cb no co : Nat} {ag : Int} {av : ByteArray} (hz : av.size ≤ maxLen) :
    Calls Tryz.prog 90 #[.agg #[.slice A na ca, .int .i64 ag, .string av, .slice B nb cb, .slice O no co]] w (Ret (fun x _ => x = .int .i64 (aggE ag av)) w) := by
  by_cases h01 : ag = 0 ∨ ag = 1
  · by_cases hv : av = ⟨#[]⟩
    · have HE := Lib.hid (show aggE ag av = 0 from (if_pos h01).trans (if_pos hv))
      have hve := var_eq hv
      clear hv
      rcases h01 with rfl | rfl
      all_goals
        rw [HE.out]
        go_enter Tryz.func90, Tryz.ntmps90
        go_wp2_with fail
        go_ret
        exact Ret.mk ((Ext.refl w).alloc _) rfl
    · have HE := Lib.hid (show aggE ag av = 1 from (if_pos h01).trans (if_neg hv))
      have hve := var_ne hv
      clear hv
      rcases h01 with rfl | rfl
      all_goals
        rw [HE.out]
        go_enter Tryz.func90, Tryz.ntmps90
        go_wp2_with fail
        go_ret
        exact Ret.mk ((Ext.refl w).alloc _) rfl
  · by_cases h24 : ag = 2 ∨ ag = 3 ∨ ag = 4
    · by_cases hv : nameB av = true
      · have HE := Lib.hid (show aggE ag av = 0 from (if_neg h01).trans ((if_pos h24).trans (if_pos hv)))
        have HV := Lib.hid hv
        clear hv h01
        rcases h24 with rfl | rfl | rfl
        all_goals
          rw [HE.out]
          go_enter Tryz.func90, Tryz.ntmps90
          go_wp2_with fail
          refine (valid_any av _ hz).mono ?_
          rintro e w' ⟨rfl, rfl⟩
          rw [HV.out]
          go_wp2_with fail
          go_ret
          exact Ret.mk ((Ext.refl w).alloc _) rfl
      · have HE := Lib.hid (show aggE ag av = 7 from (if_neg h01).trans ((if_pos h24).trans (if_neg hv)))
        rw [Bool.not_eq_true] at hv
        have HV := Lib.hid hv
        clear hv h01
        rcases h24 with rfl | rfl | rfl
        all_goals
          rw [HE.out]
          go_enter Tryz.func90, Tryz.ntmps90
          go_wp2_with fail
          refine (valid_any av _ hz).mono ?_
          rintro e w' ⟨rfl, rfl⟩
          rw [HV.out]
          go_wp2_with fail
          go_ret
          exact Ret.mk ((Ext.refl w).alloc _) rfl
    · have HE := Lib.hid (show aggE ag av = 2 from (if_neg h01).trans (if_neg h24))
      have k0 : (ag == 0) = false := beq_false_of_ne (fun e => h01 (.inl e))
      have k1 : (ag == 1) = false := beq_false_of_ne (fun e => h01 (.inr e))
      have k2 : (ag == 2) = false := beq_false_of_ne (fun e => h24 (.inl e))
      have k3 : (ag == 3) = false := beq_false_of_ne (fun e => h24 (.inr (.inl e)))
      have k4 : (ag == 4) = false := beq_false_of_ne (fun e => h24 (.inr (.inr e)))
      clear h01 h24
      rw [HE.out]
      go_enter Tryz.func90, Tryz.ntmps90
      go_wp2_with fail
      go_ret
      exact Ret.mk ((Ext.refl w).alloc _) rfl
end Go.Proofs.YtmmmdinncmbjkaaGreat
