/- Ranging over a map from strings. Contract: check.Guard. -/
import Derived.Test.YtmmmdinncmbjkaaGreatMf09
import Derived.Maps.RangeWalk
namespace Go.Proofs.YtmmmdinncmbjkaaGreat
open Go.RowKit Go.Maps
theorem key_str2 {key : Value} {kl : Lit} (h : keyOf Tryz.prog 9 key = some kl) : ∃ s : ByteArray, key = .string s ∧ kl = .string s.data.toList := by
  rw [keyOf_string Tryz.underlying9] at h
  cases key <;> simp [mapKey, Tryz.underlying9] at h
  obtain ⟨-, rfl⟩ := h
  exact ⟨_, rfl, rfl⟩
/-- A range over a map that reads as f is under way; the keys sn have come. -/
def RngV (w : World) (b r n : Nat) (f : ByteArray → Option Value) (sn : List ByteArray) (cnt : Nat) : Prop :=
  ∃ (D : DataW Value) (left : Lit → Bool), w.ranges Tryz.prog 9 Rv b r n D left cnt ∧ (∀ s : ByteArray, ∀ zd, D.atKey (.string s.data.toList) zd = match f s with | some v => .held v | none => zd) ∧
    ∀ s : ByteArray, left (.string s.data.toList) = ((f s).isSome && !decide (s ∈ sn))
theorem wpList_range_V {w : World} {ops : Array Oper} {rest : List Oper} {o : Oper} {a : Act} {Q : Exit → Act → World → Prop} (hg : o.guard = none) (m : Operand) (t e : TypeId) (hop : o.op = Op.range t m)
    (ht : Tryz.prog.underlying t = some (.map 9 e)) (b n : Nat) (f : ByteArray → Option Value) (hm : a.eval m = .map (some b)) (hown : MapV w b n f)
    (hK : ∀ w' cnt, RngV w' b w.heap.size n f [] cnt → w.grownBy w' none → w'.heap.size = w.heap.size + 1 → wpList Tryz.prog ops Q rest (a.put o.dst (.pointer (some ⟨w.heap.size, 0, none⟩))) w') : wpList Tryz.prog ops Q (o :: rest) a w := by
  obtain ⟨D, hD, -, hat, hhas⟩ := hown
  refine wpList_range_own w hg m t hop 9 e law_str ht Rv b n D hm hD (fun w' h1 h2 h3 => hK w' _ ⟨D, _, h1, hat, fun s => ?_⟩ h2 h3)
  rw [hhas s]
  simp
theorem same_str (s x : ByteArray) : (Lit.string s.data.toList).sameKey (.string x.data.toList) = decide (s = x) := by
  show (s.data.toList == x.data.toList) = _
  by_cases h : s = x
  · subst h; simp
  · rw [decide_eq_false h]
    have : s.data.toList ≠ x.data.toList := fun e => h (Go.WideShapes.bytes_inj e)
    simpa using this
theorem wpList_next_V {w : World} {ops : Array Oper} {rest : List Oper} {o : Oper} {a : Act} {Q : Exit → Act → World → Prop} (hg : o.guard = none) (it : Operand) (hop : o.op = Op.next it false) (b r n : Nat) (f : ByteArray → Option Value) (sn : List ByteArray) (cnt : Nat)
    (hit : a.eval it = .pointer (some ⟨r, 0, none⟩)) (h : RngV w b r n f sn cnt)
    (hDone : (∀ s, (f s).isSome = true → s ∈ sn) → wpList Tryz.prog ops Q rest (a.put o.dst (.tuple #[.bool false])) w)
    (hMore : ∀ (s : ByteArray) (v : Value) (w' : World) (cnt' : Nat), f s = some v → s ∉ sn → RngV w' b r n f (sn ++ [s]) cnt' → cnt' < cnt → w.grownBy w' (some r) → w'.heap.size = w.heap.size →
      (Instr.entry (.pointer (some ⟨r, 0, none⟩))).run Tryz.prog w' = .ok (.tuple #[.string s, v]) w' → wpList Tryz.prog ops Q rest (a.put o.dst (.tuple #[.bool true, .string s, v])) w') : wpList Tryz.prog ops Q (o :: rest) a w := by
  obtain ⟨D, left, hrg, hat, hleft⟩ := h
  refine wpList_next_ranges w hg it hop 9 law_str Rv Value.string (fun v : Value => v) (fun key kl hk => let ⟨s, h1, _⟩ := key_str2 hk; ⟨s, h1⟩) (fun v y _ => ⟨v, rfl⟩) b r n D left cnt hit hrg ?_ ?_
  · intro _ hl
    refine hDone (fun s hs => ?_)
    have h1 := hleft s
    rw [hl, hs] at h1
    simpa using h1
  · intro x c kl y w' cnt' hkey hlk hv hyat hrg' hlt hgr hsz hen
    obtain ⟨s, e1, rfl⟩ := key_str2 hkey
    injection e1 with e1
    subst e1
    rw [hleft x] at hlk
    simp only [Bool.and_eq_true, Bool.not_eq_true', decide_eq_false_iff_not] at hlk
    have hfx : f x = some c := by
      have h1 := hyat (.held (.bool false))
      rw [hat x] at h1
      simp only [Rv, Option.some.injEq] at hv
      rw [← hv] at h1
      rcases hf : f x with _ | u
      · rw [hf] at hlk; simp at hlk
      · rw [hf] at h1
        simp only [DataW.held.injEq] at h1
        rw [h1]
    refine hMore x c w' cnt' hfx hlk.2 ⟨D, _, hrg', hat, fun s => ?_⟩ hlt hgr hsz hen
    rw [hleft s, same_str]
    by_cases h1 : s = x
    · subst h1; simp
    · simp [h1]
end Go.Proofs.YtmmmdinncmbjkaaGreat
namespace Go.Proofs.YtmmmdinncmbjkaaGreat
open Go.RowKit Go.Maps
theorem covB_iff {a b : At} : covB a b = true ↔ ∀ s, hasV a.terms s = true → hasV b.terms s = true := by
  unfold covB
  rw [List.all_eq_true]
  constructor
  · intro h s hs
    obtain ⟨h1, t, ht, rfl⟩ := hasV_iff.1 hs
    have h2 := h t ht
    rw [Bool.or_eq_true, decide_eq_true_iff, List.any_eq_true] at h2
    rcases h2 with h2 | ⟨u, hu, h2⟩
    · exact absurd h2 h1
    · exact hasV_iff.2 ⟨h1, u, hu, of_decide_eq_true h2⟩
  · intro h t ht
    rw [Bool.or_eq_true, decide_eq_true_iff, List.any_eq_true]
    by_cases hv : t.var = ⟨#[]⟩
    · exact .inl hv
    · obtain ⟨-, u, hu, e⟩ := hasV_iff.1 (h t.var (hasV_iff.2 ⟨hv, t, ht, rfl⟩))
      exact .inr ⟨u, hu, decide_eq_true e⟩
def gdB (a b : At) : Bool := !b.neg && covB a b
theorem guard_here {xs : List At} {a : At} {i : Nat} (hi : i < xs.length) (h0 : ∀ j (_ : j < i) (_ : j < xs.length), gdB a xs[j] = false) (h1 : gdB a xs[i] = true) : guardI xs a = some i := by
  unfold guardI
  rw [List.findIdx?_eq_some_iff_getElem]
  exact ⟨hi, h1, fun j hj => by have := h0 j hj (by omega); unfold gdB at this; simp only [this]; decide⟩
theorem guard_none {xs : List At} {a : At} (h0 : ∀ j (_ : j < xs.length), gdB a xs[j] = false) : guardI xs a = none := by
  unfold guardI
  rw [List.findIdx?_eq_none_iff]
  intro x hx
  obtain ⟨j, hj, rfl⟩ := List.getElem_of_mem hx
  exact h0 j hj
def GuardPost (xs : List At) (a : At) (w : World) (e : Ending) (w' : World) : Prop :=
  Ext w w' ∧ ((∃ g : Nat, guardI xs a = some g ∧ e = .returned (.tuple #[.int .i64 (g : Int), .int .i64 0])) ∨ (guardI xs a = none ∧ e = .returned (.tuple #[.int .i64 0, .int .i64 23])))
theorem hasF_some {l : List Tm} {s : ByteArray} : (hasF l s).isSome = hasV l s := by
  unfold hasF
  by_cases h : hasV l s = true
  · rw [if_pos h, h]; rfl
  · rw [if_neg h]
    rw [Bool.not_eq_true] at h
    rw [h]; rfl
theorem hasV_size {l : List Tm} {s : ByteArray} (hz : TmZ l) (h : hasV l s = true) : s.size ≤ maxLen := by
  obtain ⟨-, t, ht, rfl⟩ := hasV_iff.1 h
  exact (hz t ht).1
set_option maxRecDepth 20000 in
set_option maxHeartbeats 3200000 in
theorem guard_any {F : Nat → Prop} {w : World} {A C : Option Addr} {n c nc cc : Nat} {xs : List At} {k : Nat} (hA : Ats F w (.slice A n c) xs) (hz : ∀ a ∈ xs, TmZ a.terms) (hl : ∀ a ∈ xs, a.terms.length ≤ 1048576) (hk : k < xs.length) (hneg : xs[k].neg = true) (hn : n ≤ 1048576) :
    Calls Tryz.prog 94 #[.agg #[.slice A n c, .slice C nc cc], .int .i64 (k : Int)] w (GuardPost xs xs[k] w) := by
  have hnx : n = xs.length := by
    obtain ⟨A', c', e⟩ := hA.sl
    injection e
  obtain ⟨a, ha⟩ : ∃ a, a = xs[k] := ⟨_, rfl⟩
  obtain ⟨ad, Bk0, dk0, rfl, -, c0, c1, c2, hTk⟩ := hA.at2 k hk
  rw [← ha] at hneg c0 c1 c2 hTk ⊢
  have hza := hz _ (List.getElem_mem hk); have hla := hl _ (List.getElem_mem hk)
  rw [← ha] at hza hla
  have HA := Lib.hid hA.at2; have HZ := Lib.hid hz; have HL := Lib.hid hl; have HN := Lib.hid hnx; have HTK : Hid (Ts F w (.slice Bk0 a.terms.length dk0) a.terms) := Lib.hid ⟨Bk0, dk0, rfl, hTk.1, hTk.2⟩
  have HZA := Lib.hid hza; have HLA := Lib.hid hla
  have k0 : (0 : Int) ≤ (k : Int) := by omega
  have k1 : (k : Int) < (n : Int) := by omega
  have k2 : ¬ (k : Int) < 0 := by omega
  have k3 : ¬ (n : Int) ≤ (k : Int) := by omega
  have kn : k < n := by omega
  rw [hneg] at c0
  obtain ⟨ntk, hntk⟩ : ∃ m, m = a.terms.length := ⟨_, rfl⟩
  rw [← hntk] at c2 HTK
  have HV := Lib.hid (fun (V : World) (hV : Ext w V) => variables_any (a := a) (HTK.out.ext hV) HZA.out HLA.out)
  rw [hneg] at HV
  obtain ⟨ar, har⟩ : ∃ r, r = a.rel := ⟨_, rfl⟩
  rw [← har] at c1 HV
  clear hA hz hl hnx hTk hza hla ha hneg hntk har
  go_enter Tryz.func94, Tryz.ntmps94
  go_wp2_with fail
  have hx : Ext w (w.alloc (.cells #[.slice (some ad) n c, .slice C nc cc] 73)) := (Ext.refl w).alloc _
  have kb := Bk.new w 73 [.slice (some ad) n c, .slice C nc cc]
  change Bk (w.alloc (.cells #[.slice (some ad) n c, .slice C nc cc] 73)) _ _ _ at kb
  generalize (w.alloc (.cells #[.slice (some ad) n c, .slice C nc cc] 73)) = w1 at *
  have b0 := kb.cell (i := 0) (by simp)
  simp only [List.getElem_cons_zero] at b0
  replace c0 := hx.cell c0; replace c1 := hx.cell c1; replace c2 := hx.cell c2
  have HX1 := Lib.hid hx
  clear kb hx
  go_step3
  go_wp2_with fail
  refine (HV.out _ HX1.out).mono ?_
  rintro e w2 ⟨bn, mn, rfl, he2, hbn, hmn, hM⟩
  replace b0 := he2.cell b0
  have HX2 := Lib.hid (HX1.out.trans he2); have HM := Lib.hid hM
  have hbn2 : w.heap.size ≤ bn := Nat.le_trans HX1.out.size hbn
  have hbl2 : bn < w2.heap.size := hM.lt
  clear he2 hM c0 c1 c2 hmn hbn
  go_wp2_with fail
  go_step3
  go_wp2_with fail
  clear b0
  go_loopg [7, 8, 38] n (fun fu g e p wr => ∃ i : Nat, i + fu = n ∧ g = .int .i64 0 ∧ e = .int .i64 23 ∧ p = .int .i64 (i : Int) ∧ Hid (∀ j (_ : j < i) (_ : j < xs.length), gdB a xs[j] = false) ∧ Ext w2 wr)
  case atStart => exact ⟨0, by omega, rfl, rfl, rfl, Lib.hid (fun j hj => by omega), Ext.refl _⟩
  case round =>
    obtain ⟨i, hin, rfl, rfl, rfl, H, hxr⟩ := hrel
    obtain ⟨N, rfl⟩ : ∃ N, N = gk := ⟨_, rfl⟩
    obtain ⟨W, rfl⟩ : ∃ W : World, W = wr := ⟨_, rfl⟩
    have HX := Lib.hid (HX2.out.trans hxr); have HXR := Lib.hid hxr
    have hW2 : w2.heap.size ≤ W.heap.size := hxr.size
    have hi : i ≤ n := by omega
    by_cases hlt : i < n
    · have i1 : (0 : Int) ≤ (i : Int) := by omega
      have i2 : (i : Int) < (n : Int) := by omega
      have hit : i < xs.length := by have := HN.out; omega
      obtain ⟨ad', B1, d1, e1, -, d0, d1', d2, hT⟩ := HA.out i hit
      injection e1 with e1
      subst e1
      replace d0 := HX.out.cell d0; replace d1' := HX.out.cell d1'; replace d2 := HX.out.cell d2
      have hz1 := HZ.out _ (List.getElem_mem hit); have hl1 := HL.out _ (List.getElem_mem hit)
      have hgo : gdB a xs[i] = false → ∀ j (_ : j < i + 1) (_ : j < xs.length), gdB a xs[j] = false := fun h j hj hl => by
        rcases Nat.lt_or_ge j i with h2 | h2
        · exact H.out j h2 hl
        · have : j = i := by omega
          subst this; exact h
      have hhere := fun h => guard_here (a := a) hit H.out h
      obtain ⟨b, hb⟩ : ∃ b, b = xs[i] := ⟨_, rfl⟩
      rw [← hb] at d0 d1' d2 hz1 hl1 hgo hhere hT
      have HT : Hid (Ts F w (.slice B1 b.terms.length d1) b.terms) := Lib.hid ⟨B1, d1, rfl, hT.1, hT.2⟩
      have HGO := Lib.hid hgo; have HH := Lib.hid hhere
      have HV1 := Lib.hid (fun (V : World) (hV : Ext w V) => variables_any (a := b) (HT.out.ext hV) hz1 hl1)
      obtain ⟨ng, rl, ts⟩ := b
      simp only at d0 d1' d2 HT HV1
      obtain ⟨nt, hnt⟩ : ∃ m, m = ts.length := ⟨_, rfl⟩
      rw [← hnt] at d2 HT HV1
      clear hb hz1 hl1 hgo hhere hT hnt hxr
      rcases ng with _ | _
      · go_wp2_with fail
        refine (HV1.out _ (HX.out.alloc _)).mono ?_
        rintro e w4 ⟨bp, mp, rfl, he4, hbp, hmp, hM4⟩
        have HX4 := Lib.hid ((Ext.alloc (Ext.refl W) _).trans he4); have HM4 := Lib.hid hM4
        have HMN := Lib.hid (HM.out.ext (HXR.out.trans HX4.out))
        have hbp2 : W.heap.size < bp := by have := (Ext.alloc (Ext.refl W) (.cells #[.bool false, .string rl, .slice B1 nt d1] 109)).size; simp at hbp; omega
        have hbp4 : bp < w4.heap.size := hM4.lt
        clear he4 hM4 d0 d1' d2 hmp hbp
        go_wp2_with (first
          | (at_range; refine wpList_range_V rfl _ 168 4 rfl Tryz.underlying168 bn mn (hasF a.terms) rfl HMN.out ?_; intro w5 cnt hr5 hg5 hs5))
        have he5 : Ext w4 w5 := (Ext.refl w4).grown hg5 (fun k e => by cases e)
        have HR5 := Lib.hid hr5; have HE5 := Lib.hid he5
        have hs5' : w5.heap.size = w4.heap.size + 1 := hs5
        clear hr5 hg5 hs5 he5
        go_frame
        go_loopg [12] cnt (fun fu (v : Value) wr => ∃ (sn : List ByteArray), RngV wr bn w4.heap.size mn (hasF a.terms) sn fu ∧ Hid (∀ s ∈ sn, hasV ts s = true) ∧ Fr (fun b => b = w4.heap.size) w5 wr)
        case atStart => exact ⟨[], HR5.out, Lib.hid (fun s hs => by simp at hs), Fr.refl _ _⟩
        case round =>
          obtain ⟨sn, hrng, HSN, hfr⟩ := hrel
          have HRG := Lib.hid hrng; have HFR := Lib.hid hfr
          have hxw : Ext w4 wr := hfr.new HE5.out (fun b hb => by omega)
          have HXW := Lib.hid hxw
          have HMP := Lib.hid ((HM4.out.ext HE5.out).fr hfr (by omega))
          clear hrng hfr hxw
          go_wp2_with (first
            | (at_next; refine wpList_next_V rfl _ rfl bn w4.heap.size mn (hasF a.terms) sn gk rfl HRG.out ?_ ?_))
          · intro hdone
            have hcov : gdB a ⟨false, rl, ts⟩ = true := by
              unfold gdB
              rw [Bool.and_eq_true]
              exact ⟨rfl, covB_iff.2 (fun s hs => HSN.out s (hdone s (by rw [hasF_some]; exact hs)))⟩
            have HQ := Lib.hid (HH.out hcov)
            clear hdone hcov
            go_wp2_with fail
            go_ret2
            exact ⟨HX.out.trans (HX4.out.trans HXW.out), .inl ⟨i, HQ.out, rfl⟩⟩
          · intro s v w6 cnt6 hfs hsn hrg6 hlt6 hgr6 hsz6 hen6
            have hva : hasV a.terms s = true := by rw [← hasF_some, hfs]; rfl
            have hss := hasV_size HZA.out hva
            have HVA := Lib.hid hva
            have HM6 := Lib.hid (HMP.out.fr (grown_fr hgr6) (fun e => by injection e with e; omega))
            have HR6 := Lib.hid hrg6
            have hf6 : Fr (fun b => b = w4.heap.size) w5 w6 := HFR.out.grown hgr6 (fun k e => .inl (by injection e with e; exact e.symm))
            have HF6 := Lib.hid hf6
            have HX6 : Hid (Ext w4 w6) := Lib.hid (hf6.new HE5.out (fun b hb => by omega))
            have hget := hasF_get ts s
            obtain ⟨b, hb⟩ : ∃ b, b = hasV ts s := ⟨_, rfl⟩
            rw [← hb] at hget
            have HGET := Lib.hid hget; have HB := Lib.hid hb
            clear hfs hsn hrg6 hgr6 hsz6 hf6 hget hb hva
            rcases b with _ | _
            · have HG := Lib.hid (HGO.out (by
                have h1 : ¬ gdB a ⟨false, rl, ts⟩ = true := fun h => by
                  unfold gdB at h
                  rw [Bool.and_eq_true] at h
                  have h2 := covB_iff.1 h.2 s HVA.out
                  have h3 := HB.out
                  simp only at h2
                  rw [h2] at h3
                  cases h3
                simpa using h1))
              go_wp2_with (first | (refine wpList_lookup_V rfl _ _ 168 4 rfl Tryz.underlying168 (.bool false) (zero_bool _) bp mp _ rfl HM6.out s rfl hss (.bool false) HGET.out ?_))
              go_roundg (N - 1)
              case measure => omega
              case rel => exact ⟨i + 1, by omega, rfl, rfl, by go_num, HG, HXR.out.trans (HX4.out.trans HX6.out)⟩
            · have HG : Hid (∀ x ∈ sn ++ [s], hasV ts x = true) := Lib.hid (fun x hx => by
                rcases List.mem_append.1 hx with hx | hx
                · exact HSN.out x hx
                · rw [List.mem_singleton.1 hx]; exact HB.out.symm)
              go_wp2_with (first | (refine wpList_lookup_V rfl _ _ 168 4 rfl Tryz.underlying168 (.bool false) (zero_bool _) bp mp _ rfl HM6.out s rfl hss (.bool true) HGET.out ?_))
              go_roundg cnt6
              case measure => omega
              case rel => exact ⟨sn ++ [s], HR6.out, HG, HF6.out⟩
      · have HG := Lib.hid (HGO.out rfl)
        go_wp2_with fail
        go_roundg (N - 1)
        case measure => omega
        case rel => exact ⟨i + 1, by omega, rfl, rfl, by go_num, HG, HXR.out.alloc _⟩
    · obtain rfl : i = n := by omega
      have hdi : ¬ (i : Int) < (i : Int) := by omega
      have HQ := Lib.hid (guard_none (a := a) (xs := xs) (fun j hj => H.out j (by have := HN.out; omega) hj))
      go_wp2_with fail
      go_ret2
      exact ⟨HX.out, .inr ⟨HQ.out, rfl⟩⟩
end Go.Proofs.YtmmmdinncmbjkaaGreat
