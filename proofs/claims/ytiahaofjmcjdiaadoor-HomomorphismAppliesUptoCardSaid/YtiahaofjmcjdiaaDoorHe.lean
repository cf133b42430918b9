/- Contract: Find's closure that assigns images, by induction on the variables left. -/
import Derived.Test.YtiahaofjmcjdiaaDoorHd
namespace Go.Proofs.YtiahaofjmcjdiaaDoor
open Go.RowKit Go.Maps

/-- delete(m, k). -/
theorem wpList_delete_V {w : World} {ops : Array Oper} {rest : List Oper} {o : Oper} {a : Act} {Q : Exit → Act → World → Prop} (hg : o.guard = none) (m x : Operand) (t e : TypeId) (hop : o.op = Op.call { callee := Callee.builtin Builtin.delete, args := #[m, x], argTypes := #[t, 9] })
    (ht : Tryd.prog.underlying t = some (.map 9 e)) (b n : Nat) (f : ByteArray → Option Value)
    (hm : a.eval m = .map (some b)) (hown : MapV w b n f) (s : ByteArray) (hx : a.eval x = .string s) (hs : s.size ≤ maxLen)
    (hK : ∀ w', MapV w' b n (updV f s none) → w.grownBy w' (some b) → wpList Tryd.prog ops Q rest (a.put o.dst (.tuple #[])) w') : wpList Tryd.prog ops Q (o :: rest) a w := by
  obtain ⟨D, hD, hti, hat, hhas⟩ := hown
  refine wpList_delete_own w hg m x t 9 hop e law_str ht Rv b n D hm hD (.string s) (.string s.data.toList) hx (keyOf_str s hs) (fun w' h1 h2 => hK w' ⟨_, h1, hti.del _, fun u zd => ?_, fun u => ?_⟩ h2.grown)
  · by_cases e : u = s
    · subst e; rw [atKey_del_same]; simp [updV]
    · rw [atKey_del_other (key_ne e), hat u zd]; simp [updV, e]
  · by_cases e : u = s
    · subst e; rw [has_del_same]; simp [updV]
    · rw [has_del_other (key_ne e), hhas u]; simp [updV, e]

def updT (im : ByteArray → Option Tm) (v : ByteArray) (o : Option Tm) : ByteArray → Option Tm := fun s => if s = v then o else im s
theorem imF_upd (im : ByteArray → Option Tm) (v : ByteArray) (o : Option Tm) : imF (updT im v o) = updV (imF im) v (o.map Tm.val) := by
  funext s; unfold imF updT updV; split <;> rfl
theorem updT_twice (im : ByteArray → Option Tm) (v : ByteArray) (o p : Option Tm) : updT (updT im v o) v p = updT im v p := by
  funext s; unfold updT; split <;> rfl
theorem updT_none {im : ByteArray → Option Tm} {v : ByteArray} (h : im v = none) : updT im v none = im := by
  funext s; unfold updT; split
  · rename_i e; rw [e, h]
  · rfl
/-- The term that is a variable. -/
abbrev varT (v : ByteArray) : Tm := ⟨v, 0, 0, ⟨#[]⟩⟩
/-- The search: the first candidate that is possible and can be gone on from. -/
def asg (P : (ByteArray → Option Tm) → ByteArray → Bool) (pin : ByteArray → Bool) (cs : List Tm) : List ByteArray → (ByteArray → Option Tm) → Option (ByteArray → Option Tm)
  | [], im => some im
  | v :: vs, im => cs.findSome? (fun t => if pin v = true ∧ t ≠ varT v then none else if P (updT im v (some t)) v = true then asg P pin cs vs (updT im v (some t)) else none)
def pinF (pin : ByteArray → Bool) : ByteArray → Option Value := fun s => if pin s = true then some (.bool true) else none
/-- How many stores into the map at most. -/
def stores (c : Nat) : Nat → Nat
  | 0 => 0
  | k + 1 => c * (1 + stores c k)

/-- The blocks of what the closures have captured. -/
structure Cap where
  (gF gT gI gV gC gP gPo gAs bm bp : Nat)
structure FE (w : World) (k : Cap) (xs ys : List At) (vs : List ByteArray) (cs : List Tm) (pin : ByteArray → Bool) : Prop where
  fr' : ∃ sv sc, Bk w k.gF 25 [sv, sc] ∧ Ats (fun j => j ≠ k.bm) w sv xs
  to' : ∃ sv sc, Bk w k.gT 25 [sv, sc] ∧ Ats (fun j => j ≠ k.bm) w sv ys
  img : Bk w k.gI 68 [.map (some k.bm)]
  vars : ∃ A c, Bk w k.gV 26 [.slice A vs.length c] ∧ vs.length ≤ c ∧ Cl (fun j => j ≠ k.bm) w A (vs.map Sv)
  cand : ∃ A c, Bk w k.gC 33 [.slice A cs.length c] ∧ cs.length ≤ c ∧ Cl (fun j => j ≠ k.bm) w A (tcells cs)
  pins : Bk w k.gP 66 [.map (some k.bp)] ∧ ∃ np, MapV w k.bp np (pinF pin)
  poss : Bk w k.gPo 73 [.func (.func 26) #[] #[.pointer (some ⟨k.gF, 0, none⟩), .pointer (some ⟨k.gT, 0, none⟩), .pointer (some ⟨k.gI, 0, none⟩)]]
  asn : Bk w k.gAs 74 [.func (.func 31) #[] #[.pointer (some ⟨k.gV, 0, none⟩), .pointer (some ⟨k.gC, 0, none⟩), .pointer (some ⟨k.gP, 0, none⟩), .pointer (some ⟨k.gI, 0, none⟩), .pointer (some ⟨k.gPo, 0, none⟩), .pointer (some ⟨k.gAs, 0, none⟩)]]
  nbp : k.bp ≠ k.bm
theorem FE.fr {w w' : World} {k : Cap} {xs ys : List At} {vs : List ByteArray} {cs : List Tm} {pin : ByteArray → Bool} {n : Nat} {f : ByteArray → Option Value} (h : FE w k xs ys vs cs pin) (hm : MapV w k.bm n f) (hf : Fr (fun j => j = k.bm) w w') : FE w' k xs ys vs cs pin := by
  have hb : ∀ {g : Nat} {t : TypeId} {l : List Value}, Bk w g t l → Bk w' g t l := fun hk => hk.fr hf (hm.ne hk)
  obtain ⟨sv, sc, h1, h2⟩ := h.fr'
  obtain ⟨sv', sc', h3, h4⟩ := h.to'
  obtain ⟨A, c, h5, h6, h7⟩ := h.vars
  obtain ⟨A', c', h8, h9, h10⟩ := h.cand
  obtain ⟨h11, np, h12⟩ := h.pins
  exact ⟨⟨sv, sc, hb h1, h2.fr hf (fun k hk e => hk e)⟩, ⟨sv', sc', hb h3, h4.fr hf (fun k hk e => hk e)⟩, hb h.img, ⟨A, c, hb h5, h6, h7.fr hf (fun k hk e => hk e)⟩, ⟨A', c', hb h8, h9, h10.fr hf (fun k hk e => hk e)⟩, ⟨hb h11, np, h12.fr hf h.nbp⟩, hb h.poss, hb h.asn, h.nbp⟩

/-- What assign leaves. -/
def AsgPost (k : Cap) (n : Nat) (im : ByteArray → Option Tm) (R : Option (ByteArray → Option Tm)) (m : Nat) (w : World) (e : Ending) (w' : World) : Prop :=
  Fr (fun j => j = k.bm) w w' ∧ match R with
    | some im' => e = .returned (.bool true) ∧ ∃ n', MapV w' k.bm n' (imF im')
    | none => e = .returned (.bool false) ∧ ∃ n', n' ≤ n + m ∧ MapV w' k.bm n' (imF im)

theorem find_first {α β : Type} {f : α → Option β} {l : List α} {j : Nat} {b : β} (hj : j < l.length) (h : f l[j] = some b) (hn : ∀ i (hi : i < l.length), i < j → f l[i] = none) : l.findSome? f = some b := by
  induction l generalizing j with
  | nil => simp at hj
  | cons a l ih =>
    rcases j with _ | j
    · simp only [List.getElem_cons_zero] at h; simp [List.findSome?_cons, h]
    · have h0 : f a = none := hn 0 (by simp) (by omega)
      rw [List.findSome?_cons, h0]
      exact ih (j := j) (by simpa using hj) (by simpa using h) (fun i hi hij => by have := hn (i + 1) (by simp; omega) (by omega); simpa using this)
theorem find_none {α β : Type} {f : α → Option β} {l : List α} (hn : ∀ i (hi : i < l.length), f l[i] = none) : l.findSome? f = none :=
  List.findSome?_eq_none_iff.2 (fun x hx => by obtain ⟨i, hi, rfl⟩ := List.getElem_of_mem hx; exact hn i hi)

/-- After j candidates. -/
def AsI (k : Cap) (w : World) (im : ByteArray → Option Tm) (v : ByteArray) (f : Tm → Option (ByteArray → Option Tm)) (cs : List Tm) (n sn j : Nat) (wr : World) : Prop :=
  ∃ (m : Nat) (o : Option Tm), (∀ l (h : l < cs.length), l < j → f cs[l] = none) ∧ Fr (fun b => b = k.bm) w wr ∧ MapV wr k.bm m (imF (updT im v o)) ∧ m ≤ n + j * (1 + sn)

set_option maxRecDepth 20000 in
set_option maxHeartbeats 1600000 in
theorem assign_any {k : Cap} {xs ys : List At} {vs : List ByteArray} {cs : List Tm} {pin : ByteArray → Bool} (hbx : Bd xs) (hby : Bd ys) (hcs : cs.length ≤ 1000) (hvl : vs.length ≤ 1000) (hvs : ∀ v ∈ vs, v.size ≤ maxLen) :
    ∀ (rest : List ByteArray) (i n : Nat) (im : ByteArray → Option Tm) (w : World), vs.drop i = rest → i ≤ vs.length → FE w k xs ys vs cs pin → MapV w k.bm n (imF im) → (∀ v ∈ rest, im v = none) → rest.Nodup → n + stores cs.length rest.length ≤ 1000000000000000000 →
    Calls Tryd.prog 31 #[.int .i64 (i : Int), .pointer (some ⟨k.gV, 0, none⟩), .pointer (some ⟨k.gC, 0, none⟩), .pointer (some ⟨k.gP, 0, none⟩), .pointer (some ⟨k.gI, 0, none⟩), .pointer (some ⟨k.gPo, 0, none⟩), .pointer (some ⟨k.gAs, 0, none⟩)] w
      (AsgPost k n im (asg (fun im v => possB im xs ys v) pin cs rest im) (stores cs.length rest.length) w) := by
  intro rest
  induction rest with
  | nil =>
    intro i n im w hd hi hfe hm _ _ _
    have hil : i = vs.length := by have := List.drop_eq_nil_iff.1 hd; omega
    obtain ⟨A, c, kv, hc, -⟩ := hfe.vars
    have a0 := kv.cell (i := 0) (by simp)
    simp only [List.getElem_cons_zero] at a0
    rw [← hil] at a0
    have HM := Lib.hid hm
    clear hd hi hfe hm kv hc hvs hbx hby
    go_enter Tryd.func31, Tryd.ntmps31
    go_wp2_with fail
    go_ret
    exact ⟨Fr.refl _ _, rfl, n, HM.out⟩
  | cons v rest ih =>
    intro i n im w hd hi hfe hm hnone hnd hst
    have hiv : i < vs.length := by
      rcases Nat.lt_or_ge i vs.length with h | h
      · exact h
      · rw [List.drop_eq_nil_of_le h] at hd; cases hd
    have hvi : vs[i] = v ∧ vs.drop (i + 1) = rest := by
      rw [List.drop_eq_getElem_cons hiv] at hd
      injection hd with h1 h2
      exact ⟨h1, h2⟩
    obtain ⟨sn, hsn⟩ : ∃ sn, sn = stores cs.length rest.length := ⟨_, rfl⟩
    have hst2 : n + cs.length * (1 + sn) ≤ 1000000000000000000 := by rw [hsn]; exact hst
    obtain ⟨f, hf⟩ : ∃ f, f = fun t => if pin v = true ∧ t ≠ varT v then none else if possB (updT im v (some t)) xs ys v = true then asg (fun im v => possB im xs ys v) pin cs rest (updT im v (some t)) else none := ⟨_, rfl⟩
    have hR : asg (fun im v => possB im xs ys v) pin cs (v :: rest) im = cs.findSome? f := by rw [hf]; rfl
    have hv0 : im v = none := hnone v (by simp)
    have hsv : v.size ≤ maxLen := hvs v (by rw [← hvi.1]; exact List.getElem_mem hiv)
    have hS : stores cs.length (v :: rest).length = cs.length * (1 + sn) := by rw [hsn]; rfl
    rw [hR, hS]
    have HR := Lib.hid hf; have HSN := Lib.hid hsn; have HVI := Lib.hid hvi; have HND := Lib.hid hnd; have HNONE := Lib.hid hnone; have HV0 := Lib.hid hv0
    obtain ⟨A, c, kv, hc, hclv⟩ := hfe.vars
    obtain ⟨Ac, cc, kc, hcc, hclc⟩ := hfe.cand
    have a0 := kv.cell (i := 0) (by simp)
    have a1 := kc.cell (i := 0) (by simp)
    simp only [List.getElem_cons_zero] at a0 a1
    obtain ⟨ad, rfl, -, a2⟩ := hclv.at' (j := i) (x := .string v) (by simp [hiv, hvi.1])
    have HFE := Lib.hid hfe; have HM := Lib.hid hm; have HCLC := Lib.hid hclc; have HIH := Lib.hid ih; have HBX := Lib.hid hbx; have HBY := Lib.hid hby
    obtain ⟨nv, hnv⟩ : ∃ nv, nv = vs.length := ⟨_, rfl⟩
    obtain ⟨nc, hnc⟩ : ∃ nc, nc = cs.length := ⟨_, rfl⟩
    rw [← hnv] at a0 hc hvl hiv
    rw [← hnc] at a1 hcc hcs hst2 ⊢
    have HNV := Lib.hid hnv; have HNC := Lib.hid hnc
    have j1 : (0 : Int) ≤ (i : Int) := by omega
    have j2 : (i : Int) < (nv : Int) := by omega
    have j3 : ((i : Int) == (nv : Int)) = false := beq_false_of_ne (by omega)
    clear hd hi hfe hm hnone hnd hst hvs hbx hby ih hf hR hvi hsn hv0 hS kv kc hclv hclc hnv hnc
    go_enter Tryd.func31, Tryd.ntmps31
    go_wp2_with fail
    clear a0 a1 a2 j3
    go_loopw [22] (fun q wr => ∃ j : Nat, j ≤ nc ∧ q = .int .i64 (j : Int) ∧ AsI k w im v f cs n sn j wr) (fun q _ => nc - (intOf q).toNat)
    case atStart => exact ⟨0, Nat.zero_le _, rfl, n, none, fun _ _ h => absurd h (by omega), Fr.refl _ _, by rw [updT_none HV0.out]; exact HM.out, by omega⟩
    case round =>
      obtain ⟨j, hj, rfl, m, o, hnn, hfr, hmv, hmb⟩ := hrel
      have HNN := Lib.hid hnn; have HFR := Lib.hid hfr; have HMV := Lib.hid hmv; have HMB := Lib.hid hmb
      clear hnn
      by_cases hlt : j < nc
      · have k1 : (0 : Int) ≤ (j : Int) := by omega
        have k2 : (j : Int) < (nc : Int) := by omega
        have hjc : j < cs.length := by have := HNC.out; omega
        obtain ⟨ad2, rfl, hFa, d0, d1, d2, d3⟩ := HCLC.out.term (i := j) hjc
        replace d0 := hfr.cell d0 (by rw [block_add]; exact hFa)
        replace d1 := hfr.cell d1 (by simp only [block_add]; exact hFa)
        replace d2 := hfr.cell d2 (by simp only [block_add]; exact hFa)
        replace d3 := hfr.cell d3 (by simp only [block_add]; exact hFa)
        obtain ⟨x, hx⟩ : ∃ x, x = cs[j] := ⟨_, rfl⟩
        rw [← hx] at d0 d1 d2 d3
        have HX := Lib.hid hx
        have hfe := HFE.out.fr HM.out hfr
        have hx1 : Ext wr (wr.alloc (.cells #[.string x.var, .int .i64 x.kind, .int .i64 x.int, .string x.str] 47)) := (Ext.refl wr).alloc _
        have kt := Bk.new wr 47 [.string x.var, .int .i64 x.kind, .int .i64 x.int, .string x.str]
        change Bk (wr.alloc (.cells #[.string x.var, .int .i64 x.kind, .int .i64 x.int, .string x.str] 47)) _ _ _ at kt
        have hfe1 := hfe.fr hmv (hx1.fr _)
        have hmv1 := hmv.ext hx1
        obtain ⟨kp, np, hpm⟩ := hfe1.pins
        have p0 := kp.cell (i := 0) (by simp)
        have p1 := hfe1.img.cell (i := 0) (by simp)
        simp only [List.getElem_cons_zero] at p0 p1
        have HFE1 := Lib.hid hfe1; have HMV1 := Lib.hid hmv1; have HPM := Lib.hid hpm; have HKT := Lib.hid kt; have HX1 := Lib.hid hx1
        have hnext : f x = none → ∀ l (h : l < cs.length), l < j + 1 → f cs[l] = none := fun hfx l h hl => by
          rcases Nat.lt_or_ge l j with h2 | h2
          · exact HNN.out l h h2
          · obtain rfl : l = j := by omega
            rw [← HX.out]; exact hfx
        have HNX := Lib.hid hnext
        have hmm : m < maxLen := by
          have : j * (1 + sn) ≤ nc * (1 + sn) := Nat.mul_le_mul_right _ (by omega)
          simp only [maxLen]; omega
        clear hnext hx hfe hfe1 hmv1 kp hpm hfr hmv hmb hx1
        go_upto_region 7 with fail
        have s0 := kt.cell (i := 0) (by simp)
        have s1 := kt.cell (i := 1) (by simp)
        have s2 := kt.cell (i := 2) (by simp)
        have s3 := kt.cell (i := 3) (by simp)
        simp only [List.getElem_cons_zero, List.getElem_cons_succ] at s0 s1 s2 s3
        generalize (wr.alloc (.cells #[.string x.var, .int .i64 x.kind, .int .i64 x.int, .string x.str] 47)) = wy at *
        clear kt d0 d1 d2 d3
        by_cases hpin : pin v = true
        · by_cases hxv : x = varT v
          · have HGO0 : Hid (¬ (pin v = true ∧ x ≠ varT v)) := Lib.hid (fun h => h.2 hxv)
            have hpv : (pinF pin v).getD (.bool false) = .bool true := by rw [pinF, if_pos hpin]; rfl
            have HPV := Lib.hid hpv
            have HXV := Lib.hid hxv
            subst hxv
            clear hpin hpv
            have hgo : f (varT v) = if possB (updT im v (some (varT v))) xs ys v = true then asg (fun im v => possB im xs ys v) pin cs rest (updT im v (some (varT v))) else none := by rw [HR.out]; simp only; rw [if_neg HGO0.out]
            have HGO := Lib.hid hgo
            clear hgo
            go_wp2_with (first
              | (at_lookup; refine wpList_lookup_V rfl _ _ 66 4 rfl Tryd.underlying66 (.bool false) (zero_bool _) k.bp np (pinF pin) rfl HPM.out v rfl hsv (.bool true) HPV.out ?_)
              | (at_mapUpdate; refine wpList_update_V rfl _ _ _ 68 47 rfl Tryd.underlying68 k.bm m (imF (updT im v o)) rfl HMV1.out hmm v (.agg #[.string v, .int .i64 0, .int .i64 0, .string ⟨#[]⟩]) rfl hsv rfl ?_; intro w3 hm3 hg3; have hm3' : MapV w3 k.bm (m + 1) (imF (updT im v (some (varT v)))) := (by have e := imF_upd (updT im v o) v (some (varT v)); rw [updT_twice] at e; rw [e]; exact hm3); have hf3 : Fr (fun b => b = k.bm) wy w3 := (grown_fr hg3).mono (fun b _ e => by injection e with e; exact e.symm); have hfe3 := HFE1.out.fr HMV1.out hf3; have q0 := hfe3.poss.cell (i := 0) (by simp); simp only [List.getElem_cons_zero] at q0; have HM3 := Lib.hid hm3'; have HF3 := Lib.hid hf3; have HFE3 := Lib.hid hfe3; clear hm3 hg3 hm3' hf3 hfe3))
            obtain ⟨svF, scF, kF, hF⟩ := HFE3.out.fr'
            obtain ⟨svT, scT, kT, hT⟩ := HFE3.out.to'
            refine (find1 (v := v) hF hT HBX.out HBY.out kF kT HFE3.out.img HM3.out).mono ?_
            rintro e w4 ⟨y, rfl, he4, rfl⟩
            have hfe4 := HFE3.out.fr HM3.out (he4.fr _)
            have HM4 := Lib.hid (HM3.out.ext he4)
            have q1 := hfe4.asn.cell (i := 0) (by simp)
            simp only [List.getElem_cons_zero] at q1
            have HFE4 := Lib.hid hfe4
            have HF4 := Lib.hid ((((HFR.out.ext HX1.out).trans HF3.out)).ext he4)
            clear kF kT hF hT he4 hfe4 q0 s0 s1 s2 s3 p0 p1
            have hmb2 : m + 1 ≤ n + (j + 1) * (1 + sn) := by have := HMB.out; rw [Nat.succ_mul]; omega
            have hmb3 : m + 1 + sn ≤ n + (j + 1) * (1 + sn) := by have := HMB.out; rw [Nat.succ_mul]; omega
            have hmb4 : m + 1 + sn ≤ 1000000000000000000 := by
              have : (j + 1) * (1 + sn) ≤ nc * (1 + sn) := Nat.mul_le_mul_right _ (by omega)
              omega
            rcases hpo : possB (updT im v (some (varT v))) xs ys v with _ | _
            · have HF0 : Hid (f (varT v) = none) := Lib.hid (by rw [HGO.out, hpo]; simp)
              clear hpo q1
              go_wp2_with fail
              go_roundw
              case rel =>
                first
                  | exact ⟨j + 1, by omega, by go_num, m + 1, some (varT v), HNX.out HF0.out, HF4.out, HM4.out, hmb2⟩
                  | exact ⟨_, _, _, ⟨j + 1, by omega, rfl, m + 1, some (varT v), HNX.out HF0.out, HF4.out, HM4.out, hmb2⟩, rfl, rfl, by go_num⟩
              case measure => simp [intOf]; omega
            · have HFX : Hid (f (varT v) = asg (fun im v => possB im xs ys v) pin cs rest (updT im v (some (varT v)))) := Lib.hid (by rw [HGO.out, hpo]; simp)
              clear hpo
              have hnone2 : ∀ u ∈ rest, updT im v (some (varT v)) u = none := fun u hu => by
                have hne : u ≠ v := fun e => (List.nodup_cons.1 HND.out).1 (e ▸ hu)
                rw [updT, if_neg hne]
                exact HNONE.out u (List.mem_cons_of_mem _ hu)
              have HCALL := Lib.hid (HIH.out (i + 1) (m + 1) (updT im v (some (varT v))) w4 HVI.out.2 (by have := HNV.out; omega) HFE4.out HM4.out hnone2 (List.nodup_cons.1 HND.out).2 (by rw [← HSN.out]; exact hmb4))
              rw [← HSN.out] at HCALL
              have hcast : ((i + 1 : Nat) : Int) = (i : Int) + 1 := by omega
              rw [hcast] at HCALL
              clear hnone2 hcast
              go_wp2_with fail
              refine HCALL.out.mono ?_
              intro e w5 hpost
              obtain ⟨hf5, hpost⟩ := hpost
              have HF5 := Lib.hid (HF4.out.trans hf5)
              clear hf5 q1
              rcases has : asg (fun im v => possB im xs ys v) pin cs rest (updT im v (some (varT v))) with _ | im'
              · rw [has] at hpost
                obtain ⟨rfl, n5, hn5, hm5⟩ := hpost
                have HF0 : Hid (f (varT v) = none) := Lib.hid (by rw [HFX.out, has])
                have HM5 := Lib.hid hm5; have HN5 := Lib.hid hn5
                clear has hm5 hn5
                go_wp2_with fail
                go_roundw
                case rel =>
                  first
                    | exact ⟨j + 1, by omega, by go_num, n5, some (varT v), HNX.out HF0.out, HF5.out, HM5.out, Nat.le_trans HN5.out hmb3⟩
                    | exact ⟨_, _, _, ⟨j + 1, by omega, rfl, n5, some (varT v), HNX.out HF0.out, HF5.out, HM5.out, Nat.le_trans HN5.out hmb3⟩, rfl, rfl, by go_num⟩
                case measure => simp [intOf]; omega
              · rw [has] at hpost
                obtain ⟨rfl, n5, hm5⟩ := hpost
                have HF0 : Hid (f (varT v) = some im') := Lib.hid (by rw [HFX.out, has])
                have HM5 := Lib.hid hm5
                clear has hm5
                go_wp2_with fail
                go_ret
                refine ⟨HF5.out, ?_⟩
                rw [find_first hjc (by rw [← HX.out]; exact HF0.out) HNN.out]
                exact ⟨rfl, n5, HM5.out⟩
          · have HF0 : Hid (f x = none) := Lib.hid (by rw [HR.out]; simp only; rw [if_pos ⟨hpin, hxv⟩])
            have hpv : (pinF pin v).getD (.bool false) = .bool true := by rw [pinF, if_pos hpin]; rfl
            have HPV := Lib.hid hpv
            rcases Tm.ne4 (x := varT v) (t := x) (fun e => hxv e.symm) with h1 | ⟨h1, h2 | ⟨h2, h3 | ⟨h3, h4⟩⟩⟩
            all_goals
              try (rw [show (varT v).str.toList = [] from nil_toList] at h4)
              clear hxv hpin hpv
              go_wp2_with (first | (at_lookup; refine wpList_lookup_V rfl _ _ 66 4 rfl Tryd.underlying66 (.bool false) (zero_bool _) k.bp np (pinF pin) rfl HPM.out v rfl hsv (.bool true) HPV.out ?_))
              go_roundw
              case rel => exact ⟨j + 1, by omega, by go_num, m, o, HNX.out HF0.out, HFR.out.ext HX1.out, HMV1.out, by have := HMB.out; rw [Nat.succ_mul]; omega⟩
              case measure => simp [intOf]; omega
        · have HGO0 : Hid (¬ (pin v = true ∧ x ≠ varT v)) := Lib.hid (fun h => hpin h.1)
          have hpv : (pinF pin v).getD (.bool false) = .bool false := by rw [pinF, if_neg hpin]; rfl
          have HPV := Lib.hid hpv
          clear hpin hpv
          have hgo : f x = if possB (updT im v (some x)) xs ys v = true then asg (fun im v => possB im xs ys v) pin cs rest (updT im v (some x)) else none := by rw [HR.out]; simp only; rw [if_neg HGO0.out]
          have HGO := Lib.hid hgo
          clear hgo
          go_wp2_with (first
            | (at_lookup; refine wpList_lookup_V rfl _ _ 66 4 rfl Tryd.underlying66 (.bool false) (zero_bool _) k.bp np (pinF pin) rfl HPM.out v rfl hsv (.bool false) HPV.out ?_)
            | (at_mapUpdate; refine wpList_update_V rfl _ _ _ 68 47 rfl Tryd.underlying68 k.bm m (imF (updT im v o)) rfl HMV1.out hmm v (.agg #[.string x.var, .int .i64 x.kind, .int .i64 x.int, .string x.str]) rfl hsv rfl ?_; intro w3 hm3 hg3; have hm3' : MapV w3 k.bm (m + 1) (imF (updT im v (some x))) := (by have e := imF_upd (updT im v o) v (some x); rw [updT_twice] at e; rw [e]; exact hm3); have hf3 : Fr (fun b => b = k.bm) wy w3 := (grown_fr hg3).mono (fun b _ e => by injection e with e; exact e.symm); have hfe3 := HFE1.out.fr HMV1.out hf3; have q0 := hfe3.poss.cell (i := 0) (by simp); simp only [List.getElem_cons_zero] at q0; have HM3 := Lib.hid hm3'; have HF3 := Lib.hid hf3; have HFE3 := Lib.hid hfe3; clear hm3 hg3 hm3' hf3 hfe3))
          obtain ⟨svF, scF, kF, hF⟩ := HFE3.out.fr'
          obtain ⟨svT, scT, kT, hT⟩ := HFE3.out.to'
          refine (find1 (v := v) hF hT HBX.out HBY.out kF kT HFE3.out.img HM3.out).mono ?_
          rintro e w4 ⟨y, rfl, he4, rfl⟩
          have hfe4 := HFE3.out.fr HM3.out (he4.fr _)
          have HM4 := Lib.hid (HM3.out.ext he4)
          have q1 := hfe4.asn.cell (i := 0) (by simp)
          simp only [List.getElem_cons_zero] at q1
          have HFE4 := Lib.hid hfe4
          have HF4 := Lib.hid ((((HFR.out.ext HX1.out).trans HF3.out)).ext he4)
          clear kF kT hF hT he4 hfe4 q0 s0 s1 s2 s3 p0 p1
          have hmb2 : m + 1 ≤ n + (j + 1) * (1 + sn) := by have := HMB.out; rw [Nat.succ_mul]; omega
          have hmb3 : m + 1 + sn ≤ n + (j + 1) * (1 + sn) := by have := HMB.out; rw [Nat.succ_mul]; omega
          have hmb4 : m + 1 + sn ≤ 1000000000000000000 := by
            have : (j + 1) * (1 + sn) ≤ nc * (1 + sn) := Nat.mul_le_mul_right _ (by omega)
            omega
          rcases hpo : possB (updT im v (some x)) xs ys v with _ | _
          · have HF0 : Hid (f x = none) := Lib.hid (by rw [HGO.out, hpo]; simp)
            clear hpo q1
            go_wp2_with fail
            go_roundw
            case rel =>
              first
                | exact ⟨j + 1, by omega, by go_num, m + 1, some x, HNX.out HF0.out, HF4.out, HM4.out, hmb2⟩
                | exact ⟨_, _, _, ⟨j + 1, by omega, rfl, m + 1, some x, HNX.out HF0.out, HF4.out, HM4.out, hmb2⟩, rfl, rfl, by go_num⟩
            case measure => simp [intOf]; omega
          · have HFX : Hid (f x = asg (fun im v => possB im xs ys v) pin cs rest (updT im v (some x))) := Lib.hid (by rw [HGO.out, hpo]; simp)
            clear hpo
            have hnone2 : ∀ u ∈ rest, updT im v (some x) u = none := fun u hu => by
              have hne : u ≠ v := fun e => (List.nodup_cons.1 HND.out).1 (e ▸ hu)
              rw [updT, if_neg hne]
              exact HNONE.out u (List.mem_cons_of_mem _ hu)
            have HCALL := Lib.hid (HIH.out (i + 1) (m + 1) (updT im v (some x)) w4 HVI.out.2 (by have := HNV.out; omega) HFE4.out HM4.out hnone2 (List.nodup_cons.1 HND.out).2 (by rw [← HSN.out]; exact hmb4))
            rw [← HSN.out] at HCALL
            have hcast : ((i + 1 : Nat) : Int) = (i : Int) + 1 := by omega
            rw [hcast] at HCALL
            clear hnone2 hcast
            go_wp2_with fail
            refine HCALL.out.mono ?_
            intro e w5 hpost
            obtain ⟨hf5, hpost⟩ := hpost
            have HF5 := Lib.hid (HF4.out.trans hf5)
            clear hf5 q1
            rcases has : asg (fun im v => possB im xs ys v) pin cs rest (updT im v (some x)) with _ | im'
            · rw [has] at hpost
              obtain ⟨rfl, n5, hn5, hm5⟩ := hpost
              have HF0 : Hid (f x = none) := Lib.hid (by rw [HFX.out, has])
              have HM5 := Lib.hid hm5; have HN5 := Lib.hid hn5
              clear has hm5 hn5
              go_wp2_with fail
              go_roundw
              case rel =>
                first
                  | exact ⟨j + 1, by omega, by go_num, n5, some x, HNX.out HF0.out, HF5.out, HM5.out, Nat.le_trans HN5.out hmb3⟩
                  | exact ⟨_, _, _, ⟨j + 1, by omega, rfl, n5, some x, HNX.out HF0.out, HF5.out, HM5.out, Nat.le_trans HN5.out hmb3⟩, rfl, rfl, by go_num⟩
              case measure => simp [intOf]; omega
            · rw [has] at hpost
              obtain ⟨rfl, n5, hm5⟩ := hpost
              have HF0 : Hid (f x = some im') := Lib.hid (by rw [HFX.out, has])
              have HM5 := Lib.hid hm5
              clear has hm5
              go_wp2_with fail
              go_ret
              refine ⟨HF5.out, ?_⟩
              rw [find_first hjc (by rw [← HX.out]; exact HF0.out) HNN.out]
              exact ⟨rfl, n5, HM5.out⟩
      · obtain rfl : j = nc := by omega
        have hdn : ¬ (j : Int) < (j : Int) := by omega
        have hfe := HFE.out.fr HM.out hfr
        have p1 := hfe.img.cell (i := 0) (by simp)
        simp only [List.getElem_cons_zero] at p1
        clear hfe hfr hmv hmb
        go_wp2_with (first | (at_delete; refine wpList_delete_V rfl _ _ 68 47 rfl Tryd.underlying68 k.bm m (imF (updT im v o)) rfl HMV.out v rfl hsv ?_; intro w3 hm3 hg3; have hm3' : MapV w3 k.bm m (imF im) := (by have e := imF_upd (updT im v o) v none; rw [updT_twice, updT_none HV0.out] at e; rw [e]; exact hm3); have HM3 := Lib.hid hm3'; have HF3 := Lib.hid (HFR.out.grown hg3 (fun b e => .inl (by injection e with e; exact e.symm))); clear hm3 hg3 hm3'))
        go_ret
        refine ⟨HF3.out, ?_⟩
        rw [find_none (fun l h => HNN.out l h (by have := HNC.out; omega))]
        exact ⟨rfl, m, HMB.out, HM3.out⟩
end Go.Proofs.YtiahaofjmcjdiaaDoor
