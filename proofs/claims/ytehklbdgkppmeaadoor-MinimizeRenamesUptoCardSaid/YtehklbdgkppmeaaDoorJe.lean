/- Words for rows of rules and queries; contracts: the closure of Contained, slices.IndexFunc at rules. -/
import Derived.Test.YtehklbdgkppmeaaDoorJd
namespace Go.Proofs.YtehklbdgkppmeaaDoor
open Go.RowKit Go.Maps

def pcat (ps : List (Value × Value)) : List Value := ps.flatMap (fun p => [p.1, p.2])
theorem pcat_length (ps : List (Value × Value)) : (pcat ps).length = ps.length * 2 := by
  induction ps with
  | nil => rfl
  | cons p ps ih => simp only [pcat, List.flatMap_cons, List.length_append, List.length_cons, List.length_nil] at ih ⊢; omega
theorem pcat_snoc (ps : List (Value × Value)) (x y : Value) : pcat (ps ++ [(x, y)]) = pcat ps ++ [x, y] := by simp [pcat]
theorem pcat_get : ∀ {ps : List (Value × Value)} {i : Nat} (hi : i < ps.length), (pcat ps)[i * 2]? = some ps[i].1 ∧ (pcat ps)[i * 2 + 1]? = some ps[i].2
  | p :: ps, 0, _ => ⟨rfl, rfl⟩
  | p :: ps, i + 1, hi => by
    obtain ⟨h1, h2⟩ := pcat_get (ps := ps) (i := i) (by simpa using hi)
    rw [show (i + 1) * 2 = i * 2 + 1 + 1 by omega]
    exact ⟨h1, h2⟩
theorem Cl.rule {F : Nat → Prop} {w : World} {A : Option Addr} {ps : List (Value × Value)} (h : Cl F w A (pcat ps)) {i : Nat} (hi : i < ps.length) : ∃ ad, A = some ad ∧ F ad.block ∧ w.cell? (ad.add (i * 2)) = some ps[i].1 ∧ w.cell? ⟨(ad.add (i * 2)).block, (ad.add (i * 2)).off + 1, none⟩ = some ps[i].2 := by
  obtain ⟨g0, g1⟩ := pcat_get hi
  obtain ⟨ad, h1, h2, c0⟩ := h.at' g0
  obtain ⟨ad1, e1, _, c1⟩ := h.at' g1
  subst h1
  injection e1 with e1
  subst e1
  rw [show i * 2 + 1 = i * 2 + (0 + 1) by omega, add_succ'] at c1
  exact ⟨ad, rfl, h2, c0, c1⟩
/-- A row of rules of its own; what the rules hold lies elsewhere. -/
def RuV (w : World) (base : Nat) (v : Value) (n : Nat) (rs : List Ru) (ps : List (Value × Value)) : Prop :=
  ps.length = rs.length ∧ w.ownsRow base 25 2 v n (pcat ps) ∧ ∀ i (_ : i < rs.length) (h' : i < ps.length), ∃ B m d C e, ps[i] = (.slice B m d, .slice C rs[i].nc e) ∧ Ats (fun k => v.ownBlock ≠ some k) w (.slice B m d) rs[i].ats ∧ Cns (fun k => v.ownBlock ≠ some k) w (.slice C rs[i].nc e) rs[i].nc
theorem RuV.num {w : World} {base n : Nat} {v : Value} {rs : List Ru} {ps : List (Value × Value)} (h : RuV w base v n rs ps) : n = rs.length := by
  have := h.2.1.1
  rw [pcat_length, h.1] at this
  omega
theorem RuV.ext {w w' : World} {base n : Nat} {v : Value} {rs : List Ru} {ps : List (Value × Value)} (h : RuV w base v n rs ps) (he : Ext w w') : RuV w' base v n rs ps :=
  ⟨h.1, own_ext' h.2.1 he, fun i hi hi' => let ⟨B, m, d, C, e, h1, h2, h3⟩ := h.2.2 i hi hi'; ⟨B, m, d, C, e, h1, h2.ext he, h3.ext he⟩⟩
theorem RuV.nil (w : World) (base : Nat) : RuV w base (.slice none 0 0) 0 [] [] := ⟨rfl, World.ownsRow_nil _ _ _ _, fun i h => by simp at h⟩
theorem RuV.rus {w : World} {base n : Nat} {v : Value} {rs : List Ru} {ps : List (Value × Value)} (h : RuV w base v n rs ps) : Rus (fun _ => True) w v rs := by
  have hn := h.num
  obtain ⟨hl, hr, ht⟩ := h
  subst hn
  obtain ⟨A, c, rfl, hc, hcl⟩ := Cl.of_own hr
  refine ⟨A, c, rfl, hc, fun i hi => ?_⟩
  obtain ⟨B, m, d, C, e, h1, h2, h3⟩ := ht i hi (by omega)
  obtain ⟨ad, e1, -, c0, c1⟩ := hcl.rule (i := i) (by omega)
  rw [h1] at c0 c1
  exact ⟨ad, B, m, d, C, e, e1, trivial, c0, c1, h2.mono (fun _ _ _ => trivial), h3.mono (fun _ _ _ => trivial)⟩
theorem Cns.lt {F : Nat → Prop} {w : World} {v : Value} {n : Nat} (h : Cns F w v n) : Cns (fun k => F k ∧ k < w.heap.size) w v n := h.mono (fun k hk h => ⟨h, hk⟩)
theorem RuV.more {wr wb w9 : World} {base n : Nat} {v v9 : Value} {rs : List Ru} {ps : List (Value × Value)} {r : Ru} {B : Option Addr} {m d : Nat} {C : Option Addr} {e : Nat} (h : RuV wr base v n rs ps) (he : Ext wr wb)
    (ha : Ats (fun k => v.ownBlock ≠ some k) wb (.slice B m d) r.ats) (hc : Cns (fun k => v.ownBlock ≠ some k) wb (.slice C r.nc e) r.nc)
    (hr : w9.ownsRow base 25 2 v9 (n + 1) (pcat ps ++ [.slice B m d, .slice C r.nc e])) (hg : wb.grownBy w9 v.ownBlock) (hl : Lands wb v v9) : RuV w9 base v9 (n + 1) (rs ++ [r]) (ps ++ [(.slice B m d, .slice C r.nc e)]) := by
  obtain ⟨hln, hrow, hts⟩ := h
  have hne : ∀ k, k < wb.heap.size → v.ownBlock ≠ some k → v9.ownBlock ≠ some k := fun k hk h1 h2 => by
    rcases hl with hl | hl
    · exact h1 (hl ▸ h2)
    · rw [hl] at h2; injection h2 with h2; omega
  have hup : ∀ {u : Value} {xs : List At}, Ats (fun k => v.ownBlock ≠ some k) wb u xs → Ats (fun k => v9.ownBlock ≠ some k) w9 u xs := fun hu => (hu.mono (fun k hk h1 => And.intro h1 hk)).fr (grown_fr hg) (fun k hk e => hk.1 e) |>.mono (fun k _ hk => hne k hk.2 hk.1)
  have hup2 : ∀ {u : Value} {n : Nat}, Cns (fun k => v.ownBlock ≠ some k) wb u n → Cns (fun k => v9.ownBlock ≠ some k) w9 u n := fun hu => (hu.mono (fun k hk h1 => And.intro h1 hk)).fr (grown_fr hg) (fun k hk e => hk.1 e) |>.mono (fun k _ hk => hne k hk.2 hk.1)
  refine ⟨by simp [hln], by rw [pcat_snoc]; exact hr, fun i hi hi' => ?_⟩
  rcases Nat.lt_or_ge i rs.length with hx | hx
  · rw [List.getElem_append_left (by omega)]
    obtain ⟨B', m', d', C', e', h1, h2, h3⟩ := hts i hx (by omega)
    have e2 : (rs ++ [r])[i] = rs[i] := List.getElem_append_left hx
    rw [e2]
    exact ⟨B', m', d', C', e', h1, hup (h2.ext he), hup2 (h3.ext he)⟩
  · have e : i = rs.length := by simp at hi; omega
    subst e
    have e2 : (rs ++ [r])[rs.length] = r := by simp
    have e3 : (ps ++ [(Value.slice B m d, Value.slice C r.nc e)])[rs.length] = (Value.slice B m d, Value.slice C r.nc e) := by rw [List.getElem_append_right (by omega)]; simp [hln]
    rw [e2, e3]
    exact ⟨B, m, d, C, e, rfl, hup ha, hup2 hc⟩

/-- A slice of keys. -/
def Kys (F : Nat → Prop) (w : World) (v : Value) (n : Nat) : Prop := ∃ A c xs, v = .slice A n c ∧ n ≤ c ∧ xs.length = n * 2 ∧ Cl F w A xs ∧ (∀ u ∈ xs, u.oneCell' = true) ∧ (A = none → n = 0 ∧ c = 0)
theorem Kys.ext {F : Nat → Prop} {w w' : World} {v : Value} {n : Nat} (h : Kys F w v n) (he : Ext w w') : Kys F w' v n := let ⟨A, c, xs, h1, h2, h3, h4, h5, h6⟩ := h; ⟨A, c, xs, h1, h2, h3, h4.ext he, h5, h6⟩
theorem Kys.nil (F : Nat → Prop) (w : World) : Kys F w (.slice none 0 0) 0 := ⟨none, 0, [], rfl, Nat.le_refl _, rfl, .inl rfl, by simp, fun _ => ⟨rfl, rfl⟩⟩
theorem Kys.sl {F : Nat → Prop} {w : World} {v : Value} {n : Nat} (h : Kys F w v n) : ∃ A c, v = .slice A n c := let ⟨A, c, _, e, _⟩ := h; ⟨A, c, e⟩
structure Qr where
  hd : List ByteArray
  ag : Int
  av : ByteArray
  rs : List Ru
  no : Nat
def T1 : Nat → Prop := fun _ => True
/-- A query by its five cells. -/
structure Qc (w : World) (A : Option Addr) (c : Nat) (B : Option Addr) (d : Nat) (O : Option Addr) (co : Nat) (q : Qr) : Prop where
  hd : Strs T1 w (.slice A q.hd.length c) q.hd
  rs : Rus T1 w (.slice B q.rs.length d) q.rs
  od : Kys T1 w (.slice O q.no co) q.no
theorem Qc.ext {w w' : World} {A : Option Addr} {c : Nat} {B : Option Addr} {d : Nat} {O : Option Addr} {co : Nat} {q : Qr} (h : Qc w A c B d O co q) (he : Ext w w') : Qc w' A c B d O co q := ⟨h.hd.ext he, h.rs.ext he, h.od.ext he⟩
abbrev qcells (A : Option Addr) (n c : Nat) (ag : Int) (av : ByteArray) (B : Option Addr) (m d : Nat) (O : Option Addr) (k e : Nat) : List Value := [.slice A n c, .int .i64 ag, .string av, .slice B m d, .slice O k e]
def Qr.pure (q : Qr) : Bool := pureQ q.hd q.ag q.rs
/-- What the contracts want of a query. -/
structure QOk (q : Qr) : Prop where
  ax : ∀ r ∈ q.rs, AOk r.ats
  hs : ∀ v ∈ q.hd, v.size ≤ 1048574
  hl : q.hd.length ≤ 1000
  rl : q.rs.length ≤ 1000
theorem Qr.pure_iff {q : Qr} : q.pure = true ↔ PureQ q.hd q.ag q.rs := decide_eq_true_iff
theorem PureQ.pq {hd : List ByteArray} {ag : Int} {rs : List Ru} (h : PureQ hd ag rs) (hb : ∀ r ∈ rs, AOk r.ats) {r : Ru} (hr : r ∈ rs) : Pq r.ats := Pq.of (h.2.2.2.2 r hr).1 (hb r hr).bd
theorem PureQ.nc {hd : List ByteArray} {ag : Int} {rs : List Ru} (h : PureQ hd ag rs) {r : Ru} (hr : r ∈ rs) : r.nc = 0 := (pureL_iff.1 (h.2.2.2.2 r hr).1).2.1
theorem PureQ.noz {hd : List ByteArray} {ag : Int} {rs : List Ru} (h : PureQ hd ag rs) : (⟨#[]⟩ : ByteArray) ∉ hd := fun hz => by
  have h0 : 0 < rs.length := h.2.1
  have h1 := h.2.2.2.2 rs[0] (List.getElem_mem h0)
  obtain ⟨t, -, -, h3⟩ := varsT_iff.1 (h1.2 _ hz)
  exact h3 rfl

set_option maxRecDepth 20000 in
set_option maxHeartbeats 800000 in
/-- The closure of Contained. -/
theorem contained1 {F G : Nat → Prop} {w : World} {sv : Value} {AF : Option Addr} {ccF gr ga : Nat} {B : Option Addr} {n d : Nat} {C : Option Addr} {e : Nat} {A : Option Addr} {c : Nat} {x2 x3 x4 x5 : Value} {xs ys : List At} {fx : List ByteArray} (hF : Ats F w sv xs) (hr : Bk w gr 25 [.slice B n d, .slice C 0 e]) (hT : Ats G w (.slice B n d) ys) (ha : Bk w ga 44 [.slice A fx.length c, x2, x3, x4, x5]) (hX : Strs T1 w (.slice A fx.length c) fx) (hx : Pq xs) (hy : Pq ys) (hfx : fx.length ≤ 1000) (hfs : ∀ v ∈ fx, v.size ≤ 1048576) :
    Calls Tryd.prog 42 #[.agg #[sv, .slice AF 0 ccF], .pointer (some ⟨gr, 0, none⟩), .pointer (some ⟨ga, 0, none⟩)] w (Ret (fun x _ => x = .bool (findS xs ys fx).isSome) w) := by
  obtain ⟨A1, c1, rfl⟩ := hF.sl
  have r0 := hr.cell (i := 0) (by simp); have r1 := hr.cell (i := 1) (by simp); have a0 := ha.cell (i := 0) (by simp)
  simp only [List.getElem_cons_zero, List.getElem_cons_succ] at r0 r1 a0
  have HCALL : Hid (∀ W, Ext w W → Calls Tryd.prog 35 #[.agg #[.slice A1 xs.length c1, .slice AF 0 ccF], .agg #[.slice B n d, .slice C 0 e], .slice A fx.length c] W (Ret (fun x _ => x = .bool (findS xs ys fx).isSome) W)) := Lib.hid (fun W hW => maps_any (hF.ext hW) (hT.ext hW) (hX.ext hW) hx hy hfx hfs)
  have hx0 : Ext w (w.alloc (.cells #[.slice A1 xs.length c1, .slice AF 0 ccF] 25)) := (Ext.refl w).alloc _
  replace r0 := hx0.cell r0; replace r1 := hx0.cell r1; replace a0 := hx0.cell a0
  obtain ⟨b, hb⟩ : ∃ b, b = (findS xs ys fx).isSome := ⟨_, rfl⟩
  rw [← hb] at HCALL ⊢
  generalize fx.length = nf at *
  generalize xs.length = nx at *
  have HX0 := Lib.hid hx0
  clear hF hr hT ha hX hx hy hfs hfx hb hx0
  go_enter Tryd.func42, Tryd.ntmps42
  go_wp2_with fail
  refine (HCALL.out _ HX0.out).mono ?_
  rintro e w2 ⟨y, rfl, he2, rfl⟩
  have HX2 := Lib.hid (HX0.out.trans he2)
  clear he2
  go_wp2_with fail
  go_ret
  exact Ret.mk HX2.out rfl

/-- The first place of a hit. -/
def firstI (n : Nat) (p : Nat → Bool) : Option Nat := (List.range n).find? p
theorem firstI_some {n i : Nat} {p : Nat → Bool} (hi : i < n) (h : p i = true) (hn : ∀ j, j < i → p j = false) : firstI n p = some i := by
  unfold firstI
  rw [List.find?_eq_some_iff_getElem]
  exact ⟨h, i, by simpa using hi, by simp, fun j hj => by simp [hn j hj]⟩
theorem firstI_none {n : Nat} {p : Nat → Bool} (h : ∀ j, j < n → p j = false) : firstI n p = none := by
  unfold firstI
  rw [List.find?_eq_none]
  exact fun j hj => by simp [h j (List.mem_range.1 hj)]
def optI (o : Option Nat) : Int := match o with | some i => (i : Int) | none => -1

set_option maxRecDepth 20000 in
set_option maxHeartbeats 1600000 in
theorem index_rule {F : Nat → Prop} {w : World} {v : Value} {rs : List Ru} {g1 g2 : Nat} {p : Nat → Bool} (h : Rus F w v rs) (hl : rs.length ≤ 1048577)
    (hp : ∀ i (hi : i < rs.length) W B n d C e, Ext w W → Ats F w (.slice B n d) rs[i].ats → Calls Tryd.prog 42 #[.agg #[.slice B n d, .slice C rs[i].nc e], .pointer (some ⟨g1, 0, none⟩), .pointer (some ⟨g2, 0, none⟩)] W (Ret (fun x _ => x = .bool (p i)) W)) :
    Calls Tryd.prog 41 #[v, .func (.func 42) #[] #[.pointer (some ⟨g1, 0, none⟩), .pointer (some ⟨g2, 0, none⟩)]] w (Ret (fun x _ => x = .int .i64 (optI (firstI rs.length p))) w) := by
  obtain ⟨A, c, rfl⟩ := h.sl
  have HAT := Lib.hid h.at2
  obtain ⟨n, hn⟩ : ∃ n, n = rs.length := ⟨_, rfl⟩
  rw [← hn] at hl ⊢
  have HN := Lib.hid hn; have HP := Lib.hid hp
  clear hn hp h
  go_enter Tryd.func41, Tryd.ntmps41
  go_wp2_with fail
  go_loopw [8] (fun q wr => ∃ i : Nat, i ≤ n ∧ q = .int .i64 (i : Int) ∧ (∀ j, j < i → p j = false) ∧ Ext w wr) (fun q _ => n - (intOf q).toNat)
  case atStart => exact ⟨0, Nat.zero_le _, rfl, fun _ h => absurd h (by omega), Ext.refl _⟩
  case round =>
    obtain ⟨i, hi, rfl, hgo, hext⟩ := hrel
    have HGO := Lib.hid hgo; have HE := Lib.hid hext
    clear hgo
    by_cases hlt : i < n
    · have i1 : (0 : Int) ≤ (i : Int) := by omega
      have i2 : (i : Int) < (n : Int) := by omega
      have hix : i < rs.length := by have := HN.out; omega
      obtain ⟨ad, B, m, d, C, e, rfl, -, c0, c1, ha, -⟩ := HAT.out i hix
      replace c0 := hext.cell c0; replace c1 := hext.cell c1
      have HC := Lib.hid (HP.out i hix wr B m d C e hext ha)
      clear hext ha
      generalize rs[i] = x0 at *
      go_wp2_with fail
      refine HC.out.mono ?_
      rintro e w2 ⟨x, rfl, he2, rfl⟩
      have HE2 := Lib.hid (HE.out.trans he2)
      clear he2
      rcases hpi : p i with _ | _
      · have HPI := Lib.hid hpi
        clear hpi
        go_wp2_with fail
        go_roundw
        case rel =>
          refine ⟨i + 1, by omega, by go_num, fun j hji => ?_, HE2.out⟩
          rcases Nat.lt_or_ge j i with h | h
          · exact HGO.out j h
          · obtain rfl : j = i := by omega
            exact HPI.out
        case measure => simp [intOf]; omega
      · have HPI := Lib.hid hpi
        clear hpi
        go_wp2_with fail
        go_ret
        exact Ret.mk HE2.out (by rw [firstI_some hlt HPI.out HGO.out]; rfl)
    · obtain rfl : i = n := by omega
      have hdn : ¬ (i : Int) < (i : Int) := by omega
      go_wp2_with fail
      go_ret
      exact Ret.mk HE.out (by rw [firstI_none HGO.out]; rfl)
end Go.Proofs.YtehklbdgkppmeaaDoor
