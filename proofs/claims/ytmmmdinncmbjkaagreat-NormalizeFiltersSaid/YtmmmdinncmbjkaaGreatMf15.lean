/- Words: the normal form of a rule. Contracts: the law's ints, Brief and Few (no updates). -/
import Derived.Test.YtmmmdinncmbjkaaGreatMf14
namespace Go.Proofs.YtmmmdinncmbjkaaGreat
open Go.RowKit Go.Maps
theorem info_bl : (Tryz.prog.info? 4).map (fun i => (i.zero, i.size, i.bytes)) = some (some (.bool false), 1, 1) := by kernel_rfl
theorem info_src : (Tryz.prog.info? 36).map (fun i => (i.zero, i.size, i.bytes)) = some (some (.agg #[.string ⟨#[]⟩, .slice none 0 0, .slice none 0 0, .slice none 0 0, .slice none 0 0, .slice none 0 0]), 6, 136) := by kernel_rfl
/-- A normal form. -/
structure Nm where
  vars : List ByteArray
  free : Int
  desc : List Bool
  srcs : List Src
def namesL (q : Qy) (r : Rl) : List ByteArray := (varsC r).foldl addN (((orderL q.hd q.od).map Ky.var).foldl addN [])
def srcAt (names : List ByteArray) (r : Rl) (i : Nat) : Option Src := (r.ats[i]?).bind (fun a => if a.neg = true then none else some (sourceL names r i a))
def normalL (q : Qy) (r : Rl) : Nm := ⟨namesL q r, (orderL q.hd q.od).length, (orderL q.hd q.od).map Ky.desc, upL (srcAt (namesL q r) r) r.ats.length⟩
theorem mem_addN {l : List ByteArray} {s t : ByteArray} : t ∈ addN l s ↔ t ∈ l ∨ t = s := by
  unfold addN
  by_cases h : s ∈ l
  · rw [if_pos h]
    exact ⟨.inl, fun h1 => h1.elim id (fun e => e ▸ h)⟩
  · rw [if_neg h]; simp
theorem mem_addNs {t : ByteArray} : ∀ {l b : List ByteArray}, t ∈ l.foldl addN b ↔ t ∈ b ∨ t ∈ l
  | [], b => by simp
  | s :: l, b => by rw [List.foldl_cons, mem_addNs, mem_addN, List.mem_cons, or_assoc]
theorem addN_len (l : List ByteArray) (s : ByteArray) : (addN l s).length ≤ l.length + 1 := by
  unfold addN
  by_cases h : s ∈ l
  · rw [if_pos h]; omega
  · rw [if_neg h]; simp
theorem addNs_len : ∀ (l b : List ByteArray), (l.foldl addN b).length ≤ b.length + l.length
  | [], b => by simp
  | s :: l, b => by
    rw [List.foldl_cons, List.length_cons]
    have h1 := addNs_len l (addN b s)
    have h2 := addN_len b s
    omega
/-- A row of truth values. -/
def Bls (F : Nat → Prop) (w : World) (v : Value) (l : List Bool) : Prop := ∃ A c, v = .slice A l.length c ∧ l.length ≤ c ∧ Cl F w A (l.map Value.bool)
section
variable {F G S : Nat → Prop} {w w' : World} {v : Value} {l : List Bool}
theorem Bls.ext (h : Bls F w v l) (he : Ext w w') : Bls F w' v l := let ⟨A, c, h1, h2, h3⟩ := h; ⟨A, c, h1, h2, h3.ext he⟩
theorem Bls.fr (h : Bls F w v l) (hf : Fr S w w') (hs : ∀ k, F k → ¬ S k) : Bls F w' v l := let ⟨A, c, h1, h2, h3⟩ := h; ⟨A, c, h1, h2, h3.fr hf hs⟩
theorem Bls.mono (h : Bls F w v l) (hs : ∀ k, k < w.heap.size → F k → G k) : Bls G w v l := let ⟨A, c, h1, h2, h3⟩ := h; ⟨A, c, h1, h2, h3.mono hs⟩
theorem Bls.of_own {base n : Nat} {e : TypeId} (h : w.ownsRow base e 1 v n (l.map Value.bool)) : Bls (fun k => v.ownBlock = some k ∧ base ≤ k) w v l := by
  obtain ⟨A, c, rfl, hc, hcl⟩ := Cl.of_own h
  have : n = l.length := by have := h.1; simp at this; omega
  subst this
  exact ⟨A, c, rfl, hc, hcl⟩
end
theorem src_sl {F : Nat → Prop} {w : World} {rl : ByteArray} {a b d e f : Value} {x : Src} (h : rdSrc.R F w [.string rl, a, b, d, e, f] x) : ∃ A1 n1 c1 A2 n2 c2 A3 n3 c3 A4 n4 c4 A5 n5 c5, a = .slice A1 n1 c1 ∧ b = .slice A2 n2 c2 ∧ d = .slice A3 n3 c3 ∧ e = .slice A4 n4 c4 ∧ f = .slice A5 n5 c5 := by
  obtain ⟨a', b', c', d', e', he, ⟨A1, c1, rfl, -, -⟩, ⟨A2, c2, rfl, -, -⟩, h3, h4, h5⟩ := h
  obtain ⟨A3, c3, rfl⟩ := h3.sl
  obtain ⟨A4, c4, rfl⟩ := h4.sl
  obtain ⟨A5, c5, rfl⟩ := h5.sl
  injection he with _ he
  injection he with e1 he
  injection he with e2 he
  injection he with e3 he
  injection he with e4 he
  injection he with e5 he
  exact ⟨_, _, _, _, _, _, _, _, _, _, _, _, _, _, _, e1, e2, e3, e4, e5⟩
/-- What Rule hands back. -/
def RuleNo (x : Int) (w : World) (e : Ending) (w' : World) : Prop := e = .returned (.tuple #[.agg #[.slice none 0 0, .int .i64 0, .slice none 0 0, .slice none 0 0], .int .i64 x]) ∧ Ext w w'
/-- A normal form in memory. -/
structure NmR (F : Nat → Prop) (w : World) (V D S : Value) (x : Nm) : Prop where
  vars : Strs F w V x.vars
  desc : Bls F w D x.desc
  srcs : Sl rdSrc F w S x.srcs
def RuleYes (x : Nm) (w : World) (e : Ending) (w' : World) : Prop := Ext w w' ∧ ∃ V D S, e = .returned (.tuple #[.agg #[V, .int .i64 x.free, D, S], .int .i64 0]) ∧ NmR (fun k => w.heap.size ≤ k) w' V D S x
/-- A normal form that is being built: its box (eight cells), the names, the map, the directions. -/
structure NmB (w : World) (base g bm m : Nat) (a0 a1 nv p0 p1 dv sv : Value) (nd : Nat) (names : List ByteArray) (ds : List Bool) : Prop where
  bl : BlI w base g bm m [a0, a1] nv [p0, p1, dv, sv] names
  rd : w.ownsRow base 4 1 dv nd (ds.map Value.bool)
section
variable {w w8 : World} {base g bm m m' nd : Nat} {a0 a1 nv nv' p0 p1 dv sv v8 : Value} {names names' : List ByteArray} {ds : List Bool}
theorem NmB.ext (h : NmB w base g bm m a0 a1 nv p0 p1 dv sv nd names ds) (he : Ext w w8) : NmB w8 base g bm m a0 a1 nv p0 p1 dv sv nd names ds := ⟨h.bl.ext he, own_ext' h.rd he⟩
theorem NmB.add (h : NmB w base g bm m a0 a1 nv p0 p1 dv sv nd names ds) (hf : Fr (fun k => k = g ∨ k = bm ∨ nv.ownBlock = some k) w w8) (hb : BlI w8 base g bm m' [a0, a1] nv' [p0, p1, dv, sv] names') : NmB w8 base g bm m' a0 a1 nv' p0 p1 dv sv nd names' ds :=
  ⟨hb, own_fr h.rd hf (fun k hk e => by
    rcases e with e | e | e
    · exact own_bk h.rd h.bl.bk (by decide) hk e
    · exact h.bl.map.ne_own h.rd hk e
    · exact own_ne h.rd h.bl.row (by decide) hk e)⟩
/-- A cell behind the builder is set. -/
theorem BlI.put {q0 q1 q2 q3 : Value} (h : BlI w base g bm m [a0, a1] nv [p0, p1, dv, sv] names) (i : Nat) (u : Value) (hb : Bk (w.setCell ⟨g, i, none⟩ u) g 127 ([a0, a1] ++ nv :: .map (some bm) :: [q0, q1, q2, q3])) : BlI (w.setCell ⟨g, i, none⟩ u) base g bm m [a0, a1] nv [q0, q1, q2, q3] names := by
  have hs : Fr (fun k => k = g) w (w.setCell ⟨g, i, none⟩ u) := (Fr.refl (fun k => k = g) w).setCell (p := ⟨g, i, none⟩) (.inl rfl) _
  exact ⟨hb, own_fr h.row hs (fun k hk => own_bk h.row h.bk (by decide) hk), h.map.fr hs (fun e => h.map.ne h.bk e.symm), h.ge, h.gm⟩
theorem BlI.grown {row : Option Nat} (h : BlI w base g bm m [a0, a1] nv [p0, p1, dv, sv] names) (hg : w.grownBy w8 row) (h1 : row ≠ some g) (h2 : row ≠ some bm) (h3 : ∀ k, nv.ownBlock = some k → row ≠ some k) : BlI w8 base g bm m [a0, a1] nv [p0, p1, dv, sv] names :=
  ⟨h.bk.fr (grown_fr hg) h1, own_fr h.row (grown_fr hg) h3, h.map.fr (grown_fr hg) h2, h.ge, h.gm⟩
theorem NmB.blD (h : NmB w base g bm m a0 a1 nv p0 p1 dv sv nd names ds) (hg : w.grownBy w8 dv.ownBlock) : BlI w8 base g bm m [a0, a1] nv [p0, p1, dv, sv] names := h.bl.grown hg (fun e => own_bk h.rd h.bl.bk (by decide) e rfl) (fun e => h.bl.map.ne_own h.rd e rfl) (fun k hk e => own_ne h.rd h.bl.row (by decide) e hk)
theorem NmB.putD (h : NmB w base g bm m a0 a1 nv p0 p1 dv sv nd names ds) {b : Bool} (hr : w8.ownsRow base 4 1 v8 (nd + 1) (ds.map Value.bool ++ [.bool b])) (hg : w.grownBy w8 dv.ownBlock) : NmB (w8.setCell ⟨g, 6, none⟩ v8) base g bm m a0 a1 nv p0 p1 v8 sv (nd + 1) names (ds ++ [b]) := by
  have hb := h.blD hg
  have hs : Fr (fun k => k = g) w8 (w8.setCell ⟨g, 6, none⟩ v8) := (Fr.refl (fun k => k = g) w8).setCell (p := ⟨g, 6, none⟩) (.inl rfl) _
  refine ⟨hb.put 6 v8 (hb.bk.set 6 v8), ?_⟩
  rw [List.map_append]
  exact own_fr hr hs (fun k hk => own_bk hr hb.bk (by decide) hk)
theorem NmB.put (h : NmB w base g bm m a0 a1 nv p0 p1 dv sv nd names ds) {q0 q1 q3 : Value} (i : Nat) (u : Value) (hb : Bk (w.setCell ⟨g, i, none⟩ u) g 127 ([a0, a1] ++ nv :: .map (some bm) :: [q0, q1, dv, q3])) : NmB (w.setCell ⟨g, i, none⟩ u) base g bm m a0 a1 nv q0 q1 dv q3 nd names ds := by
  have hs : Fr (fun k => k = g) w (w.setCell ⟨g, i, none⟩ u) := (Fr.refl (fun k => k = g) w).setCell (p := ⟨g, i, none⟩) (.inl rfl) _
  exact ⟨h.bl.put i u hb, own_fr h.rd hs (fun k hk => own_bk h.rd h.bl.bk (by decide) hk)⟩
/-- A row of another type grows. -/
theorem NmB.grownS {w9 : World} {base2 n2 s2 : Nat} {E : TypeId} {u : Value} {ys : List Value} (h : NmB w base g bm m a0 a1 nv p0 p1 dv sv nd names ds) (hu : w.ownsRow base2 E s2 u n2 ys) (e1 : E ≠ 9) (e2 : E ≠ 4) (e3 : E ≠ 127) (hg : w.grownBy w9 u.ownBlock) : NmB w9 base g bm m a0 a1 nv p0 p1 dv sv nd names ds :=
  ⟨h.bl.grown hg (fun e => own_bk hu h.bl.bk e3 e rfl) (fun e => h.bl.map.ne_own hu e rfl) (fun k hk e => own_ne hu h.bl.row e1 e hk), own_fr h.rd (grown_fr hg) (fun k hk e => own_ne hu h.rd e2 e hk)⟩
end
end Go.Proofs.YtmmmdinncmbjkaaGreat
namespace Go.Proofs.YtmmmdinncmbjkaaGreat
open Go.RowKit Go.Maps
theorem ret_bv {a b : Bool} (h : a = b) : Value.bool b = .bool a := by rw [h]
set_option maxRecDepth 20000 in
set_option maxHeartbeats 1600000 in
theorem ints_any {F G : Nat → Prop} {w : World} {A B : Option Addr} {n c m d : Nat} {xs ys : List Int} (h : Ins F w (.slice A n c) xs) (k : Ins G w (.slice B m d) ys) (hn : n ≤ 1048576) :
    Calls Tryz.prog 27 #[.slice A n c, .slice B m d] w (Ret (fun x _ => x = .bool (decide (xs = ys))) w) := by
  obtain ⟨A', c', e, -, hcl⟩ := h
  injection e with e1 e2 e3
  subst e1 e3
  obtain ⟨B', d', f, -, kcl⟩ := k
  injection f with f1 f2 f3
  subst f1 f3
  by_cases hnm : n = m
  · subst hnm
    have HC := Lib.hid hcl; have HD := Lib.hid kcl; have HN := Lib.hid e2; have HM := Lib.hid f2
    clear hcl kcl e2 f2
    go_enter Tryz.func27, Tryz.ntmps27
    go_wp2_with fail
    go_loopw [5] (fun t wr => ∃ i : Nat, i ≤ n ∧ t = .int .i64 (i : Int) ∧ Hid (∀ j (_ : j < i) (h : j < xs.length) (h' : j < ys.length), xs[j] = ys[j]) ∧ Ext w wr) (fun t _ => n - (intOf t).toNat)
    case atStart => exact ⟨0, Nat.zero_le _, rfl, Lib.hid (fun j hj => by omega), Ext.refl _⟩
    case round =>
      obtain ⟨i, hi, rfl, HJ, hx⟩ := hrel
      have HX := Lib.hid hx
      by_cases hlt : i < n
      · have i1 : (0 : Int) ≤ (i : Int) := by omega
        have i2 : (i : Int) < (n : Int) := by omega
        have hil : i < xs.length := by have := HN.out; omega
        have hiy : i < ys.length := by have := HM.out; omega
        obtain ⟨ad, rfl, -, c0⟩ := HC.out.int hil
        obtain ⟨bd, rfl, -, d0⟩ := HD.out.int hiy
        replace c0 := hx.cell c0; replace d0 := hx.cell d0
        have h1 : xs[i] = ys[i] → Hid (∀ j (_ : j < i + 1) (h : j < xs.length) (h' : j < ys.length), xs[j] = ys[j]) := fun h => Lib.hid (fun j hj hl hl' => by
          rcases Nat.lt_or_ge j i with h3 | h3
          · exact HJ.out j h3 hl hl'
          · have : j = i := by omega
            subst this; exact h)
        have h2 : xs[i] ≠ ys[i] → Hid (decide (xs = ys) = false) := fun h => Lib.hid (decide_eq_false (fun e => h (by subst e; rfl)))
        obtain ⟨x, hxx⟩ : ∃ x, x = xs[i] := ⟨_, rfl⟩
        obtain ⟨y, hyy⟩ : ∃ y, y = ys[i] := ⟨_, rfl⟩
        rw [← hxx] at c0 h1 h2
        rw [← hyy] at d0 h1 h2
        have H1 := Lib.hid h1; have H2 := Lib.hid h2
        clear hxx hyy h1 h2 hx
        by_cases he : x = y
        · have HJ2 := H1.out he
          have hb : (x != y) = false := by rw [he]; simp
          clear he
          go_upto_region 6 with fail
          go_quiet (fail)
          have HXQ := Lib.hid (HX.out.drewN nq)
          generalize (wr.drewN nq) = w2 at *
          go_wp2_with fail
          go_roundw
          case rel => exact ⟨i + 1, by omega, by go_num, HJ2, HXQ.out⟩
          case measure => simp [intOf]; omega
        · have HQ := H2.out he
          have hb : (x != y) = true := by rw [bne_iff_ne]; exact he
          clear he
          go_upto_region 6 with fail
          go_quiet (fail)
          have HXQ := Lib.hid (HX.out.drewN nq)
          generalize (wr.drewN nq) = w2 at *
          go_wp2_with fail
          go_ret
          exact Ret.mk HXQ.out (ret_bv HQ.out)
      · obtain rfl : i = n := by omega
        have hdi : ¬ (i : Int) < (i : Int) := by omega
        have HQ : Hid (decide (xs = ys) = true) := Lib.hid (decide_eq_true (List.ext_getElem (by rw [← HN.out, ← HM.out]) (fun j hj hj' => HJ.out j (by have := HN.out; omega) hj hj')))
        clear hx
        go_wp2_with fail
        go_ret
        exact Ret.mk HX.out (ret_bv HQ.out)
  · have HQ : Hid (decide (xs = ys) = false) := Lib.hid (decide_eq_false (fun e => hnm (by rw [e2, f2, e])))
    have hb : ((n : Int) != (m : Int)) = true := by rw [bne_iff_ne]; omega
    clear hcl kcl e2 f2 hnm
    go_enter Tryz.func27, Tryz.ntmps27
    go_wp2_with fail
    go_ret
    exact Ret.mk (Ext.refl _) (ret_bv HQ.out)
end Go.Proofs.YtmmmdinncmbjkaaGreat
