/- Contract: homomorphism.key. -/
import Derived.Test.YtiahaofjmcjdiaaDoorHl
namespace Go.Proofs.YtiahaofjmcjdiaaDoor
open Go.RowKit Go.Maps

theorem KeI.chr {w X w2 : World} {g m c A2m c2 : Nat} {A A2 : Option Addr} {bs : List UInt8} {ch : UInt8} (h : KeI w X g (.slice A m c) bs) (hg : w.heap.size ≤ g) (o : Obj) (hm : A2m = m + 1) (hr : w2.ownsRow w.heap.size 5 1 (.slice A2 A2m c2) (m + 1) (Lib.byteCells bs ++ [.int .u8 (ch.toNat : Int)])) (hgr : (X.alloc o).grownBy w2 (Value.slice A m c).ownBlock) :
    Bk w2 g 91 [.slice A m c] ∧ KF g X (w2.setCell ⟨g, 0, none⟩ (.slice A2 A2m c2)) ∧ KeI w (w2.setCell ⟨g, 0, none⟩ (.slice A2 A2m c2)) g (.slice A2 A2m c2) (bs ++ [ch]) := by
  have hmb : m = bs.length := by
    obtain ⟨A', c', e⟩ := own_slice h.row
    injection e
  have hrow : (X.alloc o).ownsRow w.heap.size 5 1 (.slice A m c) bs.length (Lib.byteCells bs) := h.row.alloc o
  have bk2 : Bk w2 g 91 [.slice A m c] := Bk.fr (h.bk.alloc o) (grown_fr hgr) (fun e => own_bk h.row h.bk (by decide) e rfl)
  refine ⟨bk2, ((KF.of_ext ((Ext.refl X).alloc o)).trans (KF.of_own (g := g) hrow hgr)).trans (KF.set g w2 _), KeI.upd bk2 ?_ ((h.ext.alloc o).grown hgr (fun k hk => (h.row.lt k hk).1)) hg⟩
  rw [bytes_app, List.length_append, ← hmb]
  exact hr
theorem KeI.len {w X : World} {g m c : Nat} {A : Option Addr} {bs : List UInt8} (h : KeI w X g (.slice A m c) bs) : m = bs.length := by
  obtain ⟨A', c', e⟩ := own_slice h.row
  injection e
theorem KeI.fore {w X X' : World} {g : Nat} {v : Value} {bs : List UInt8} (h : KeI w X g v bs) (he : Ext X X') : KeI w X' g v bs := ⟨h.bk.ext he, own_fr h.row (he.fr (fun _ => False)) (fun _ _ h => h), h.ext.trans he⟩
theorem KeI.sl {w X : World} {g : Nat} {v : Value} {bs : List UInt8} (h : KeI w X g v bs) : ∃ A c, v = .slice A bs.length c := own_slice h.row
/-- What key wants of a term. -/
structure TOk (t : Tm) : Prop where
  var : t.var.size ≤ 1048576
  str : t.str.size ≤ 1048576
  k0 : -9223372036854775808 ≤ t.kind
  k1 : t.kind ≤ 9223372036854775807
  i0 : -9223372036854775808 ≤ t.int
  i1 : t.int ≤ 9223372036854775807
theorem textB_len {s : ByteArray} (h : s.size ≤ 1048576) : (textB s).length ≤ 1048600 := by
  have h1 := Lib.itoa_length_le (s.size : Int) (by omega) (by omega)
  have h2 : s.data.toList.length = s.size := Array.length_toList
  simp only [textB, List.length_append, h2, List.length_cons, List.length_nil]
  omega
theorem termB_len {t : Tm} (h : TOk t) : (termB t).length ≤ 2200000 := by
  have h1 := textB_len h.var
  have h2 := textB_len h.str
  have h3 := Lib.itoa_length_le t.kind h.k0 h.k1
  have h4 := Lib.itoa_length_le t.int h.i0 h.i1
  simp only [termB, List.length_append, List.length_cons, List.length_nil]
  omega
theorem terms_len : ∀ {l : List Tm}, (∀ t ∈ l, TOk t) → (l.flatMap termB).length ≤ l.length * 2200000
  | [], _ => by simp
  | t :: l, h => by
    have h1 := termB_len (h t (by simp))
    have h2 := terms_len (l := l) (fun u hu => h u (by simp [hu]))
    simp only [List.flatMap_cons, List.length_append, List.length_cons]
    omega

theorem push_fold : ∀ (l : List UInt8) (r : ByteArray), (l.map (fun b => (b.toNat : Int))).foldl (fun r n => r.push (UInt8.ofNat n.toNat)) r = ⟨r.data ++ l.toArray⟩
  | [], r => by simp
  | b :: l, r => by
    simp only [List.map_cons, List.foldl_cons]
    rw [push_fold l]
    simp [ByteArray.push]
theorem conv_bytes {w : World} {base c : Nat} {A : Option Addr} {bs : List UInt8} (h : w.ownsRow base 5 1 (.slice A bs.length c) bs.length (Lib.byteCells bs)) (hne : 0 < bs.length) :
    (convert 91 9 (.slice A bs.length c)).run Tryd.prog w = .ok (.string ⟨bs.toArray⟩) w := by
  rw [run_convert_bytes_string _ _ _ 5 _ _ _ Tryd.underlying91 Tryd.underlying5 Tryd.underlying9]
  rcases h.2 with ⟨e, e2⟩ | ⟨g, cap, cur, e, -, hc, -⟩
  · omega
  · injection e with e1 e2 e3
    subst e1 e3
    have hcells := h.cells (g := g) rfl
    have hb : Lib.byteCells bs = (bs.map (fun b => (b.toNat : Int))).map (Value.int .u8) := by simp [Lib.byteCells]
    rw [hb] at hcells
    have hl := run_loadCells_list (P := Tryd.prog) w ⟨g, 0, none⟩ ((bs.map (fun b => (b.toNat : Int))).map (Value.int .u8)) hcells
    rw [List.length_map, List.length_map] at hl
    rw [run_bytesToString _ _ _ _ (bs.map (fun b => (b.toNat : Int))) hl, push_fold]
    simp

set_option maxRecDepth 20000 in
set_option maxHeartbeats 3200000 in
theorem key_any {F : Nat → Prop} {w : World} {ng : Bool} {rl : ByteArray} {B : Option Addr} {d : Nat} {ts : List Tm} (hcl : Cl F w B (tcells ts)) (hd : ts.length ≤ d) (hl : ts.length ≤ 1000) (hrl : rl.size ≤ 1048576) (ht : ∀ t ∈ ts, TOk t) (htab : TabE w) :
    Calls Tryd.prog 35 #[.agg #[.bool ng, .string rl, .slice B ts.length d]] w (Ret (fun x _ => x = .string ⟨(keyB ng rl ts).toArray⟩) w) := by
  obtain ⟨nt, hnt⟩ : ∃ nt, nt = ts.length := ⟨_, rfl⟩
  rw [← hnt] at hd hl ⊢
  have HNT := Lib.hid hnt; have HCL := Lib.hid hcl; have HTS := Lib.hid ht; have HTAB := Lib.hid htab
  clear hnt hcl ht htab
  obtain ⟨i0, hi0, hz0, hz1, hz2⟩ := info_parts info_u8
  have HI0 := Lib.hid (And.intro hi0 (And.intro hz0 (And.intro hz1 hz2))); clear hi0 hz0 hz1 hz2
  go_enter Tryd.func35, Tryd.ntmps35
  go_wp2_with fail
  have hx1 : Ext w (w.alloc (.cells #[.bool ng, .string rl, .slice B nt d] 61)) := (Ext.refl w).alloc _
  have kx := Bk.new w 61 [.bool ng, .string rl, .slice B nt d]
  change Bk (w.alloc (.cells #[.bool ng, .string rl, .slice B nt d] 61)) _ _ _ at kx
  generalize (w.alloc (.cells #[.bool ng, .string rl, .slice B nt d] 61)) = w1 at *
  refine (appendBool ng).mono ?_
  rintro e w2 ⟨v2, rfl, he2, hr2⟩
  obtain ⟨A2, c2, rfl⟩ := own_slice hr2
  have kx2 := kx.ext he2
  have a1 := kx2.cell (i := 1) (by simp)
  have hlt2 := kx2.lt
  simp only [List.getElem_cons_zero, List.getElem_cons_succ] at a1
  obtain ⟨m2, hm2⟩ : ∃ m2, m2 = (boolT ng).length := ⟨_, rfl⟩
  have HM2 := Lib.hid hm2
  rw [← hm2]
  have HKX2 := Lib.hid kx2
  have K2 : KeI w (w2.alloc (.cells #[.slice A2 m2 c2] 91)) w2.heap.size (.slice A2 m2 c2) (boolT ng) := by
    refine ⟨Bk.new w2 _ [.slice A2 m2 c2], ?_, (hx1.trans he2).alloc _⟩
    rw [hm2]
    exact (own_base hr2 hx1.size).alloc _
  have HK2 := Lib.hid K2
  have hgw : w.heap.size ≤ w2.heap.size := (hx1.trans he2).size
  clear hx1 kx he2 hr2 kx2 K2 hm2
  go_wp2_with fail
  have kx3 := HKX2.out.alloc (.cells #[.slice A2 m2 c2] 91)
  generalize (w2.alloc (.cells #[.slice A2 m2 c2] 91)) = w3 at *
  obtain ⟨g, hg⟩ : ∃ g, g = w2.heap.size := ⟨_, rfl⟩
  rw [← hg] at HK2 hgw hlt2 ⊢
  clear hg
  have hbl : (boolT ng).length ≤ 5 := by cases ng <;> decide
  refine (key1_any HK2.out HTAB.out hgw (by omega) hrl).mono ?_
  rintro e w4 ⟨rfl, hkf4, v4, hk4⟩
  have kx4 := hkf4 w.heap.size _ _ (by omega) (by decide) kx3
  have b2 := kx4.cell (i := 2) (by simp)
  simp only [List.getElem_cons_zero, List.getElem_cons_succ] at b2
  have HK4 := Lib.hid hk4
  clear kx3 hkf4 hk4 a1 kx4
  go_wp2_with fail
  clear b2
  go_loopw [18] (fun q wr => ∃ (j : Nat) (v : Value), j ≤ nt ∧ q = .int .i64 (j : Int) ∧ KeI w wr g v (boolT ng ++ textB rl ++ (ts.take j).flatMap termB)) (fun q _ => nt - (intOf q).toNat)
  case atStart => exact ⟨0, v4, Nat.zero_le _, rfl, by simpa using HK4.out⟩
  case round =>
    obtain ⟨j, v, hj, rfl, hJ⟩ := hrel
    by_cases hlt : j < nt
    · have j1 : (0 : Int) ≤ (j : Int) := by omega
      have j2 : (j : Int) < (nt : Int) := by omega
      have hjt : j < ts.length := by have := HNT.out; omega
      obtain ⟨ad, rfl, -, d0, d1, d2, d3⟩ := HCL.out.term (i := j) hjt
      replace d0 := hJ.ext.cell d0
      replace d1 := hJ.ext.cell d1
      replace d2 := hJ.ext.cell d2
      replace d3 := hJ.ext.cell d3
      have hto := HTS.out _ (List.getElem_mem hjt)
      have etk : (ts.take (j + 1)).flatMap termB = (ts.take j).flatMap termB ++ termB ts[j] := by rw [List.take_succ_eq_append_getElem hjt, List.flatMap_append]; simp
      obtain ⟨x, hx⟩ : ∃ x, x = ts[j] := ⟨_, rfl⟩
      rw [← hx] at d0 d1 d2 d3 hto etk
      obtain ⟨bs, hbs⟩ : ∃ bs, bs = boolT ng ++ textB rl ++ (ts.take j).flatMap termB := ⟨_, rfl⟩
      have hbl2 : bs.length ≤ 3000000000 := by
        have h1 := textB_len hrl
        have h2 := terms_len (l := ts.take j) (fun t ht => HTS.out t (List.mem_of_mem_take ht))
        rw [hbs]
        simp only [List.length_append, List.length_take] at h2 ⊢
        omega
      rw [← hbs] at hJ
      have HNEXT : Hid (boolT ng ++ textB rl ++ (ts.take (j + 1)).flatMap termB = bs ++ termB x) := Lib.hid (by rw [etk, hbs]; simp only [List.append_assoc])
      have HJ := Lib.hid hJ; have HTO := Lib.hid hto
      have kt := Bk.new wr 47 [.string x.var, .int .i64 x.kind, .int .i64 x.int, .string x.str]
      change Bk (wr.alloc (.cells #[.string x.var, .int .i64 x.kind, .int .i64 x.int, .string x.str] 47)) _ _ _ at kt
      have HJ1 := Lib.hid (hJ.fore ((Ext.refl wr).alloc (.cells #[.string x.var, .int .i64 x.kind, .int .i64 x.int, .string x.str] 47)))
      have hgr : g < wr.heap.size := hJ.bk.lt
      clear hx etk hbs hJ hto
      go_wp2_with fail
      generalize (wr.alloc (.cells #[.string x.var, .int .i64 x.kind, .int .i64 x.int, .string x.str] 47)) = X0 at *
      obtain ⟨h6, hh6⟩ : ∃ h6, h6 = wr.heap.size := ⟨_, rfl⟩
      rw [← hh6] at kt hgr ⊢
      clear hh6 d0 d1 d2 d3
      refine (key1_any HJ1.out HTAB.out hgw (by omega) HTO.out.var).mono ?_
      rintro e X1 ⟨rfl, hkf1, v1, hk1⟩
      replace kt := hkf1 h6 _ _ (by omega) (by decide) kt
      have s3 := kt.cell (i := 3) (by simp)
      simp only [List.getElem_cons_zero, List.getElem_cons_succ] at s3
      have hv1 := textB_len HTO.out.var
      have HK1 := Lib.hid hk1
      clear hkf1 hk1
      go_wp2_with fail
      refine (key1_any HK1.out HTAB.out hgw (by rw [List.length_append]; omega) HTO.out.str).mono ?_
      rintro e X2 ⟨rfl, hkf2, v2', hk2⟩
      replace kt := hkf2 h6 _ _ (by omega) (by decide) kt
      have s1 := kt.cell (i := 1) (by simp)
      obtain ⟨A3, c3, rfl⟩ := hk2.sl
      have z2 := hk2.bk.cell (i := 0) (by simp)
      simp only [List.getElem_cons_zero, List.getElem_cons_succ] at s1 z2
      have hv2 := textB_len HTO.out.str
      obtain ⟨b2, hb2⟩ : ∃ b2, b2 = bs ++ textB x.var ++ textB x.str := ⟨_, rfl⟩
      rw [← hb2] at hk2 z2
      have hl2 : b2.length ≤ 4000000000 := by rw [hb2]; simp only [List.length_append]; omega
      obtain ⟨m2', hm2'⟩ : ∃ m2', m2' = b2.length := ⟨_, rfl⟩
      rw [← hm2'] at hk2 z2
      have HK2' := Lib.hid hk2; have HB2 := Lib.hid hb2
      clear hkf2 hk2 hb2 hm2' s3
      go_wp2_with fail
      refine (HK2'.out.num HTAB.out hgw (by omega) HTO.out.k0 HTO.out.k1).mono ?_
      rintro e X3 ⟨v3, rfl, bk3, hkf3, ⟨A4, m4, c4, rfl⟩, hk3⟩
      have z3 := bk3.cell (i := 0) (by simp)
      have f3 := bk3.free 0
      simp only [List.getElem_cons_zero] at z3
      have HK3 := Lib.hid hk3
      have HKT3 := Lib.hid ((hkf3.trans (KF.set g X3 (.slice A4 m4 c4))) h6 _ _ (by omega) (by decide) kt)
      clear hk3 hkf3 bk3 kt s1 z2
      go_upto_region 10 with fail
      generalize X3.setCell ⟨g, 0, none⟩ (.slice A4 m4 c4) = Y3 at *
      have hkl := Lib.itoa_length_le x.kind HTO.out.k0 HTO.out.k1
      obtain ⟨b3, hb3⟩ : ∃ b3, b3 = b2 ++ Lib.itoa x.kind := ⟨_, rfl⟩
      rw [← hb3] at HK3
      have hl3 : b3.length ≤ 4000000100 := by rw [hb3, List.length_append]; omega
      have HB3 := Lib.hid hb3
      have hm4 : m4 = b3.length := HK3.out.len
      have HR3 : Hid (Y3.ownsRow w.heap.size 5 1 (.slice A4 m4 c4) m4 (Lib.byteCells b3)) := Lib.hid (by have h := HK3.out.row; rw [← hm4] at h; exact h)
      have hm4b : m4 ≤ 4000000100 := by omega
      have y3 := HK3.out.bk.cell (i := 0) (by simp)
      simp only [List.getElem_cons_zero] at y3
      have hY3 : w.heap.size ≤ Y3.heap.size := HK3.out.ext.size
      have hgY3 : g < Y3.heap.size := HK3.out.bk.lt
      clear hb3 hm4 z3 f3
      go_upto_region 11 with (first | (at_builtin; refine wpList_append_at rfl _ _ 91 rfl w.heap.size 5 i0 (.int .u8 0) 1 1 Tryd.underlying91 HI0.out.1 HI0.out.2.1 HI0.out.2.2.1 HI0.out.2.2.2 rfl (by omega) _ m4 (Lib.byteCells b3) rfl (HR3.out.alloc _) ⟨Y3.heap.size, 0, none⟩ 1 1 [.int .u8 44] rfl rfl (laid_news Y3 _ _) (by simp [Value.oneCell']) (by simp only [maxLen]; omega) (by omega) (by simp; omega) ?_; intro vq wq hrq hgq hlq; obtain ⟨A5, c5, rfl⟩ := own_slice hrq; obtain ⟨bkq, kfq, keq⟩ := KeI.chr (ch := 44) HK3.out hgw _ rfl hrq hgq; have zq := bkq.cell (i := 0) (by simp); have fq := bkq.free 0; simp only [List.getElem_cons_zero] at zq; have HKQ := Lib.hid keq; have HFQ := Lib.hid kfq; clear hrq hgq hlq bkq kfq keq))
      have HKT4 := Lib.hid (HFQ.out h6 _ _ (by omega) (by decide) HKT3.out)
      generalize wq.setCell ⟨g, 0, none⟩ (.slice A5 (m4 + 1) c5) = Y4 at *
      have y4 := HKQ.out.bk.cell (i := 0) (by simp)
      have s2 := HKT4.out.cell (i := 2) (by simp)
      simp only [List.getElem_cons_zero, List.getElem_cons_succ] at y4 s2
      clear y3 zq fq hY3 hgY3
      go_wp2_with fail
      refine (HKQ.out.num HTAB.out hgw (by rw [List.length_append]; simp; omega) HTO.out.i0 HTO.out.i1).mono ?_
      rintro e X5 ⟨v5, rfl, bk5, hkf5, ⟨A6, m6, c6, rfl⟩, hk5⟩
      have z5 := bk5.cell (i := 0) (by simp)
      have f5 := bk5.free 0
      simp only [List.getElem_cons_zero] at z5
      have HK5 := Lib.hid hk5
      clear hk5 hkf5 bk5 s2 y4
      go_upto_region 12 with fail
      generalize X5.setCell ⟨g, 0, none⟩ (.slice A6 m6 c6) = Y5 at *
      have hil := Lib.itoa_length_le x.int HTO.out.i0 HTO.out.i1
      obtain ⟨b5, hb5⟩ : ∃ b5, b5 = b3 ++ [44] ++ Lib.itoa x.int := ⟨_, rfl⟩
      rw [← hb5] at HK5
      have hl5 : b5.length ≤ 4000000200 := by rw [hb5, List.length_append, List.length_append]; simp; omega
      have HB5 := Lib.hid hb5
      have hm6 : m6 = b5.length := HK5.out.len
      have HR5 : Hid (Y5.ownsRow w.heap.size 5 1 (.slice A6 m6 c6) m6 (Lib.byteCells b5)) := Lib.hid (by have h := HK5.out.row; rw [← hm6] at h; exact h)
      have hm6b : m6 ≤ 4000000200 := by omega
      have y5 := HK5.out.bk.cell (i := 0) (by simp)
      simp only [List.getElem_cons_zero] at y5
      have hY5 : w.heap.size ≤ Y5.heap.size := HK5.out.ext.size
      clear hb5 hm6 z5 f5
      go_wp2_with (first | (at_builtin; refine wpList_append_at rfl _ _ 91 rfl w.heap.size 5 i0 (.int .u8 0) 1 1 Tryd.underlying91 HI0.out.1 HI0.out.2.1 HI0.out.2.2.1 HI0.out.2.2.2 rfl (by omega) _ m6 (Lib.byteCells b5) rfl (HR5.out.alloc _) ⟨Y5.heap.size, 0, none⟩ 1 1 [.int .u8 59] rfl rfl (laid_news Y5 _ _) (by simp [Value.oneCell']) (by simp only [maxLen]; omega) (by omega) (by simp; omega) ?_; intro vr wz hrq hgq hlq; obtain ⟨A7, c7, rfl⟩ := own_slice hrq; obtain ⟨bkq, kfq, keq⟩ := KeI.chr (ch := 59) HK5.out hgw _ rfl hrq hgq; have zq := bkq.cell (i := 0) (by simp); have fq := bkq.free 0; simp only [List.getElem_cons_zero] at zq; have HKZ := Lib.hid keq; clear hrq hgq hlq bkq kfq keq))
      go_roundw
      case rel =>
        refine ⟨j + 1, .slice A7 (m6 + 1) c7, by omega, by go_num, ?_⟩
        rw [HNEXT.out]
        have e : bs ++ termB x = b5 ++ [59] := by rw [HB5.out, HB3.out, HB2.out, termB]; simp only [List.append_assoc]
        rw [e]
        exact HKZ.out
      case measure => simp [intOf]; omega
    · obtain rfl : j = nt := by omega
      have hdn : ¬ (j : Int) < (j : Int) := by omega
      have et : ts.take j = ts := by rw [HNT.out]; exact List.take_length
      rw [et] at hJ
      obtain ⟨bs, hbs⟩ : ∃ bs, bs = boolT ng ++ textB rl ++ ts.flatMap termB := ⟨_, rfl⟩
      rw [← hbs] at hJ
      have hne : 0 < bs.length := by rw [hbs]; simp only [List.length_append]; have : 4 ≤ (boolT ng).length := by cases ng <;> decide
                                     omega
      obtain ⟨Av, cv, rfl⟩ := hJ.sl
      have hconv := conv_bytes hJ.row hne
      have y0 := hJ.bk.cell (i := 0) (by simp)
      simp only [List.getElem_cons_zero] at y0
      have HJ := Lib.hid hJ; have HBS := Lib.hid hbs
      generalize bs.length = nb at *
      clear hJ hbs et hne
      go_wp2_with fail
      go_ret
      exact Ret.mk HJ.out.ext (by rw [keyB, ← HBS.out]; rfl)
end Go.Proofs.YtiahaofjmcjdiaaDoor
