/- Contracts: strconv.AppendBool on nil, homomorphism.key and its closure. -/
import Derived.Test.YtiahaofjmcjdiaaDoorHk
import Derived.Test.YtiahaofjmcjdiaaDoorShelf
import Derived.Lib.AppendStr
import Derived.Laws.BytesString
import Derived.Lib.ItoaLen
namespace Go.Proofs.YtiahaofjmcjdiaaDoor
open Go.RowKit Go.Maps

theorem info_u8 : (Tryd.prog.info? 5).map (fun i => (i.zero, i.size, i.bytes)) = some (some (.int .u8 0), 1, 1) := by kernel_rfl
/-- append(b, s...). -/
theorem wpList_append_str {w : World} {ops : Array Oper} {rest : List Oper} {o : Oper} {a : Act} {Q : Exit → Act → World → Prop} (hgd : o.guard = none) (s y : Operand)
    (ho : o.op = .call { callee := .builtin .append, args := #[s, y], argTypes := #[91, 9] })
    (base : Nat) (v : Value) (n : Nat) (xs : List Value) (hs : a.eval s = v) (hown : w.ownsRow base 5 1 v n xs) (x : ByteArray) (hx : a.eval y = .string x)
    (h63 : n + x.size ≤ maxLen) (hbytes : n + x.size ≤ 140737488355328) (hbase : base ≤ w.heap.size)
    (h : ∀ v' w', w'.ownsRow base 5 1 v' (n + x.size) (xs ++ Lib.strCells x) → w.grownBy w' v.ownBlock → wpList Tryd.prog ops Q rest (a.put o.dst v') w') : wpList Tryd.prog ops Q (o :: rest) a w :=
  wpList_plain hgd fun K hK => by
    obtain ⟨i0, hi0, hz0, hz1, hz2⟩ := info_parts info_u8
    obtain ⟨v', w', hr, h2, h3, _⟩ := Lib.run_append_own_string (P := Tryd.prog) w base 91 9 o.type 5 i0 Tryd.underlying91 Tryd.underlying9 hi0 hz0 hz1 hz2 v n xs hown x h63 hbytes hbase
    unfold Oper.wp execOp
    simp only [ho, resolve, invoke, builtin, Sem.run_bind, Sem.run_pure, Result.andThen_ok, List.map_toArray, List.map_cons, List.map_nil, hs, hx, hr]
    exact hK _ _ (h v' w' h2 h3)

def boolT (b : Bool) : List UInt8 := if b = true then [116, 114, 117, 101] else [102, 97, 108, 115, 101]
set_option maxRecDepth 20000 in
theorem appendBool {w : World} (b : Bool) : Calls Tryd.prog 45 #[.slice none 0 0, .bool b] w (Ret (fun x w' => w'.ownsRow w.heap.size 5 1 x (boolT b).length (Lib.byteCells (boolT b))) w) := by
  have HIN : Hid (Calls Tryd.prog 50 #[.slice none 0 0, .bool b] w (Ret (fun x w' => w'.ownsRow w.heap.size 5 1 x (boolT b).length (Lib.byteCells (boolT b))) w)) := Lib.hid (by
    cases b
    · go_enter Tryd.func50, Tryd.ntmps50
      go_wp2_with (first | (at_builtin; refine wpList_append_str rfl _ _ rfl w.heap.size (.slice none 0 0) 0 [] rfl (World.ownsRow_nil _ _ _ _) ⟨#[102, 97, 108, 115, 101]⟩ rfl (by decide) (by decide) (Nat.le_refl _) ?_; intro v' w' hr hg; have HR := Lib.hid hr; have HG := Lib.hid ((Ext.refl w).grown hg (fun k hk => by simp [Value.ownBlock] at hk)); clear hr hg))
      go_ret
      exact Ret.mk HG.out HR.out
    · go_enter Tryd.func50, Tryd.ntmps50
      go_wp2_with (first | (at_builtin; refine wpList_append_str rfl _ _ rfl w.heap.size (.slice none 0 0) 0 [] rfl (World.ownsRow_nil _ _ _ _) ⟨#[116, 114, 117, 101]⟩ rfl (by decide) (by decide) (Nat.le_refl _) ?_; intro v' w' hr hg; have HR := Lib.hid hr; have HG := Lib.hid ((Ext.refl w).grown hg (fun k hk => by simp [Value.ownBlock] at hk)); clear hr hg))
      go_ret
      exact Ret.mk HG.out HR.out)
  go_enter Tryd.func45, Tryd.ntmps45
  go_wp2_with fail
  refine HIN.out.mono ?_
  rintro e w2 ⟨x, rfl, he, hr⟩
  have HE := Lib.hid he; have HR := Lib.hid hr
  clear he hr
  go_wp2_with fail
  go_ret
  exact Ret.mk HE.out HR.out

/-- The table that strconv reads, in every world that only grew. -/
def TabE (w : World) : Prop := Lib.TabBelow Tryd.prog w.heap.size w "internal/strconv.uint64pow10" .u64 Lib.pow10Tab
theorem TabE.fore {w w' : World} (h : TabE w) (he : Ext w w') : TabE w' := fun w'' h'' => h w'' (he.trans h'')

/-- The buffer of key: the captured variable, and the row. -/
structure KeI (w wr : World) (g : Nat) (v : Value) (bs : List UInt8) : Prop where
  bk : Bk wr g 91 [v]
  row : wr.ownsRow w.heap.size 5 1 v bs.length (Lib.byteCells bs)
  ext : Ext w wr
/-- What is neither the variable nor a row of bytes stays. -/
def KF (g : Nat) (w w' : World) : Prop := ∀ k t l, k ≠ g → t ≠ 5 → Bk w k t l → Bk w' k t l
theorem KF.refl (g : Nat) (w : World) : KF g w w := fun _ _ _ _ _ h => h
theorem KF.trans {g : Nat} {a b c : World} (h : KF g a b) (k : KF g b c) : KF g a c := fun i t l h1 h2 h3 => k i t l h1 h2 (h i t l h1 h2 h3)
theorem KF.of_ext {g : Nat} {w w' : World} (h : Ext w w') : KF g w w' := fun _ _ _ _ _ hb => hb.ext h
theorem KF.of_others {g : Nat} {w w' : World} (h : Lib.OthersKept 5 none w w') : KF g w w' := fun k t l _ h2 hb => h k _ hb (by simp) (fun c fz e => by injection e with _ e _; exact h2 e)
theorem KF.of_own {g base n : Nat} {w w' : World} {v : Value} {xs : List Value} (hr : w.ownsRow base 5 1 v n xs) (hg : w.grownBy w' v.ownBlock) : KF g w w' := fun k t l _ h2 hb => hb.fr (grown_fr hg) (fun e => own_bk hr hb (fun e' => h2 e'.symm) e rfl)
theorem KF.set (g : Nat) (w : World) (u : Value) : KF g w (w.setCell ⟨g, 0, none⟩ u) := fun k t l h1 _ hb => hb.far (p := ⟨g, 0, none⟩) h1 u
theorem KeI.upd {w X : World} {g : Nat} {v0 v' : Value} {bs : List UInt8} (hb : Bk X g 91 [v0]) (hr : X.ownsRow w.heap.size 5 1 v' bs.length (Lib.byteCells bs)) (he : Ext w X) (hg : w.heap.size ≤ g) : KeI w (X.setCell ⟨g, 0, none⟩ v') g v' bs :=
  have hset : Fr (fun k => k = g) X (X.setCell ⟨g, 0, none⟩ v') := Fr.setCell (S := fun k => k = g) (Fr.refl _ X) (p := ⟨g, 0, none⟩) (.inl rfl) _
  ⟨hb.set 0 _, own_fr hr hset (fun k hk e => by subst e; exact own_bk hr hb (by decide) hk rfl), hset.new he (fun k hk => by omega)⟩
theorem bytes_app (a b : List UInt8) : Lib.byteCells (a ++ b) = Lib.byteCells a ++ Lib.byteCells b := by simp [Lib.byteCells]
def textB (s : ByteArray) : List UInt8 := Lib.itoa (s.size : Int) ++ [58] ++ s.data.toList
theorem strC (s : ByteArray) : Lib.strCells s = Lib.byteCells s.data.toList := rfl

set_option maxRecDepth 20000 in
set_option maxHeartbeats 1600000 in
theorem key1_any {w wr : World} {g : Nat} {v : Value} {bs : List UInt8} {s : ByteArray} (h : KeI w wr g v bs) (htab : TabE w) (hg : w.heap.size ≤ g) (hl : bs.length ≤ 1000000000000) (hs : s.size ≤ 1048576) :
    Calls Tryd.prog 46 #[.string s, .pointer (some ⟨g, 0, none⟩)] wr (fun e w' => e = .returned (.tuple #[]) ∧ KF g wr w' ∧ ∃ v', KeI w w' g v' (bs ++ textB s)) := by
  obtain ⟨A, c, rfl⟩ := own_slice h.row
  have d0 := h.bk.cell (i := 0) (by simp)
  simp only [List.getElem_cons_zero] at d0
  have HH := Lib.hid h; have HT := Lib.hid htab
  have hwr : w.heap.size ≤ wr.heap.size := h.ext.size
  have hil : (Lib.itoa (s.size : Int)).length ≤ 21 := Lib.itoa_length_le _ (by omega) (by omega)
  obtain ⟨nb, hnb⟩ : ∃ nb, nb = bs.length := ⟨_, rfl⟩
  rw [← hnb] at d0 hl
  have HNB := Lib.hid hnb
  obtain ⟨ns, hns⟩ : ∃ ns, ns = s.size := ⟨_, rfl⟩
  have hnI : (s.size : Int) = (ns : Int) := by rw [hns]
  rw [← hns] at hs
  have HNS := Lib.hid hns
  clear h htab hnb hns
  obtain ⟨i0, hi0, hz0, hz1, hz2⟩ := info_parts info_u8
  have HI0 := Lib.hid (And.intro hi0 (And.intro hz0 (And.intro hz1 hz2))); clear hi0 hz0 hz1 hz2
  go_enter Tryd.func46, Tryd.ntmps46
  go_wp2_with fail
  refine (Tryd.strconv_AppendInt_10 w.heap.size nb (ns : Int) (by omega) (by omega) (.slice A nb c) (Lib.byteCells bs) wr (by rw [HNB.out]; exact HH.out.row) hwr (by omega) (HT.out.on HH.out.ext)).mono ?_
  rintro e w1 ⟨v1, rfl, hr1, hb1, ho1⟩
  obtain ⟨A1, c1, rfl⟩ := own_slice hr1
  have hx1 : Ext w w1 := Below.trans HH.out.ext hb1
  have kf1 : KF g wr w1 := KF.of_others ho1
  have bk1 : Bk w1 g 91 [.slice A nb c] := ho1 g _ (by rw [HNB.out]; exact HH.out.bk) (by simp) (fun c fz e => by injection e with _ e _; exact absurd e (by decide))
  obtain ⟨t1, ht1⟩ : ∃ t1, t1 = Lib.itoa (ns : Int) := ⟨_, rfl⟩
  rw [← ht1] at hr1 ⊢
  rw [hnI, ← ht1] at hil
  have HT1 := Lib.hid ht1
  obtain ⟨m1, hm1⟩ : ∃ m1, m1 = nb + t1.length := ⟨_, rfl⟩
  rw [← hm1] at hr1 ⊢
  have hr1' : w1.ownsRow w.heap.size 5 1 (.slice A1 m1 c1) (bs ++ t1).length (Lib.byteCells (bs ++ t1)) := by
    rw [bytes_app, List.length_append, ← HNB.out, ← hm1]; exact hr1
  have K1 := KeI.upd bk1 hr1' hx1 hg
  have HKF1 := Lib.hid (kf1.trans (KF.set g w1 (.slice A1 m1 c1)))
  have e0 := bk1.cell (i := 0) (by simp)
  have f0 := bk1.free 0
  simp only [List.getElem_cons_zero] at e0
  have hm1b : m1 ≤ 1000000000100 := by omega
  have HM1 := Lib.hid hm1
  have HK1 := Lib.hid K1
  clear ht1 hr1 hr1' hb1 ho1 hx1 kf1 bk1 hm1 K1 d0 hnI
  go_upto_region 1 with fail
  generalize w1.setCell ⟨g, 0, none⟩ (.slice A1 m1 c1) = X1 at *
  clear e0 f0
  have d1 := HK1.out.bk.cell (i := 0) (by simp)
  simp only [List.getElem_cons_zero] at d1
  have hX1 : w.heap.size ≤ X1.heap.size := HK1.out.ext.size
  have hgX : g < X1.heap.size := HK1.out.bk.lt
  have HM1L : Hid (m1 = (bs ++ t1).length) := Lib.hid (by rw [List.length_append, ← HNB.out]; exact HM1.out)
  have HR1m : Hid (X1.ownsRow w.heap.size 5 1 (.slice A1 m1 c1) m1 (Lib.byteCells (bs ++ t1))) := Lib.hid (by have h := HK1.out.row; rw [← HM1L.out] at h; exact h)
  go_upto_region 2 with (first | (at_builtin; refine wpList_append_at rfl _ _ 91 rfl w.heap.size 5 i0 (.int .u8 0) 1 1 Tryd.underlying91 HI0.out.1 HI0.out.2.1 HI0.out.2.2.1 HI0.out.2.2.2 rfl (by omega) _ m1 (Lib.byteCells (bs ++ t1)) rfl (HR1m.out.alloc _) ⟨X1.heap.size, 0, none⟩ 1 1 [.int .u8 58] rfl rfl (laid_news X1 _ _) (by simp [Value.oneCell']) (by simp only [maxLen]; omega) (by omega) (by simp; omega) ?_; intro v2 w2 hr2 hg2 hl2; obtain ⟨A2, c2, rfl⟩ := own_slice hr2; have bk2 : Bk w2 g 91 [.slice A1 m1 c1] := Bk.fr (HK1.out.bk.alloc _) (grown_fr hg2) (fun e => own_bk HK1.out.row HK1.out.bk (by decide) e rfl); have b2 := bk2.cell (i := 0) (by simp); have f2 := bk2.free 0; simp only [List.getElem_cons_zero] at b2; have HR2 := Lib.hid hr2; have HG2 := Lib.hid hg2; have HB2 := Lib.hid bk2; clear hr2 hg2 hl2 bk2))
  have hr2' : w2.ownsRow w.heap.size 5 1 (.slice A2 (m1 + 1) c2) (bs ++ t1 ++ [58]).length (Lib.byteCells (bs ++ t1 ++ [58])) := by
    have h := HR2.out
    rw [bytes_app, List.length_append, ← HM1L.out]; exact h
  have hx2 : Ext w w2 := (HK1.out.ext.alloc _).grown HG2.out (fun k hk => (HK1.out.row.lt k hk).1)
  have K2 := KeI.upd HB2.out hr2' hx2 hg
  have HKF2 := Lib.hid (((HKF1.out.trans (KF.of_ext ((Ext.refl X1).alloc _))).trans (KF.of_own (g := g) (HK1.out.row.alloc _) HG2.out)).trans (KF.set g w2 (.slice A2 (m1 + 1) c2)))
  have HK2 := Lib.hid K2
  clear hr2' hx2 K2 b2 f2 d1 hX1 hgX
  generalize w2.setCell ⟨g, 0, none⟩ (.slice A2 (m1 + 1) c2) = X2 at *
  have d2 := HK2.out.bk.cell (i := 0) (by simp)
  simp only [List.getElem_cons_zero] at d2
  have hX2 : w.heap.size ≤ X2.heap.size := HK2.out.ext.size
  have HM2L : Hid (m1 + 1 = (bs ++ t1 ++ [58]).length) := Lib.hid (by rw [List.length_append, ← HM1L.out]; rfl)
  have HR2m : Hid (X2.ownsRow w.heap.size 5 1 (.slice A2 (m1 + 1) c2) (m1 + 1) (Lib.byteCells (bs ++ t1 ++ [58]))) := Lib.hid (by have h := HK2.out.row; rw [← HM2L.out] at h; exact h)
  have hns2 : s.size ≤ 1048576 := by rw [← HNS.out]; exact hs
  go_wp2_with (first | (at_builtin; refine wpList_append_str rfl _ _ rfl w.heap.size _ (m1 + 1) (Lib.byteCells (bs ++ t1 ++ [58])) rfl HR2m.out s rfl (by simp only [maxLen]; omega) (by omega) hX2 ?_; intro v3 w3 hr3 hg3; obtain ⟨A3, c3, rfl⟩ := own_slice hr3; have bk3 : Bk w3 g 91 [.slice A2 (m1 + 1) c2] := Bk.fr HK2.out.bk (grown_fr hg3) (fun e => own_bk HK2.out.row HK2.out.bk (by decide) e rfl); have b3 := bk3.cell (i := 0) (by simp); have f3 := bk3.free 0; simp only [List.getElem_cons_zero] at b3; have HR3 := Lib.hid hr3; have HG3 := Lib.hid hg3; have HB3 := Lib.hid bk3; clear hr3 hg3 bk3))
  have hr3' : w3.ownsRow w.heap.size 5 1 (.slice A3 (m1 + 1 + s.size) c3) (bs ++ textB s).length (Lib.byteCells (bs ++ textB s)) := by
    have h := HR3.out
    rw [strC, ← bytes_app] at h
    have e : bs ++ textB s = bs ++ t1 ++ [58] ++ s.data.toList := by rw [textB, ← HNS.out, ← HT1.out]; simp [List.append_assoc]
    have el : (bs ++ t1 ++ [58] ++ s.data.toList).length = m1 + 1 + s.size := by rw [List.length_append, ← HM2L.out, Array.length_toList]; rfl
    rw [e, el]; exact h
  have hx3 : Ext w w3 := HK2.out.ext.grown HG3.out (fun k hk => (HK2.out.row.lt k hk).1)
  refine bodyPost_end (results_none rfl _ _ _) rfl ⟨rfl, ?_, _, KeI.upd HB3.out hr3' hx3 hg⟩
  exact (HKF2.out.trans (KF.of_own (g := g) HK2.out.row HG3.out)).trans (KF.set g w3 _)
/-- The text of an atom. -/
def termB (t : Tm) : List UInt8 := textB t.var ++ textB t.str ++ Lib.itoa t.kind ++ [44] ++ Lib.itoa t.int ++ [59]
def keyB (ng : Bool) (rl : ByteArray) (ts : List Tm) : List UInt8 := boolT ng ++ textB rl ++ ts.flatMap termB
/-- A number, appended. -/
theorem KeI.num {w wr : World} {g : Nat} {A : Option Addr} {m c : Nat} {bs : List UInt8} {i : Int} (h : KeI w wr g (.slice A m c) bs) (htab : TabE w) (hg : w.heap.size ≤ g) (hl : bs.length ≤ 1000000000000) (h0 : -9223372036854775808 ≤ i) (h1 : i ≤ 9223372036854775807) :
    Calls Tryd.prog 47 #[.slice A m c, .int .i64 i, .int .i64 10] wr (fun e w' => ∃ v', e = .returned v' ∧ Bk w' g 91 [.slice A m c] ∧ KF g wr w' ∧ (∃ A' m' c', v' = .slice A' m' c') ∧ KeI w (w'.setCell ⟨g, 0, none⟩ v') g v' (bs ++ Lib.itoa i)) := by
  have hm : m = bs.length := by
    obtain ⟨A', c', e⟩ := own_slice h.row
    injection e
  refine (Tryd.strconv_AppendInt_10 w.heap.size m i h0 h1 (.slice A m c) (Lib.byteCells bs) wr (by rw [hm]; rw [hm] at h; exact h.row) h.ext.size (by omega) (htab.on h.ext)).mono ?_
  rintro e w1 ⟨v1, rfl, hr1, hb1, ho1⟩
  obtain ⟨A1, c1, rfl⟩ := own_slice hr1
  have bk1 : Bk w1 g 91 [.slice A m c] := ho1 g _ h.bk (by simp) (fun c fz e => by injection e with _ e _; exact absurd e (by decide))
  refine ⟨_, rfl, bk1, KF.of_others ho1, ⟨_, _, _, rfl⟩, KeI.upd bk1 ?_ (Below.trans h.ext hb1) hg⟩
  rw [bytes_app, List.length_append, ← hm]; exact hr1
end Go.Proofs.YtiahaofjmcjdiaaDoor
