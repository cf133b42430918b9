/- Contracts: Rank of an array of rows; quantile.Share. -/
import Derived.Test.YtjpkaljndfgkjaaGm
import Derived.Test.YtjpkaljndfgkjaaGq
import Derived.Test.YtjpkaljndfgkjaaShelf
namespace Go.Proofs.Ytjpkaljndfgkjaa
open Go.RowKit

/-- What Rank answers. -/
def RkPost (rs : List (List R.Vl)) (r : List R.Vl) (w : World) (e : Ending) (w' : World) : Prop := Ext w w' ∧ ∃ x s, e = .returned (.tuple #[x, .bool (R.hasB rs r), .int .i64 s, .int .i64 0]) ∧ Nz w' x (R.lowB rs r)
set_option maxRecDepth 20000 in
set_option maxHeartbeats 1600000 in
theorem rank_any {F G : Nat → Prop} {w : World} {v : Value} {B : Option Addr} {m d : Nat} {rs : List (List R.Vl)} {r : List R.Vl} (h : R.ArV F w v rs) (hn : rs.length ≤ 1000) (hr : ∀ x ∈ rs, x.length ≤ 1048576) (hB : R.Sl R.rdVl G w (.slice B m d) r) (hm : m ≤ 1048576) :
    Calls Try.prog 20 #[v, .slice B m d] w (RkPost rs r w) := by
  obtain ⟨A, c, rfl, hs⟩ := h
  have hx : Ext w (w.alloc (.cells #[.slice A rs.length c, .slice none 0 0] 32)) := (Ext.refl w).alloc _
  have kb := Bk.new w 32 [.slice A rs.length c, .slice none 0 0]
  have HSR := Lib.hid (R.rsearch_any (R.Sl.ext hs hx) (R.Sl.ext hB hx) hm hr (by omega))
  have hlw := R.lowB_le rs r
  obtain ⟨lo, hlo⟩ : ∃ q, q = R.lowB rs r := ⟨_, rfl⟩
  obtain ⟨hb, hhb⟩ : ∃ q, q = R.hasB rs r := ⟨_, rfl⟩
  unfold R.SrPost at HSR
  obtain ⟨n, hnq⟩ : ∃ n, n = rs.length := ⟨_, rfl⟩
  rw [← hlo, ← hhb, ← hnq] at HSR
  rw [← hlo, ← hnq] at hlw
  rw [← hnq] at hn hx kb
  have HLO := Lib.hid hlo; have HHB := Lib.hid hhb
  rw [← hnq]
  change Bk (w.alloc (.cells #[.slice A n c, .slice none 0 0] 32)) _ _ _ at kb
  clear hs hB hr hlo hhb hnq
  go_enter Try.func20, Try.ntmps20
  go_upto_region 1 with fail
  generalize (w.alloc (.cells #[.slice A n c, .slice none 0 0] 32)) = w1 at *
  have HX := Lib.hid hx; have HKB := Lib.hid kb
  have b0 := kb.cell (i := 0) (by simp); have b1 := kb.cell (i := 1) (by simp)
  simp only [List.getElem_cons_zero, List.getElem_cons_succ] at b0 b1
  clear hx kb
  go_wp2_with fail
  refine HSR.out.mono ?_
  rintro e w2 ⟨he2, rfl⟩
  have he2' : Ext w1 w2 := he2
  replace b0 := he2'.cell b0
  have HX2 := Lib.hid (HX.out.trans he2')
  have hq1 : IntKind.u64.wrap (lo : Int) = (lo : Int) := u64_id (by omega)
  have hq2 : IntKind.u64.wrap (n : Int) = (n : Int) := u64_id (by omega)
  clear he2 he2' b1
  go_upto_region 2 with fail
  go_region_held3 (fun V => Ext w2 V ∧ V.cell? ⟨w.heap.size, 0, none⟩ = some (.slice A n c))
    ((refine (fun he => ⟨he, Ext.cell he b0⟩) ?_; repeat (first | exact Ext.refl _ | exact (Ext.refl _).drew | refine Ext.drew ?_ | refine Ext.trans ?_ (by assumption))))
    (first
      | (go_at_call 28; refine (of_nz lo (by omega) _).mono ?_; rintro e wa ⟨o, rfl, hea, hoa⟩)
      | (go_at_call 47; refine (Try.bits_Len (n : Int) _ (by omega) (by omega)).mono ?_; rintro e wb ⟨rfl, heb⟩; subst heb))
  all_goals
    have hfin := And.left (a := Ext w2 _) (b := _ = _) (by assumption)
    have HF := Lib.hid (HX2.out.trans hfin); have HO := Lib.hid hoa
    clear hfin hea hoa b0
    go_wp2_with fail
    refine bodyPost_ret (v := .tuple #[o, .bool hb, .int .i64 (Lib.bitLen n), .int .i64 0]) (by simp [results, Try.results20, go_sem]) rfl ⟨HF.out, o, _, by rw [HHB.out], by rw [← HLO.out]; exact HO.out⟩
theorem meth_rank (v : Value) (w : World) : (method 252 32 v "Rank").run Try.prog w = .ok (20, v) w := by kernel_rfl
theorem ahead_rank (v : Value) (w : World) : (nilAhead 252 32 v "Rank").run Try.prog w = .ok (some false) w := by kernel_rfl
set_option maxRecDepth 20000 in
set_option maxHeartbeats 3200000 in
/-- quantile.Share: the difference of two ranks, or nothing. -/
theorem share_any {F G H : Nat → Prop} {w : World} {v : Value} {B C : Option Addr} {m d m2 d2 : Nat} {rs : List (List R.Vl)} {r1 r2 : List R.Vl} (h : R.ArV F w v rs) (hn : rs.length ≤ 1000) (hr : ∀ x ∈ rs, x.length ≤ 1048576) (hB : R.Sl R.rdVl G w (.slice B m d) r1) (hm : m ≤ 1048576) (hC : R.Sl R.rdVl H w (.slice C m2 d2) r2) (hm2 : m2 ≤ 1048576) :
    Calls Try.prog 19 #[.iface 32 v, .slice B m d, .slice C m2 d2] w (Ret (fun x w' => ∃ y, x = .tuple #[y, .int .i64 0] ∧ Nz w' y (R.lowB rs r2 - R.lowB rs r1)) w) := by
  have HAR := Lib.hid (fun (V : World) (hV : Ext w V) => R.ArV.ext h hV)
  have HCC1 := Lib.hid (fun (V : World) (hV : Ext w V) => R.clone_row (w := V) (R.Sl.ext hB hV) hm)
  have HCC := Lib.hid (fun (V : World) (hV : Ext w V) => R.clone_row (w := V) (R.Sl.ext hC hV) hm2)
  have HR := Lib.hid hr
  have hl1 := R.lowB_le rs r1; have hl2 := R.lowB_le rs r2
  obtain ⟨a1, ha1⟩ : ∃ q, q = R.lowB rs r1 := ⟨_, rfl⟩
  obtain ⟨a2, ha2⟩ : ∃ q, q = R.lowB rs r2 := ⟨_, rfl⟩
  have HRK := Lib.hid (fun (V : World) (hV : Ext w V) (G2 : Nat → Prop) (A5 : Option Addr) (c5 : Nat) (k5 : R.Sl R.rdVl G2 V (.slice A5 m c5) r1) => rank_any (HAR.out V hV) hn hr k5 hm)
  have HRK2 := Lib.hid (fun (V : World) (hV : Ext w V) (G2 : Nat → Prop) (A5 : Option Addr) (c5 : Nat) (k5 : R.Sl R.rdVl G2 V (.slice A5 m2 c5) r2) => rank_any (HAR.out V hV) hn hr k5 hm2)
  unfold RkPost at HRK HRK2
  rw [← ha1] at HRK hl1
  rw [← ha2] at HRK2 hl2
  rw [← ha1, ← ha2]
  have hb1 : a1 ≤ 1000 := by omega
  have hb2 : a2 ≤ 1000 := by omega
  clear h hB hC hr hl1 hl2 ha1 ha2 hn
  obtain ⟨ar, har⟩ : ∃ ar, v = ar := ⟨_, rfl⟩
  have hm1' := meth_rank v; have hm2' := ahead_rank v
  clear har
  go_enter Try.func19, Try.ntmps19
  go_upto_region 3 with fail
  go_cut [8, 11] (fun sa sb wx => sb = .int .i64 0 ∧ Nz wx sa a1 ∧ Ext w wx)
  case first =>
    go_region_held3 (fun V => Ext w V)
      ((refine (fun he => he) ?_; repeat (first | exact Ext.refl _ | exact (Ext.refl _).drew | refine Ext.drew ?_ | refine Ext.trans ?_ (by assumption))))
      (first
        | (go_at_call 32; refine ((HCC1.out _ (by assumption))).mono ?_; rintro e wa ⟨x5, rfl, hea, A5, c5, rfl, hs5⟩; have hea' : Ext _ wa := hea)
        | (go_at_call 20; refine (HRK.out _ (by assumption) _ _ _ hs5).mono ?_; rintro e wb ⟨heb, y5, s5, rfl, hy5⟩))
    all_goals
      have hfin : Ext w wb := by assumption
      go_wp2_with fail
      go_meet
      exact ⟨rfl, hy5, hfin⟩
  case rest =>
    obtain ⟨rfl, hy, he⟩ := hcut
    obtain ⟨w2, rfl⟩ : ∃ V : World, V = wc := ⟨_, rfl⟩
    have HY := Lib.hid hy; have HE := Lib.hid he
    have HCC2 := Lib.hid (fun (V : World) (hV : Ext w2 V) => HCC.out V (he.trans hV))
    have HRK3 := Lib.hid (fun (V : World) (hV : Ext w2 V) (G2 : Nat → Prop) (A5 : Option Addr) (c5 : Nat) (k5 : R.Sl R.rdVl G2 V (.slice A5 m2 c5) r2) => HRK2.out V (he.trans hV) G2 A5 c5 k5)
    clear hy he HCC1 HRK HCC HRK2
    go_upto_region 6 with fail
    go_cut [12, 11] (fun sa sb wx => sb = .int .i64 0 ∧ Nz wx sa a2 ∧ Ext w2 wx)
    case first =>
      go_region_held3 (fun V => Ext w2 V)
        ((refine (fun he => he) ?_; repeat (first | exact Ext.refl _ | exact (Ext.refl _).drew | refine Ext.drew ?_ | refine Ext.trans ?_ (by assumption))))
        (first
          | (go_at_call 32; refine ((HCC2.out _ (by assumption))).mono ?_; rintro e wa ⟨x5, rfl, hea, A5, c5, rfl, hs5⟩; have hea' : Ext _ wa := hea)
          | (go_at_call 20; refine (HRK3.out _ (by assumption) _ _ _ hs5).mono ?_; rintro e wb ⟨heb, y5, s5, rfl, hy5⟩))
      all_goals
        have hfin : Ext w2 wb := by assumption
        go_wp2_with fail
        go_meet
        exact ⟨rfl, hy5, hfin⟩
    case rest =>
      obtain ⟨rfl, hy, he⟩ := hcut
      obtain ⟨w3, rfl⟩ : ∃ V : World, V = wc := ⟨_, rfl⟩
      have HY2 := Lib.hid hy; have HY1 := Lib.hid (HY.out.ext he); have HE3 := Lib.hid (HE.out.trans he)
      clear hy he HCC2 HRK3
      rcases Nat.lt_or_ge a2 a1 with hlt | hge
      · have h0 : a2 - a1 = 0 := by omega
        have H0 := Lib.hid h0
        clear h0
        go_wp2_with fail
        refine (sub_less HY2.out.nv HY1.out.nv hlt).mono ?_
        rintro e w4 ⟨rfl, hq⟩
        have HF := Lib.hid (HE3.out.trans hq.ext)
        clear hq
        go_wp2_with fail
        go_ret2
        exact Ret.mk HF.out ⟨_, rfl, by rw [H0.out]; exact Nz.nil _⟩
      · go_wp2_with fail
        refine (sub_nv HY2.out.nv HY1.out.nv hge (Nat.le_trans (dig_small (by omega)) (by omega))).mono ?_
        rintro e w4 ⟨x, rfl, he4, dd, rfl, hd⟩
        have HF := Lib.hid (HE3.out.trans he4); have HD := Lib.hid hd
        clear he4 hd
        go_wp2_with fail
        go_ret2
        exact Ret.mk HF.out ⟨_, rfl, HD.out⟩
theorem share_nil {w : World} {u1 u2 : Value} :
    Calls Try.prog 19 #[.nilIface, u1, u2] w (fun e w' => e = .returned (.tuple #[.slice none 0 0, .int .i64 1]) ∧ w = w') := by
  go_enter Try.func19, Try.ntmps19
  go_wp2_with fail
  go_ret2
  exact ⟨rfl, rfl⟩
end Go.Proofs.Ytjpkaljndfgkjaa
