/- Contracts: nat.Sub with memory of its own; bins. -/
import Derived.Test.YtjpkaljndfgkjaaGr
import Derived.Test.YtjpkaljndfgkjaaZc
namespace Go.Proofs.Ytjpkaljndfgkjaa
open Go.RowKit

theorem trim_fresh {w : World} {A : Option Addr} {n cap : Nat} {ds : List Nat} (h : Dg w (.slice A n cap) ds) :
    Calls Try.prog 48 #[.slice A n cap] w fun e w' => e = .returned (.slice A (dig (val ds)).length (dig (val ds)).length) ∧ Dg w (.slice A (dig (val ds)).length (dig (val ds)).length) (dig (val ds)) ∧ w = w' := by
  obtain ⟨A', n', cap', e0, hn, hc, hb, hl, hx⟩ := h.parts
  injection e0 with e1 e2 e3
  subst e1 e2 e3
  refine (trim_parts A n cap ds w hc hb hx).mono ?_
  rintro e w' ⟨rfl, rfl⟩
  subst hn
  have ht : (dig (val ds)).length = tlen ds ds.length := by rw [← tr_eq_dig hl, length_tr]
  have hle := tlen_le ds ds.length
  refine ⟨by rw [ht], Dg.of_parts rfl (Nat.le_refl _) (by rw [ht]; omega) (low_dig _) fun i hi => ?_, rfl⟩
  obtain ⟨ad, rfl, hcell⟩ := hx i (by omega)
  refine ⟨ad, rfl, ?_⟩
  rw [hcell, ← tr_eq_dig hl]
  unfold tr
  have h1 : i < tlen ds ds.length := by omega
  simp [List.getD, h1]

set_option maxHeartbeats 400000 in
theorem sub_fresh {w : World} {u v : Value} {a b : Nat} (ha : Nv w u a) (hb : Nv w v b) (hge : b ≤ a) (hla : (dig a).length ≤ 1000000) :
    Calls Try.prog 21 #[u, v] w (Ret (fun x w' => ∃ g c, w.heap.size ≤ g ∧ x = .tuple #[.slice (some ⟨g, 0, none⟩) (dig (a - b)).length c, .int .i64 0] ∧ Nz w' (.slice (some ⟨g, 0, none⟩) (dig (a - b)).length c) (a - b)) w) := by
  go_enter Try.func21, Try.ntmps21
  go_wp2_with fail
  refine (trim_nv ha).mono ?_
  rintro e w' ⟨X, rfl, hX, rfl⟩
  go_wp2_with fail
  refine (trim_nv hb).mono ?_
  rintro e w' ⟨Y, rfl, hY, rfl⟩
  go_wp2_with fail
  refine (cmp_nv hX.nv hY.nv).mono ?_
  rintro e w1 ⟨rfl, hq⟩
  have hc : ¬ cmpI a b < 0 := by rw [cmpI_neg]; omega
  have he1 := hq.ext
  replace hX := hX.ext he1
  replace hY := hY.ext he1
  clear ha hb
  have HGE := Lib.hid hge; clear hge
  have hle := dig_len_mono HGE.out
  obtain ⟨X, n, c, eX, hn, -, hnb, hlx, hX⟩ := Dg.parts hX
  injection eX with e1 e2 e3
  subst e1; subst e3; clear e2
  obtain ⟨Y, m, c, eY, hm, -, hmb, hly, hY⟩ := Dg.parts hY
  injection eY with e1 e2 e3
  subst e1; subst e3; clear e2
  rw [← hn] at hle hla ⊢
  rw [← hm] at hle ⊢
  have HN := Lib.hid hn; have HM := Lib.hid hm; clear hn hm
  have HX := Lib.hid hX; have HY := Lib.hid hY; clear hX hY
  have HLX := Lib.hid hlx; have HLY := Lib.hid hly; clear hlx hly
  generalize cmpI a b = ci at *
  have hmk := fun W => make_row (P := Try.prog) 38 105 (.int .u32 0) 4 Try.underlying38 info_u32 rfl n (by omega) (by omega) W
  go_wp2_with fail
  go_loopw [7, 23] (fun t i wr => ∃ (k br : Nat) (ds : List Nat), k ≤ n ∧ i = .int .i64 k ∧ t = .int .u64 br ∧ br ≤ 1 ∧ ds.length = k ∧ Low ds ∧ Bk wr w1.heap.size 105 (ds.map U32 ++ List.replicate (n - k) (.int .u32 0)) ∧ val ds + val ((dig b).take k) = val ((dig a).take k) + 4294967296 ^ k * br ∧ Ext w1 wr)
    (fun _ i _ => n - (intOf i).toNat)
  case atStart =>
    refine ⟨0, 0, [], Nat.zero_le _, rfl, rfl, Nat.zero_le _, rfl, Low.nil, Bk.new w1 _ _, by simp [val], (Ext.refl w1).alloc _⟩
  case round =>
    obtain ⟨k, br, ds, hk, rfl, rfl, hbr, hdl, hlo, hbk, hval, hext⟩ := hrel
    have HV := Lib.hid hval; clear hval
    have HDL := Lib.hid hdl; clear hdl
    by_cases hlt : k < n
    · obtain ⟨ax, rfl, hcx⟩ := HX.out k hlt
      have hcx' := hext.cell hcx
      have hcell := hbk.cell (i := k) (by simp; have := HDL.out; omega)
      have hfree := hbk.free k
      have hdx := (HLX.out).getD k
      generalize hX1 : (dig a).getD k 0 = dx at *
      have HX1 := Lib.hid hX1; clear hX1
      have HBK := Lib.hid hbk; clear hbk
      by_cases hltm : k < m
      · obtain ⟨ay, rfl, hcy⟩ := HY.out k hltm
        have hcy' := hext.cell hcy
        have hdy := (HLY.out).getD k
        generalize hY1 : (dig b).getD k 0 = dy at *
        have HY1 := Lib.hid hY1; clear hY1
        go_wp2_with fail
        rw [bor_top dx dy br hdx hdy hbr, bor_low dx dy br hdx hdy hbr]
        go_roundw
        case rel =>
          refine ⟨k + 1, bor dx dy br, ds ++ [dx + 4294967296 * bor dx dy br - br - dy], by omega, by go_num, rfl, bor_le _ _ _, by simp [HDL.out], hlo.append (Low.cons (bor_lt dx dy br hdx hdy hbr) Low.nil), HBK.out.snoc HDL.out (by omega) rfl, ?_, hext.setCell (Nat.le_refl _) _⟩
          rw [take_val_succ (dig b) k dy (by have := HM.out; omega) HY1.out, take_val_succ (dig a) k dx (by have := HN.out; omega) HX1.out, sub_step ds br dx dy _ _ k HDL.out hdx hdy hbr HV.out]
        case measure => simp [intOf]; omega
      · go_wp2_with fail
        rw [bor0_top dx br hdx hbr, bor0_low dx br hdx hbr]
        go_roundw
        case rel =>
          refine ⟨k + 1, bor dx 0 br, ds ++ [dx + 4294967296 * bor dx 0 br - br - 0], by omega, by go_num, rfl, bor_le _ _ _, by simp [HDL.out], hlo.append (Low.cons (bor_lt dx 0 br hdx (by omega) hbr) Low.nil), HBK.out.snoc HDL.out (by omega) rfl, ?_, hext.setCell (Nat.le_refl _) _⟩
          rw [take_val_past (dig b) k (by have := HM.out; omega), take_val_succ (dig a) k dx (by have := HN.out; omega) HX1.out, sub_step ds br dx 0 _ _ k HDL.out hdx (by omega) hbr HV.out]
        case measure => simp [intOf]; omega
    · have : k = n := by omega
      subst this
      have hb2 : Bk wr w1.heap.size 105 (ds.map U32) := by simpa using hbk
      have hd2 := hb2.dg (n := k) (c := k) hlo (by have := HDL.out; omega) HDL.out.symm (Nat.le_refl _)
      have hv2 : val ds = a - b := by
        refine sub_end ds br a b k HDL.out hlo HGE.out ?_
        have := HV.out
        rwa [List.take_of_length_le (by have := HM.out; omega), List.take_of_length_le (by have := HN.out; omega), val_dig, val_dig] at this
      have HD2 := Lib.hid hd2; have HV2 := Lib.hid hv2; clear hd2 hv2 hb2 hbk
      go_wp2_with fail
      have hsz : w.heap.size ≤ w1.heap.size := he1.size
      refine (trim_fresh HD2.out).mono ?_
      rintro e w' ⟨rfl, hA, rfl⟩
      rw [HV2.out] at hA
      rw [HV2.out]
      go_wp2_with fail
      go_ret2
      exact Ret.mk (he1.trans hext) ⟨_, _, hsz, rfl, hA⟩

end Go.Proofs.Ytjpkaljndfgkjaa
namespace Go.Proofs.Ytjpkaljndfgkjaa.R
open Go.RowKit

/-- A number whose digits lie in blocks of a set. -/
def Nf (F : Nat → Prop) (w : World) (v : Value) (n : Nat) : Prop := ∃ A c, v = .slice A (dig n).length c ∧ (dig n).length ≤ c ∧ (dig n).length ≤ 35184372088832 ∧ Cl F w A ((dig n).map U32)
theorem Nf.nz {F : Nat → Prop} {w : World} {v : Value} {n : Nat} (h : Nf F w v n) : Nz w v n := by
  obtain ⟨A, c, rfl, hc, hb, hcl⟩ := h
  refine ⟨low_dig n, hb, A, c, by simp, by simpa using hc, fun h0 => ?_⟩
  rcases hcl with h1 | ⟨ad, rfl, -, h1⟩
  · rw [h1] at h0; simp at h0
  · exact ⟨ad, rfl, h1⟩
theorem Nf.of {F : Nat → Prop} {w : World} {A : Option Addr} {m c n : Nat} (h : Nz w (.slice A m c) n) (hF : ∀ ad, A = some ad → F ad.block) : Nf F w (.slice A m c) n := by
  obtain ⟨hl, hb, A', c', e, hc, hx⟩ := h
  simp only [List.length_map] at e hc
  injection e with e1 e2 e3
  subst e1 e2 e3
  refine ⟨A, c, rfl, hc, hb, ?_⟩
  rcases Nat.eq_zero_or_pos (dig n).length with h0 | h0
  · exact .inl (by rw [List.length_eq_zero_iff.1 h0]; rfl)
  · obtain ⟨ad, rfl, h1⟩ := hx (by simpa using h0)
    exact .inr ⟨ad, rfl, hF ad rfl, h1⟩
/-- A bin: its first and last row, its number of rows. -/
structure Bn where
  fst : List Vl
  lst : List Vl
  num : Nat
def rdBn : Rdg Bn where
  sz := 3
  R := fun F w cs b => ∃ u1 u2 u3, cs = [u1, u2, u3] ∧ Sl rdVl F w u1 b.fst ∧ Sl rdVl F w u2 b.lst ∧ Nf F w u3 b.num
  len := fun ⟨_, _, _, e, _⟩ => by rw [e]; rfl
  fr := fun ⟨u1, u2, u3, e, h1, h2, A, c, e3, h3, h4, h5⟩ hf hs => ⟨u1, u2, u3, e, h1.fr hf hs, h2.fr hf hs, A, c, e3, h3, h4, h5.fr hf hs⟩
  mono := fun ⟨u1, u2, u3, e, h1, h2, A, c, e3, h3, h4, h5⟩ hs => ⟨u1, u2, u3, e, h1.mono (by decide) hs, h2.mono (by decide) hs, A, c, e3, h3, h4, h5.mono hs⟩
theorem info_bin : (Try.prog.info? 70).map (fun i => (i.zero, i.size, i.bytes)) = some (some (.agg #[.slice none 0 0, .slice none 0 0, .slice none 0 0]), 3, 72) := by kernel_rfl
end Go.Proofs.Ytjpkaljndfgkjaa.R
