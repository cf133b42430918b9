/- Contract: reader.uniform. -/
import Derived.Test.YtjpkaljndfgkjaaSamC
import Derived.Test.YtjpkaljndfgkjaaSamM
namespace Go.Proofs.Ytjpkaljndfgkjaa
open Go.RowKit

/-- number[i/32] |= b << (i%32), where no bit from i on is set: a sum. -/
theorem or_digit (D : List Nat) (i b : Nat) (hi : i / 32 < D.length) (hv : val D < 2 ^ i) :
    D.getD (i / 32) 0 < 2 ^ (i % 32) ∧ val (D.set (i / 32) (D.getD (i / 32) 0 + 2 ^ (i % 32) * b)) = val D + 2 ^ i * b := by
  have hp : 2 ^ i = 4294967296 ^ (i / 32) * 2 ^ (i % 32) := by
    have : (4294967296 : Nat) = 2 ^ 32 := by decide
    rw [this, ← Nat.pow_mul, ← Nat.pow_add, Nat.div_add_mod]
  have h2 := val_split D (i / 32)
  rw [Nat.min_eq_left (by omega), List.drop_eq_getElem_cons hi] at h2
  simp only [val, Nat.mul_add] at h2
  have e : D.getD (i / 32) 0 = D[i / 32] := by simp [List.getD, hi]
  rw [hp] at hv
  constructor
  · rw [e]
    rcases Nat.lt_or_ge D[i / 32] (2 ^ (i % 32)) with h | h
    · exact h
    · have := Nat.mul_le_mul_left (4294967296 ^ (i / 32)) h
      omega
  · have h1 := val_set D (i / 32) (D.getD (i / 32) 0 + 2 ^ (i % 32) * b) hi
    rw [Nat.mul_add, ← Nat.mul_assoc, ← hp] at h1
    omega

theorem or_sum (d b i : Nat) (hd : d < 4294967296) (hr : d < 2 ^ (i % 32)) (hb : b ≤ 1) :
    d + 2 ^ (i % 32) * b < 4294967296 ∧ bits BinOp.or IntKind.u32 (d : Int) ((b : Int) * 2 ^ (i % 32) % 4294967296) = ((d + 2 ^ (i % 32) * b : Nat) : Int) := by
  have hi : i % 32 < 32 := Nat.mod_lt _ (by omega)
  generalize i % 32 = r at *
  have hp : 2 ^ r ≤ 2 ^ 31 := Nat.pow_le_pow_right (by omega) (by omega)
  have hb2 : 2 ^ r * b ≤ 2 ^ r * 1 := Nat.mul_le_mul_left _ hb
  have hlt : d + 2 ^ r * b < 4294967296 := by omega
  refine ⟨hlt, ?_⟩
  have e1 : ((b : Int) * 2 ^ r % 4294967296) = ((2 ^ r * b : Nat) : Int) := by
    have : ((2 ^ r * b : Nat) : Int) = (b : Int) * 2 ^ r := by simp [Int.mul_comm]
    rw [← this]; omega
  rw [e1]
  have e2 : d ||| 2 ^ r * b = d + 2 ^ r * b := by
    rw [Nat.or_comm, Nat.add_comm, ← Nat.two_pow_add_eq_or_of_lt hr]
  show IntKind.u32.wrap ((BitVec.ofInt 32 (d : Int) ||| BitVec.ofInt 32 ((2 ^ r * b : Nat) : Int)).toNat : Int) = _
  rw [BitVec.toNat_or, BitVec.ofInt_natCast, BitVec.ofInt_natCast, BitVec.toNat_ofNat, BitVec.toNat_ofNat, Nat.mod_eq_of_lt (by omega), Nat.mod_eq_of_lt (by omega), e2, IntKind.wrap_u32]
  omega

set_option maxHeartbeats 800000 in
theorem uniform_zero {w : World} {g : Nat} {u : Value} (hu : Nv w u 0) :
    Calls Try.prog 33 #[.pointer (some ⟨g, 0, none⟩), u] w fun e w' => e = .returned (.tuple #[.slice none 0 0, .int .i64 18]) ∧ Ext w w' := by
  go_enter Try.func33, Try.ntmps33
  go_wp2_with fail
  refine (of_nz 1 (by omega) w).mono ?_
  rintro e w1 ⟨o, rfl, he1, ho⟩
  go_wp2_with fail
  refine (sub_less (hu.ext he1) ho.nv (by omega)).mono ?_
  rintro e w2 ⟨rfl, hq⟩
  have he2 := he1.trans hq.ext
  clear ho hq
  go_wp2_with fail
  go_ret2
  exact ⟨rfl, he2⟩

/-- What reader.uniform leaves: no number (the tape is at its end), or a number and the reader behind it. -/
def UniPost (g : Nat) (w : World) (s : Value) (R : Option (Nat × Nat)) (e : Ending) (w' : World) : Prop :=
  Mod g w w' ∧ match R with
    | none => e = .returned (.tuple #[.slice none 0 0, .int .i64 36])
    | some (x, p) => ∃ v, e = .returned (.tuple #[v, .int .i64 0]) ∧ Nz w' v x ∧ Rd w' g s (p : Int)

theorem rd_u32 (s : Value) (p : Int) (hs : ∃ A n c, s = .slice A n c) : ∀ d : Nat, U32 d ∉ [s, .int .i64 p] := by
  obtain ⟨A, n, c, rfl⟩ := hs
  simp [U32]
theorem rd_u8 (s : Value) (p : Int) (hs : ∃ A n c, s = .slice A n c) : ∀ d : Nat, U8 d ∉ [s, .int .i64 p] := by
  obtain ⟨A, n, c, rfl⟩ := hs
  simp [U8]

theorem blen_le {n k : Nat} (h : (dig n).length ≤ k) : blen n ≤ 32 * k := by
  rcases Nat.eq_zero_or_pos (dig n).length with e | e
  · have : n = 0 := dig_eq_nil.1 (List.eq_nil_of_length_eq_zero e)
    subst this; simp [blen]
  · have h1 := blen_top (dig n) (low_dig n) (top_dig n) e
    rw [val_dig] at h1
    have h2 := (low_dig n).getD ((dig n).length - 1)
    have h3 : blen ((dig n).getD ((dig n).length - 1) 0) ≤ 32 := by rw [← bitLen_eq _ h2]; exact Lib.bitLen_le _ 32 (by omega) (by omega)
    omega

set_option maxHeartbeats 1600000 in
theorem uniform_any {w : World} {g : Nat} {u s : Value} {n pos : Nat} {bs : List Nat} (hu : Nv w u n) (hn : 1 ≤ n) (hln : (dig n).length ≤ 100000) (hr : Rd w g s pos) (hb : By w s bs) (hp : pos ≤ 8 * bs.length) :
    Calls Try.prog 33 #[.pointer (some ⟨g, 0, none⟩), u] w (UniPost g w s (uni (bitAt bs) (8 * bs.length) n (blen (n - 1)) (8 * bs.length + 1) pos)) := by
  have hs : ∃ A n c, s = .slice A n c := by obtain ⟨A, c, e, _⟩ := hb.parts; exact ⟨A, _, c, e⟩
  have hll := blen_le (Nat.le_trans (dig_len_mono (show n - 1 ≤ n by omega)) hln)
  go_enter Try.func33, Try.ntmps33
  go_wp2_with fail
  refine (of_nz 1 (by omega) w).mono ?_
  rintro e w1 ⟨o, rfl, he1, ho⟩
  go_wp2_with fail
  refine (sub_nv (hu.ext he1) ho.nv hn (by omega)).mono ?_
  rintro e w2 ⟨d, rfl, he2, d', rfl, hd⟩
  clear ho
  have he3 := he1.trans he2
  have hl1 := dig_len_mono (show n - 1 ≤ n by omega)
  go_wp2_with fail
  refine (bits_nv hd.nv (by omega)).mono ?_
  rintro e w3 ⟨rfl, hq⟩
  have he4 := he3.trans hq.ext
  clear hd hq he1 he2 he3 hl1
  generalize hl : blen (n - 1) = l at *
  have HL := Lib.hid hl; clear hl
  have hlt := Bk.lt hr
  have hbl := hb.2.1
  replace hr : Rd w3 g s pos := Bk.ext hr he4
  replace hu := hu.ext he4
  replace hb := hb.ext he4
  have hmod : Mod g w w3 := Mod.of_ext he4
  have hsz := he4.size
  clear he4
  go_wp2_with fail
  go_loopg [9] (8 * bs.length + 1) (fun f _ wr => ∃ p, p ≤ 8 * bs.length ∧ 8 * bs.length < p + f ∧ uni (bitAt bs) (8 * bs.length) n l f p = uni (bitAt bs) (8 * bs.length) n l (8 * bs.length + 1) pos ∧ Rd wr g s (p : Int) ∧ Nv wr u n ∧ By wr s bs ∧ Mod g w wr)
  case atStart => exact ⟨pos, hp, by omega, rfl, hr, hu, hb, hmod⟩
  case round =>
    obtain ⟨p, hp1, hp2, huni, hr1, hu1, hb1, hm1⟩ := hrel
    have HU := Lib.hid huni; clear huni
    clear hr hu hb hmod
    have hmk := fun W => make_row (P := Try.prog) 38 105 (.int .u32 0) 4 Try.underlying38 info_u32 rfl ((l + 31) / 32) (by omega) (by omega) W
    rw [show (((l + 31) / 32 : Nat) : Int) = ((l : Int) + 31) / 32 from by omega] at hmk
    obtain ⟨wo, rfl⟩ : ∃ wo : World, wo = wr := ⟨_, rfl⟩
    have hlo := Bk.lt hr1
    go_wp2_with fail
    clear hmk
    go_loopw [28] (fun t wr => ∃ (i : Nat) (D : List Nat), i ≤ l ∧ t = .int .i64 i ∧ D.length = (l + 31) / 32 ∧ Low D ∧ Bk wr wo.heap.size 105 (D.map U32) ∧ val D = wrd (bitAt bs) p i ∧ p + i ≤ 8 * bs.length ∧ Rd wr g s ((p + i : Nat) : Int) ∧ Mod g wo wr) (fun t _ => l - (intOf t).toNat)
    case atStart =>
      have hx : Ext wo (wo.alloc (.cells (List.replicate ((l + 31) / 32) (.int .u32 0)).toArray 105)) := (Ext.refl wo).alloc _
      refine ⟨0, List.replicate ((l + 31) / 32) 0, Nat.zero_le _, rfl, by simp, fun d hd => by have := List.eq_of_mem_replicate hd; omega, ?_, by simp [wrd, val_replicate], by omega, Bk.ext hr1 hx, Mod.of_ext hx⟩
      have := Bk.new wo 105 (List.replicate ((l + 31) / 32) (.int .u32 0))
      simpa [U32] using this
    case round =>
      obtain ⟨i, D, hi, rfl, hD, hlow, hbk, hval, hpi, hr2, hm2⟩ := hrel
      have hb2 := hb1.mod hr1 (rd_u8 _ _ hs) hm2
      have HD := Lib.hid hD; have HV := Lib.hid hval; clear hD hval
      by_cases hil : i < l
      · by_cases hend : p + i = 8 * bs.length
        · have HE := Lib.hid hend; clear hend
          go_wp2_with fail
          refine (bit_end hr2 hb2 (.inr (by have := HE.out; omega)) (by omega)).mono ?_
          rintro e w5 ⟨rfl, hq⟩
          have hfin : uni (bitAt bs) (8 * bs.length) n l (8 * bs.length + 1) pos = none := by
            rw [← HU.out]
            cases gk with
            | zero => rfl
            | succ f => simp only [uni]; rw [if_pos (by have := HE.out; omega)]
          have HF := Lib.hid hfin; clear hfin
          go_wp2_with fail
          go_ret2
          refine ⟨(hm1.trans hm2).ext hq.ext, ?_⟩
          rw [HF.out]
          rfl
        · have hend' : p + i < 8 * bs.length := by omega
          go_wp2_with fail
          refine (bit_next hr2 hb2 hend').mono ?_
          rintro e w5 ⟨rfl, hr5, hm5⟩
          have hbk5 := hm5.bk hbk (by omega)
          have hm6 := hm2.trans hm5
          clear hbk hb2 hm2 hr2 hm5
          have hbit := bitAt_le bs (p + i)
          generalize hB : bitAt bs (p + i) = b at *
          have HB := Lib.hid hB; clear hB
          have hvlt : val D < 2 ^ i := by rw [HV.out]; exact wrd_lt _ (bitAt_le bs) _ _
          obtain ⟨hdl, hds⟩ := or_digit D i b (by have := HD.out; omega) hvlt
          have hcell := hbk5.word (k := i / 32) (by have := HD.out; omega)
          have hfree := hbk5.free (i / 32)
          have hdlt := hlow.getD (i / 32)
          generalize hd0 : D.getD (i / 32) 0 = d0 at *
          have HD0 := Lib.hid hd0; have HDS := Lib.hid hds; clear hd0 hds
          have HBK := Lib.hid hbk5; clear hbk5
          have q1 : (i : Int).tdiv 32 = (i : Int) / 32 := Int.tdiv_eq_ediv_of_nonneg (by omega)
          have q2 : (i : Int).tmod 32 = (i : Int) % 32 := Int.tmod_eq_emod_of_nonneg (by omega)
          have q3 : (0 : Int) ≤ (i : Int) / 32 := by omega
          have q4 : ((i : Int) / 32).toNat = i / 32 := by omega
          have q5 : (i : Int) / 32 < ((l + 31) / 32 : Nat) := by omega
          go_wp2_with fail
          go_region
          go_wp2_with fail
          go_roundw
          case rel =>
            have hor := or_sum d0 b i hdlt hdl hbit
            refine ⟨i + 1, D.set (i / 32) (d0 + 2 ^ (i % 32) * b), by omega, by go_num, by simp [HD.out], hlow.set _ _ hor.1, Bk.setW HBK.out _ _ hor.2, ?_, by omega, Bk.far (p := ⟨wo.heap.size, i / 32, none⟩) hr5 (by show g ≠ wo.heap.size; omega) _, Mod.trans (Mod.setCell (p := ⟨wo.heap.size, i / 32, none⟩) hm6 (.inr (Nat.le_refl _)) _) (Mod.of_ext ((Ext.refl _).drew))⟩
            have h1 := HDS.out
            rw [h1, HV.out, wrd, HB.out]
          case measure => simp [intOf]; omega
      · have hil2 : i = l := by omega
        subst hil2
        have hd2 := hbk.dg (n := (i + 31) / 32) (c := (i + 31) / 32) hlow (by have := HD.out; omega) HD.out.symm (Nat.le_refl _)
        have hd3 := hd2.nv
        rw [HV.out] at hd3
        have hu2 := hu1.mod hr1 (rd_u32 _ _ hs) hm2
        clear hb2
        go_wp2_with fail
        refine (cmp_nv hd3 hu2).mono ?_
        rintro e w5 ⟨rfl, hq⟩
        have he5 := hq.ext
        have hm5 := hm2.ext he5
        have hr5 : Rd w5 g s _ := Bk.ext hr2 he5
        have hd5 := hd3.ext he5
        have hdg5 := hd2.ext he5
        clear hd2 hd3 hm2 hr2 hbk
        have hl0 : 0 < i ∨ 0 < n := .inr hn
        by_cases hx : wrd (bitAt bs) p i < n
        · rw [cmpI_lt hx]
          go_wp2_with fail
          refine (norm_nv hd5).mono ?_
          rintro e w6 ⟨v, rfl, he6, hv⟩
          have hfin : uni (bitAt bs) (8 * bs.length) n i (8 * bs.length + 1) pos = some (wrd (bitAt bs) p i, p + i) := by
            rw [← HU.out]
            cases gk with
            | zero => omega
            | succ f => simp only [uni]; rw [if_neg (by omega), if_pos hx]
          have HF := Lib.hid hfin; clear hfin
          go_wp2_with fail
          go_ret2
          refine ⟨(hm1.trans hm5).ext he6, ?_⟩
          rw [HF.out]
          exact ⟨v, rfl, hv, Bk.ext hr5 he6⟩
        · have hc : ¬ cmpI (wrd (bitAt bs) p i) n < 0 := by rw [cmpI_neg]; omega
          generalize cmpI (wrd (bitAt bs) p i) n = ci at *
          go_wp2_with fail
          go_roundg (gk - 1)
          case measure => omega
          case rel =>
            have hi0 : 0 < i := by
              rcases Nat.eq_zero_or_pos i with e | e
              · subst e; simp [wrd] at hx; omega
              · exact e
            refine ⟨p + i, hpi, by omega, ?_, hr5, hu1.mod hr1 (rd_u32 _ _ hs) hm5, hb1.mod hr1 (rd_u8 _ _ hs) hm5, hm1.trans hm5⟩
            rw [← HU.out]
            cases gk with
            | zero => omega
            | succ f =>
              simp only [uni, Nat.add_sub_cancel]
              rw [if_neg (show ¬ 8 * bs.length < p + i by omega), if_neg hx]
end Go.Proofs.Ytjpkaljndfgkjaa
