/- The walk of SampleExact. -/
import Derived.Test.YtamkbboijblooaaExF
namespace Go.Proofs.Ytamkbboijblooaa
open Go.RowKit Go.Maps

set_option maxRecDepth 100000 in
set_option maxHeartbeats 3200000 in
theorem exact_any {w : World} {n m lg T : Nat} {long : Bool} (hn : n < 256) (hm : m < 256) (hlg : Hid (long = (lg % 8 == 0))) (hT : Hid (T = 2 ^ bitsIn long)) (hlg2 : lg < 256) :
    Calls Try.prog 15 #[.int .u8 (n : Int), .int .u8 (m : Int), .int .u8 (lg : Int)] w (Ret (fun x _ => x = .bool true) w) := by
  obtain ⟨k0, hk0⟩ : ∃ k0, k0 = n % 6 := ⟨_, rfl⟩
  have hkI : (n : Int) % 6 = (k0 : Int) := by omega
  have hk6 : k0 < 6 := by omega
  obtain ⟨k, hk⟩ : ∃ k, k = k0 + 1 := ⟨_, rfl⟩
  have hkI2 : (k0 : Int) + 1 = (k : Int) := by omega
  obtain ⟨k1, hk1⟩ : ∃ k1, k1 = k + 1 := ⟨_, rfl⟩
  have hkI3 : (k : Int) + 1 = (k1 : Int) := by omega
  obtain ⟨sz, hsz⟩ : ∃ sz, sz = m % k1 := ⟨_, rfl⟩
  have hszI : (m : Int) % (k1 : Int) = (sz : Int) := by rw [hsz]; rfl
  have hsz1 : sz < k1 := by rw [hsz]; exact Nat.mod_lt _ (by omega)
  have hgl : (((lg : Int) % 8) == 0) = long := by
    rw [hlg.out]
    by_cases h : lg % 8 = 0
    · rw [show ((lg : Int) % 8) = 0 by omega, h]; rfl
    · have e : ¬ ((lg : Int) % 8) = 0 := by omega
      rw [beq_false_of_ne e, beq_false_of_ne h]
  have hmm := @run_makeMap Try.prog
  have b1 : k ≤ 6 := by omega
  have b2 : 1 ≤ k := by omega
  have b3 : k1 ≤ 7 := by omega
  have b4 : 2 ≤ k1 := by omega
  have b5 : sz ≤ 6 := by omega
  have b6 : (0 : Int) < (k1 : Int) := by omega
  have HK := Lib.hid (And.intro hk hk1)
  clear hk0 hsz hk hk1
  go_enter Try.func15, Try.ntmps15
  go_upto_if 43 with fail
  rw [hszI, hkI]
  clear hszI hkI hgl hkI2 hkI3 hmm
  have HM0 := Lib.hid (MB.made w)
  have hTb : T = 256 ∨ T = 65536 := by rw [hT.out]; cases long <;> simp [bitsIn]
  generalize ((w.alloc (.map #[] 0)).alloc (.map #[] 0)).alloc (.map #[] 0) = W0 at *
  go_cut [13, 43] (fun s13 s43 wx => s13 = .int .i64 (T : Int) ∧ s43 = .bool long ∧ wx = W0)
  case first =>
    cases long
    · go_wp2_with fail
      go_meet
      exact ⟨by rw [hT.out]; rfl, rfl, rfl⟩
    · go_wp2_with fail
      go_meet
      exact ⟨by rw [hT.out]; rfl, rfl, rfl⟩
  case rest =>
  obtain ⟨rfl, rfl, rfl⟩ := hcut
  obtain ⟨q4, hq4⟩ : ∃ q4, q4 = min k 4 := ⟨_, rfl⟩
  have HQ4 := Lib.hid hq4
  clear hq4
  go_wp2_with fail
  go_loopw [45] (fun q wr => ∃ (i : Nat) (D1 D2 D3 : DataW Unit), i ≤ T ∧ q = .int .i64 (i : Int) ∧ MB w wr i i i D1 D2 D3 ∧ TalI D1 (outN long k) i ∧ TalI D2 (outS long k sz) i ∧ TalI D3 (outP long q4) i) (fun q _ => T - (intOf q).toNat)
  case atStart => exact ⟨0, .map [], .map [], .map [], Nat.zero_le _, rfl, HM0.out, TalI.start _, TalI.start _, TalI.start _⟩
  case round =>
    clear HM0
    obtain ⟨i, D1, D2, D3, hi, rfl, hmb, ht1, ht2, ht3⟩ := hrel
    have HTA := Lib.hid (And.intro ht1 (And.intro ht2 ht3))
    clear ht1 ht2 ht3
    by_cases hlt : i < T
    · have hlt' : (i : Int) < (T : Int) := by omega
      obtain ⟨b0, hb0⟩ : ∃ b0, b0 = i % 256 := ⟨_, rfl⟩
      have hw0 : IntKind.u8.wrap (i : Int) = (b0 : Int) := by simp [IntKind.wrap, IntKind.signed, IntKind.bits, hb0]
      have hl0 : b0 < 256 := by omega
      obtain ⟨b1', hb1⟩ : ∃ b1', b1' = i / 256 := ⟨_, rfl⟩
      have hl1 : b1' < 256 := by omega
      have hw1 : (i : Int) / 256 = (b1' : Int) := by rw [hb1]; rfl
      have HB1 := Lib.hid hb1
      have HB0 := Lib.hid hb0
      clear hb1
      clear hb0
      have hbig : decide ((256 : Int) < (T : Int)) = long := by rw [hT.out]; cases long <;> rfl
      go_upto_if 53 with fail
      have hrs : w.heap.size + 1 + 1 < wr.heap.size := hmb.m3.lt
      have HTB := Lib.hid (TB.made wr hl0)
      have hx2 : Ext wr ((wr.alloc (.cells #[.int .u8 (b0 : Int)] 5)).alloc (.cells #[.slice (some ⟨wr.heap.size, 0, none⟩) 1 1, .int .i64 0] 25)) := ((Ext.refl wr).alloc _).alloc _
      have hsV : ((wr.alloc (.cells #[.int .u8 (b0 : Int)] 5)).alloc (.cells #[.slice (some ⟨wr.heap.size, 0, none⟩) 1 1, .int .i64 0] 25)).heap.size = wr.heap.size + 1 + 1 := by simp
      generalize ((wr.alloc (.cells #[.int .u8 (b0 : Int)] 5)).alloc (.cells #[.slice (some ⟨wr.heap.size, 0, none⟩) 1 1, .int .i64 0] 25)) = V at *
      replace hmb := hmb.fore hx2
      have HMB := Lib.hid hmb
      clear hmb hx2
      go_cut [13, 52, 53] (fun s13 s52 s53 wx => s13 = .int .i64 (T : Int) ∧ s52 = .int .i64 (T : Int) ∧ s53 = .bool long ∧ MB w wx i i i D1 D2 D3 ∧ ∃ gb r : Nat, wr.heap.size ≤ gb ∧ TB wx (wr.heap.size + 1) gb r (tapeOf long i))
      case first =>
        cases long
        · go_wp2_with fail
          go_meet
          refine ⟨rfl, rfl, rfl, HMB.out, wr.heap.size, 0, Nat.le_refl _, ?_⟩
          have e : tapeOf false i = [b0] := by
            have hi2 : i < 256 := by have := hT.out; simp [bitsIn] at this; omega
            rw [HB0.out, Nat.mod_eq_of_lt hi2]; rfl
          rw [e]; exact HTB.out
        · have d0 : V.cell? ⟨wr.heap.size + 1, 0, none⟩ = some (.slice (some ⟨wr.heap.size, 0, none⟩) 1 1) := HTB.out.c0
          have f0 := HTB.out.tape.free 0
          obtain ⟨i0, hi0, hz0, hz1, hz2⟩ := info_parts info_u8
          have HI := Lib.hid (And.intro hi0 (And.intro hz0 (And.intro hz1 hz2))); clear hi0 hz0 hz1 hz2
          go_wp2_with (first | (at_builtin; go_loud (refine wpList_append_row rfl _ _ 23 rfl wr.heap.size 5 i0 (.int .u8 0) 1 Try.underlying23 HI.out.1 HI.out.2.1 HI.out.2.2.1 HI.out.2.2.2 rfl _ [.int .u8 (b0 : Int)] rfl ?c0 ⟨wr.heap.size + 1 + 1, 0, none⟩ 1 (.int .u8 (b1' : Int)) rfl ?c1 rfl ?c3 ?c4 ?c5 ?_)))
          case c0 => exact .inr ⟨wr.heap.size, 0, rfl, Nat.le_refl _, HTB.out.bits.alloc _, by simp [maxLen]⟩
          case c1 => rw [add_zero, ← hsV]; exact (Bk.new V 5 [.int .u8 (b1' : Int)]).cell (i := 0) (by simp)
          case c3 => simp [maxLen]
          case c4 => simp
          case c5 => simp; omega
          intro v' w' hr' hgr
          have HM9 := Lib.hid ((HMB.out.fore ((Ext.refl V).alloc (.cells #[.int .u8 (b1' : Int)] 5))).far hgr (by exact hrs))
          have htp := Mod.bk hgr (HTB.out.tape.alloc (.cells #[.int .u8 (b1' : Int)] 5)) (show wr.heap.size + 1 ≠ wr.heap.size by omega)
          rcases hr' with ⟨-, h⟩ | ⟨g9, r9, rfl, hg9, hb9, -⟩
          · simp at h
          have c9 := htp.cell (i := 0) (by simp)
          have f9 := htp.free 0
          have hne : g9 ≠ wr.heap.size + 1 := fun e => by
            rw [e] at hb9
            have h := htp.symm.trans hb9
            injection h with h; injection h with _ h; exact absurd h (by decide)
          have HB9 := Lib.hid hb9; have HTP := Lib.hid htp
          clear d0 f0 hb9 htp hgr
          go_wp2_with fail
          go_meet
          refine ⟨rfl, rfl, rfl, HM9.out.far ((Mod.refl (wr.heap.size + 1) _).setCell (.inl rfl) _) (by omega), g9, r9, hg9, ?_⟩
          have e : tapeOf true i = [b0, b1'] := by rw [HB0.out, HB1.out]; rfl
          rw [e]
          exact ⟨HB9.out.far hne _, HTP.out.set 0 _, by simp; omega, by simp⟩
      case rest =>
        obtain ⟨rfl, rfl, rfl, hmb, gb, r, hgb, htb⟩ := hcut
        obtain ⟨U, rfl⟩ : ∃ U : World, U = wc := ⟨_, rfl⟩
        clear HMB HTB HB0 HB1 hw0 hw1 hl0 hl1 hsV hbig
        clear V
        have htl : 8 * (tapeOf long i).length = bitsIn long := tapeOf_len long i
        have HTL := Lib.hid htl
        clear htl
        obtain ⟨bs, hbs⟩ : ∃ bs, bs = tapeOf long i := ⟨_, rfl⟩
        rw [← hbs] at htb HTL
        have HBS := Lib.hid hbs
        clear hbs
        go_upto_region 14 with fail
        have hcv : IntKind.u64.wrap (k : Int) = (k : Int) := u64_id (by omega)
        have d0 := htb.c0
        have d1 := htb.c1
        have hby := htb.by'
        have HTB := Lib.hid htb; have HMB := Lib.hid hmb
        clear htb hmb
        have HU := Lib.hid (fun (X : World) (u t : Value) (h1 : Nz X u k) (h2 : Tp X t bs (0 : Nat)) => Uniform_out (pos := 0) h1.nv (dig_small (by omega)) h2 (by simp))
        obtain ⟨uo, huo⟩ : ∃ uo, uo = unifOut bs k 0 := ⟨_, rfl⟩
        rw [← huo] at HU
        have HUO := Lib.hid huo
        clear huo
        go_cut [16, 17, 18] (fun sa sb sc wx => ∃ g : Nat, sb = .pointer (some ⟨g, 0, none⟩) ∧ sc = .int .i64 (uo.2.2.2 : Int) ∧ Nz wx sa uo.1 ∧ Ext U wx)
        case first =>
          go_region_held3 (fun X => Ext U X ∧ X.cell? ⟨wr.heap.size + 1, 0, none⟩ = some (.slice (some ⟨gb, 0, none⟩) bs.length (bs.length + r)) ∧ X.cell? ⟨wr.heap.size + 1, 1, none⟩ = some (.int .i64 0))
            ((refine (fun he => ⟨he, Ext.cell he d0, Ext.cell he d1⟩) ?_; repeat (first | exact Ext.refl _ | exact (Ext.refl _).drew | refine Ext.alloc ?_ _ | refine Ext.drew ?_ | refine Ext.setCell ?_ (by first | exact Nat.le_refl _ | (have := Ext.size hea; simp at this ⊢; omega)) _ | refine Ext.trans ?_ (by assumption))))
            (first
              | (go_at_call 19; refine (of_nz k (by omega) _).mono ?_; rintro e wa ⟨o, rfl, hea, hoa⟩)
              | (go_at_call 18; refine (HU.out _ _ _ ?_ ?_).mono ?_; (first | exact hoa | exact hoa.ext ((Ext.refl _).alloc _)); exact ⟨_, rfl, hby.ext (And.left (by assumption))⟩; rintro e wb ⟨heb, v, A', c', rfl, hv, hs'⟩
                 first
                   | (have nb : Bk wb U.heap.size 25 [.slice none 0 0, .int .i64 0] := (Bk.new U.drew 25 [.slice none 0 0, .int .i64 0]).ext (Ext.trans hea heb); have g0 := nb.cell (i := 0) (by simp); have g1 := nb.cell (i := 1) (by simp); have f0 := nb.free 0; have f1 := nb.free 1)
                   | (have nb : Bk wb wa.heap.size 25 [.slice none 0 0, .int .i64 0] := (Bk.new wa 25 [.slice none 0 0, .int .i64 0]).ext heb; have g0 := nb.cell (i := 0) (by simp); have g1 := nb.cell (i := 1) (by simp); have f0 := nb.free 0; have f1 := nb.free 1)
                   | skip))
          all_goals
            have hfin := And.left (b := _ ∧ _) (by assumption)
            go_wp2_with fail
            go_meet
            first
              | exact ⟨_, rfl, rfl, hv.ext ((Ext.refl _).alloc _), hfin⟩
              | exact ⟨_, rfl, rfl, Dg.mod hv nb (by simp [U32]) (stored2 _ _ _ _), hfin⟩
        case rest =>
          obtain ⟨g17, rfl, rfl, hz16, he16⟩ := hcut
          obtain ⟨U2, rfl⟩ : ∃ U2 : World, U2 = wc := ⟨_, rfl⟩
          have htb := HTB.out.fore he16
          have hmb := HMB.out.fore he16
          clear HTB HMB he16 d0 d1 hcv HU hby
          clear U
          go_upto_if 72 with fail
          have hout : (uo.2.2.2 = 0 ∧ outN long k i = some [uo.1] ∧ uo.1 < k) ∨ (uo.2.2.2 = 36 ∧ outN long k i = none) := by
            have hu : uo = unifSome bs (uni (bitAt bs) (bitsIn long) k (blen (k - 1)) (bitsIn long + 1) 0) := by rw [HUO.out]; unfold unifOut; rw [if_neg (by omega), HTL.out]
            have ho : outN long k i = (uni (bitAt bs) (bitsIn long) k (blen (k - 1)) (bitsIn long + 1) 0).map (fun p => [p.1]) := by rw [HBS.out]; rfl
            rcases hR : uni (bitAt bs) (bitsIn long) k (blen (k - 1)) (bitsIn long + 1) 0 with _ | ⟨x, p⟩
            · rw [hR] at hu ho; right; rw [hu]; exact ⟨rfl, ho⟩
            · rw [hR] at hu ho; left; rw [hu]; exact ⟨rfl, ho, (uni_some hR).1⟩
          have HOUT := Lib.hid hout
          clear hout
          have HTB := Lib.hid htb; have HMB := Lib.hid hmb
          clear htb hmb
          go_cut [7, 16, 18, 71, 72] (fun s7 s16 s18 s71 s72 wx => ∃ D1' : DataW Unit, s7 = .int .i64 (k : Int) ∧ MB w wx (i + 1) i i D1' D2 D3 ∧ TalI D1' (outN long k) (i + 1) ∧ TB wx (wr.heap.size + 1) gb r bs)
          case first =>
            rcases HOUT.out with ⟨hc, hf, hx⟩ | ⟨hc, hf⟩
            · rw [hc]
              obtain ⟨A16, c16, rfl⟩ := hz16.slice
              obtain ⟨x, hx0⟩ : ∃ x, x = uo.1 := ⟨_, rfl⟩
              rw [← hx0] at hz16 hf hx ⊢
              clear hx0
              go_wp2_with fail
              refine (ints_any (l := [x]) ?hns (by simp) ?hsm).mono ?_
              case hns =>
                intro j hj
                obtain rfl : j = 0 := by simpa using hj
                exact ⟨_, _, _, _, rfl, one_new U2 _ _ 0 _ rfl, hz16.ext ((Ext.refl _).alloc _)⟩
              case hsm => simp; omega
              rintro e w3 ⟨v3, rfl, he3, hv3⟩
              have hE3 : Ext U2 w3 := ((Ext.refl U2).alloc _).trans he3
              clear hz16 he3
              go_wp2_with fail
              refine (key_any (l := [x]) ⟨by simp, hv3.sl⟩ (by simp) (by simp; omega)).mono ?_
              rintro e w4 ⟨v4, rfl, he4, rfl⟩
              have HE4 := Lib.hid (hE3.trans he4)
              have hsm : Sm [x] := by intro y hy; simp at hy; omega
              have hkl : keyOf Try.prog 9 (.string ⟨(keyL [x]).toArray⟩) = some (klS [x]) := key_lit (by simp)
              have HM4 := Lib.hid (HMB.out.fore HE4.out)
              have hce : ∀ c : Int, D1.atKey (klS [x]) (.lit (.int .i64 0)) = .lit (.int .i64 c) → c = (upto (outN long k) i [x] : Int) := fun c hat => HTA.out.1.is hsm hat
              have ht' := HTA.out.1.some hf hsm
              have hub : upto (outN long k) i [x] ≤ 65536 := Nat.le_trans (upto_le _ _ _) (by omega)
              generalize upto (outN long k) i [x] = cnt at *
              have HCE := Lib.hid hce; have HT' := Lib.hid ht'
              clear hce ht' hE3 he4 hv3 hf
              generalize ByteArray.mk (keyL [x]).toArray = kb at *
              go_wp2_with (first
                | (at_lookup; refine wpList_lookup_own_int _ rfl _ _ 80 rfl 9 3 .i64 law_str Try.underlying80 Try.underlying3 (zero_int _) w.heap.size i D1 rfl HM4.out.m1 _ (klS [x]) rfl hkl ?_; intro c hat hwc; obtain rfl := HCE.out c hat; clear hat hwc)
                | (at_mapUpdate; refine wpList_mapUpdate_own _ rfl _ _ _ 80 rfl 9 3 law_str Try.underlying80 _ w.heap.size i D1 rfl HM4.out.m1 (by unfold maxLen; omega) _ _ (klS [x]) rfl rfl hkl _ [] (plain_count hub) ?_; intro w5 hown5 hg5; have HG5 := Lib.hid (And.intro hown5 hg5); clear hown5 hg5))
              go_meet
              exact ⟨_, rfl, HM4.out.up1 HG5.out.2 HG5.out.1, HT'.out, (HTB.out.fore HE4.out).far HG5.out.2 (by omega) (by omega)⟩
            · rw [hc]
              go_wp2_with fail
              go_meet
              exact ⟨D1, rfl, HMB.out.idle1, HTA.out.1.none hf, HTB.out⟩
          case rest =>
            obtain ⟨D1', rfl, hmb, ht1, htb⟩ := hcut
            obtain ⟨U3, rfl⟩ : ∃ U3 : World, U3 = wc := ⟨_, rfl⟩
            have HT1 := Lib.hid ht1
            clear ht1 HTB HMB HOUT HUO hz16
            clear uo U2
            go_upto_region 17 with fail
            have hcv : IntKind.u64.wrap (k : Int) = (k : Int) := u64_id (by omega)
            have d0 := htb.c0
            have d1 := htb.c1
            have hby := htb.by'
            have HTB := Lib.hid htb; have HMB := Lib.hid hmb
            clear htb hmb
            have hszk : sz ≤ k := by have := HK.out.2; omega
            obtain ⟨R2, hR2⟩ : ∃ R2, dist (bitAt bs) (8 * bs.length) sz (k - sz) [] 0 = R2 := ⟨_, rfl⟩
            have HR2 := Lib.hid hR2
            clear hR2
            go_cut [19, 20, 21] (fun sa sb sc wx => ∃ (g : Nat) (A : Option Addr) (kk c : Nat) (code : Int), sb = .pointer (some ⟨g, 0, none⟩) ∧ sa = .slice A kk c ∧ sc = .int .i64 code ∧ SetsX R2 wx A kk code ∧ Ext U3 wx)
            case first =>
              go_region_held3 (fun X => Ext U3 X ∧ X.cell? ⟨wr.heap.size + 1, 0, none⟩ = some (.slice (some ⟨gb, 0, none⟩) bs.length (bs.length + r)) ∧ X.cell? ⟨wr.heap.size + 1, 1, none⟩ = some (.int .i64 0))
                ((refine (fun he => ⟨he, Ext.cell he d0, Ext.cell he d1⟩) ?_; repeat (first | exact Ext.refl _ | exact (Ext.refl _).drew | refine Ext.alloc ?_ _ | refine Ext.drew ?_ | refine Ext.setCell ?_ (by first | exact Nat.le_refl _ | (have := Ext.size hea; simp at this ⊢; omega)) _ | refine Ext.trans ?_ (by assumption))))
                (first
                  | (go_at_call 19; refine (of_nz k (by omega) _).mono ?_; rintro e wa ⟨o, rfl, hea, hoa⟩)
                  | (go_at_call 45; refine (sets_x (bs := bs) (n := k) (m := sz) HR2.out ?_ (by omega) hszk ?_).mono ?_; (first | exact hoa.nv | exact (hoa.ext ((Ext.refl _).alloc _)).nv); exact ⟨_, rfl, hby.ext (And.left (by assumption))⟩; rintro e wb ⟨heb, A7, k7, c7, A', k', c', q', code, rfl, hSX, hbl⟩
                     first
                       | (have nb : Bk wb U3.heap.size 25 [.slice none 0 0, .int .i64 0] := (Bk.new U3.drew 25 [.slice none 0 0, .int .i64 0]).ext (Ext.trans hea heb); have g0 := nb.cell (i := 0) (by simp); have g1 := nb.cell (i := 1) (by simp); have f0 := nb.free 0; have f1 := nb.free 1)
                       | (have nb : Bk wb wa.heap.size 25 [.slice none 0 0, .int .i64 0] := (Bk.new wa 25 [.slice none 0 0, .int .i64 0]).ext heb; have g0 := nb.cell (i := 0) (by simp); have g1 := nb.cell (i := 1) (by simp); have f0 := nb.free 0; have f1 := nb.free 1)
                       | skip))
              all_goals
                have hfin := And.left (b := _ ∧ _) (by assumption)
                have HBL := Lib.hid hbl
                have HSX := Lib.hid hSX
                clear hbl hSX
                go_wp2_with fail
                go_meet
                first
                  | exact ⟨_, _, _, _, _, rfl, rfl, rfl, HSX.out.fore ((Ext.refl _).alloc _), hfin⟩
                  | exact ⟨_, _, _, _, _, rfl, rfl, rfl, HSX.out.far nb (by simp [U32]) (stored2 _ _ _ _) (fun hR ad h => by first | (have := HBL.out hR ad h; simp at this; omega) | (have := HBL.out hR ad h; have h2 := Ext.size hea; simp at h2; omega)), hfin⟩
            case rest =>
              obtain ⟨g20, A19, k19, c19, code, rfl, rfl, rfl, hsx, he19⟩ := hcut
              obtain ⟨U4, rfl⟩ : ∃ U4 : World, U4 = wc := ⟨_, rfl⟩
              have htb := HTB.out.fore he19
              have hmb := HMB.out.fore he19
              clear HTB HMB he19 d0 d1 hcv hby
              clear U3
              go_upto_if 92 with fail
              have HOUT := Lib.hid (sets_out HBS.out HTL.out HR2.out hszk b1)
              have HTB := Lib.hid htb; have HMB := Lib.hid hmb
              clear htb hmb
              go_cut [7, 8, 19, 21, 91, 92] (fun s7 s8 s19 s21 s91 s92 wx => ∃ D2' : DataW Unit, s7 = .int .i64 (k : Int) ∧ s8 = .int .i64 (sz : Int) ∧ MB w wx (i + 1) (i + 1) i D1' D2' D3 ∧ TalI D2' (outS long k sz) (i + 1) ∧ TB wx (wr.heap.size + 1) gb r bs)
              case first =>
                rcases hsx with ⟨hR, rfl⟩ | ⟨l, p, hR, rfl, rfl, hns⟩
                · have hf := HOUT.out.1 hR
                  go_wp2_with fail
                  go_meet
                  exact ⟨D2, rfl, rfl, HMB.out.idle2, HTA.out.2.1.none hf, HTB.out⟩
                · obtain ⟨hf, hsm, hll⟩ := HOUT.out.2 l p hR
                  have HSM := Lib.hid hsm
                  clear hsm hR
                  go_wp2_with fail
                  refine (ints_any hns (by omega) (fun y hy => by have := HSM.out y hy; omega)).mono ?_
                  rintro e w3 ⟨v3, rfl, he3, hv3⟩
                  clear hns
                  go_wp2_with fail
                  refine (key_any ⟨by omega, hv3.sl⟩ (by omega) HSM.out).mono ?_
                  rintro e w4 ⟨v4, rfl, he4, rfl⟩
                  have HE4 := Lib.hid (he3.trans he4)
                  have hkl : keyOf Try.prog 9 (.string ⟨(keyL l).toArray⟩) = some (klS l) := key_lit (by omega)
                  have HM4 := Lib.hid (HMB.out.fore HE4.out)
                  have hce : ∀ c : Int, D2.atKey (klS l) (.lit (.int .i64 0)) = .lit (.int .i64 c) → c = (upto (outS long k sz) i l : Int) := fun c hat => HTA.out.2.1.is HSM.out hat
                  have ht' := HTA.out.2.1.some hf HSM.out
                  have hub : upto (outS long k sz) i l ≤ 65536 := Nat.le_trans (upto_le _ _ _) (by omega)
                  generalize upto (outS long k sz) i l = cnt at *
                  have HCE := Lib.hid hce; have HT' := Lib.hid ht'
                  clear hce ht' he3 he4 hv3 hf
                  generalize ByteArray.mk (keyL l).toArray = kb at *
                  go_wp2_with (first
                    | (at_lookup; refine wpList_lookup_own_int _ rfl _ _ 80 rfl 9 3 .i64 law_str Try.underlying80 Try.underlying3 (zero_int _) (w.heap.size + 1) i D2 rfl HM4.out.m2 _ (klS l) rfl hkl ?_; intro c hat hwc; obtain rfl := HCE.out c hat; clear hat hwc)
                    | (at_mapUpdate; refine wpList_mapUpdate_own _ rfl _ _ _ 80 rfl 9 3 law_str Try.underlying80 _ (w.heap.size + 1) i D2 rfl HM4.out.m2 (by unfold maxLen; omega) _ _ (klS l) rfl rfl hkl _ [] (plain_count hub) ?_; intro w5 hown5 hg5; have HG5 := Lib.hid (And.intro hown5 hg5); clear hown5 hg5))
                  go_meet
                  exact ⟨_, rfl, rfl, HM4.out.up2 HG5.out.2 HG5.out.1, HT'.out, (HTB.out.fore HE4.out).far HG5.out.2 (by omega) (by omega)⟩
              case rest =>
                obtain ⟨D2', rfl, rfl, hmb, ht2, htb⟩ := hcut
                obtain ⟨U5, rfl⟩ : ∃ U5 : World, U5 = wc := ⟨_, rfl⟩
                have HT2 := Lib.hid ht2
                clear ht2 HTB HMB HOUT hsx HR2
                clear U4 R2
                have d0 := htb.c0
                have d1 := htb.c1
                have hby := htb.by'
                have HTB := Lib.hid htb; have HMB := Lib.hid hmb
                clear htb hmb
                obtain ⟨R3, hR3⟩ : ∃ R3, perm (bitAt bs) (8 * bs.length) (q4 - 1) (List.range q4) 0 = R3 := ⟨_, rfl⟩
                have HR3 := Lib.hid hR3
                clear hR3
                have hq4 : q4 ≤ 4 := by rw [HQ4.out]; omega
                have hmin : min (k : Int) 4 = (q4 : Int) := by rw [HQ4.out]; omega
                go_wp2_with fail
                refine (perm_x (bs := bs) (m := q4) HR3.out (by omega) ⟨_, rfl, hby⟩).mono ?_
                rintro e U6 ⟨he6, A22, k22, c22, A', k', c', q', code3, rfl, hpx⟩
                clear hmin hby d0 d1
                go_upto_if 109 with fail
                have hx7 : Ext U6 (U6.alloc (.cells #[.slice A' k' c', .int .i64 q'] 25)) := (Ext.refl _).alloc _
                generalize (U6.alloc (.cells #[.slice A' k' c', .int .i64 q'] 25)) = U7 at *
                replace hpx := hpx.fore hx7
                have HM7 := Lib.hid (HMB.out.fore (he6.trans hx7))
                have HOUT := Lib.hid (perms_out HBS.out HTL.out HR3.out hq4)
                clear he6 hx7 HMB HTB HR3 HBS HTL
                rcases hpx with ⟨hR, rfl⟩ | ⟨l, p, hR, rfl, hin⟩
                · have hf := HOUT.out.1 hR
                  clear hR
                  go_wp2_with fail
                  go_roundw
                  case rel => exact ⟨i + 1, D1', D2', D3, by omega, by go_num, HM7.out.idle3, HT1.out, HT2.out, HTA.out.2.2.none hf⟩
                  case measure => simp [intOf]; omega
                · obtain ⟨hf, hsm, hll⟩ := HOUT.out.2 l p hR
                  have HSM := Lib.hid hsm
                  clear hsm hR
                  go_wp2_with fail
                  refine (key_any hin (by omega) HSM.out).mono ?_
                  rintro e w4 ⟨v4, rfl, he4, rfl⟩
                  have hkl : keyOf Try.prog 9 (.string ⟨(keyL l).toArray⟩) = some (klS l) := key_lit (by omega)
                  have HM4 := Lib.hid (HM7.out.fore he4)
                  have hce : ∀ c : Int, D3.atKey (klS l) (.lit (.int .i64 0)) = .lit (.int .i64 c) → c = (upto (outP long q4) i l : Int) := fun c hat => HTA.out.2.2.is HSM.out hat
                  have ht' := HTA.out.2.2.some hf HSM.out
                  have hub : upto (outP long q4) i l ≤ 65536 := Nat.le_trans (upto_le _ _ _) (by omega)
                  generalize upto (outP long q4) i l = cnt at *
                  have HCE := Lib.hid hce; have HT' := Lib.hid ht'
                  clear hce ht' he4 hf hin
                  generalize ByteArray.mk (keyL l).toArray = kb at *
                  go_wp2_with (first
                    | (at_lookup; refine wpList_lookup_own_int _ rfl _ _ 80 rfl 9 3 .i64 law_str Try.underlying80 Try.underlying3 (zero_int _) (w.heap.size + 1 + 1) i D3 rfl HM4.out.m3 _ (klS l) rfl hkl ?_; intro c hat hwc; obtain rfl := HCE.out c hat; clear hat hwc)
                    | (at_mapUpdate; refine wpList_mapUpdate_own _ rfl _ _ _ 80 rfl 9 3 law_str Try.underlying80 _ (w.heap.size + 1 + 1) i D3 rfl HM4.out.m3 (by unfold maxLen; omega) _ _ (klS l) rfl rfl hkl _ [] (plain_count hub) ?_; intro w5 hown5 hg5; have HG5 := Lib.hid (And.intro hown5 hg5); clear hown5 hg5))
                  go_roundw
                  case rel => exact ⟨i + 1, D1', D2', _, by omega, by go_num, HM4.out.up3 HG5.out.2 HG5.out.1, HT1.out, HT2.out, HT'.out⟩
                  case measure => simp [intOf]; omega
    · obtain rfl : i = T := by omega
      have hdn : ¬ (i : Int) < (i : Int) := by omega
      clear hi hlt
      have HMB := Lib.hid hmb
      clear hmb
      have hszk : sz ≤ k := by have := HK.out.2; omega
      go_wp2_with fail
      go_loopw [25, 118] (fun t q wx => ∃ j : Nat, j ≤ sz ∧ q = .int .i64 (j : Int) ∧ t = .int .i64 (chs k j : Int) ∧ wx = wr) (fun _ q _ => sz - (intOf q).toNat)
      case atStart => exact ⟨0, Nat.zero_le _, rfl, rfl, rfl⟩
      case round =>
        obtain ⟨j, hj, rfl, rfl, rfl⟩ := hrel
        by_cases hjs : j < sz
        · have hjs' : (j : Int) < (sz : Int) := by omega
          have hcb : chs k j ≤ 20 := chs_le (by omega) (by omega)
          have HCN := Lib.hid (chs_next (k := k) (j := j) b1 (by omega))
          go_wp2_with fail
          go_roundw
          case rel => exact ⟨j + 1, by omega, by go_num, congrArg (Value.int .i64) HCN.out, trivial⟩
          case measure => simp [intOf]; omega
        · obtain rfl : j = sz := by omega
          have hq4 : q4 ≤ 4 := by rw [HQ4.out]; omega
          have hq1 : 1 ≤ q4 := by rw [HQ4.out]; omega
          have hmin : min (k : Int) 4 = (q4 : Int) := by rw [HQ4.out]; omega
          have hjj : ¬ (j : Int) < (j : Int) := by omega
          go_wp2_with fail
          go_loopw [26, 132] (fun t q wx => ∃ j : Nat, j ≤ q4 ∧ q = .int .i64 (j : Int) ∧ t = .int .i64 (fac j : Int) ∧ wx = wr) (fun _ q _ => q4 - (intOf q).toNat)
          case atStart => exact ⟨0, Nat.zero_le _, rfl, rfl, rfl⟩
          case round =>
            obtain ⟨a, ha, rfl, rfl, rfl⟩ := hrel
            by_cases has : a < q4
            · have has' : (a : Int) < (q4 : Int) := by omega
              have HFN := Lib.hid (fac_next (j := a) (by omega))
              clear hmin hjj
              go_wp2_with fail
              go_roundw
              case rel => exact ⟨a + 1, by omega, by go_num, congrArg (Value.int .i64) HFN.out, trivial⟩
              case measure => simp [intOf]; omega
            · obtain rfl : a = q4 := by omega
              have haa : ¬ (a : Int) < (a : Int) := by omega
              obtain ⟨t1, t2, t3⟩ := HTA.out
              rw [hT.out] at t1 t2 t3
              have HE1 := Lib.hid (even1 b2 b1 t1); have HE2 := Lib.hid (even2 b2 b1 hszk t2); have HE3 := Lib.hid (even3 hq1 hq4 t3)
              clear t1 t2 t3 HTA
              go_wp2_with fail
              refine (HE1.out.call HMB.out.m1 (by omega)).mono ?_
              rintro e w2 ⟨x, rfl, he2, rfl⟩
              go_wp2_with fail
              refine (HE2.out.call (own_ext HMB.out.m2 he2) (by have := chs_le b1 (by omega : j ≤ 6); omega)).mono ?_
              rintro e w3 ⟨x, rfl, he3, rfl⟩
              go_wp2_with fail
              refine (HE3.out.call (own_ext (own_ext HMB.out.m3 he2) he3) (by have := fac_le hq4; omega)).mono ?_
              rintro e w4 ⟨x, rfl, he4, rfl⟩
              go_wp2_with fail
              refine (awake_true _).mono ?_
              rintro e w5 ⟨x, rfl, he5, rfl⟩
              go_wp2_with fail
              go_ret
              exact Ret.mk ((((HMB.out.ext.trans he2).trans he3).trans he4).trans he5) rfl

theorem law_exact {w : World} {n m lg : Nat} (hn : n < 256) (hm : m < 256) (hlg : lg < 256) :
    Calls Try.prog 15 #[.int .u8 (n : Int), .int .u8 (m : Int), .int .u8 (lg : Int)] w (Ret (fun x _ => x = .bool true) w) :=
  exact_any hn hm (Lib.hid rfl) (Lib.hid rfl) hlg
end Go.Proofs.Ytamkbboijblooaa
