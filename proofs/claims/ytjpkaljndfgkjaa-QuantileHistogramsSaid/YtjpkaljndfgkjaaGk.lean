/- Contracts: row.Dedup, array.OfRows with no directions. -/
import Derived.Test.YtjpkaljndfgkjaaGj
import Derived.IntWalk
namespace Go.Proofs.Ytjpkaljndfgkjaa.R
open Go.RowKit Go.Maps

/-- Rows out of other rows, in memory of their own. -/
def OutPost (n : Nat) (rows : List (List Vl)) (w : World) (e : Ending) (w' : World) : Prop := Ext w w' ∧ ∃ A k c rs, e = .returned (.slice A k c) ∧ Sl rdRow (fun q => w.heap.size ≤ q) w' (.slice A k c) rs ∧ k ≤ n ∧ (0 < n → 0 < k) ∧ ∀ x ∈ rs, x ∈ rows
set_option maxRecDepth 20000 in
set_option maxHeartbeats 3200000 in
theorem dedup_any {F : Nat → Prop} {w : World} {A : Option Addr} {n c : Nat} {rows : List (List Vl)} (hA : Sl rdRow F w (.slice A n c) rows) (hr : ∀ x ∈ rows, x.length ≤ 1048576) (hn : n ≤ 1048576) :
    Calls Try.prog 29 #[.slice A n c] w (OutPost n rows w) := by
  have hnl := hA.cap.1
  have HA := Lib.hid hA; have HR := Lib.hid hr; have HNL := Lib.hid hnl
  obtain ⟨p0, hp0, hx0, hx1, hx2⟩ := info_parts info_row
  have HP0 := Lib.hid (And.intro hp0 (And.intro hx0 (And.intro hx1 hx2)))
  clear hA hr hnl hp0 hx0 hx1 hx2
  go_enter Try.func29, Try.ntmps29
  go_wp2_with fail
  go_loopw [3, 7] (fun o t wr => ∃ (i k : Nat) (l : List (List Vl)) (css : List (List Value)), i ≤ n ∧ t = .int .i64 (i : Int) ∧ Rw rdRow wr w.heap.size 29 o k l css ∧ Hid (∀ x ∈ l, x ∈ rows) ∧ k ≤ i ∧ (0 < i → 0 < k) ∧ Ext w wr) (fun _ t _ => n - (intOf t).toNat)
  case atStart => exact ⟨0, 0, [], [], Nat.zero_le _, rfl, Rw.empty _ _ _ _, Lib.hid (by simp), Nat.le_refl _, fun h => h, Ext.refl _⟩
  case round =>
    obtain ⟨i, k, l, css, hi, rfl, hrw, HM, hki, hk0, hx⟩ := hrel
    obtain ⟨Ao, co, rfl⟩ := own_slice hrw.own
    obtain ⟨W, rfl⟩ : ∃ W : World, W = wr := ⟨_, rfl⟩
    have HRW := Lib.hid hrw; have HX := Lib.hid hx; have HK0 := Lib.hid hk0
    by_cases hlt : i < n
    · have i1 : (0 : Int) ≤ (i : Int) := by omega
      have i2 : (i : Int) < (n : Int) := by omega
      have hil : i < rows.length := by have := HNL.out; omega
      obtain ⟨ad, B, d, rfl, -, c0, hrow⟩ := HA.out.row hil
      have hlen := HR.out _ (List.getElem_mem hil)
      replace c0 := hx.cell c0
      replace hrow := hrow.ext hx
      have HIN : Hid (rows[i] ∈ rows) := Lib.hid (List.getElem_mem hil)
      have HPREV := Lib.hid (fun (h : 0 < i) => HA.out.row (i := i - 1) (by omega))
      have HPLEN := Lib.hid (fun (h : 0 < i) => HR.out _ (List.getElem_mem (show i - 1 < rows.length by omega)))
      obtain ⟨x, hxq⟩ : ∃ x, x = rows[i] := ⟨_, rfl⟩
      rw [← hxq] at c0 hrow hlen HIN
      obtain ⟨nx, hnx⟩ : ∃ q, q = x.length := ⟨_, rfl⟩
      rw [← hnx] at c0 hlen hrow
      have HROW := Lib.hid hrow; have HNX := Lib.hid hnx; have HXQ := Lib.hid hxq
      clear hrow hnx hxq hrw hx hk0
      go_upto_region 5 with fail
      go_cut [24] (fun s24 wx => ∃ b : Bool, s24 = .bool b ∧ (b = false → 0 < i) ∧ Ext W wx)
      case first =>
        by_cases h0 : i = 0
        · subst h0
          go_quiet (fail)
          have HXQ2 := Lib.hid ((Ext.refl W).drewN nq)
          go_wp2_with fail
          go_meet
          exact ⟨true, rfl, (fun e => by cases e), HXQ2.out⟩
        · have h0b : ((i : Int) == 0) = false := by rw [beq_eq_false_iff_ne]; omega
          have h1i : 1 ≤ i := by omega
          have hs1 : IntKind.i64.wrap ((i : Int) - 1) = (i : Int) - 1 := IntWalk.i64_in _ (by omega)
          have hs2 : ((i : Int) - 1).toNat = i - 1 := by omega
          have hs3 : (0 : Int) ≤ (i : Int) - 1 := by omega
          have hs4 : (1 : Int) ≤ (i : Int) := by omega
          have hs5 : (i : Int) - 1 < (n : Int) := by omega
          have hs6 : i < n + 1 := by omega
          obtain ⟨ad2, B2, d2, e2, -, c2, hrow2⟩ := HPREV.out (by omega)
          injection e2 with e2
          subst e2
          have hlen2 := HPLEN.out (by omega)
          replace c2 := HX.out.cell c2
          obtain ⟨y, hy⟩ : ∃ y, y = rows[i - 1]'(by have := HNL.out; omega) := ⟨_, rfl⟩
          rw [← hy] at c2 hrow2 hlen2
          obtain ⟨ny, hny⟩ : ∃ q, q = y.length := ⟨_, rfl⟩
          rw [← hny] at c2 hlen2 hrow2
          have HE := Lib.hid (fun (V : World) (hV : Ext W V) => requal_any (w := V) (hrow2.ext (HX.out.trans hV)) (HROW.out.ext hV) hlen2 hlen)
          obtain ⟨z, hz⟩ : ∃ z, z = (cmpR y x == 0) := ⟨_, rfl⟩
          rw [← hz] at HE
          clear hrow2 hlen2 hy hny hz h0
          go_region_held3 (fun V => Ext W V ∧ V.cell? (ad.add i) = some (.slice B nx d) ∧ V.cell? (ad.add (i - 1)) = some (.slice B2 ny d2))
            ((refine (fun he => ⟨he, Ext.cell he c0, Ext.cell he c2⟩) ?_; repeat (first | exact Ext.refl _ | exact (Ext.refl _).drew | refine Ext.drew ?_ | refine Ext.trans ?_ (by assumption))))
            (first
              | (go_at_call 13; (with_reducible refine (HE.out _ (And.left (by assumption))).mono ?_); rintro e wi ⟨rfl, hgi⟩; have hei := Gr.ext hgi))
          have hfin := And.left (b := _ ∧ _) (by assumption)
          obtain ⟨X, rfl⟩ : ∃ X : World, X = wi := ⟨_, rfl⟩
          have HFI := Lib.hid hfin
          clear hfin hei hgi c0 c2 hs1 hs2 hs3 hs5
          go_wp2_with fail
          go_meet
          exact ⟨!z, rfl, fun _ => by omega, HFI.out⟩
      case rest =>
        obtain ⟨b, rfl, hb, hxx⟩ := hcut
        obtain ⟨X, rfl⟩ : ∃ X : World, X = wc := ⟨_, rfl⟩
        have HXX := Lib.hid (HX.out.trans hxx); have HRWX := Lib.hid (HRW.out.ext hxx); have HB := Lib.hid hb
        replace c0 := hxx.cell c0
        have HCL := Lib.hid (fun (V : World) (hV : Ext X V) => clone_row (w := V) (HROW.out.ext (hxx.trans hV)) hlen)
        clear hxx hb
        rcases b with _ | _
        · have hk : 0 < k := HK0.out (HB.out rfl)
          clear c0
          go_wp2_with fail
          go_roundw
          case rel => exact ⟨i + 1, k, l, css, by omega, by go_num, HRWX.out, HM, by omega, fun _ => hk, HXX.out⟩
          case measure => simp [intOf]; omega
        · have HM2 : Hid (∀ y ∈ l ++ [x], y ∈ rows) := Lib.hid (fun y hy => by
            rcases List.mem_append.1 hy with h | h
            · exact HM.out y h
            · rw [List.mem_singleton.1 h]; exact HIN.out)
          have hkc : k ≤ 1048576 := by omega
          go_wp2_with fail
          refine (HCL.out _ (Ext.refl X)).mono ?_
          rintro e w5 ⟨y, rfl, he5, A5, c5, rfl, hy⟩
          have HRW5 := Lib.hid (HRWX.out.ext he5); have HX5 := Lib.hid (HXX.out.trans he5)
          have hsz5 : X.heap.size ≤ w5.heap.size := he5.size
          have hszX : w.heap.size ≤ X.heap.size := HXX.out.size
          have HOWN : Hid (∀ b, (Value.slice Ao k co).ownBlock = some b → w.heap.size ≤ b ∧ b < X.heap.size) := Lib.hid (fun b hb => HRWX.out.own.lt b hb)
          have HY : Hid (Sl rdVl (fun q => w.heap.size ≤ q ∧ (Value.slice Ao k co).ownBlock ≠ some q) w5 (.slice A5 nx c5) x) := Lib.hid (hy.mono (by decide) (fun q _ hq => ⟨by have := HXX.out.size; omega, fun e => by have := HOWN.out q e; omega⟩))
          clear he5 hy c0
          go_wp2_with (first
            | (at_builtin; refine wpList_append_at rfl _ _ 22 rfl w.heap.size 29 p0 (.slice none 0 0) 1 24 Try.underlying22 HP0.out.1 HP0.out.2.1 HP0.out.2.2.1 HP0.out.2.2.2 rfl (by omega) (.slice Ao k co) k css.flatten rfl (HRW5.out.own.alloc _) ⟨w5.heap.size, 0, none⟩ 1 1 [.slice A5 nx c5] rfl rfl (laid_news w5 _ _) (by simp [Value.oneCell']) (by simp only [maxLen]; omega) (by omega) (by simp; omega) ?_; intro v8 w8 hr8 hg8 hl8; obtain ⟨A8, c8, e8⟩ := own_slice hr8; subst e8; have hxa := (Ext.refl w5).alloc (.cells #[.slice A5 nx c5] 29); have HRW8 := Lib.hid (Rw.more (x := x) HRW5.out hxa ⟨_, rfl, HY.out.ext hxa⟩ hr8 hg8 hl8); have HX8 := Lib.hid ((HX5.out.trans hxa).grown hg8 (fun b hb => (HOWN.out b hb).1)); clear hxa hr8 hg8 hl8))
          go_roundw
          case rel => exact ⟨i + 1, k + 1, _, _, by omega, by go_num, HRW8.out, HM2, by omega, fun _ => by omega, HX8.out⟩
          case measure => simp [intOf]; omega
    · obtain rfl : i = n := by omega
      have hdi : ¬ (i : Int) < (i : Int) := by omega
      have HQ : Hid (OutPost i rows w (.returned (.slice Ao k co)) W) := Lib.hid ⟨hx, Ao, k, co, l, rfl, hrw.sl (by decide), hki, hk0, HM.out⟩
      clear hrw hx hk0
      go_wp2_with fail
      go_ret
      exact HQ.out
end Go.Proofs.Ytjpkaljndfgkjaa.R
