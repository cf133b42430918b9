/- Contract: check.find. -/
import Derived.Test.YtmmmdinncmbjkaaNn
namespace Go.Proofs.Ytmmmdinncmbjkaa
open Go.RowKit Go.Maps

def FindSc (F : Nat → Prop) (ss : List Sc) (s : ByteArray) (w : World) (e : Ending) (w' : World) : Prop :=
  Ext w w' ∧ ((findS ss s = none ∧ e = .returned (.tuple #[.agg #[.string ⟨#[]⟩, .slice none 0 0], .bool false])) ∨ ∃ x B d, findS ss s = some x ∧ x ∈ ss ∧ e = .returned (.tuple #[.agg #[.string x.name, .slice B x.kinds.length d], .bool true]) ∧ Ins F w' (.slice B x.kinds.length d) x.kinds)
theorem findS_at {ss : List Sc} {s : ByteArray} {i : Nat} (hi : i < ss.length) (h0 : ∀ j (_ : j < i) (_ : j < ss.length), ss[j].name ≠ s) (h1 : ss[i].name = s) : findS ss s = some ss[i] := by
  unfold findS
  induction ss generalizing i with
  | nil => simp at hi
  | cons a ss ih =>
    rcases i with _ | i
    · rw [List.find?_cons_of_pos (by simpa using h1)]; rfl
    · have ha := h0 0 (by omega) (by simp)
      rw [List.find?_cons_of_neg (by simpa using ha)]
      exact ih (i := i) (by simpa using hi) (fun j hj hl => h0 (j + 1) (by omega) (by simpa using hl)) (by simpa using h1)
theorem findS_no {ss : List Sc} {s : ByteArray} (h0 : ∀ j (_ : j < ss.length), ss[j].name ≠ s) : findS ss s = none := by
  unfold findS
  rw [List.find?_eq_none]
  intro x hx
  obtain ⟨j, hj, rfl⟩ := List.getElem_of_mem hx
  simpa using h0 j hj
theorem info_schema : (Try.prog.info? 69).map (fun i => (i.zero, i.size, i.bytes)) = some (some (.agg #[.string ⟨#[]⟩, .slice none 0 0]), 2, 40) := by kernel_rfl
set_option maxRecDepth 20000 in
set_option maxHeartbeats 1600000 in
theorem find_any {F : Nat → Prop} {w : World} {v : Value} {ss : List Sc} {s : ByteArray} (h : Sl rdSc F w v ss) (hl : ss.length ≤ maxLen) :
    Calls Try.prog 39 #[v, .string s] w (FindSc F ss s w) := by
  unfold maxLen at hl
  obtain ⟨A, c, rfl⟩ := h.sl
  obtain ⟨n, hn⟩ : ∃ n, n = ss.length := ⟨_, rfl⟩
  rw [← hn] at h hl ⊢
  have HN := Lib.hid hn; have HS := Lib.hid h
  clear hn h
  go_enter Try.func39, Try.ntmps39
  go_wp2_with fail
  have hx : Ext w (w.alloc (.cells #[.string ⟨#[]⟩, .slice none 0 0] 69)) := (Ext.refl w).alloc _
  have kb := Bk.new w 69 [.string ⟨#[]⟩, .slice none 0 0]
  change Bk (w.alloc (.cells #[.string ⟨#[]⟩, .slice none 0 0] 69)) _ _ _ at kb
  generalize (w.alloc (.cells #[.string ⟨#[]⟩, .slice none 0 0] 69)) = w1 at *
  have HK := Lib.hid kb
  clear kb
  go_loopw [10] (fun t wr => ∃ i : Nat, i ≤ n ∧ t = .int .i64 (i : Int) ∧ Hid (∀ j (_ : j < i) (_ : j < ss.length), ss[j].name ≠ s) ∧ Ext w1 wr) (fun t _ => n - (intOf t).toNat)
  case atStart => exact ⟨0, Nat.zero_le _, rfl, Lib.hid (fun j hj => by omega), Ext.refl _⟩
  case round =>
    obtain ⟨i, hi, rfl, H, hxr⟩ := hrel
    obtain ⟨W, rfl⟩ : ∃ W : World, W = wr := ⟨_, rfl⟩
    have HX := Lib.hid (hx.trans hxr); have HX1 := Lib.hid hxr; have HKW := Lib.hid (HK.out.ext hxr)
    by_cases hlt : i < n
    · have i1 : (0 : Int) ≤ (i : Int) := by omega
      have i2 : (i : Int) < (n : Int) := by omega
      have hit : i < ss.length := by have := HN.out; omega
      obtain ⟨ad, B, d, rfl, -, d0, d1, hk⟩ := HS.out.sc hit
      replace d0 := HX.out.cell d0; replace d1 := HX.out.cell d1
      have hat := findS_at (s := s) hit H.out
      have hno : ss[i].name ≠ s → ∀ j (_ : j < i + 1) (_ : j < ss.length), ss[j].name ≠ s := fun h j hj hl => by
        rcases Nat.lt_or_ge j i with h2 | h2
        · exact H.out j h2 hl
        · have : j = i := by omega
          subst this; exact h
      have hmem := List.getElem_mem hit
      obtain ⟨x, hx⟩ : ∃ x, x = ss[i] := ⟨_, rfl⟩
      rw [← hx] at d0 d1 hk hat hno hmem
      have HK0 := Lib.hid hk; have HAT := Lib.hid hat; have HNO := Lib.hid hno; have HMEM := Lib.hid hmem
      obtain ⟨xn, xk⟩ := x
      simp only at d0 d1 HK0 HAT HNO
      obtain ⟨nk, hnk⟩ : ∃ nk, nk = xk.length := ⟨_, rfl⟩
      rw [← hnk] at d1 HK0
      have HNK := Lib.hid hnk
      clear hx hk hat hno hmem hxr hnk
      have b0 := HKW.out.cell (i := 0) (by simp); have b1 := HKW.out.cell (i := 1) (by simp); have bf0 := HKW.out.free 0; have bf1 := HKW.out.free 1
      simp only [List.getElem_cons_zero, List.getElem_cons_succ] at b0 b1
      have hW : w.heap.size < W.heap.size := HKW.out.lt
      by_cases he : xn = s
      · have HQ := Lib.hid (HAT.out he)
        have hbe : (xn.toList == s.toList) = true := by rw [he]; simp
        clear he
        go_wp2_with fail
        have kz : Bk (((W.setCell ⟨w.heap.size, 0, none⟩ (.string xn)).setCell ⟨w.heap.size, 1, none⟩ (.slice B nk d)).alloc (.cells #[.string xn, .slice B nk d] 69)) w.heap.size 69 [.string xn, .slice B nk d] := ((HKW.out.set 0 _).set 1 _).alloc _
        have hez : Ext w (((W.setCell ⟨w.heap.size, 0, none⟩ (.string xn)).setCell ⟨w.heap.size, 1, none⟩ (.slice B nk d)).alloc (.cells #[.string xn, .slice B nk d] 69)) := ((HX.out.setCell (p := ⟨w.heap.size, 0, none⟩) (Nat.le_refl _) _).setCell (p := ⟨w.heap.size, 1, none⟩) (Nat.le_refl _) _).alloc _
        have hkz : Ins F (((W.setCell ⟨w.heap.size, 0, none⟩ (.string xn)).setCell ⟨w.heap.size, 1, none⟩ (.slice B nk d)).alloc (.cells #[.string xn, .slice B nk d] 69)) (.slice B nk d) xk := HK0.out.ext hez
        generalize (((W.setCell ⟨w.heap.size, 0, none⟩ (.string xn)).setCell ⟨w.heap.size, 1, none⟩ (.slice B nk d)).alloc (.cells #[.string xn, .slice B nk d] 69)) = wz at *
        have z0 := kz.cell (i := 0) (by simp); have z1 := kz.cell (i := 1) (by simp)
        simp only [List.getElem_cons_zero, List.getElem_cons_succ] at z0 z1
        refine bodyPost_ret (v := .tuple #[.agg #[.string xn, .slice B nk d], .bool true]) (by simp [results, Try.results39, go_sem, z0, z1]) rfl ⟨hez, .inr ⟨⟨xn, xk⟩, B, d, HQ.out, HMEM.out, by rw [HNK.out], ?_⟩⟩
        rw [HNK.out] at hkz
        exact hkz
      · have hbe : (xn.toList == s.toList) = false := by
          have : xn.toList ≠ s.toList := fun e => he (toList_inj' e)
          simpa using this
        have HG := Lib.hid (HNO.out he)
        clear he
        go_wp2_with fail
        go_roundw
        case rel => exact ⟨i + 1, by omega, by go_num, HG, HX1.out.alloc _⟩
        case measure => simp [intOf]; omega
    · obtain rfl : i = n := by omega
      have hdi : ¬ (i : Int) < (i : Int) := by omega
      have HQ := Lib.hid (findS_no (ss := ss) (s := s) (fun j hj => H.out j (by have := HN.out; omega) hj))
      have b0 := HKW.out.cell (i := 0) (by simp); have b1 := HKW.out.cell (i := 1) (by simp); have bf0 := HKW.out.free 0; have bf1 := HKW.out.free 1
      simp only [List.getElem_cons_zero, List.getElem_cons_succ] at b0 b1
      go_wp2_with fail
      have kz : Bk ((W.setCell ⟨w.heap.size, 0, none⟩ (.string ⟨#[]⟩)).setCell ⟨w.heap.size, 1, none⟩ (.slice none 0 0)) w.heap.size 69 [.string ⟨#[]⟩, .slice none 0 0] := (HKW.out.set 0 _).set 1 _
      have hez : Ext w ((W.setCell ⟨w.heap.size, 0, none⟩ (.string ⟨#[]⟩)).setCell ⟨w.heap.size, 1, none⟩ (.slice none 0 0)) := (HX.out.setCell (p := ⟨w.heap.size, 0, none⟩) (Nat.le_refl _) _).setCell (p := ⟨w.heap.size, 1, none⟩) (Nat.le_refl _) _
      generalize ((W.setCell ⟨w.heap.size, 0, none⟩ (.string ⟨#[]⟩)).setCell ⟨w.heap.size, 1, none⟩ (.slice none 0 0)) = wz at *
      have z0 := kz.cell (i := 0) (by simp); have z1 := kz.cell (i := 1) (by simp)
      simp only [List.getElem_cons_zero, List.getElem_cons_succ] at z0 z1
      exact bodyPost_ret (v := .tuple #[.agg #[.string ⟨#[]⟩, .slice none 0 0], .bool false]) (by simp [results, Try.results39, go_sem, z0, z1]) rfl ⟨hez, .inl ⟨HQ.out, rfl⟩⟩
end Go.Proofs.Ytmmmdinncmbjkaa
