/- Contracts: catalog.update. Contracts: Database.Check. -/
import Derived.Test.YtmmmdinncmbjkaaGreatMf31
namespace Go.Proofs.YtmmmdinncmbjkaaGreat
open Go.RowKit Go.Maps
/-- An update. -/
structure Up where
  del : Bool
  rel : ByteArray
  row : List Vl
/-- The rows after an update, and whether they have changed. -/
def updS (rows : List (List Vl)) (del : Bool) (x : List Vl) : Option (List (List Vl) × Bool) :=
  if del = true then (if hasR rows x = true then some (delR rows x, true) else some (rows, false))
  else if hasR rows x = true then some (rows, false) else if 4096 ≤ rows.length then none else some (insR rows x, true)
/-- What update answers. -/
def UpdPost (F : Nat → Prop) (a : Int) (rows : List (List Vl)) (del : Bool) (x : List Vl) (w : World) (e : Ending) (w' : World) : Prop :=
  Ext w w' ∧ ((updS rows del x = none ∧ e = .returned (.tuple #[zrel, .bool false, .int .i64 11])) ∨ ∃ rows' ch B k d, updS rows del x = some (rows', ch) ∧ e = .returned (.tuple #[.agg #[.int .i64 a, .slice B k d], .bool ch, .int .i64 0]) ∧ (B = none → d = 0) ∧ Sl rdRow (fun k => F k ∨ w.heap.size ≤ k) w' (.slice B k d) rows')
set_option maxRecDepth 20000 in
set_option maxHeartbeats 3200000 in
theorem update_any {F G : Nat → Prop} {w : World} {A B : Option Addr} {n c m d : Nat} {a : Int} {rows : List (List Vl)} {x : List Vl} {del : Bool} {rl : ByteArray} (hS : SoR rows) (hA : Sl rdRow F w (.slice A n c) rows) (hnil : A = none → c = 0) (hB : Sl rdVl G w (.slice B m d) x) (hm : m ≤ 1048576) (hr : ∀ x ∈ rows, x.length ≤ 1048576) (hn : n ≤ 65536) (hz : ∀ v ∈ x, v.str.size ≤ maxLen) (hac : accE a x = 0) :
    Calls Tryz.prog 57 #[.agg #[.int .i64 a, .slice A n c], .agg #[.bool del, .string rl, .slice B m d]] w (UpdPost F a rows del x w) := by
  have hnl := hA.cap.1
  have h' := hA.mono (G := fun k => F k ∧ k < w.heap.size) (by decide) (fun k hk hf => ⟨hf, hk⟩)
  have k3 := three_blk w 54 113 54 [.int .i64 a, .slice A n c] [.bool del, .string rl, .slice B m d] [.int .i64 0, .slice none 0 0]
  have hx : Ext w (((w.alloc (.cells #[.int .i64 a, .slice A n c] 54)).alloc (.cells #[.bool del, .string rl, .slice B m d] 113)).alloc (.cells #[.int .i64 0, .slice none 0 0] 54)) := (((Ext.refl w).alloc _).alloc _).alloc _
  have HDE := Lib.hid (fun (V : World) (hV : Ext w V) => delete_any (a := a) hS (h'.ext hV) (hB.ext hV) hm hr hn hz)
  have HIN := Lib.hid (fun (h : n < 4096) (V : World) (hV : Ext w V) => insert_any (a := a) hS (h'.ext hV) hnil (hB.ext hV) hm hr (by omega) hz)
  have HSE := Lib.hid (fun (V : World) (hV : Ext w V) => relsearch_any (a := a) hS (h'.ext hV) (hB.ext hV) hm hr (by omega))
  have HA := Lib.hid h'; have HNL := Lib.hid hnl; have HAC := Lib.hid hac; have HNI := Lib.hid hnil
  clear hS hA h' hB hr hz hnl hac hnil
  go_enter Tryz.func57, Tryz.ntmps57
  go_upto_region 1 with fail
  change Bk (((w.alloc (.cells #[.int .i64 a, .slice A n c] 54)).alloc (.cells #[.bool del, .string rl, .slice B m d] 113)).alloc (.cells #[.int .i64 0, .slice none 0 0] 54)) _ _ _ ∧ Bk (((w.alloc (.cells #[.int .i64 a, .slice A n c] 54)).alloc (.cells #[.bool del, .string rl, .slice B m d] 113)).alloc (.cells #[.int .i64 0, .slice none 0 0] 54)) _ _ _ ∧ Bk (((w.alloc (.cells #[.int .i64 a, .slice A n c] 54)).alloc (.cells #[.bool del, .string rl, .slice B m d] 113)).alloc (.cells #[.int .i64 0, .slice none 0 0] 54)) _ _ _ at k3
  generalize (((w.alloc (.cells #[.int .i64 a, .slice A n c] 54)).alloc (.cells #[.bool del, .string rl, .slice B m d] 113)).alloc (.cells #[.int .i64 0, .slice none 0 0] 54)) = w1 at *
  obtain ⟨ka, kb, kc⟩ := k3
  have a0 := ka.cell (i := 0) (by simp); have a1 := ka.cell (i := 1) (by simp); have u0 := kb.cell (i := 0) (by simp); have u2 := kb.cell (i := 2) (by simp)
  simp only [List.getElem_cons_zero, List.getElem_cons_succ] at a0 a1 u0 u2
  have hlt1 : w.heap.size + 1 + 1 < w1.heap.size := kc.lt
  have HX := Lib.hid hx; have HKC := Lib.hid kc
  -- the store of the result
  have HEND := Lib.hid (fun (V : World) (P : Option Addr) (k q : Nat) (av : Int) (rows' : List (List Vl)) (hX : Ext w V) (hK : Bk V (w.heap.size + 1 + 1) 54 [.int .i64 0, .slice none 0 0]) (hs : Sl rdRow (fun k => F k ∧ k < w.heap.size ∨ w1.heap.size ≤ k) V (.slice P k q) rows') => (show Ext w ((V.setCell ⟨w.heap.size + 1 + 1, 0, none⟩ (.int .i64 av)).setCell ⟨w.heap.size + 1 + 1, 1, none⟩ (.slice P k q)) ∧ Bk ((V.setCell ⟨w.heap.size + 1 + 1, 0, none⟩ (.int .i64 av)).setCell ⟨w.heap.size + 1 + 1, 1, none⟩ (.slice P k q)) (w.heap.size + 1 + 1) 54 [.int .i64 av, .slice P k q] ∧ Sl rdRow (fun k => F k ∨ w.heap.size ≤ k) ((V.setCell ⟨w.heap.size + 1 + 1, 0, none⟩ (.int .i64 av)).setCell ⟨w.heap.size + 1 + 1, 1, none⟩ (.slice P k q)) (.slice P k q) rows' from by
    have hst : Fr (fun k => k = w.heap.size + 1 + 1) V ((V.setCell ⟨w.heap.size + 1 + 1, 0, none⟩ (.int .i64 av)).setCell ⟨w.heap.size + 1 + 1, 1, none⟩ (.slice P k q)) := ((Fr.refl (fun k => k = w.heap.size + 1 + 1) V).setCell (p := ⟨w.heap.size + 1 + 1, 0, none⟩) (.inl rfl) _).setCell (p := ⟨w.heap.size + 1 + 1, 1, none⟩) (.inl rfl) _
    refine ⟨hst.new hX (fun q hq => by omega), (hK.set 0 _).set 1 _, ?_⟩
    exact ((hs.fr hst (fun q hq => by rcases hq with h | h <;> omega))).mono (by decide) (fun q _ hq => by
      rcases hq with h | h
      · exact .inl h.1
      · exact .inr (by omega))))
  clear ka kb kc hx
  rcases del with _ | _
  · by_cases hn4 : n < 4096
    · have g4 : decide ((4096 : Int) ≤ (n : Int)) = false := decide_eq_false (by omega)
      have HI2 := Lib.hid (HIN.out hn4)
      have HR4 : Hid (¬ 4096 ≤ rows.length) := Lib.hid (by have := HNL.out; omega)
      clear hn4
      go_wp2_with fail
      refine len_any.mono ?_
      rintro e w2 ⟨y, rfl, he2, rfl⟩
      replace a0 := he2.cell a0; replace a1 := he2.cell a1; replace u2 := he2.cell u2
      go_wp2_with fail
      refine (HI2.out _ (HX.out.trans he2)).mono ?_
      rintro e w3 ⟨he3, ⟨hbad, -⟩ | ⟨-, hh, rfl⟩ | ⟨-, hh, B2, d2, rfl, hs2⟩⟩
      · exact absurd HAC.out hbad
      · have HHH := Lib.hid hh
        have HE3 := Lib.hid (he2.trans he3)
        clear hh he3 he2
        have HXW := Lib.hid (HX.out.trans HE3.out); have HKW := Lib.hid (HKC.out.ext HE3.out)
        have hs9 := (HA.out.ext (HX.out.trans HE3.out)).mono (G := fun k => F k ∧ k < w.heap.size ∨ w1.heap.size ≤ k) (by decide) (fun k _ hk => .inl hk)
        have HS9 := Lib.hid hs9
        have b0 := HKW.out.cell (i := 0) (by simp); have b1 := HKW.out.cell (i := 1) (by simp)
        have f0 := HKW.out.free 0; have f1 := HKW.out.free 1
        simp only [List.getElem_cons_zero, List.getElem_cons_succ] at b0 b1
        have hltW := HKW.out.lt
        clear a0 a1 u0 u2 hs9
        go_wp2_with fail
        obtain ⟨hez, kz, hsz⟩ := HEND.out w3 A n c a rows HXW.out HKW.out HS9.out
        generalize ((w3.setCell ⟨w.heap.size + 1 + 1, 0, none⟩ (.int .i64 a)).setCell ⟨w.heap.size + 1 + 1, 1, none⟩ (.slice A n c)) = wz at *
        have z0 := kz.cell (i := 0) (by simp); have z1 := kz.cell (i := 1) (by simp)
        simp only [List.getElem_cons_zero, List.getElem_cons_succ] at z0 z1
        exact bodyPost_ret (v := .tuple #[.agg #[.int .i64 a, .slice A n c], .bool false, .int .i64 0]) (by simp [results, Tryz.results57, go_sem, z0, z1]) rfl ⟨hez, .inr ⟨_, _, _, _, _, (by unfold updS; rw [if_neg (by simp), if_pos HHH.out]), rfl, HNI.out, hsz⟩⟩

      · have HHH := Lib.hid hh
        have HE3 := Lib.hid (he2.trans he3)
        have HS2 := Lib.hid (hs2.mono (G := fun k => F k ∧ k < w.heap.size ∨ w1.heap.size ≤ k) (by decide) (fun k _ hk => by
          have := he2.size
          rcases hk with h | h
          · exact .inl h
          · exact .inr (by omega)))
        clear hh he3 he2 hs2
        have HXW := Lib.hid (HX.out.trans HE3.out); have HKW := Lib.hid (HKC.out.ext HE3.out)
        have hs9 := HS2.out
        have HS9 := Lib.hid hs9
        have b0 := HKW.out.cell (i := 0) (by simp); have b1 := HKW.out.cell (i := 1) (by simp)
        have f0 := HKW.out.free 0; have f1 := HKW.out.free 1
        simp only [List.getElem_cons_zero, List.getElem_cons_succ] at b0 b1
        have hltW := HKW.out.lt
        clear a0 a1 u0 u2 hs9
        go_wp2_with fail
        obtain ⟨hez, kz, hsz⟩ := HEND.out w3 (some B2) (n + 1) d2 a (insR rows x) HXW.out HKW.out HS9.out
        generalize ((w3.setCell ⟨w.heap.size + 1 + 1, 0, none⟩ (.int .i64 a)).setCell ⟨w.heap.size + 1 + 1, 1, none⟩ (.slice (some B2) (n + 1) d2)) = wz at *
        have z0 := kz.cell (i := 0) (by simp); have z1 := kz.cell (i := 1) (by simp)
        simp only [List.getElem_cons_zero, List.getElem_cons_succ] at z0 z1
        exact bodyPost_ret (v := .tuple #[.agg #[.int .i64 a, .slice (some B2) (n + 1) d2], .bool true, .int .i64 0]) (by simp [results, Tryz.results57, go_sem, z0, z1]) rfl ⟨hez, .inr ⟨_, _, _, _, _, (by unfold updS; rw [if_neg (by simp), if_neg (by rw [HHH.out]; simp), if_neg HR4.out]), rfl, (fun e => by cases e), hsz⟩⟩

    · have g4 : decide ((4096 : Int) ≤ (n : Int)) = true := decide_eq_true (by omega)
      have HR4 : Hid (4096 ≤ rows.length) := Lib.hid (by have := HNL.out; omega)
      clear hn4
      go_wp2_with fail
      refine len_any.mono ?_
      rintro e w2 ⟨y, rfl, he2, rfl⟩
      replace a0 := he2.cell a0; replace a1 := he2.cell a1; replace u2 := he2.cell u2
      obtain ⟨fb, hfb⟩ : ∃ q, q = hasR rows x := ⟨_, rfl⟩
      have HFB := Lib.hid hfb
      go_wp2_with fail
      refine (HSE.out _ (HX.out.trans he2)).mono ?_
      rintro e w3 ⟨he3, rfl⟩
      rw [← hfb]
      replace a0 := he3.cell a0; replace a1 := he3.cell a1
      have HE3 := Lib.hid (he2.trans he3)
      clear he3 he2 hfb
      rcases fb with _ | _
      · have HN := Lib.hid (Sl.nil rdRow (fun k => F k ∧ k < w.heap.size ∨ w1.heap.size ≤ k) w3)
        have HXW := Lib.hid (HX.out.trans HE3.out); have HKW := Lib.hid (HKC.out.ext HE3.out)
        have hs9 := HN.out
        have HS9 := Lib.hid hs9
        have b0 := HKW.out.cell (i := 0) (by simp); have b1 := HKW.out.cell (i := 1) (by simp)
        have f0 := HKW.out.free 0; have f1 := HKW.out.free 1
        simp only [List.getElem_cons_zero, List.getElem_cons_succ] at b0 b1
        have hltW := HKW.out.lt
        clear a0 a1 u0 u2 hs9
        go_wp2_with fail
        obtain ⟨hez, kz, hsz⟩ := HEND.out w3 none 0 0 0 [] HXW.out HKW.out HS9.out
        generalize ((w3.setCell ⟨w.heap.size + 1 + 1, 0, none⟩ (.int .i64 0)).setCell ⟨w.heap.size + 1 + 1, 1, none⟩ (.slice none 0 0)) = wz at *
        have z0 := kz.cell (i := 0) (by simp); have z1 := kz.cell (i := 1) (by simp)
        simp only [List.getElem_cons_zero, List.getElem_cons_succ] at z0 z1
        exact bodyPost_ret (v := .tuple #[.agg #[.int .i64 0, .slice none 0 0], .bool false, .int .i64 11]) (by simp [results, Tryz.results57, go_sem, z0, z1]) rfl ⟨hez, .inl ⟨(by unfold updS; rw [if_neg (by simp), if_neg (by rw [← HFB.out]; simp), if_pos HR4.out]), rfl⟩⟩

      · skip
        have HXW := Lib.hid (HX.out.trans HE3.out); have HKW := Lib.hid (HKC.out.ext HE3.out)
        have hs9 := (HA.out.ext (HX.out.trans HE3.out)).mono (G := fun k => F k ∧ k < w.heap.size ∨ w1.heap.size ≤ k) (by decide) (fun k _ hk => .inl hk)
        have HS9 := Lib.hid hs9
        have b0 := HKW.out.cell (i := 0) (by simp); have b1 := HKW.out.cell (i := 1) (by simp)
        have f0 := HKW.out.free 0; have f1 := HKW.out.free 1
        simp only [List.getElem_cons_zero, List.getElem_cons_succ] at b0 b1
        have hltW := HKW.out.lt
        clear u0 u2 hs9
        go_wp2_with fail
        obtain ⟨hez, kz, hsz⟩ := HEND.out w3 A n c a rows HXW.out HKW.out HS9.out
        generalize ((w3.setCell ⟨w.heap.size + 1 + 1, 0, none⟩ (.int .i64 a)).setCell ⟨w.heap.size + 1 + 1, 1, none⟩ (.slice A n c)) = wz at *
        have z0 := kz.cell (i := 0) (by simp); have z1 := kz.cell (i := 1) (by simp)
        simp only [List.getElem_cons_zero, List.getElem_cons_succ] at z0 z1
        exact bodyPost_ret (v := .tuple #[.agg #[.int .i64 a, .slice A n c], .bool false, .int .i64 0]) (by simp [results, Tryz.results57, go_sem, z0, z1]) rfl ⟨hez, .inr ⟨_, _, _, _, _, (by unfold updS; rw [if_neg (by simp), if_pos HFB.out.symm]), rfl, HNI.out, hsz⟩⟩

  · go_wp2_with fail
    refine (HDE.out _ HX.out).mono ?_
    rintro e w2 ⟨he2, ⟨hbad, -⟩ | ⟨-, hh, rfl⟩ | ⟨-, hh, B2, k2, d2, rfl, hn2, hs2⟩⟩
    · exact absurd HAC.out hbad
    · have HHH := Lib.hid hh
      have HE2 := Lib.hid he2
      clear hh he2
      have HXW := Lib.hid (HX.out.trans HE2.out); have HKW := Lib.hid (HKC.out.ext HE2.out)
      have hs9 := (HA.out.ext (HX.out.trans HE2.out)).mono (G := fun k => F k ∧ k < w.heap.size ∨ w1.heap.size ≤ k) (by decide) (fun k _ hk => .inl hk)
      have HS9 := Lib.hid hs9
      have b0 := HKW.out.cell (i := 0) (by simp); have b1 := HKW.out.cell (i := 1) (by simp)
      have f0 := HKW.out.free 0; have f1 := HKW.out.free 1
      simp only [List.getElem_cons_zero, List.getElem_cons_succ] at b0 b1
      have hltW := HKW.out.lt
      clear a0 a1 u0 u2 hs9
      go_wp2_with fail
      obtain ⟨hez, kz, hsz⟩ := HEND.out w2 A n c a rows HXW.out HKW.out HS9.out
      generalize ((w2.setCell ⟨w.heap.size + 1 + 1, 0, none⟩ (.int .i64 a)).setCell ⟨w.heap.size + 1 + 1, 1, none⟩ (.slice A n c)) = wz at *
      have z0 := kz.cell (i := 0) (by simp); have z1 := kz.cell (i := 1) (by simp)
      simp only [List.getElem_cons_zero, List.getElem_cons_succ] at z0 z1
      exact bodyPost_ret (v := .tuple #[.agg #[.int .i64 a, .slice A n c], .bool false, .int .i64 0]) (by simp [results, Tryz.results57, go_sem, z0, z1]) rfl ⟨hez, .inr ⟨_, _, _, _, _, (by unfold updS; rw [if_pos rfl, if_neg (by rw [HHH.out]; simp)]), rfl, HNI.out, hsz⟩⟩

    · have HHH := Lib.hid hh
      have HE2 := Lib.hid he2; have HN2 := Lib.hid hn2; have HS2 := Lib.hid hs2
      clear hh he2 hn2 hs2
      have HXW := Lib.hid (HX.out.trans HE2.out); have HKW := Lib.hid (HKC.out.ext HE2.out)
      have hs9 := HS2.out
      have HS9 := Lib.hid hs9
      have b0 := HKW.out.cell (i := 0) (by simp); have b1 := HKW.out.cell (i := 1) (by simp)
      have f0 := HKW.out.free 0; have f1 := HKW.out.free 1
      simp only [List.getElem_cons_zero, List.getElem_cons_succ] at b0 b1
      have hltW := HKW.out.lt
      clear a0 a1 u0 u2 hs9
      go_wp2_with fail
      obtain ⟨hez, kz, hsz⟩ := HEND.out w2 B2 k2 d2 a (delR rows x) HXW.out HKW.out HS9.out
      generalize ((w2.setCell ⟨w.heap.size + 1 + 1, 0, none⟩ (.int .i64 a)).setCell ⟨w.heap.size + 1 + 1, 1, none⟩ (.slice B2 k2 d2)) = wz at *
      have z0 := kz.cell (i := 0) (by simp); have z1 := kz.cell (i := 1) (by simp)
      simp only [List.getElem_cons_zero, List.getElem_cons_succ] at z0 z1
      exact bodyPost_ret (v := .tuple #[.agg #[.int .i64 a, .slice B2 k2 d2], .bool true, .int .i64 0]) (by simp [results, Tryz.results57, go_sem, z0, z1]) rfl ⟨hez, .inr ⟨_, _, _, _, _, (by unfold updS; rw [if_pos rfl, if_pos HHH.out]), rfl, HN2.out, hsz⟩⟩
end Go.Proofs.YtmmmdinncmbjkaaGreat
namespace Go.Proofs.YtmmmdinncmbjkaaGreat
open Go.RowKit Go.Maps
/-- Whether a kind differs from its column's. -/
def misK (ks : List Int) (r : List Vl) : Bool := (List.range ks.length).any (fun i => !((r.getD i zv).kind == ks.getD i 0))
/-- The error of an update. -/
def chkE (m : Dm) (rl : ByteArray) (r : List Vl) : Int := match m rl with
  | none => 7
  | some e => if r.length = e.kinds.length then (if valR r = true then (if misK e.kinds r = true then 5 else 0) else 4) else 6
set_option maxRecDepth 20000 in
set_option maxHeartbeats 3200000 in
theorem dbcheck_any {F G : Nat → Prop} {w : World} {b n : Nat} {M : Dm} {rl : ByteArray} {B : Option Addr} {m d : Nat} {x : List Vl} {del : Bool} (hD : DbB F w b n M) (hs : rl.size ≤ maxLen) (hB : Sl rdVl G w (.slice B m d) x) (hm : m ≤ maxLen) (hz : ∀ v ∈ x, v.str.size ≤ maxLen) (hkl : ∀ e, M rl = some e → e.kinds.length ≤ 1048576) :
    Calls Tryz.prog 56 #[.agg #[.map (some b)], .agg #[.bool del, .string rl, .slice B m d]] w (Ret (fun y _ => y = .int .i64 (chkE M rl x)) w) := by
  have hml := hB.cap.1
  obtain ⟨f, hM, hm2⟩ := hD
  have HM := Lib.hid hM; have HML := Lib.hid hml; have HB := Lib.hid hB
  have HV := Lib.hid (fun (h6 : m ≤ 1048576) (V : World) (hV : Ext w V) => rvalid_any (hB.ext hV) h6 hz)
  simp only [maxLen] at hm
  have k2 := two_blk w 26 113 [.map (some b)] [.bool del, .string rl, .slice B m d]
  have hx : Ext w ((w.alloc (.cells #[.map (some b)] 26)).alloc (.cells #[.bool del, .string rl, .slice B m d] 113)) := ((Ext.refl w).alloc _).alloc _
  obtain ⟨er, her⟩ : ∃ z, z = chkE M rl x := ⟨_, rfl⟩
  rw [← her]
  rcases hm2 rl with ⟨h1, h2⟩ | ⟨y, u, h1, h2, u1, r1, rfl, hk, -, hr⟩
  · have HU1 : Hid ((f rl).getD (.agg #[.slice none 0 0, .int .i64 0, .slice none 0 0]) = .agg #[.slice none 0 0, .int .i64 0, .slice none 0 0]) := Lib.hid (by rw [h2]; rfl)
    have HU2 : Hid ((f rl).isSome = false) := Lib.hid (by rw [h2]; rfl)
    have HER : Hid (er = 7) := Lib.hid (by rw [her]; unfold chkE; rw [h1])
    clear hm2 h1 h2 hM hB hz hkl her hml
    go_enter Tryz.func56, Tryz.ntmps56
    go_upto_region 1 with fail
    change Bk ((w.alloc (.cells #[.map (some b)] 26)).alloc (.cells #[.bool del, .string rl, .slice B m d] 113)) _ _ _ ∧ Bk ((w.alloc (.cells #[.map (some b)] 26)).alloc (.cells #[.bool del, .string rl, .slice B m d] 113)) _ _ _ at k2
    generalize ((w.alloc (.cells #[.map (some b)] 26)).alloc (.cells #[.bool del, .string rl, .slice B m d] 113)) = w1 at *
    obtain ⟨ka, kb⟩ := k2
    have a0 := ka.cell (i := 0) (by simp); have b1 := kb.cell (i := 1) (by simp)
    simp only [List.getElem_cons_zero, List.getElem_cons_succ] at a0 b1
    have HX := Lib.hid hx; have HM1 := Lib.hid (HM.out.ext hx)
    clear ka kb hx
    go_upto_region 2 with (first
      | (refine wpList_lookup_okV rfl _ _ 24 98 rfl Tryz.underlying24 (.agg #[.slice none 0 0, .int .i64 0, .slice none 0 0]) (zero_entry _) b n f rfl HM1.out rl rfl hs _ HU1.out false HU2.out ?_))
    have hx2 : Ext w1 (w1.alloc (.cells #[.slice none 0 0, .int .i64 0, .slice none 0 0] 98)) := (Ext.refl w1).alloc _
    generalize (w1.alloc (.cells #[.slice none 0 0, .int .i64 0, .slice none 0 0] 98)) = w2 at *
    have HX2 := Lib.hid (HX.out.trans hx2)
    clear hx2 a0 b1
    go_wp2_with fail
    go_ret
    exact Ret.mk HX2.out (by rw [HER.out]; rfl)
  · obtain ⟨A, c, rfl⟩ := hr.sl
    obtain ⟨A0, c0, e0', -, hck⟩ := hk
    subst e0'
    have hkl1 := hkl y h1
    have HU1 : Hid ((f rl).getD (.agg #[.slice none 0 0, .int .i64 0, .slice none 0 0]) = .agg #[.slice A0 y.kinds.length c0, .int .i64 y.rel.ar, .slice A y.rel.rows.length c]) := Lib.hid (by rw [h2]; rfl)
    have HU2 : Hid ((f rl).isSome = true) := Lib.hid (by rw [h2]; rfl)
    have HER : Hid (er = if x.length = y.kinds.length then (if valR x = true then (if misK y.kinds x = true then 5 else 0) else 4) else 6) := Lib.hid (by rw [her]; unfold chkE; rw [h1])
    have HCK := Lib.hid hck
    obtain ⟨nr, hnr⟩ : ∃ k, k = y.rel.rows.length := ⟨_, rfl⟩
    obtain ⟨ra, hra⟩ : ∃ k, k = y.rel.ar := ⟨_, rfl⟩
    obtain ⟨ks, hks⟩ : ∃ k, k = y.kinds := ⟨_, rfl⟩
    rw [← hks] at HU1 HER HCK hkl1
    rw [← hnr, ← hra] at HU1
    obtain ⟨nk, hnk⟩ : ∃ k, k = ks.length := ⟨_, rfl⟩
    rw [← hnk] at HU1 hkl1
    have HNK := Lib.hid hnk
    clear hm2 h1 h2 hM hB hz hkl her hml hr hck hnr hra hks hnk
    go_enter Tryz.func56, Tryz.ntmps56
    go_upto_region 1 with fail
    change Bk ((w.alloc (.cells #[.map (some b)] 26)).alloc (.cells #[.bool del, .string rl, .slice B m d] 113)) _ _ _ ∧ Bk ((w.alloc (.cells #[.map (some b)] 26)).alloc (.cells #[.bool del, .string rl, .slice B m d] 113)) _ _ _ at k2
    generalize ((w.alloc (.cells #[.map (some b)] 26)).alloc (.cells #[.bool del, .string rl, .slice B m d] 113)) = w1 at *
    obtain ⟨ka, kb⟩ := k2
    have a0 := ka.cell (i := 0) (by simp); have b1 := kb.cell (i := 1) (by simp)
    simp only [List.getElem_cons_zero, List.getElem_cons_succ] at a0 b1
    have HX := Lib.hid hx; have HM1 := Lib.hid (HM.out.ext hx); have HKB := Lib.hid kb
    have hltb := kb.lt
    clear ka kb hx
    go_upto_region 2 with (first
      | (refine wpList_lookup_okV rfl _ _ 24 98 rfl Tryz.underlying24 (.agg #[.slice none 0 0, .int .i64 0, .slice none 0 0]) (zero_entry _) b n f rfl HM1.out rl rfl hs _ HU1.out true HU2.out ?_))
    have ke := Bk.new w1 98 [.slice A0 nk c0, .int .i64 ra, .slice A nr c]
    change Bk (w1.alloc (.cells #[.slice A0 nk c0, .int .i64 ra, .slice A nr c] 98)) _ _ _ at ke
    have hx2 : Ext w1 (w1.alloc (.cells #[.slice A0 nk c0, .int .i64 ra, .slice A nr c] 98)) := (Ext.refl w1).alloc _
    generalize (w1.alloc (.cells #[.slice A0 nk c0, .int .i64 ra, .slice A nr c] 98)) = w2 at *
    have HX2 := Lib.hid (HX.out.trans hx2); have HKB2 := Lib.hid (HKB.out.ext hx2); have HKE := Lib.hid ke
    have e0 := ke.cell (i := 0) (by simp); have b2 := (HKB.out.ext hx2).cell (i := 2) (by simp)
    simp only [List.getElem_cons_zero, List.getElem_cons_succ] at e0 b2
    clear hx2 a0 b1 ke
    by_cases hlen : m = nk
    · subst hlen
      have g1 : ((m : Int) != (m : Int)) = false := by simp
      have HV2 := Lib.hid (HV.out (by omega) w2 HX2.out)
      obtain ⟨vb, hvb⟩ : ∃ z, z = valR x := ⟨_, rfl⟩
      rw [← hvb] at HV2
      have HER2 : Hid (er = if vb = true then (if misK ks x = true then 5 else 0) else 4) := Lib.hid (by rw [HER.out, if_pos (by have := HML.out; have := HNK.out; omega), hvb])
      clear hvb
      go_wp2_with fail
      refine HV2.out.mono ?_
      rintro e w3 ⟨z, rfl, he3, rfl⟩
      have HX3 := Lib.hid (HX2.out.trans he3); have HKB3 := Lib.hid (HKB2.out.ext he3); have HKE3 := Lib.hid (HKE.out.ext he3)
      replace e0 := he3.cell e0; replace b2 := he3.cell b2
      clear he3
      rcases vb with _ | _
      · clear e0 b2
        go_wp2_with fail
        go_ret
        exact Ret.mk HX3.out (by rw [HER2.out]; rfl)
      · have HER3 : Hid (er = if misK ks x = true then 5 else 0) := Lib.hid (by rw [HER2.out, if_pos rfl])
        go_wp2_with fail
        clear e0 b2
        go_loopw [35] (fun t wr => ∃ i : Nat, i ≤ m ∧ t = .int .i64 (i : Int) ∧ Hid ((List.range i).any (fun i => !((x.getD i zv).kind == ks.getD i 0)) = false) ∧ Ext w3 wr) (fun t _ => m - (intOf t).toNat)
        case atStart => exact ⟨0, Nat.zero_le _, rfl, Lib.hid rfl, Ext.refl _⟩
        case round =>
          obtain ⟨i, hi, rfl, HALL, hxr⟩ := hrel
          obtain ⟨W, rfl⟩ : ∃ W : World, W = wr := ⟨_, rfl⟩
          have HXR := Lib.hid hxr
          by_cases hlt : i < m
          · have i1 : (0 : Int) ≤ (i : Int) := by omega
            have i2 : (i : Int) < (m : Int) := by omega
            have hix : i < x.length := by have := HML.out; omega
            have hik : i < ks.length := by have := HNK.out; omega
            have e0 := (HKE3.out.ext hxr).cell (i := 0) (by simp); have b2 := (HKB3.out.ext hxr).cell (i := 2) (by simp)
            simp only [List.getElem_cons_zero, List.getElem_cons_succ] at e0 b2
            obtain ⟨ad, rfl, -, c1, -, -⟩ := HB.out.vl hix
            obtain ⟨kd, rfl, -, c2⟩ := HCK.out.int hik
            replace c1 := hxr.cell (HX3.out.cell c1); replace c2 := hxr.cell (HX3.out.cell c2)
            have hst : (List.range (i + 1)).any (fun i => !((x.getD i zv).kind == ks.getD i 0)) = !(x[i].kind == ks[i]) := by
              rw [List.range_succ, List.any_append, HALL.out]
              simp [List.getElem?_eq_getElem hix, List.getElem?_eq_getElem hik]
            have hms : (x[i].kind == ks[i]) = false → misK ks x = true := fun h => by
              unfold misK
              rw [List.any_eq_true]
              exact ⟨i, List.mem_range.2 hik, by simp [List.getElem?_eq_getElem hix, List.getElem?_eq_getElem hik]; simpa using h⟩
            obtain ⟨xk, hxk⟩ : ∃ z, z = x[i].kind := ⟨_, rfl⟩
            obtain ⟨kk, hkk⟩ : ∃ z, z = ks[i] := ⟨_, rfl⟩
            rw [← hxk, ← hkk] at hst hms
            rw [← hxk] at c1
            rw [← hkk] at c2
            have HST := Lib.hid hst; have HMS := Lib.hid hms
            clear hst hms hxk hkk hix hik hxr
            go_upto_region 11 with fail
            go_quiet (fail)
            have HXQ := Lib.hid (HXR.out.drewN nq)
            generalize (W.drewN nq) = Y at *
            clear c1 c2 e0 b2
            by_cases hkx : xk = kk
            · have g2 : (xk != kk) = false := by simpa using hkx
              have HA2 := Lib.hid (HST.out.trans (by rw [show (xk == kk) = true by simpa using hkx]))
              clear hkx
              go_wp2_with fail
              go_roundw
              case rel => exact ⟨i + 1, by omega, by go_num, HA2, HXQ.out⟩
              case measure => simp [intOf]; omega
            · have g2 : (xk != kk) = true := by simpa using hkx
              have HM2 := Lib.hid (HMS.out (by simpa using hkx))
              clear hkx
              go_wp2_with fail
              go_ret
              exact Ret.mk (HX3.out.trans HXQ.out) (by rw [HER3.out, if_pos HM2.out]; rfl)
          · obtain rfl : i = m := by omega
            have hdi : ¬ (i : Int) < (i : Int) := by omega
            have HA2 : Hid (misK ks x = false) := Lib.hid (by unfold misK; rw [← HNK.out]; exact HALL.out)
            clear hxr
            go_wp2_with fail
            go_ret
            exact Ret.mk (HX3.out.trans HXR.out) (by rw [HER3.out, if_neg (by rw [HA2.out]; simp)]; rfl)
    · have g1 : ((m : Int) != (nk : Int)) = true := by simp; omega
      have HER2 : Hid (er = 6) := Lib.hid (by rw [HER.out, if_neg (by have := HML.out; have := HNK.out; omega)])
      clear hlen
      go_wp2_with fail
      go_ret
      exact Ret.mk HX2.out (by rw [HER2.out]; rfl)
end Go.Proofs.YtmmmdinncmbjkaaGreat
