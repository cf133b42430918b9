/- Contract: numbers.names. -/
import Derived.Test.YtiahaofjmcjdiaaDoorHog
namespace Go.Proofs.YtiahaofjmcjdiaaDoor
open Go.RowKit

/-- The terms that names numbers. -/
def nmT (l : List ByteArray) : List Tm := (l.filter (fun s => decide (s ≠ ⟨#[]⟩))).map varT
theorem nmT_length (l : List ByteArray) : (nmT l).length ≤ l.length := by unfold nmT; rw [List.length_map]; exact List.length_filter_le _ _
theorem nmT_snoc_empty (l : List ByteArray) {s : ByteArray} (h : s = ⟨#[]⟩) : nmT (l ++ [s]) = nmT l := by simp [nmT, List.filter_append, h]
theorem nmT_snoc (l : List ByteArray) {s : ByteArray} (h : s ≠ ⟨#[]⟩) : nmT (l ++ [s]) = nmT l ++ [varT s] := by simp [nmT, List.filter_append, h]

structure NmI (w wr : World) (base g : Nat) (v : Value) (ts L : List Tm) (t vn : Value) : Prop where
  num : NumB wr base g vn (tabT ts L)
  fr : Fr (fun k => k = g ∨ v.ownBlock = some k) w wr
  land : vn.ownBlock = v.ownBlock ∨ ∀ k, vn.ownBlock = some k → w.heap.size ≤ k
  row : wr.ownsRow w.heap.size 3 1 t L.length ((L.map (numT (tabT ts L))).map I64)

theorem NmI.step {w wr wa wb w9 : World} {base g : Nat} {v t vn va v9 : Value} {ts L : List Tm} {x : Tm} (h : NmI w wr base g v ts L t vn)
    (hna : NumB wa base g va (addT (tabT ts L) x)) (hfa : Fr (fun k => k = g ∨ vn.ownBlock = some k) wr wa) (hla : va.ownBlock = vn.ownBlock ∨ ∀ k, va.ownBlock = some k → wr.heap.size ≤ k) (e2 : Ext wa wb)
    (hap : w9.ownsRow w.heap.size 3 1 v9 (L.length + 1) ((L.map (numT (tabT ts L))).map I64 ++ [I64 (numT (tabT ts L) x)])) (hgr : wb.grownBy w9 t.ownBlock) :
    NmI w w9 base g v ts (L ++ [x]) v9 va := by
  have s2 := hfa.size; have s3 := e2.size; have s4 := h.fr.size
  have hri : ∀ k, t.ownBlock = some k → w.heap.size ≤ k ∧ k < wr.heap.size := fun k hk => h.row.lt k hk
  have higx : ∀ k, t.ownBlock = some k → k ≠ g := fun k hk => own_bk h.row h.num.cell (by decide) hk
  have hivm : ∀ k, t.ownBlock = some k → vn.ownBlock ≠ some k := fun k hk => own_ne h.row h.num.row (by decide) hk
  refine ⟨?_, ?_, ?_, ?_⟩
  · rw [tabT_snoc]
    exact (hna.ext e2).fr (grown_fr hgr) (fun hs => higx g hs rfl) (fun k hk hs => by
      rcases hla with hl | hl
      · exact hivm k hs (hl ▸ hk)
      · have := hl k hk; have := (hri k hs).2; omega)
  · refine Fr.comp ((h.fr.comp hfa (fun k hk => ?_)).ext e2) (grown_fr hgr) (fun k hk => .inr (hri k hk).1)
    rcases hk with hk | hk
    · exact .inl (.inl hk)
    · rcases h.land with hl | hl
      · exact .inl (.inr (hl ▸ hk))
      · exact .inr (hl k hk)
  · rcases hla with hl | hl
    · rw [hl]; exact h.land
    · exact .inr (fun k hk => by have := hl k hk; omega)
  · rw [tabT_snoc, List.map_append, List.map_append]
    have e3 : L.map (numT (addT (tabT ts L) x)) = L.map (numT (tabT ts L)) := List.map_congr_left (fun u hu => numT_pre (tabT_mem hu) (addT_pre _ _))
    rw [e3]
    simp only [List.map_cons, List.map_nil, numT_add, List.length_append, List.length_cons, List.length_nil]
    exact hap

/-- What names leaves. -/
def NamesPost (base g : Nat) (v : Value) (ts : List Tm) (l : List ByteArray) (w : World) (e : Ending) (w' : World) : Prop :=
  ∃ t vn, e = .returned t ∧ NmI w w' base g v ts (nmT l) t vn

set_option maxRecDepth 20000 in
set_option maxHeartbeats 1600000 in
theorem names_any {F : Nat → Prop} {w : World} {base g : Nat} {v sv : Value} {ts : List Tm} {l : List ByteArray} (h : NumB w base g v ts) (hr : Strs F w sv l) (hF : ∀ k, F k → k ≠ g ∧ v.ownBlock ≠ some k) (hl : ts.length + l.length ≤ 1048576) (hbase : base ≤ w.heap.size) :
    Calls Tryd.prog 13 #[.pointer (some ⟨g, 0, none⟩), sv] w (NamesPost base g v ts l w) := by
  obtain ⟨A, c, rfl, hc, hcl⟩ := hr
  obtain ⟨n, hn⟩ : ∃ n, n = l.length := ⟨_, rfl⟩
  have hnb : n ≤ 1048576 := by omega
  rw [← hn] at hc ⊢
  have HN := Lib.hid hn; have HCL := Lib.hid hcl; have HF := Lib.hid hF; have HH := Lib.hid h; have HL := Lib.hid hl
  clear hn hcl hF h hl
  obtain ⟨i0, hi0, hz0, hz1, hz2⟩ := info_parts info_int
  have HI0 := Lib.hid (And.intro hi0 (And.intro hz0 (And.intro hz1 hz2))); clear hi0 hz0 hz1 hz2
  go_enter Tryd.func13, Tryd.ntmps13
  go_wp2_with fail
  go_loopw [5, 10] (fun t q wr => ∃ (i : Nat) (vn : Value), i ≤ n ∧ q = .int .i64 (i : Int) ∧ NmI w wr base g v ts (nmT (l.take i)) t vn) (fun _ q _ => n - (intOf q).toNat)
  case atStart => exact ⟨0, v, Nat.zero_le _, rfl, HH.out, Fr.refl _ _, .inl rfl, World.ownsRow_nil _ _ _ _⟩
  case round =>
    obtain ⟨i, vn, hi, rfl, hI⟩ := hrel
    obtain ⟨At, ct, rfl⟩ := own_slice hI.row
    have HI := Lib.hid hI
    by_cases hlt : i < n
    · have i1 : (0 : Int) ≤ (i : Int) := by omega
      have i2 : (i : Int) < (n : Int) := by omega
      have hil : i < l.length := by have := HN.out; omega
      obtain ⟨ad, rfl, hFa, d0⟩ := HCL.out.at' (j := i) (x := .string l[i]) (by simp [hil])
      replace d0 := hI.fr.cell d0 (by rw [block_add]; exact fun hs => by rcases hs with hs | hs; exact (HF.out _ hFa).1 hs; exact (HF.out _ hFa).2 hs)
      have htk : l.take (i + 1) = l.take i ++ [l[i]] := List.take_succ_eq_append_getElem hil
      have hll : (nmT (l.take i)).length ≤ 1048576 := by have := nmT_length (l.take i); simp at this; omega
      have htl : (tabT ts (nmT (l.take i))).length ≤ 1048576 := by have := tabT_length ts (nmT (l.take i)); have := nmT_length (l.take i); simp at this; have := HL.out; omega
      obtain ⟨s, hs⟩ : ∃ s, s = l[i] := ⟨_, rfl⟩
      rw [← hs] at d0 htk
      have HTK := Lib.hid htk; have HTL := Lib.hid htl
      obtain ⟨L, hL⟩ : ∃ L, L = nmT (l.take i) := ⟨_, rfl⟩
      rw [← hL] at hll
      rw [← hL] at HI HTL ⊢
      have HLL := Lib.hid hL
      have hww : w.heap.size ≤ wr.heap.size := hI.fr.size
      clear hI htk htl hs hL hFa
      obtain ⟨m, hm⟩ : ∃ m, m = L.length := ⟨_, rfl⟩
      rw [← hm] at hll ⊢
      have HM := Lib.hid hm
      clear hm
      by_cases he : s = ⟨#[]⟩
      · have HE := Lib.hid he
        subst he
        go_wp2_with fail
        all_goals first
          | contradiction
          | (go_roundw
             case rel => exact ⟨i + 1, vn, by omega, by go_num, by rw [HTK.out, nmT_snoc_empty _ rfl, ← HLL.out, HM.out]; exact HI.out⟩
             case measure => simp [intOf]; omega)
      · have HE := Lib.hid he
        have he2 := var_ne he
        clear he
        go_wp2_with fail
        refine (of_any (t := varT s) HI.out.num HTL.out (by omega)).mono ?_
        rintro e wa ⟨x, va, rfl, hxn, hna, hfa, hla⟩
        have hra := own_fr HI.out.row hfa (fun k hk hs => by
          rcases hs with hs | hs
          · exact own_bk HI.out.row HI.out.num.cell (by decide) hk hs
          · exact own_ne HI.out.row HI.out.num.row (by decide) hk hs)
        rw [← HM.out] at hra
        have HRA := Lib.hid hra; have HNA := Lib.hid hna; have HFA := Lib.hid hfa; have HLA := Lib.hid hla; have HXN := Lib.hid hxn
        have hwa : wr.heap.size ≤ wa.heap.size := hfa.size
        clear hra hna hfa hla hxn
        go_wp2_with (first | (at_builtin; refine wpList_append_at rfl _ _ 38 rfl w.heap.size 3 i0 (.int .i64 0) 1 8 Tryd.underlying38 HI0.out.1 HI0.out.2.1 HI0.out.2.2.1 HI0.out.2.2.2 rfl (by omega) _ _ ((L.map (numT (tabT ts L))).map I64) rfl (HRA.out.alloc _) ⟨wa.heap.size, 0, none⟩ 1 1 [I64 x] rfl rfl (laid_news wa _ _) (by simp [Value.oneCell']) (by simp only [maxLen]; omega) (by omega) (by simp; omega) ?_; intro v' w9 hr' hgr hland; have HR9 := Lib.hid hr'; have HG9 := Lib.hid hgr; clear hr' hgr hland))
        go_roundw
        case rel =>
          refine ⟨i + 1, va, by omega, by go_num, ?_⟩
          rw [HTK.out, nmT_snoc _ HE.out, ← HLL.out]
          have hap := HR9.out
          rw [HXN.out, HM.out] at hap
          have hgr := HG9.out
          rw [HM.out] at hgr
          exact NmI.step HI.out HNA.out HFA.out HLA.out ((Ext.refl wa).alloc _) hap hgr
        case measure => simp [intOf]; omega
    · obtain rfl : i = n := by omega
      have hdn : ¬ (i : Int) < (i : Int) := by omega
      clear hI
      go_wp2_with fail
      go_ret
      have et : l.take i = l := by rw [HN.out]; exact List.take_length
      have h := HI.out
      rw [et] at h ⊢
      exact ⟨_, vn, rfl, h⟩
end Go.Proofs.YtiahaofjmcjdiaaDoor
