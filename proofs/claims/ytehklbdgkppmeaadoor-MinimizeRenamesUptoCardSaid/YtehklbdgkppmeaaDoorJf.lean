/- Contract: minimize.Contained. -/
import Derived.Test.YtehklbdgkppmeaaDoorJe
namespace Go.Proofs.YtehklbdgkppmeaaDoor
open Go.RowKit Go.Maps

theorem info_rule : (Tryd.prog.info? 25).map (fun i => (i.zero, i.size, i.bytes)) = some (some (.agg #[.slice none 0 0, .slice none 0 0]), 2, 48) := by kernel_rfl
theorem info_int : (Tryd.prog.info? 3).map (fun i => (i.zero, i.size, i.bytes)) = some (some (.int .i64 0), 1, 8) := by kernel_rfl
theorem Pq.ren {r : List At} {nm : ByteArray → ByteArray} (h : Pq r) (hs : ∀ v ∈ varsT (allT r), (nm v).size ≤ 1048576) : Pq (renL nm r) := by
  have hterm : ∀ a ∈ renL nm r, ∃ b ∈ r, a.neg = b.neg ∧ a.rel = b.rel ∧ a.terms.length = b.terms.length ∧ ∀ t ∈ a.terms, ∃ u ∈ b.terms, t = if u.var = ⟨#[]⟩ then u else varT (nm u.var) := fun a ha => by
    obtain ⟨b, hb, rfl⟩ := appL_iff.1 ha
    refine ⟨b, hb, rfl, rfl, by simp [repA], fun t ht => ?_⟩
    obtain ⟨u, hu, rfl⟩ := List.mem_map.1 ht
    exact ⟨u, hu, ren_rep hb hu⟩
  refine ⟨fun a ha => ?_, Nat.le_trans (appL_length _ _) h.len, ?_, ?_⟩
  · obtain ⟨b, hb, h1, h2, h3, h4⟩ := hterm a ha
    refine ⟨⟨h1.trans (h.pu b hb).1.1, fun t ht => ?_⟩, by rw [h3]; exact (h.pu b hb).2⟩
    obtain ⟨u, hu, rfl⟩ := h4 t ht
    split
    · exact (h.pu b hb).1.2 u hu
    · exact .inr ⟨rfl, rfl, rfl⟩
  · have h1 := nodup_len (l := varsT (allT (renL nm r))) (m := (varsT (allT r)).map nm) (varsT_nodup _) (fun v hv => by
      obtain ⟨t, ht, rfl, hne⟩ := varsT_iff.1 hv
      obtain ⟨a, ha, hta⟩ := allT_iff.1 ht
      obtain ⟨b, hb, -, -, -, h4⟩ := hterm a ha
      obtain ⟨u, hu, e⟩ := h4 t hta
      by_cases hz : u.var = ⟨#[]⟩
      · rw [if_pos hz] at e
        rw [e] at hne
        exact absurd hz hne
      · rw [if_neg hz] at e
        rw [e]
        exact List.mem_map.2 ⟨u.var, var_mem hb hu hz, rfl⟩)
    rw [List.length_map] at h1
    exact Nat.le_trans h1 h.vars
  · have hl := Nat.le_trans (appL_length (firstP ((varsT (allT r)).map (fun v => (v, varT (nm v))))) r) h.len
    refine ⟨by show (appL _ _).length ≤ _; omega, ?_, fun a ha => ?_, fun a ha t ht => ?_⟩
    · have h1 := allT_bd (xs := renL nm r) (b := 6) (fun a ha => by
        obtain ⟨b, hb, -, -, h3, -⟩ := hterm a ha
        rw [h3]; exact (h.pu b hb).2)
      have h2 : (renL nm r).length ≤ 8 := hl
      omega
    · obtain ⟨b, hb, -, h2, -⟩ := hterm a ha
      rw [h2]; exact h.bd.rel b hb
    · obtain ⟨b, hb, -, -, -, h4⟩ := hterm a ha
      obtain ⟨u, hu, rfl⟩ := h4 t ht
      split
      · exact h.bd.str b hb u hu
      · rename_i hz
        exact ⟨hs _ (var_mem hb hu hz), by show (⟨#[]⟩ : ByteArray).size ≤ _; decide⟩
theorem nmR_size {bh ah V : List ByteArray} (hlen : bh.length = ah.length) (hah : ∀ v ∈ ah, v.size ≤ 1048574) (hV : V.length ≤ 8) : ∀ v ∈ V, (nmR bh ah V v).size ≤ 1048576 := fun v hv => by
  unfold nmR
  split
  · rename_i h
    have h2 : idxS bh v < ah.length := by omega
    rw [List.getD_eq_getElem?_getD, List.getElem?_eq_getElem h2]
    have := hah _ (List.getElem_mem h2)
    simp only [Option.getD_some]
    omega
  · have h1 := maxS_le hah
    rw [ByteArray.size_append, freshB_size]
    have h2 : (idxS V v) < 8 := by have := idxS_lt hv; omega
    have h3 := itoa_one h2
    have h4 : (⟨(Lib.itoa (idxS V v : Int)).toArray⟩ : ByteArray).size = (Lib.itoa (idxS V v : Int)).length := by show (Lib.itoa _).toArray.size = _; simp
    unfold maxS at h1
    omega
def hitB (a b : Qr) (r s : Ru) : Bool := homR s.ats b.hd r.ats a.hd
def hitN (a b : Qr) (r : Ru) : Option Nat := firstI b.rs.length (fun k => ((b.rs[k]?).map (hitB a b r)).getD false)
def contE (a b : Qr) : Int := if a.pure = true ∧ b.pure = true then (if a.hd.length = b.hd.length then 0 else 6) else 1
def contB (a b : Qr) : Bool := a.rs.all (fun r => (hitN a b r).isSome)
def contN (a b : Qr) (rs : List Ru) : List Int := rs.map (fun r => optI (hitN a b r))
def wid (a b : Qr) (r : Ru) : Ru := ⟨renL (nmR b.hd a.hd (varsT (allT r.ats))) r.ats, 0⟩
def ContPost (a b : Qr) (w : World) (e : Ending) (w' : World) : Prop :=
  Ext w w' ∧ if contE a b = 0 ∧ contB a b = true then ∃ v, e = .returned (.tuple #[v, .bool true, .int .i64 0]) ∧ Ins T1 w' v (contN a b a.rs) else e = .returned (.tuple #[.slice none 0 0, .bool false, .int .i64 (contE a b)])
theorem ContPost.err {a b : Qr} {w w' : World} (he : Ext w w') (h : contE a b ≠ 0) : ContPost a b w (.returned (.tuple #[.slice none 0 0, .bool false, .int .i64 (contE a b)])) w' := ⟨he, by rw [if_neg (fun e => h e.1)]⟩
theorem ContPost.no {a b : Qr} {w w' : World} (he : Ext w w') (h0 : contE a b = 0) (h : contB a b = false) : ContPost a b w (.returned (.tuple #[.slice none 0 0, .bool false, .int .i64 0])) w' := ⟨he, by rw [if_neg (fun e => by rw [h] at e; cases e.2), h0]⟩
theorem ContPost.yes {a b : Qr} {w w' : World} {v : Value} (he : Ext w w') (h0 : contE a b = 0) (h : contB a b = true) (hv : Ins T1 w' v (contN a b a.rs)) : ContPost a b w (.returned (.tuple #[v, .bool true, .int .i64 0])) w' := ⟨he, by rw [if_pos ⟨h0, h⟩]; exact ⟨v, rfl, hv⟩⟩

section
variable {w : World} {A : Option Addr} {c : Nat} {B : Option Addr} {d : Nat} {O : Option Addr} {co : Nat} {A' : Option Addr} {c' : Nat} {B' : Option Addr} {d' : Nat} {O' : Option Addr} {co' : Nat} {a b : Qr}

theorem two_q (w : World) (o0 o1 : List Value) (W : World) (hW : W = (w.alloc (.cells o0.toArray 44)).alloc (.cells o1.toArray 44)) :
    Bk W w.heap.size 44 o0 ∧ Bk W (w.heap.size + 1) 44 o1 ∧ Ext w W := by
  subst hW
  exact two_boxes w _ _ o0 o1

set_option maxRecDepth 20000 in
set_option maxHeartbeats 1600000 in
theorem contained_err (ha : Qc w A c B d O co a) (hb : Qc w A' c' B' d' O' co' b) (oa : QOk a) (ob : QOk b) (h0 : contE a b ≠ 0) :
    Calls Tryd.prog 20 #[.agg #[.slice A a.hd.length c, .int .i64 a.ag, .string a.av, .slice B a.rs.length d, .slice O a.no co], .agg #[.slice A' b.hd.length c', .int .i64 b.ag, .string b.av, .slice B' b.rs.length d', .slice O' b.no co']] w (ContPost a b w) := by
  have HPA : Hid (∀ W, Ext w W → Calls Tryd.prog 39 #[.agg #[.slice A a.hd.length c, .int .i64 a.ag, .string a.av, .slice B a.rs.length d, .slice O a.no co]] W (Ret (fun x _ => x = .bool a.pure) W)) := Lib.hid (fun W hW => mpure_any (ha.hd.ext hW) (ha.rs.ext hW) (fun r hr => (oa.ax r hr).bd) (fun v hv => by have := oa.hs v hv; omega) (by have := oa.hl; omega) (by have := oa.rl; omega))
  have HPB : Hid (∀ W, Ext w W → Calls Tryd.prog 39 #[.agg #[.slice A' b.hd.length c', .int .i64 b.ag, .string b.av, .slice B' b.rs.length d', .slice O' b.no co']] W (Ret (fun x _ => x = .bool b.pure) W)) := Lib.hid (fun W hW => mpure_any (hb.hd.ext hW) (hb.rs.ext hW) (fun r hr => (ob.ax r hr).bd) (fun v hv => by have := ob.hs v hv; omega) (by have := ob.hl; omega) (by have := ob.rl; omega))
  have H0 := Lib.hid h0
  obtain ⟨na, hna⟩ : ∃ n, n = a.hd.length := ⟨_, rfl⟩
  obtain ⟨nb, hnb⟩ : ∃ n, n = b.hd.length := ⟨_, rfl⟩
  have HE : Hid (contE a b = if a.pure = true ∧ b.pure = true then (if na = nb then 0 else 6) else 1) := Lib.hid (by rw [hna, hnb]; rfl)
  rw [← hna] at HPA ⊢
  rw [← hnb] at HPB ⊢
  obtain ⟨ma, hma⟩ : ∃ n, n = a.rs.length := ⟨_, rfl⟩
  obtain ⟨mb, hmb⟩ : ∃ n, n = b.rs.length := ⟨_, rfl⟩
  rw [← hma] at HPA ⊢
  rw [← hmb] at HPB ⊢
  obtain ⟨oa1, hoa⟩ : ∃ n, n = a.no := ⟨_, rfl⟩
  obtain ⟨ob1, hob⟩ : ∃ n, n = b.no := ⟨_, rfl⟩
  rw [← hoa] at HPA ⊢
  rw [← hob] at HPB ⊢
  obtain ⟨ag, hag⟩ : ∃ n, n = a.ag := ⟨_, rfl⟩
  obtain ⟨bg, hbg⟩ : ∃ n, n = b.ag := ⟨_, rfl⟩
  rw [← hag] at HPA ⊢
  rw [← hbg] at HPB ⊢
  obtain ⟨aa, haa⟩ : ∃ n, n = a.av := ⟨_, rfl⟩
  obtain ⟨ba, hba⟩ : ∃ n, n = b.av := ⟨_, rfl⟩
  rw [← haa] at HPA ⊢
  rw [← hba] at HPB ⊢
  clear ha hb oa ob h0 hna hnb hma hmb hoa hob hag hbg haa hba
  obtain ⟨pa, hpa⟩ : ∃ p, p = a.pure := ⟨_, rfl⟩
  obtain ⟨pb, hpb⟩ : ∃ p, p = b.pure := ⟨_, rfl⟩
  rw [← hpa] at HPA HE
  rw [← hpb] at HPB HE
  clear hpa hpb
  rcases pa with _ | _
  · have HE1 : Hid (contE a b = 1) := Lib.hid (by rw [HE.out, if_neg (by simp)])
    go_enter Tryd.func20, Tryd.ntmps20
    go_wp2_with fail
    have h2 := two_q w [.slice A na c, .int .i64 ag, .string aa, .slice B ma d, .slice O oa1 co] [.slice A' nb c', .int .i64 bg, .string ba, .slice B' mb d', .slice O' ob1 co'] _ rfl
    change Bk ((w.alloc (.cells #[.slice A na c, .int .i64 ag, .string aa, .slice B ma d, .slice O oa1 co] 44)).alloc (.cells #[.slice A' nb c', .int .i64 bg, .string ba, .slice B' mb d', .slice O' ob1 co'] 44)) _ _ _ ∧ Bk ((w.alloc (.cells #[.slice A na c, .int .i64 ag, .string aa, .slice B ma d, .slice O oa1 co] 44)).alloc (.cells #[.slice A' nb c', .int .i64 bg, .string ba, .slice B' mb d', .slice O' ob1 co'] 44)) _ _ _ ∧ Ext w ((w.alloc (.cells #[.slice A na c, .int .i64 ag, .string aa, .slice B ma d, .slice O oa1 co] 44)).alloc (.cells #[.slice A' nb c', .int .i64 bg, .string ba, .slice B' mb d', .slice O' ob1 co'] 44)) at h2
    generalize ((w.alloc (.cells #[.slice A na c, .int .i64 ag, .string aa, .slice B ma d, .slice O oa1 co] 44)).alloc (.cells #[.slice A' nb c', .int .i64 bg, .string ba, .slice B' mb d', .slice O' ob1 co'] 44)) = w1 at *
    obtain ⟨ka, kb, hx⟩ := h2
    refine (HPA.out _ hx).mono ?_
    rintro e w2 ⟨y, rfl, he2, rfl⟩
    have HX2 := Lib.hid (hx.trans he2)
    clear hx he2 ka kb
    go_wp2_with fail
    go_ret3
    have h := ContPost.err HX2.out H0.out
    rw [HE1.out] at h
    exact h
  · go_enter Tryd.func20, Tryd.ntmps20
    go_wp2_with fail
    have h2 := two_q w [.slice A na c, .int .i64 ag, .string aa, .slice B ma d, .slice O oa1 co] [.slice A' nb c', .int .i64 bg, .string ba, .slice B' mb d', .slice O' ob1 co'] _ rfl
    change Bk ((w.alloc (.cells #[.slice A na c, .int .i64 ag, .string aa, .slice B ma d, .slice O oa1 co] 44)).alloc (.cells #[.slice A' nb c', .int .i64 bg, .string ba, .slice B' mb d', .slice O' ob1 co'] 44)) _ _ _ ∧ Bk ((w.alloc (.cells #[.slice A na c, .int .i64 ag, .string aa, .slice B ma d, .slice O oa1 co] 44)).alloc (.cells #[.slice A' nb c', .int .i64 bg, .string ba, .slice B' mb d', .slice O' ob1 co'] 44)) _ _ _ ∧ Ext w ((w.alloc (.cells #[.slice A na c, .int .i64 ag, .string aa, .slice B ma d, .slice O oa1 co] 44)).alloc (.cells #[.slice A' nb c', .int .i64 bg, .string ba, .slice B' mb d', .slice O' ob1 co'] 44)) at h2
    generalize ((w.alloc (.cells #[.slice A na c, .int .i64 ag, .string aa, .slice B ma d, .slice O oa1 co] 44)).alloc (.cells #[.slice A' nb c', .int .i64 bg, .string ba, .slice B' mb d', .slice O' ob1 co'] 44)) = w1 at *
    obtain ⟨ka, kb, hx⟩ := h2
    refine (HPA.out _ hx).mono ?_
    rintro e w2 ⟨y, rfl, he2, rfl⟩
    replace ka := ka.ext he2
    replace kb := kb.ext he2
    replace hx := hx.trans he2
    have b0 := kb.cell (i := 0) (by simp); have b1 := kb.cell (i := 1) (by simp); have b2 := kb.cell (i := 2) (by simp); have b3 := kb.cell (i := 3) (by simp); have b4 := kb.cell (i := 4) (by simp)
    simp only [List.getElem_cons_zero, List.getElem_cons_succ] at b0 b1 b2 b3 b4
    clear he2
    go_wp2_with fail
    refine (HPB.out _ hx).mono ?_
    rintro e w3 ⟨y, rfl, he3, rfl⟩
    replace ka := ka.ext he3
    replace kb := kb.ext he3
    have HX3 := Lib.hid (hx.trans he3)
    clear he3 hx b1 b2 b3 b4
    replace b0 := kb.cell (i := 0) (by simp)
    have a0 := ka.cell (i := 0) (by simp)
    simp only [List.getElem_cons_zero, List.getElem_cons_succ] at b0 a0
    rcases pb with _ | _
    · have HE1 : Hid (contE a b = 1) := Lib.hid (by rw [HE.out, if_neg (by simp)])
      go_wp2_with fail
      go_ret3
      have h := ContPost.err HX3.out H0.out
      rw [HE1.out] at h
      exact h
    · by_cases hl : na = nb
      · exfalso
        exact H0.out (by rw [HE.out]; simp [hl])
      · have hl2 : ¬ (na : Int) = (nb : Int) := by omega
        have HE1 : Hid (contE a b = 6) := Lib.hid (by rw [HE.out]; simp [hl])
        clear hl ka kb
        go_wp2_with fail
        all_goals first
          | contradiction
          | (go_ret3
             have h := ContPost.err HX3.out H0.out
             rw [HE1.out] at h
             exact h)
theorem contE_zero (h0 : contE a b = 0) : a.pure = true ∧ b.pure = true ∧ a.hd.length = b.hd.length := by
  unfold contE at h0
  split at h0
  · rename_i h
    split at h0
    · rename_i hl
      exact ⟨h.1, h.2, hl⟩
    · cases h0
  · cases h0

set_option maxRecDepth 20000 in
set_option maxHeartbeats 6400000 in
theorem contained_ok (ha : Qc w A c B d O co a) (hb : Qc w A' c' B' d' O' co' b) (oa : QOk a) (ob : QOk b) (htab : TabE w) (h0 : contE a b = 0) :
    Calls Tryd.prog 20 #[.agg #[.slice A a.hd.length c, .int .i64 a.ag, .string a.av, .slice B a.rs.length d, .slice O a.no co], .agg #[.slice A' b.hd.length c', .int .i64 b.ag, .string b.av, .slice B' b.rs.length d', .slice O' b.no co']] w (ContPost a b w) := by
  obtain ⟨hpa, hpb, hlen⟩ := contE_zero h0
  have hqa := Qr.pure_iff.1 hpa
  have hqb := Qr.pure_iff.1 hpb
  have HPA : Hid (∀ W, Ext w W → Calls Tryd.prog 39 #[.agg #[.slice A a.hd.length c, .int .i64 a.ag, .string a.av, .slice B a.rs.length d, .slice O a.no co]] W (Ret (fun x _ => x = .bool true) W)) := Lib.hid (fun W hW => by
    have h := mpure_any (ag := a.ag) (av := a.av) (O := O) (no := a.no) (co := co) (ha.hd.ext hW) (ha.rs.ext hW) (fun r hr => (oa.ax r hr).bd) (fun v hv => by have := oa.hs v hv; omega) (by have := oa.hl; omega) (by have := oa.rl; omega)
    rw [show pureQ a.hd a.ag a.rs = true from hpa] at h
    exact h)
  have HPB : Hid (∀ W, Ext w W → Calls Tryd.prog 39 #[.agg #[.slice A' b.hd.length c', .int .i64 b.ag, .string b.av, .slice B' b.rs.length d', .slice O' b.no co']] W (Ret (fun x _ => x = .bool true) W)) := Lib.hid (fun W hW => by
    have h := mpure_any (ag := b.ag) (av := b.av) (O := O') (no := b.no) (co := co') (hb.hd.ext hW) (hb.rs.ext hW) (fun r hr => (ob.ax r hr).bd) (fun v hv => by have := ob.hs v hv; omega) (by have := ob.hl; omega) (by have := ob.rl; omega)
    rw [show pureQ b.hd b.ag b.rs = true from hpb] at h
    exact h)
  have HRA := Lib.hid ha.rs.at2; have HRB := Lib.hid hb.rs.at2
  have HHA := Lib.hid ha.hd; have HHB := Lib.hid hb.hd
  have HQA := Lib.hid hqa; have HQB := Lib.hid hqb; have HOA := Lib.hid oa; have HOB := Lib.hid ob; have H0 := Lib.hid h0; have HTAB := Lib.hid htab; have HLEN := Lib.hid hlen
  have HAH := Lib.hid oa.hs
  have hal := oa.hl
  obtain ⟨na, hna⟩ : ∃ n, n = a.hd.length := ⟨_, rfl⟩
  rw [← hna] at hlen hal HPA HHA ⊢
  rw [← hlen] at HPB HHB ⊢
  obtain ⟨ma, hma⟩ : ∃ n, n = a.rs.length := ⟨_, rfl⟩
  obtain ⟨mb, hmb⟩ : ∃ n, n = b.rs.length := ⟨_, rfl⟩
  have hma3 : ma ≤ 3 := by rw [hma]; exact hqa.2.2.1
  have hmb3 : mb ≤ 3 := by rw [hmb]; exact hqb.2.2.1
  rw [← hma] at HPA ⊢
  rw [← hmb] at HPB ⊢
  have HNA := Lib.hid hna; have HMA := Lib.hid hma; have HMB := Lib.hid hmb
  clear ha hb oa ob h0 hpa hpb hqa hqb htab hlen hna hma hmb
  generalize a.no = oa1 at HPA ⊢
  generalize b.no = ob1 at HPB ⊢
  generalize a.ag = ag at HPA ⊢
  generalize b.ag = bg at HPB ⊢
  generalize a.av = aa at HPA ⊢
  generalize b.av = ba at HPB ⊢
  obtain ⟨p0, hp0, hz0, hz1, hz2⟩ := info_parts info_rule
  have HI0 := Lib.hid (And.intro hp0 (And.intro hz0 (And.intro hz1 hz2)))
  clear hp0 hz0 hz1 hz2
  obtain ⟨j0, hj0, hy0, hy1, hy2⟩ := info_parts info_int
  have HJ0 := Lib.hid (And.intro hj0 (And.intro hy0 (And.intro hy1 hy2)))
  clear hj0 hy0 hy1 hy2
  go_enter Tryd.func20, Tryd.ntmps20
  go_wp2_with fail
  have h2 := two_q w [.slice A na c, .int .i64 ag, .string aa, .slice B ma d, .slice O oa1 co] [.slice A' na c', .int .i64 bg, .string ba, .slice B' mb d', .slice O' ob1 co'] _ rfl
  change Bk ((w.alloc (.cells #[.slice A na c, .int .i64 ag, .string aa, .slice B ma d, .slice O oa1 co] 44)).alloc (.cells #[.slice A' na c', .int .i64 bg, .string ba, .slice B' mb d', .slice O' ob1 co'] 44)) _ _ _ ∧ Bk ((w.alloc (.cells #[.slice A na c, .int .i64 ag, .string aa, .slice B ma d, .slice O oa1 co] 44)).alloc (.cells #[.slice A' na c', .int .i64 bg, .string ba, .slice B' mb d', .slice O' ob1 co'] 44)) _ _ _ ∧ Ext w ((w.alloc (.cells #[.slice A na c, .int .i64 ag, .string aa, .slice B ma d, .slice O oa1 co] 44)).alloc (.cells #[.slice A' na c', .int .i64 bg, .string ba, .slice B' mb d', .slice O' ob1 co'] 44)) at h2
  generalize ((w.alloc (.cells #[.slice A na c, .int .i64 ag, .string aa, .slice B ma d, .slice O oa1 co] 44)).alloc (.cells #[.slice A' na c', .int .i64 bg, .string ba, .slice B' mb d', .slice O' ob1 co'] 44)) = w1 at *
  obtain ⟨ka, kb, hx⟩ := h2
  refine (HPA.out _ hx).mono ?_
  rintro e w2 ⟨y, rfl, he2, rfl⟩
  replace ka := ka.ext he2
  replace kb := kb.ext he2
  replace hx := hx.trans he2
  have b0 := kb.cell (i := 0) (by simp); have b1 := kb.cell (i := 1) (by simp); have b2 := kb.cell (i := 2) (by simp); have b3 := kb.cell (i := 3) (by simp); have b4 := kb.cell (i := 4) (by simp)
  simp only [List.getElem_cons_zero, List.getElem_cons_succ] at b0 b1 b2 b3 b4
  clear he2
  go_wp2_with fail
  refine (HPB.out _ hx).mono ?_
  rintro e w3 ⟨y, rfl, he3, rfl⟩
  replace ka := ka.ext he3
  replace kb := kb.ext he3
  have HX3 := Lib.hid (hx.trans he3); have HKA := Lib.hid ka; have HKB := Lib.hid kb
  clear he3 hx b1 b2 b4
  replace b0 := kb.cell (i := 0) (by simp)
  replace b3 := kb.cell (i := 3) (by simp)
  have a0 := ka.cell (i := 0) (by simp)
  simp only [List.getElem_cons_zero, List.getElem_cons_succ] at b0 b3 a0
  clear ka kb
  go_wp2_with fail
  clear b0 b3 a0
  go_loopw [7, 32] (fun t q wr => ∃ (i : Nat) (ps : List (Value × Value)), i ≤ mb ∧ q = .int .i64 (i : Int) ∧ RuV wr w3.heap.size t i ((b.rs.take i).map (wid a b)) ps ∧ Ext w3 wr) (fun _ q _ => mb - (intOf q).toNat)
  case atStart => exact ⟨0, [], Nat.zero_le _, rfl, RuV.nil _ _, Ext.refl _⟩
  case round =>
    obtain ⟨i, ps, hi, rfl, hV, hext⟩ := hrel
    obtain ⟨At, ct, rfl⟩ := own_slice hV.2.1
    have HV := Lib.hid hV; have HXT := Lib.hid hext
    have hwr : w3.heap.size ≤ wr.heap.size := hext.size
    have HXR := Lib.hid (HX3.out.trans hext)
    by_cases hlt : i < mb
    · have i1 : (0 : Int) ≤ (i : Int) := by omega
      have i2 : (i : Int) < (mb : Int) := by omega
      have hib : i < b.rs.length := by have := HMB.out; omega
      obtain ⟨ad, Br, n, dr, Cr, er, rfl, -, c0, c1, hat, hcn⟩ := HRB.out i hib
      have hnc := HQB.out.nc (List.getElem_mem hib)
      have hpq := HQB.out.pq HOB.out.ax (List.getElem_mem hib)
      have hax := HOB.out.ax _ (List.getElem_mem hib)
      rw [hnc] at c1 hcn
      replace c0 := HXR.out.cell c0; replace c1 := HXR.out.cell c1
      have htk : (b.rs.take (i + 1)).map (wid a b) = (b.rs.take i).map (wid a b) ++ [wid a b b.rs[i]] := by rw [List.take_succ_eq_append_getElem hib, List.map_append]; rfl
      obtain ⟨r, hr⟩ : ∃ r, r = b.rs[i] := ⟨_, rfl⟩
      rw [← hr] at hat htk hpq hax
      have HREN : Hid (∀ W, Ext wr W → Calls Tryd.prog 40 #[.agg #[.slice Br n dr, .slice Cr 0 er], .slice A' na c', .slice A na c] W (RenPost r.ats b.hd a.hd W)) := Lib.hid (fun W hW => by
        have hw := HXR.out.trans hW
        exact renamed_any (hat.ext hw) (hcn.ext hw) (HHB.out.ext hw) (HHA.out.ext hw) hax hpq.vars (HTAB.out.fore hw) HLEN.out.symm (by have := HNA.out; omega) HAH.out)
      have ka := (HKA.out.ext hext).cell (i := 0) (by simp)
      have kb := (HKB.out.ext hext).cell (i := 0) (by simp)
      simp only [List.getElem_cons_zero] at ka kb
      replace ka := ((Ext.refl wr).alloc (.cells #[.slice Br n dr, .slice Cr 0 er] 25)).cell ka
      replace kb := ((Ext.refl wr).alloc (.cells #[.slice Br n dr, .slice Cr 0 er] 25)).cell kb
      have HTK := Lib.hid htk
      clear hnc hpq hax hat hcn htk hr hV hext
      go_wp2_with fail
      refine (HREN.out _ ((Ext.refl wr).alloc _)).mono ?_
      rintro e w6 ⟨A6, n6, c6, B6, d6, rfl, he6, hA6, hC6⟩
      have he6' : Ext wr w6 := ((Ext.refl wr).alloc _).trans he6
      have hV6 := HV.out.ext he6'
      have HV6 := Lib.hid hV6
      have hown : ∀ k, (Value.slice At i ct).ownBlock = some k → k < wr.heap.size := fun k hk => (HV.out.2.1.lt k hk).2
      have HA6 : Hid (Ats (fun k => (Value.slice At i ct).ownBlock ≠ some k) w6 (.slice A6 n6 c6) (wid a b r).ats) := Lib.hid (hA6.mono (fun k _ hk e => by have h1 := hown k e; simp at hk; omega))
      have HC6 : Hid (Cns (fun k => (Value.slice At i ct).ownBlock ≠ some k) w6 (.slice B6 0 d6) 0) := Lib.hid (hC6.mono (fun k _ hk e => by have h1 := hown k e; simp at hk; omega))
      have HX6 := Lib.hid (HXT.out.trans he6')
      have hw6 : w3.heap.size ≤ w6.heap.size := HX6.out.size
      clear he6 he6' hA6 hC6 hV6 hown c0 c1 ka kb
      go_wp2_with (first | (at_builtin; refine wpList_append_at rfl _ _ 41 rfl w3.heap.size 25 p0 (.agg #[.slice none 0 0, .slice none 0 0]) 2 48 Tryd.underlying41 HI0.out.1 HI0.out.2.1 HI0.out.2.2.1 HI0.out.2.2.2 rfl (by omega) (.slice At i ct) i (pcat ps) rfl (HV6.out.2.1.alloc _) ⟨w6.heap.size, 0, none⟩ 1 1 [.slice A6 n6 c6, .slice B6 0 d6] rfl rfl (laid_news w6 _ _) (by simp [Value.oneCell']) (by simp only [maxLen]; omega) (by omega) (by simp; omega) ?_; intro v8 w8 hr8 hg8 hl8; have HR8 : Hid (RuV w8 w3.heap.size v8 (i + 1) ((b.rs.take i).map (wid a b) ++ [wid a b r]) (ps ++ [(.slice A6 n6 c6, .slice B6 0 d6)])) := Lib.hid (RuV.more HV6.out ((Ext.refl w6).alloc _) (HA6.out.ext ((Ext.refl w6).alloc _)) (HC6.out.ext ((Ext.refl w6).alloc _)) hr8 hg8 hl8); have HE8 : Hid (Ext w3 w8) := Lib.hid ((HX6.out.alloc _).grown hg8 (fun q hq => own_ge HV6.out.2.1 hq)); clear hr8 hg8 hl8))
      go_roundw
      case rel => exact ⟨i + 1, ps ++ [(.slice A6 n6 c6, .slice B6 0 d6)], by omega, by go_num, by rw [HTK.out]; exact HR8.out, HE8.out⟩
      case measure => simp [intOf]; omega
    · obtain rfl : i = mb := by omega
      have hdn : ¬ (i : Int) < (i : Int) := by omega
      have et : b.rs.take i = b.rs := by rw [HMB.out]; exact List.take_length
      rw [et] at hV
      obtain ⟨w4, rfl⟩ : ∃ W : World, W = wr := ⟨_, rfl⟩
      have HWD := Lib.hid hV.rus
      have ka3 := (HKA.out.ext hext).cell (i := 3) (by simp)
      simp only [List.getElem_cons_zero, List.getElem_cons_succ] at ka3
      have HKA4 := Lib.hid (HKA.out.ext hext)
      have hww : ((b.rs.map (wid a b)).length) = i := by rw [List.length_map]; exact HMB.out.symm
      have HWW := Lib.hid hww
      clear et hV hext hww HV HXT
      go_wp2_with fail
      clear ka3
      go_loopw [10, 49] (fun t q wr => ∃ (j : Nat), j ≤ ma ∧ q = .int .i64 (j : Int) ∧ wr.ownsRow w4.heap.size 3 1 t j ((contN a b (a.rs.take j)).map I64) ∧ (a.rs.take j).all (fun r => (hitN a b r).isSome) = true ∧ Ext w4 wr) (fun _ q _ => ma - (intOf q).toNat)
      case atStart => exact ⟨0, Nat.zero_le _, rfl, World.ownsRow_nil _ _ _ _, by simp, Ext.refl _⟩
      case round =>
        obtain ⟨j, hj, rfl, hrow, hall, hext⟩ := hrel
        obtain ⟨Ai, ci, rfl⟩ := own_slice hrow
        have HROW := Lib.hid hrow; have HALL := Lib.hid hall; have HXT := Lib.hid hext
        have HXJ := Lib.hid (HXR.out.trans hext)
        have hw4 : w4.heap.size ≤ wr.heap.size := hext.size
        clear hrow hall
        by_cases hjm : j < ma
        · have j1 : (0 : Int) ≤ (j : Int) := by omega
          have j2 : (j : Int) < (ma : Int) := by omega
          have hjl : j < a.rs.length := by have := HMA.out; omega
          obtain ⟨ad, Br, n, dr, Cr, er, rfl, -, c0, c1, hat, hcn⟩ := HRA.out j hjl
          have hnc := HQA.out.nc (List.getElem_mem hjl)
          have hpq := HQA.out.pq HOA.out.ax (List.getElem_mem hjl)
          rw [hnc] at c1
          replace c0 := HXJ.out.cell c0; replace c1 := HXJ.out.cell c1
          have htk : a.rs.take (j + 1) = a.rs.take j ++ [a.rs[j]] := List.take_succ_eq_append_getElem hjl
          have hmem : a.rs[j] ∈ a.rs := List.getElem_mem hjl
          obtain ⟨r, hr⟩ : ∃ r, r = a.rs[j] := ⟨_, rfl⟩
          rw [← hr] at hat htk hpq hmem
          have HAT := Lib.hid (hat.ext HXJ.out); have HPQ := Lib.hid hpq; have HTK := Lib.hid htk; have HMEM := Lib.hid hmem
          clear hnc hpq hat hcn htk hr hmem hext
          have k5 := Bk.new wr 25 [.slice Br n dr, .slice Cr 0 er]
          change Bk (wr.alloc (.cells #[.slice Br n dr, .slice Cr 0 er] 25)) _ _ _ at k5
          have HCALL : Hid (Calls Tryd.prog 41 #[.slice At i ct, .func (.func 42) #[] #[.pointer (some ⟨wr.heap.size, 0, none⟩), .pointer (some ⟨w.heap.size, 0, none⟩)]] (wr.alloc (.cells #[.slice Br n dr, .slice Cr 0 er] 25)) (Ret (fun x _ => x = .int .i64 (optI (hitN a b r))) (wr.alloc (.cells #[.slice Br n dr, .slice Cr 0 er] 25)))) := Lib.hid (by
            have hx5 : Ext wr (wr.alloc (.cells #[.slice Br n dr, .slice Cr 0 er] 25)) := (Ext.refl wr).alloc _
            have h := index_rule (p := fun k => ((b.rs[k]?).map (hitB a b r)).getD false) (g1 := wr.heap.size) (g2 := w.heap.size) (HWD.out.ext (HXT.out.trans hx5)) (by rw [HWW.out]; omega) (fun k hk W B' n' d' C' e' hW hAk => by
              have hkb : k < b.rs.length := by have := HWW.out; have := HMB.out; omega
              have e1 : (b.rs.map (wid a b))[k] = wid a b b.rs[k] := by rw [List.getElem_map]
              rw [e1] at hAk ⊢
              have hpk := HQB.out.pq HOB.out.ax (List.getElem_mem hkb)
              have h1 := contained1 (AF := C') (ccF := e') (B := Br) (n := n) (d := dr) (C := Cr) (e := er) (hAk.ext hW) (k5.ext hW) (HAT.out.ext (hx5.trans hW)) (fx := a.hd) (c := c) (A := A) (by
                have h := ((HKA4.out.ext HXT.out).ext (hx5.trans hW))
                rw [HNA.out] at h
                exact h) (by have h := HHA.out.ext (HXJ.out.trans (hx5.trans hW)); rw [HNA.out] at h; exact h) (hpk.ren (nmR_size HLEN.out.symm HAH.out hpk.vars)) HPQ.out (by have := HNA.out; omega) (fun v hv => by have := HAH.out v hv; omega)
              have e2 : (b.rs[k]?.map (hitB a b r)).getD false = (findS (wid a b b.rs[k]).ats r.ats a.hd).isSome := by
                rw [List.getElem?_eq_getElem hkb]
                exact (cont_hom HQB.out.2.2.2.1 HQA.out.2.2.2.1 HLEN.out.symm HQA.out.noz).symm
              rw [e2]
              exact h1)
            rw [HWW.out] at h
            unfold hitN
            rw [← HMB.out]
            exact h)
          obtain ⟨o, ho⟩ : ∃ o, o = hitN a b r := ⟨_, rfl⟩
          rw [← ho] at HCALL
          have HO := Lib.hid ho
          clear ho k5
          go_wp2_with fail
          refine HCALL.out.mono ?_
          rintro e w6 ⟨y, rfl, he6, rfl⟩
          have HE6 := Lib.hid (((Ext.refl wr).alloc _).trans he6)
          clear he6
          rcases o with _ | k
          · have HNO : Hid (contB a b = false) := Lib.hid (List.all_eq_false.2 ⟨r, HMEM.out, by rw [← HO.out]; simp⟩)
            have ho : optI none = -1 := rfl
            rw [ho]
            clear ho c0 c1
            go_wp2_with fail
            go_ret3
            exact ContPost.no (HXJ.out.trans HE6.out) H0.out HNO.out
          · have ho : optI (some k) = (k : Int) := rfl
            rw [ho]
            have hk0 : ¬ (k : Int) < 0 := by omega
            have hrow6 := own_ext' HROW.out HE6.out
            have HROW6 := Lib.hid hrow6
            have hw6 : w4.heap.size ≤ w6.heap.size := Nat.le_trans hw4 HE6.out.size
            clear ho c0 c1 hrow6
            go_wp2_with (first | (at_builtin; refine wpList_append_at rfl _ _ 47 rfl w4.heap.size 3 j0 (.int .i64 0) 1 8 Tryd.underlying47 HJ0.out.1 HJ0.out.2.1 HJ0.out.2.2.1 HJ0.out.2.2.2 rfl (by omega) (.slice Ai j ci) j ((contN a b (a.rs.take j)).map I64) rfl (HROW6.out.alloc _) ⟨w6.heap.size, 0, none⟩ 1 1 [.int .i64 (k : Int)] rfl rfl (laid_news w6 _ _) (by simp [Value.oneCell']) (by simp only [maxLen]; omega) (by omega) (by simp; omega) ?_; intro v8 w8 hr8 hg8 hl8; have HR8 := Lib.hid hr8; have HE8 : Hid (Ext w4 w8) := Lib.hid (((HXT.out.trans HE6.out).alloc _).grown hg8 (fun q hq => own_ge HROW6.out hq)); clear hr8 hg8 hl8))
            go_roundw
            case rel =>
              refine ⟨j + 1, by omega, by go_num, ?_, ?_, HE8.out⟩
              · have e1 : (contN a b (a.rs.take (j + 1))).map I64 = (contN a b (a.rs.take j)).map I64 ++ [.int .i64 (k : Int)] := by
                  rw [HTK.out]; unfold contN; rw [List.map_append, List.map_append, List.map_singleton, List.map_singleton, ← HO.out]; rfl
                rw [e1]; exact HR8.out
              · rw [HTK.out, List.all_append, HALL.out, List.all_cons, ← HO.out]; rfl
            case measure => simp [intOf]; omega
        · obtain rfl : j = ma := by omega
          have hdj : ¬ (j : Int) < (j : Int) := by omega
          have et : a.rs.take j = a.rs := by rw [HMA.out]; exact List.take_length
          have HYES : Hid (contB a b = true) := Lib.hid (by have h := HALL.out; rw [et] at h; exact h)
          have HINS : Hid (Ins T1 wr (.slice Ai j ci) (contN a b a.rs)) := Lib.hid (by
            have h := HROW.out
            rw [et] at h
            have hl : (contN a b a.rs).length = j := by unfold contN; rw [List.length_map]; exact HMA.out.symm
            rw [← hl] at h ⊢
            exact (Ins.of_own h).mono (fun _ _ _ => trivial))
          clear et hext
          go_wp2_with fail
          go_ret3
          exact ContPost.yes HXJ.out H0.out HYES.out HINS.out
end
end Go.Proofs.YtehklbdgkppmeaaDoor
