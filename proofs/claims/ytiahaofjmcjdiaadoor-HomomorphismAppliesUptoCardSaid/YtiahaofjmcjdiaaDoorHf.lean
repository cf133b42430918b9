/- Contract: homomorphism.Find. -/
import Derived.Test.YtiahaofjmcjdiaaDoorHe
import Derived.Laws.EntriesVeiled
namespace Go.Proofs.YtiahaofjmcjdiaaDoor
open Go.RowKit Go.Maps

set_option maxRecDepth 20000 in
set_option maxHeartbeats 800000 in
theorem find_bad {F G : Nat → Prop} {w : World} {svF svT : Value} {AF AT Ax : Option Addr} {ncF ccF ncT ccT nx cx : Nat} {xs ys : List At} (hF : Ats F w svF xs) (hT : Ats G w svT ys) (hbx : Bd xs) (hby : Bd ys) (hp : Hid (hpureB xs ncF = false ∨ hpureB ys ncT = false)) :
    Calls Tryd.prog 9 #[.agg #[svF, .slice AF ncF ccF], .agg #[svT, .slice AT ncT ccT], .slice Ax nx cx] w (fun e w' => Ext w w' ∧ e = .returned (.tuple #[.slice none 0 0, .bool false, .int .i64 1])) := by
  have HF := Lib.hid hF; have HT := Lib.hid hT; have HBX := Lib.hid hbx; have HBY := Lib.hid hby
  obtain ⟨A1, c1, n1, h1⟩ : ∃ A c n, svF = .slice A n c := by obtain ⟨A, c, vs, hv, _⟩ := hF; exact ⟨A, c, _, hv⟩
  obtain ⟨A2, c2, n2, h2⟩ : ∃ A c n, svT = .slice A n c := by obtain ⟨A, c, vs, hv, _⟩ := hT; exact ⟨A, c, _, hv⟩
  subst h1 h2
  clear hF hT hbx hby
  go_enter Tryd.func9, Tryd.ntmps9
  go_wp2_with fail
  have hx : Ext w ((w.alloc (.cells #[.slice A1 n1 c1, .slice AF ncF ccF] 25)).alloc (.cells #[.slice A2 n2 c2, .slice AT ncT ccT] 25)) := ((Ext.refl w).alloc _).alloc _
  have k2 : Bk ((w.alloc (.cells #[.slice A1 n1 c1, .slice AF ncF ccF] 25)).alloc (.cells #[.slice A2 n2 c2, .slice AT ncT ccT] 25)) (w.heap.size + 1) 25 [.slice A2 n2 c2, .slice AT ncT ccT] := by
    have h := Bk.new (w.alloc (.cells #[.slice A1 n1 c1, .slice AF ncF ccF] 25)) 25 [.slice A2 n2 c2, .slice AT ncT ccT]
    rw [show (w.alloc (.cells #[.slice A1 n1 c1, .slice AF ncF ccF] 25)).heap.size = w.heap.size + 1 by simp] at h
    exact h
  generalize ((w.alloc (.cells #[.slice A1 n1 c1, .slice AF ncF ccF] 25)).alloc (.cells #[.slice A2 n2 c2, .slice AT ncT ccT] 25)) = w1 at *
  refine (hpure_any (HF.out.ext hx) HBX.out.len HBX.out.all).mono ?_
  rintro e w2 ⟨y, rfl, he2, rfl⟩
  have HX2 := Lib.hid (hx.trans he2)
  have k2' := k2.ext he2
  have b0 := k2'.cell (i := 0) (by simp)
  have b1 := k2'.cell (i := 1) (by simp)
  simp only [List.getElem_cons_zero, List.getElem_cons_succ] at b0 b1
  clear hx he2 k2 k2'
  rcases h1 : hpureB xs ncF with _ | _
  · clear hp h1
    go_wp2_with fail
    go_ret3
    exact ⟨HX2.out, rfl⟩
  · have hp2 : hpureB ys ncT = false := by rcases hp.out with h | h; rw [h1] at h; cases h; exact h
    clear h1
    go_wp2_with fail
    refine (hpure_any (HT.out.ext HX2.out) HBY.out.len HBY.out.all).mono ?_
    rintro e w3 ⟨y, rfl, he3, rfl⟩
    rw [hp2]
    have HX3 := Lib.hid (HX2.out.trans he3)
    clear he3 hp2 b0 b1
    go_wp2_with fail
    go_ret3
    exact ⟨HX3.out, rfl⟩

/-- The search that Find does. -/
def findS (xs ys : List At) (fx : List ByteArray) : Option (ByteArray → Option Tm) :=
  if possB (fun _ => none) xs ys ⟨#[]⟩ = true then asg (fun im v => possB im xs ys v) (fun s => decide (s ∈ fx)) (distT (allT ys)) (varsT (allT xs)) (fun _ => none) else none
def zeroT : Tm := ⟨⟨#[]⟩, 0, 0, ⟨#[]⟩⟩
def pairC (v : ByteArray) (t : Tm) : List Value := [.string v, .string t.var, .int .i64 t.kind, .int .i64 t.int, .string t.str]
def pcells (l : List (ByteArray × Tm)) : List Value := l.flatMap (fun p => pairC p.1 p.2)
def pairsOf (vs : List ByteArray) (im : ByteArray → Option Tm) : List (ByteArray × Tm) := vs.map (fun v => (v, (im v).getD zeroT))
/-- What Find leaves. -/
def FindPost (xs ys : List At) (fx : List ByteArray) (w : World) (e : Ending) (w' : World) : Prop :=
  Ext w w' ∧ match findS xs ys fx with
    | none => e = .returned (.tuple #[.slice none 0 0, .bool false, .int .i64 0])
    | some im => ∃ v, e = .returned (.tuple #[v, .bool true, .int .i64 0]) ∧ w'.ownsRow w.heap.size 49 5 v (varsT (allT xs)).length (pcells (pairsOf (varsT (allT xs)) im))

/-- After the boxes and the four tests. -/
theorem varsT_mem_size {l : List Tm} {m : Nat} (h : ∀ t ∈ l, t.var.size ≤ m) : ∀ v ∈ varsT l, v.size ≤ m := by
  suffices hs : ∀ (l : List Tm) (vs : List ByteArray), (∀ t ∈ l, t.var.size ≤ m) → (∀ v ∈ vs, v.size ≤ m) → ∀ v ∈ l.foldl (fun vs t => addV vs t.var) vs, v.size ≤ m from hs l [] h (by simp)
  intro l
  induction l with
  | nil => intro vs _ h; exact h
  | cons t l ih =>
    intro vs h1 h2
    refine ih _ (fun u hu => h1 u (by simp [hu])) (fun v hv => ?_)
    simp only [addV] at hv
    split at hv
    · exact h2 v hv
    · rcases List.mem_append.1 hv with hv | hv
      · exact h2 v hv
      · simp at hv; rw [hv]; exact h1 t (by simp)
theorem varsT_nodup (l : List Tm) : (varsT l).Nodup := by
  suffices hs : ∀ (l : List Tm) (vs : List ByteArray), vs.Nodup → (l.foldl (fun vs t => addV vs t.var) vs).Nodup from hs l [] List.Pairwise.nil
  intro l
  induction l with
  | nil => intro vs h; exact h
  | cons t l ih =>
    intro vs h
    refine ih _ ?_
    simp only [addV]
    split
    · exact h
    · rename_i hn
      exact List.nodup_append.2 ⟨h, List.nodup_cons.2 ⟨by simp, List.Pairwise.nil⟩, fun a ha b hb e => by simp at hb; subst hb; subst e; exact hn (.inr ha)⟩
/-- A slice of names. -/
def Strs (F : Nat → Prop) (w : World) (v : Value) (l : List ByteArray) : Prop := ∃ A c, v = .slice A l.length c ∧ l.length ≤ c ∧ Cl F w A (l.map Sv)
theorem pinF_snoc (l : List ByteArray) (s : ByteArray) : updV (pinF (fun t => decide (t ∈ l))) s (some (.bool true)) = pinF (fun t => decide (t ∈ l ++ [s])) := by
  funext t
  unfold updV pinF
  by_cases e : t = s
  · rw [if_pos e, if_pos (by simp [e])]
  · rw [if_neg e]
    by_cases h : t ∈ l
    · rw [if_pos (by simp [h]), if_pos (by simp [h])]
    · rw [if_neg (by simp [h]), if_neg (by simp [h, e])]
theorem pcells_snoc (l : List (ByteArray × Tm)) (v : ByteArray) (t : Tm) : pcells (l ++ [(v, t)]) = pcells l ++ pairC v t := by simp [pcells]
theorem info_pair : (Tryd.prog.info? 49).map (fun i => (i.zero, i.size, i.bytes)) = some (some (.agg #[.string ⟨#[]⟩, .string ⟨#[]⟩, .int .i64 0, .int .i64 0, .string ⟨#[]⟩]), 5, 64) := by kernel_rfl

theorem own_base {w : World} {b b' size n : Nat} {e : TypeId} {v : Value} {xs : List Value} (h : w.ownsRow b e size v n xs) (hb : b' ≤ b) : w.ownsRow b' e size v n xs := by
  obtain ⟨h1, h2⟩ := h
  refine ⟨h1, ?_⟩
  rcases h2 with h2 | ⟨g, cap, cur, h3, h4, h5⟩
  · exact .inl h2
  · exact .inr ⟨g, cap, cur, h3, Nat.le_trans hb h4, h5⟩
theorem five_new (w : World) (o0 o2 o3 o4 : List Value) (t0 t2 t3 t4 : TypeId) (W : World) (hW : W = ((((w.alloc (.cells o0.toArray t0)).alloc (.map #[] 0)).alloc (.cells o2.toArray t2)).alloc (.cells o3.toArray t3)).alloc (.cells o4.toArray t4)) :
    Bk W w.heap.size t0 o0 ∧ MapV W (w.heap.size + 1) 0 (fun _ => none) ∧ Bk W (w.heap.size + 1 + 1) t2 o2 ∧ Bk W (w.heap.size + 1 + 1 + 1) t3 o3 ∧ Bk W (w.heap.size + 1 + 1 + 1 + 1) t4 o4 ∧ Ext w W := by
  subst hW
  have k0 := Bk.new w t0 o0
  have k1 := MapV.made (w.alloc (.cells o0.toArray t0))
  have k2 := Bk.new ((w.alloc (.cells o0.toArray t0)).alloc (.map #[] 0)) t2 o2
  have k3 := Bk.new (((w.alloc (.cells o0.toArray t0)).alloc (.map #[] 0)).alloc (.cells o2.toArray t2)) t3 o3
  have k4 := Bk.new ((((w.alloc (.cells o0.toArray t0)).alloc (.map #[] 0)).alloc (.cells o2.toArray t2)).alloc (.cells o3.toArray t3)) t4 o4
  rw [show (w.alloc (.cells o0.toArray t0)).heap.size = w.heap.size + 1 by simp] at k1
  rw [show ((w.alloc (.cells o0.toArray t0)).alloc (.map #[] 0)).heap.size = w.heap.size + 1 + 1 by simp] at k2
  rw [show (((w.alloc (.cells o0.toArray t0)).alloc (.map #[] 0)).alloc (.cells o2.toArray t2)).heap.size = w.heap.size + 1 + 1 + 1 by simp] at k3
  rw [show ((((w.alloc (.cells o0.toArray t0)).alloc (.map #[] 0)).alloc (.cells o2.toArray t2)).alloc (.cells o3.toArray t3)).heap.size = w.heap.size + 1 + 1 + 1 + 1 by simp] at k4
  have E : ∀ (X : World) (o : Obj), Ext X (X.alloc o) := fun X o => (Ext.refl X).alloc o
  exact ⟨(((k0.alloc _).alloc _).alloc _).alloc _, ((k1.ext (E _ _)).ext (E _ _)).ext (E _ _), (k2.alloc _).alloc _, k3.alloc _, k4, ((((E w _).trans (E _ _)).trans (E _ _)).trans (E _ _)).trans (E _ _)⟩
theorem stores_le (c : Nat) : ∀ k, stores c k + 1 ≤ (c + 1) ^ k
  | 0 => by simp [stores]
  | k + 1 => by
    have h := stores_le c k
    have h2 := Nat.mul_le_mul_left c h
    rw [Nat.pow_succ, Nat.mul_comm ((c + 1) ^ k) (c + 1), Nat.add_mul]
    simp only [stores, Nat.one_mul]
    rw [Nat.add_comm 1 (stores c k)]
    omega
theorem stores_ok {c k : Nat} (hc : c ≤ 48) (hk : k ≤ 8) : 0 + stores c k ≤ 1000000000000000000 := by
  have h1 := stores_le c k
  have h2 : (c + 1) ^ k ≤ 49 ^ 8 := Nat.le_trans (Nat.pow_le_pow_left (show c + 1 ≤ 49 by omega) k) (Nat.pow_le_pow_right (by omega) hk)
  have h3 : 49 ^ 8 ≤ 1000000000000000000 := by decide
  omega
theorem Cl.own {w : World} {base size n m : Nat} {e : TypeId} {A : Option Addr} {c : Nat} {xs : List Value} (h : w.ownsRow base e size (.slice A n c) m xs) (G : Nat → Prop) (hG : ∀ k, k < w.heap.size → G k) : n ≤ c ∧ n = m ∧ Cl G w A xs := by
  obtain ⟨A', c', h1, h2, h3⟩ := Cl.of_own h
  injection h1 with h4 h5 h6
  subst h4 h5 h6
  exact ⟨h2, rfl, h3.mono (fun k hk _ => hG k hk)⟩

set_option maxRecDepth 100000 in
set_option maxHeartbeats 3200000 in
theorem find_good {F G H : Nat → Prop} {w : World} {svF svT vx : Value} {AF AT : Option Addr} {ccF ccT : Nat} {xs ys : List At} {fx : List ByteArray} (hF : Ats F w svF xs) (hT : Ats G w svT ys) (hX : Strs H w vx fx) (hbx : Bd xs) (hby : Bd ys) (hpx : Hid (hpureB xs 0 = true)) (hpy : Hid (hpureB ys 0 = true))
    (hlx : xs.length ≤ 8) (hly : ys.length ≤ 8) (htx : Hid (∀ a ∈ xs, a.terms.length ≤ 6)) (hty : Hid (∀ a ∈ ys, a.terms.length ≤ 6)) (hvx : (varsT (allT xs)).length ≤ 8) (hcy : (distT (allT ys)).length ≤ 48) (hfx : fx.length ≤ 1000) (hfs : Hid (∀ v ∈ fx, v.size ≤ maxLen)) (hvs : Hid (∀ v ∈ varsT (allT xs), v.size ≤ maxLen)) :
    Calls Tryd.prog 9 #[.agg #[svF, .slice AF 0 ccF], .agg #[svT, .slice AT 0 ccT], vx] w (FindPost xs ys fx w) := by
  have HF := Lib.hid hF; have HT := Lib.hid hT; have HBX := Lib.hid hbx; have HBY := Lib.hid hby
  obtain ⟨A1, c1, n1, h1⟩ : ∃ A c n, svF = .slice A n c := by obtain ⟨A, c, vs, hv, _⟩ := hF; exact ⟨A, c, _, hv⟩
  obtain ⟨A2, c2, n2, h2⟩ : ∃ A c n, svT = .slice A n c := by obtain ⟨A, c, vs, hv, _⟩ := hT; exact ⟨A, c, _, hv⟩
  obtain ⟨Ax, cx, rfl, hcx, hclx⟩ := hX
  subst h1 h2
  obtain ⟨nf, hnf⟩ : ∃ nf, nf = fx.length := ⟨_, rfl⟩
  rw [← hnf] at hcx hfx ⊢
  have HNF := Lib.hid hnf; have HCLX := Lib.hid hclx; have HLX := Lib.hid (And.intro hlx hly)
  clear hF hT hbx hby hnf hclx hlx hly
  have hmk := @run_makeMap Tryd.prog
  go_enter Tryd.func9, Tryd.ntmps9
  go_wp2_with fail
  have hx : Ext w ((w.alloc (.cells #[.slice A1 n1 c1, .slice AF 0 ccF] 25)).alloc (.cells #[.slice A2 n2 c2, .slice AT 0 ccT] 25)) := ((Ext.refl w).alloc _).alloc _
  have kf : Bk ((w.alloc (.cells #[.slice A1 n1 c1, .slice AF 0 ccF] 25)).alloc (.cells #[.slice A2 n2 c2, .slice AT 0 ccT] 25)) w.heap.size 25 [.slice A1 n1 c1, .slice AF 0 ccF] := (Bk.new w _ [.slice A1 n1 c1, .slice AF 0 ccF]).alloc _
  have kt : Bk ((w.alloc (.cells #[.slice A1 n1 c1, .slice AF 0 ccF] 25)).alloc (.cells #[.slice A2 n2 c2, .slice AT 0 ccT] 25)) (w.heap.size + 1) 25 [.slice A2 n2 c2, .slice AT 0 ccT] := by
    have h := Bk.new (w.alloc (.cells #[.slice A1 n1 c1, .slice AF 0 ccF] 25)) 25 [.slice A2 n2 c2, .slice AT 0 ccT]
    rw [show (w.alloc (.cells #[.slice A1 n1 c1, .slice AF 0 ccF] 25)).heap.size = w.heap.size + 1 by simp] at h
    exact h
  generalize ((w.alloc (.cells #[.slice A1 n1 c1, .slice AF 0 ccF] 25)).alloc (.cells #[.slice A2 n2 c2, .slice AT 0 ccT] 25)) = w1 at *
  refine (hpure_any (HF.out.ext hx) HBX.out.len HBX.out.all).mono ?_
  rintro e w2 ⟨y, rfl, he2, rfl⟩
  rw [hpx.out]
  replace hx := hx.trans he2
  replace kf := kf.ext he2
  replace kt := kt.ext he2
  have b0 := kt.cell (i := 0) (by simp)
  have b1 := kt.cell (i := 1) (by simp)
  simp only [List.getElem_cons_zero, List.getElem_cons_succ] at b0 b1
  clear he2
  go_wp2_with fail
  refine (hpure_any (HT.out.ext hx) HBY.out.len HBY.out.all).mono ?_
  rintro e w3 ⟨y, rfl, he3, rfl⟩
  rw [hpy.out]
  replace hx := hx.trans he3
  replace kf := kf.ext he3
  replace kt := kt.ext he3
  have a0 := kf.cell (i := 0) (by simp)
  have a1 := kf.cell (i := 1) (by simp)
  simp only [List.getElem_cons_zero, List.getElem_cons_succ] at a0 a1
  clear he3 b0 b1
  go_wp2_with fail
  refine (large_false (HF.out.ext hx) HLX.out.1 htx.out).mono ?_
  rintro e w4 ⟨y, rfl, he4, rfl⟩
  replace hx := hx.trans he4
  replace kf := kf.ext he4
  replace kt := kt.ext he4
  have b0 := kt.cell (i := 0) (by simp)
  have b1 := kt.cell (i := 1) (by simp)
  simp only [List.getElem_cons_zero, List.getElem_cons_succ] at b0 b1
  clear he4 a0 a1
  go_wp2_with fail
  refine (large_false (HT.out.ext hx) HLX.out.2 hty.out).mono ?_
  rintro e w5 ⟨y, rfl, he5, rfl⟩
  replace hx := hx.trans he5
  replace kf := kf.ext he5
  replace kt := kt.ext he5
  have a0 := kf.cell (i := 0) (by simp)
  have a1 := kf.cell (i := 1) (by simp)
  simp only [List.getElem_cons_zero, List.getElem_cons_succ] at a0 a1
  clear he5 b0 b1
  go_wp2_with fail
  have hw5 := hx.size
  refine (vars_any (HF.out.ext hx) HBX.out).mono ?_
  rintro e w6 ⟨v6, rfl, he6, hr6⟩
  obtain ⟨A6, c6, rfl⟩ := own_slice hr6
  replace hx := hx.trans he6
  replace kf := kf.ext he6
  replace kt := kt.ext he6
  obtain ⟨vs, hvs0⟩ : ∃ vs, vs = varsT (allT xs) := ⟨_, rfl⟩
  rw [← hvs0] at hr6 hvx hvs ⊢
  obtain ⟨nv, hnv⟩ : ∃ nv, nv = vs.length := ⟨_, rfl⟩
  rw [← hnv] at hr6 hvx ⊢
  have h8 : decide ((8 : Int) < (nv : Int)) = false := decide_eq_false (by omega)
  have HVS0 := Lib.hid hvs0; have HNV := Lib.hid hnv
  have HX := Lib.hid hx; have HKF := Lib.hid kf; have HKT := Lib.hid kt; have HR6 := Lib.hid hr6
  have hs6 : w.heap.size + 1 < w6.heap.size := kt.lt
  clear he6 a0 a1 hvs0 hnv hx kf kt hr6
  go_wp2_with fail
  have hx7 : Ext w6 (((w6.alloc (.cells #[.slice A6 nv c6] 26)).alloc (.map #[] 0)).alloc (.cells #[.map (some (w6.heap.size + 1))] 66)) := (((Ext.refl w6).alloc _).alloc _).alloc _
  have k7v : Bk (((w6.alloc (.cells #[.slice A6 nv c6] 26)).alloc (.map #[] 0)).alloc (.cells #[.map (some (w6.heap.size + 1))] 66)) w6.heap.size 26 [.slice A6 nv c6] := ((Bk.new w6 _ [.slice A6 nv c6]).alloc _).alloc _
  have hm7 : MapV (((w6.alloc (.cells #[.slice A6 nv c6] 26)).alloc (.map #[] 0)).alloc (.cells #[.map (some (w6.heap.size + 1))] 66)) (w6.heap.size + 1) 0 (fun _ => none) := by
    have h := MapV.made (w6.alloc (.cells #[.slice A6 nv c6] 26))
    rw [show (w6.alloc (.cells #[.slice A6 nv c6] 26)).heap.size = w6.heap.size + 1 by simp] at h
    exact h.ext ((Ext.refl _).alloc _)
  have k7p : Bk (((w6.alloc (.cells #[.slice A6 nv c6] 26)).alloc (.map #[] 0)).alloc (.cells #[.map (some (w6.heap.size + 1))] 66)) (w6.heap.size + 1 + 1) 66 [.map (some (w6.heap.size + 1))] := by
    have h := Bk.new ((w6.alloc (.cells #[.slice A6 nv c6] 26)).alloc (.map #[] 0)) 66 [.map (some (w6.heap.size + 1))]
    rw [show ((w6.alloc (.cells #[.slice A6 nv c6] 26)).alloc (.map #[] 0)).heap.size = w6.heap.size + 1 + 1 by simp] at h
    exact h
  generalize (((w6.alloc (.cells #[.slice A6 nv c6] 26)).alloc (.map #[] 0)).alloc (.cells #[.map (some (w6.heap.size + 1))] 66)) = w7 at *
  obtain ⟨h6, hh6⟩ : ∃ h6, h6 = w6.heap.size := ⟨_, rfl⟩
  rw [← hh6] at k7v hm7 k7p hs6 ⊢
  have HX7 := Lib.hid (HX.out.trans hx7)
  have HKF7 := Lib.hid (HKF.out.ext hx7); have HKT7 := Lib.hid (HKT.out.ext hx7); have HK7V := Lib.hid k7v; have HK7P := Lib.hid k7p; have HM7 := Lib.hid hm7
  have HR7 := Lib.hid (own_fr HR6.out (hx7.fr (fun _ => False)) (fun _ _ h => h))
  have HB6 : Hid (∀ kk, (Value.slice A6 nv c6).ownBlock = some kk → kk < h6 ∧ w.heap.size ≤ kk) := Lib.hid (fun kk hk => by have := HR6.out.lt kk hk; have := HX.out.size; rw [hh6]; omega)
  clear HX HKF HKT HR6 hx7 k7v k7p hm7 hh6
  have hpin0 : pinF (fun t => decide (t ∈ fx.take 0)) = fun _ => none := by funext t; simp [pinF]
  have HPIN0 := Lib.hid hpin0
  clear hpin0 hmk
  go_loopw [42] (fun q wr => ∃ i : Nat, i ≤ nf ∧ q = .int .i64 (i : Int) ∧ MapV wr (h6 + 1) i (pinF (fun t => decide (t ∈ fx.take i))) ∧ Fr (fun b => b = h6 + 1) w7 wr) (fun q _ => nf - (intOf q).toNat)
  case atStart => exact ⟨0, Nat.zero_le _, rfl, by rw [HPIN0.out]; exact HM7.out, Fr.refl _ _⟩
  case round =>
    obtain ⟨i, hi, rfl, hmi, hfi⟩ := hrel
    by_cases hlt : i < nf
    · have i1 : (0 : Int) ≤ (i : Int) := by omega
      have i2 : (i : Int) < (nf : Int) := by omega
      have hix : i < fx.length := by have := HNF.out; omega
      obtain ⟨ad, rfl, hHa, d0⟩ := HCLX.out.at' (j := i) (x := .string fx[i]) (by simp [hix])
      replace d0 := hfi.cell (HX7.out.cell d0) (by rw [block_add]; have := cell_lt d0; rw [block_add] at this; omega)
      have p0 := (HK7P.out.fr hfi (by omega)).cell (i := 0) (by simp)
      simp only [List.getElem_cons_zero] at p0
      have hsv := hfs.out _ (List.getElem_mem hix)
      have hpadd := pinF_snoc (fx.take i) fx[i]
      rw [← List.take_succ_eq_append_getElem hix] at hpadd
      obtain ⟨u, hu⟩ : ∃ u, u = fx[i] := ⟨_, rfl⟩
      rw [← hu] at d0 hsv hpadd
      have HPA := Lib.hid hpadd; have HMI := Lib.hid hmi; have HFI := Lib.hid hfi
      clear hpadd hmi hfi hu hHa
      go_wp2_with (first
        | (at_mapUpdate; refine wpList_update_V rfl _ _ _ 66 4 rfl Tryd.underlying66 (h6 + 1) i (pinF (fun t => decide (t ∈ fx.take i))) rfl HMI.out (by simp only [maxLen]; omega) u (.bool true) rfl hsv rfl ?_; intro wq hmq hgq; have HMQ := Lib.hid hmq; have HGQ := Lib.hid (HFI.out.grown hgq (fun b e => .inl (by injection e with e; exact e.symm))); clear hmq hgq))
      go_roundw
      case rel => exact ⟨i + 1, by omega, by go_num, by rw [← HPA.out]; exact HMQ.out, HGQ.out⟩
      case measure => simp [intOf]; omega
    · obtain rfl : i = nf := by omega
      have hdn : ¬ (i : Int) < (i : Int) := by omega
      have et : fx.take i = fx := by rw [HNF.out]; exact List.take_length
      rw [et] at hmi
      obtain ⟨w8, rfl⟩ : ∃ w8 : World, w8 = wr := ⟨_, rfl⟩
      have hx8 : Ext w w8 := hfi.new HX7.out (fun k hk => by omega)
      have kf8 := HKF7.out.fr hfi (by omega)
      have kt8 := HKT7.out.fr hfi (by omega)
      have kv8 := HK7V.out.fr hfi (by omega)
      have kp8 := HK7P.out.fr hfi (by omega)
      have r8 := own_fr HR7.out hfi (fun kk hk e => by have := (HB6.out kk hk).1; omega)
      have b0 := kt8.cell (i := 0) (by simp)
      have b1 := kt8.cell (i := 1) (by simp)
      simp only [List.getElem_cons_zero, List.getElem_cons_succ] at b0 b1
      have HX8 := Lib.hid hx8; have HKF8 := Lib.hid kf8; have HKT8 := Lib.hid kt8; have HKV8 := Lib.hid kv8; have HKP8 := Lib.hid kp8; have HR8 := Lib.hid r8; have HM8 := Lib.hid hmi
      have hmk := @run_makeMap Tryd.prog
      clear hfi hmi et hx8 kf8 kt8 kv8 kp8 r8 HX7 HKF7 HKT7 HK7V HK7P HM7 HR7 HPIN0
      go_wp2_with fail
      refine (terms_any (HT.out.ext HX8.out) HBY.out).mono ?_
      rintro e w9 ⟨v9, rfl, he9, hr9⟩
      obtain ⟨A9, c9, rfl⟩ := own_slice hr9
      obtain ⟨cs, hcs0⟩ : ∃ cs, cs = distT (allT ys) := ⟨_, rfl⟩
      rw [← hcs0] at hr9 hcy ⊢
      obtain ⟨ncs, hncs⟩ : ∃ ncs, ncs = cs.length := ⟨_, rfl⟩
      rw [← hncs] at hr9 hcy ⊢
      have HCS0 := Lib.hid hcs0; have HNCS := Lib.hid hncs
      have HX9 := Lib.hid (HX8.out.trans he9); have HKF9 := Lib.hid (HKF8.out.ext he9); have HKT9 := Lib.hid (HKT8.out.ext he9); have HKV9 := Lib.hid (HKV8.out.ext he9); have HKP9 := Lib.hid (HKP8.out.ext he9); have HM9 := Lib.hid (HM8.out.ext he9)
      have HR9v := Lib.hid (own_fr HR8.out (he9.fr (fun _ => False)) (fun _ _ h => h)); have HR9 := Lib.hid hr9
      clear hcs0 hncs he9 hr9 b0 b1 HX8 HKF8 HKT8 HKV8 HKP8 HM8 HR8
      go_wp2_with fail
      have h5 := five_new w9 [.slice A9 ncs c9] [.map (some (w9.heap.size + 1))] [.func (.func 26) #[] #[.pointer (some ⟨w.heap.size, 0, none⟩), .pointer (some ⟨w.heap.size + 1, 0, none⟩), .pointer (some ⟨w9.heap.size + 1 + 1, 0, none⟩)]] [.func (.func 31) #[] #[.pointer (some ⟨h6, 0, none⟩), .pointer (some ⟨w9.heap.size, 0, none⟩), .pointer (some ⟨h6 + 1 + 1, 0, none⟩), .pointer (some ⟨w9.heap.size + 1 + 1, 0, none⟩), .pointer (some ⟨w9.heap.size + 1 + 1 + 1, 0, none⟩), .pointer (some ⟨w9.heap.size + 1 + 1 + 1 + 1, 0, none⟩)]] 33 68 73 74 _ rfl
      change Bk (((((w9.alloc (.cells #[.slice A9 ncs c9] 33)).alloc (.map #[] 0)).alloc (.cells #[.map (some (w9.heap.size + 1))] 68)).alloc (.cells #[.func (.func 26) #[] #[.pointer (some ⟨w.heap.size, 0, none⟩), .pointer (some ⟨w.heap.size + 1, 0, none⟩), .pointer (some ⟨w9.heap.size + 1 + 1, 0, none⟩)]] 73)).alloc (.cells #[.func (.func 31) #[] #[.pointer (some ⟨h6, 0, none⟩), .pointer (some ⟨w9.heap.size, 0, none⟩), .pointer (some ⟨h6 + 1 + 1, 0, none⟩), .pointer (some ⟨w9.heap.size + 1 + 1, 0, none⟩), .pointer (some ⟨w9.heap.size + 1 + 1 + 1, 0, none⟩), .pointer (some ⟨w9.heap.size + 1 + 1 + 1 + 1, 0, none⟩)]] 74)) _ _ _ ∧ MapV (((((w9.alloc (.cells #[.slice A9 ncs c9] 33)).alloc (.map #[] 0)).alloc (.cells #[.map (some (w9.heap.size + 1))] 68)).alloc (.cells #[.func (.func 26) #[] #[.pointer (some ⟨w.heap.size, 0, none⟩), .pointer (some ⟨w.heap.size + 1, 0, none⟩), .pointer (some ⟨w9.heap.size + 1 + 1, 0, none⟩)]] 73)).alloc (.cells #[.func (.func 31) #[] #[.pointer (some ⟨h6, 0, none⟩), .pointer (some ⟨w9.heap.size, 0, none⟩), .pointer (some ⟨h6 + 1 + 1, 0, none⟩), .pointer (some ⟨w9.heap.size + 1 + 1, 0, none⟩), .pointer (some ⟨w9.heap.size + 1 + 1 + 1, 0, none⟩), .pointer (some ⟨w9.heap.size + 1 + 1 + 1 + 1, 0, none⟩)]] 74)) _ _ _ ∧ Bk (((((w9.alloc (.cells #[.slice A9 ncs c9] 33)).alloc (.map #[] 0)).alloc (.cells #[.map (some (w9.heap.size + 1))] 68)).alloc (.cells #[.func (.func 26) #[] #[.pointer (some ⟨w.heap.size, 0, none⟩), .pointer (some ⟨w.heap.size + 1, 0, none⟩), .pointer (some ⟨w9.heap.size + 1 + 1, 0, none⟩)]] 73)).alloc (.cells #[.func (.func 31) #[] #[.pointer (some ⟨h6, 0, none⟩), .pointer (some ⟨w9.heap.size, 0, none⟩), .pointer (some ⟨h6 + 1 + 1, 0, none⟩), .pointer (some ⟨w9.heap.size + 1 + 1, 0, none⟩), .pointer (some ⟨w9.heap.size + 1 + 1 + 1, 0, none⟩), .pointer (some ⟨w9.heap.size + 1 + 1 + 1 + 1, 0, none⟩)]] 74)) _ _ _ ∧ _ at h5
      generalize (((((w9.alloc (.cells #[.slice A9 ncs c9] 33)).alloc (.map #[] 0)).alloc (.cells #[.map (some (w9.heap.size + 1))] 68)).alloc (.cells #[.func (.func 26) #[] #[.pointer (some ⟨w.heap.size, 0, none⟩), .pointer (some ⟨w.heap.size + 1, 0, none⟩), .pointer (some ⟨w9.heap.size + 1 + 1, 0, none⟩)]] 73)).alloc (.cells #[.func (.func 31) #[] #[.pointer (some ⟨h6, 0, none⟩), .pointer (some ⟨w9.heap.size, 0, none⟩), .pointer (some ⟨h6 + 1 + 1, 0, none⟩), .pointer (some ⟨w9.heap.size + 1 + 1, 0, none⟩), .pointer (some ⟨w9.heap.size + 1 + 1 + 1, 0, none⟩), .pointer (some ⟨w9.heap.size + 1 + 1 + 1 + 1, 0, none⟩)]] 74)) = W at *
      obtain ⟨q0, qm, q2, q3, q4, qE⟩ := h5
      have hxW := HX9.out.trans qE
      have hw9 : w.heap.size + 1 < w9.heap.size := HKT9.out.lt
      have hh9 : h6 + 1 + 1 < w9.heap.size := HKP9.out.lt
      have hfe : FE W ⟨w.heap.size, w.heap.size + 1, w9.heap.size + 1 + 1, h6, w9.heap.size, h6 + 1 + 1, w9.heap.size + 1 + 1 + 1, w9.heap.size + 1 + 1 + 1 + 1, w9.heap.size + 1, h6 + 1⟩ xs ys vs cs (fun s => decide (s ∈ fx)) := by
        refine ⟨⟨_, _, HKF9.out.ext qE, ?_⟩, ⟨_, _, HKT9.out.ext qE, ?_⟩, q2, ?_, ?_, ⟨HKP9.out.ext qE, _, HM9.out.ext qE⟩, q3, q4, by simp; omega⟩
        · exact (HF.out.mono (fun k hk _ => by simp; omega)).ext hxW
        · exact (HT.out.mono (fun k hk _ => by simp; omega)).ext hxW
        · obtain ⟨g1, g2, g3⟩ := Cl.own HR9v.out (fun j => j ≠ w9.heap.size + 1) (fun k hk => by omega)
          exact ⟨A6, c6, by rw [← HNV.out]; exact HKV9.out.ext qE, by rw [← HNV.out]; exact g1, g3.ext qE⟩
        · obtain ⟨g1, g2, g3⟩ := Cl.own HR9.out (fun j => j ≠ w9.heap.size + 1) (fun k hk => by omega)
          exact ⟨A9, c9, by rw [← HNCS.out]; exact q0, by rw [← HNCS.out]; exact g1, g3.ext qE⟩
      have hmW : MapV W (w9.heap.size + 1) 0 (imF (fun _ => none)) := by
        have e : imF (fun _ => none) = fun _ => none := by funext t; rfl
        rw [e]; exact qm
      have HFE := Lib.hid hfe; have HMW := Lib.hid hmW; have HXW := Lib.hid hxW
      obtain ⟨svF, scF, kF, hFF⟩ := hfe.fr'
      obtain ⟨svT, scT, kT, hTT⟩ := hfe.to'
      have z4 := q4.cell (i := 0) (by simp)
      simp only [List.getElem_cons_zero] at z4
      refine (find1 (v := ⟨#[]⟩) hFF hTT HBX.out HBY.out kF kT hfe.img hmW).mono ?_
      rintro e W2 ⟨y, rfl, he2, rfl⟩
      have hmW2 := hmW.ext he2
      have hfe2 := hfe.fr hmW (he2.fr _)
      have hxW2 := hxW.trans he2
      replace z4 := he2.cell z4
      have HFE2 := Lib.hid hfe2; have HMW2 := Lib.hid hmW2; have HXW2 := Lib.hid hxW2
      clear q0 qm q2 q3 q4 qE hxW hfe hmW kF hFF kT hTT he2 hmW2 hfe2 hxW2 hmk HFE HMW HXW HX9 HKF9 HKT9 HKV9 HKP9 HM9
      rcases hpo : possB (fun _ => none) xs ys ⟨#[]⟩ with _ | _
      · have HFS : Hid (findS xs ys fx = none) := Lib.hid (by rw [findS, hpo]; simp)
        clear hpo
        go_wp2_with fail
        go_ret3
        refine ⟨HXW2.out, ?_⟩
        rw [HFS.out]
        rfl
      · have HFS : Hid (findS xs ys fx = asg (fun im v => possB im xs ys v) (fun s => decide (s ∈ fx)) cs vs (fun _ => none)) := Lib.hid (by rw [findS, hpo, HCS0.out, HVS0.out]; simp)
        clear hpo
        have HCALL := Lib.hid (assign_any (pin := fun s => decide (s ∈ fx)) HBX.out HBY.out (by rw [← HNCS.out]; omega) (by rw [← HNV.out]; omega) hvs.out vs 0 0 (fun _ => none) W2 rfl (Nat.zero_le _) HFE2.out HMW2.out (fun _ _ => rfl) (by rw [HVS0.out]; exact varsT_nodup _) (stores_ok (by rw [← HNCS.out]; exact hcy) (by rw [← HNV.out]; exact hvx)))
        go_wp2_with fail
        refine HCALL.out.mono ?_
        intro e W3 hpost
        obtain ⟨hf3, hpost⟩ := hpost
        have hxW3 : Ext w W3 := hf3.new HXW2.out (fun k hk => by simp at hk; omega)
        have HFE3 := Lib.hid (HFE2.out.fr HMW2.out hf3); have HXW3 := Lib.hid hxW3
        clear hf3 hxW3 z4
        rcases has : asg (fun im v => possB im xs ys v) (fun s => decide (s ∈ fx)) cs vs (fun _ => none) with _ | im'
        · rw [has] at hpost HFS
          obtain ⟨rfl, -⟩ := hpost
          clear has
          go_wp2_with fail
          go_ret3
          refine ⟨HXW3.out, ?_⟩
          rw [HFS.out]
          rfl
        · rw [has] at hpost HFS
          obtain ⟨rfl, n3, hm3⟩ := hpost
          have HM3 := Lib.hid hm3
          clear has hm3
          obtain ⟨A7, c7, kv3, hcv3, hclv3⟩ := HFE3.out.vars
          have y0 := kv3.cell (i := 0) (by simp)
          have y1 := HFE3.out.img.cell (i := 0) (by simp)
          simp only [List.getElem_cons_zero] at y0 y1
          rw [← HNV.out] at y0 hcv3
          have HCLV := Lib.hid hclv3; have HIMG := Lib.hid y1
          clear kv3 hclv3 y1
          go_wp2_with fail
          clear y0
          obtain ⟨i0, hi0, hz0, hz1, hz2⟩ := info_parts info_pair
          have HI0 := Lib.hid (And.intro hi0 (And.intro hz0 (And.intro hz1 hz2))); clear hi0 hz0 hz1 hz2
          go_loopw [17, 64] (fun t q wr => ∃ j : Nat, j ≤ nv ∧ q = .int .i64 (j : Int) ∧ wr.ownsRow W3.heap.size 49 5 t j (pcells (pairsOf (vs.take j) im')) ∧ Ext W3 wr) (fun _ q _ => nv - (intOf q).toNat)
          case atStart => exact ⟨0, Nat.zero_le _, rfl, World.ownsRow_nil _ _ _ _, Ext.refl _⟩
          case round =>
            obtain ⟨j, hj, rfl, hrow, hext⟩ := hrel
            obtain ⟨At, ct, rfl⟩ := own_slice hrow
            have HROW := Lib.hid hrow; have HEXT := Lib.hid hext
            by_cases hlt2 : j < nv
            · have j1 : (0 : Int) ≤ (j : Int) := by omega
              have j2 : (j : Int) < (nv : Int) := by omega
              have hjv : j < vs.length := by have := HNV.out; omega
              obtain ⟨ad7, rfl, -, d0⟩ := HCLV.out.at' (j := j) (x := .string vs[j]) (by simp [hjv])
              replace d0 := hext.cell d0
              have y1 := hext.cell HIMG.out
              have hsv := hvs.out _ (List.getElem_mem hjv)
              have epo : pairsOf (vs.take (j + 1)) im' = pairsOf (vs.take j) im' ++ [(vs[j], (im' vs[j]).getD zeroT)] := by
                unfold pairsOf; rw [List.take_succ_eq_append_getElem hjv, List.map_append]; rfl
              obtain ⟨u, hu⟩ : ∃ u, u = vs[j] := ⟨_, rfl⟩
              rw [← hu] at d0 hsv epo
              obtain ⟨t, ht⟩ : ∃ t, t = (im' u).getD zeroT := ⟨_, rfl⟩
              rw [← ht] at epo
              have hlook : (imF im' u).getD (.agg #[.string ⟨#[]⟩, .int .i64 0, .int .i64 0, .string ⟨#[]⟩]) = .agg #[.string t.var, .int .i64 t.kind, .int .i64 t.int, .string t.str] := by
                rw [ht, imF]
                rcases im' u with _ | z
                · rfl
                · rfl
              have HEPO := Lib.hid epo; have HLOOK := Lib.hid hlook
              have HMR := Lib.hid (HM3.out.ext hext)
              have hszr : W3.heap.size ≤ wr.heap.size := hext.size
              clear epo hlook hu ht hrow hext
              go_wp2_with (first
                | (at_lookup; refine wpList_lookup_V rfl _ _ 68 47 rfl Tryd.underlying68 (.agg #[.string ⟨#[]⟩, .int .i64 0, .int .i64 0, .string ⟨#[]⟩]) (zero_term _) (w9.heap.size + 1) n3 (imF im') rfl HMR.out u rfl hsv (.agg #[.string t.var, .int .i64 t.kind, .int .i64 t.int, .string t.str]) HLOOK.out ?_)
                | (at_builtin; refine wpList_append_at rfl _ _ 29 rfl W3.heap.size 49 i0 (.agg #[.string ⟨#[]⟩, .string ⟨#[]⟩, .int .i64 0, .int .i64 0, .string ⟨#[]⟩]) 5 64 Tryd.underlying29 HI0.out.1 HI0.out.2.1 HI0.out.2.2.1 HI0.out.2.2.2 rfl (by omega) _ j (pcells (pairsOf (vs.take j) im')) rfl (HROW.out.alloc _) ⟨wr.heap.size, 0, none⟩ 1 1 (pairC u t) rfl rfl (laid_news wr _ (pairC u t)) (by simp [pairC, Value.oneCell']) (by simp only [maxLen]; omega) (by omega) (by simp; omega) ?_; intro v' w' hr' hgr hland; have HN := Lib.hid (And.intro hr' (((HEXT.out.alloc _).grown hgr (fun kk hk => (HROW.out.lt kk hk).1)))); clear hr' hgr hland))
              go_roundw
              case rel => exact ⟨j + 1, by omega, by go_num, by rw [HEPO.out, pcells_snoc]; exact HN.out.1, HN.out.2⟩
              case measure => simp [intOf]; omega
            · obtain rfl : j = nv := by omega
              have hdn2 : ¬ (j : Int) < (j : Int) := by omega
              clear hrow hext
              go_wp2_with fail
              go_ret3
              refine ⟨HXW3.out.trans HEXT.out, ?_⟩
              rw [HFS.out]
              have et2 : vs.take j = vs := by rw [HNV.out]; exact List.take_length
              have h := HROW.out
              rw [et2] at h
              refine ⟨.slice At j ct, rfl, ?_⟩
              rw [← HVS0.out, ← HNV.out]
              exact own_base h HXW3.out.size
end Go.Proofs.YtiahaofjmcjdiaaDoor
