/- Plain law: the order with all directions reversed. -/
import Derived.Test.YtmmmdinncmbjkaaOl
namespace Go.Proofs.Ytmmmdinncmbjkaa
open Go.RowKit Go.Maps

def turnK (k : Ky) : Ky := ⟨k.var, !k.desc⟩
def turnQ (q : Qy) : Qy := ⟨q.hd, q.ag, q.av, q.rs, (orderL q.hd q.od).map turnK⟩
theorem turn_var (l : List Ky) : (l.map turnK).map Ky.var = l.map Ky.var := by
  rw [List.map_map]; rfl
theorem orderE_iff {hd : List ByteArray} {od : List Ky} : orderE hd od = 0 ↔ (∀ k ∈ od, k.var ∈ hd) ∧ (od.map Ky.var).Nodup := by
  have key : ∀ i (hi : i < od.length), (if (od.map Ky.var).getD i ⟨#[]⟩ ∈ hd then (if (od.map Ky.var).getD i ⟨#[]⟩ ∈ (od.map Ky.var).take i then (8 : Int) else 0) else 7) = 0 ↔ od[i].var ∈ hd ∧ od[i].var ∉ (od.map Ky.var).take i := fun i hi => by
    have e : (od.map Ky.var).getD i ⟨#[]⟩ = od[i].var := by rw [List.getD_eq_getElem?_getD, List.getElem?_eq_getElem (by simpa using hi)]; simp
    rw [e]
    by_cases h1 : od[i].var ∈ hd
    · rw [if_pos h1]
      by_cases h2 : od[i].var ∈ (od.map Ky.var).take i
      · rw [if_pos h2]; exact ⟨fun h => (by cases h), fun h => absurd h2 h.2⟩
      · rw [if_neg h2]; exact ⟨fun _ => ⟨h1, h2⟩, fun _ => rfl⟩
    · rw [if_neg h1]; exact ⟨fun h => (by cases h), fun h => absurd h.1 h1⟩
  unfold orderE
  rw [firstI_zero]
  constructor
  · intro h
    refine ⟨fun k hk => ?_, ?_⟩
    · obtain ⟨i, hi, rfl⟩ := List.getElem_of_mem hk
      exact ((key i hi).1 (h i hi)).1
    · refine List.pairwise_iff_getElem.2 (fun i j hi hj hij e => ?_)
      have hi' : i < od.length := by simpa using hi
      have hj' : j < od.length := by simpa using hj
      refine ((key j hj').1 (h j hj')).2 ?_
      rw [List.mem_take_iff_getElem]
      refine ⟨i, by simp; omega, ?_⟩
      rw [e]; simp
  · rintro ⟨h1, h2⟩ i hi
    refine (key i hi).2 ⟨h1 _ (List.getElem_mem hi), fun h => ?_⟩
    rw [List.mem_take_iff_getElem] at h
    obtain ⟨j, hj, e⟩ := h
    have hji : j < i := by omega
    have hj2 : j < (od.map Ky.var).length := by simp; omega
    have := List.pairwise_iff_getElem.1 h2 j i hj2 (by simpa using hi) hji
    exact this (by rw [e]; simp)
theorem headE_nodup {hd : List ByteArray} (h : headE hd = 0) : hd.Nodup := by
  unfold headE at h
  split at h
  · refine List.pairwise_iff_getElem.2 (fun i j hi hj hij e => ?_)
    have h1 := firstI_zero.1 h j hj
    have e1 : hd.getD j ⟨#[]⟩ = hd[j] := by rw [List.getD_eq_getElem?_getD, List.getElem?_eq_getElem hj]; rfl
    rw [e1] at h1
    split at h1
    · split at h1
      · cases h1
      · rename_i h3
        refine h3 ?_
        rw [List.mem_take_iff_getElem]
        exact ⟨i, by omega, e⟩
    · cases h1
  · cases h
theorem order_vars (hd : List ByteArray) (od : List Ky) : (orderL hd od).map Ky.var = od.map Ky.var ++ hd.filter (fun v => !decide (v ∈ od.map Ky.var)) := by
  unfold orderL
  rw [List.map_append, List.map_map]
  have : (Ky.var ∘ fun v => (⟨v, false⟩ : Ky)) = id := rfl
  rw [this, List.map_id]
theorem order_all {hd : List ByteArray} {od : List Ky} {v : ByteArray} (h : v ∈ hd) : v ∈ (orderL hd od).map Ky.var := by
  rw [order_vars, List.mem_append]
  by_cases h1 : v ∈ od.map Ky.var
  · exact .inl h1
  · exact .inr (List.mem_filter.2 ⟨h, by simp only [decide_eq_false h1]; rfl⟩)
theorem order_fine {hd : List ByteArray} {od : List Ky} (h : orderE hd od = 0) (hh : headE hd = 0) : orderE hd ((orderL hd od).map turnK) = 0 := by
  obtain ⟨h1, h2⟩ := orderE_iff.1 h
  rw [orderE_iff, turn_var, order_vars]
  refine ⟨fun k hk => ?_, ?_⟩
  · have hv : k.var ∈ ((orderL hd od).map turnK).map Ky.var := List.mem_map.2 ⟨k, hk, rfl⟩
    rw [turn_var, order_vars] at hv
    rcases List.mem_append.1 hv with e | e
    · obtain ⟨y, hy, e2⟩ := List.mem_map.1 e
      rw [← e2]; exact h1 y hy
    · exact (List.mem_filter.1 e).1
  · rw [List.nodup_append]
    refine ⟨h2, (headE_nodup hh).filter _, fun a ha b hb e => ?_⟩
    subst e
    have := (List.mem_filter.1 hb).2
    simp only [decide_eq_true ha] at this
    cases this
theorem ast_fine {hd : List ByteArray} {ag : Int} {av : ByteArray} {rs : List Rl} {od : List Ky} (a1 : rs ≠ []) (a2 : rs.length ≤ 3) (a3 : rs.length ≤ 1 ∨ ag = 0) (a4 : headE hd = 0) (a5 : aggE ag av = 0) (a6 : ∀ r ∈ rs, ruleE (needV hd av) r = 0) (ho : orderE hd od = 0) : astE ⟨hd, ag, av, rs, od⟩ = 0 := by
  unfold astE
  dsimp only
  rw [if_neg a1, if_pos ⟨a2, a3⟩, if_pos a4, if_pos a5, if_pos (firstE_zero.2 a6)]
  exact ho
theorem turn_check {ss : List Sc} {q : Qy} (h : checkE ss q = 0) : checkE ss (turnQ q) = 0 := by
  have ha := check_ast h
  obtain ⟨a1, a2, a3, a4, a5, a6, a7⟩ := ast_ok ha
  have ha' : astE (turnQ q) = 0 := ast_fine a1 a2 a3 a4 a5 a6 (order_fine a7 a4)
  unfold checkE at h ⊢
  rw [if_pos ha] at h
  rw [if_pos ha']
  simp only [turnQ]
  exact h
theorem turn_order (q : Qy) : orderL q.hd (turnQ q).od = (orderL q.hd q.od).map turnK := by
  have e : q.hd.filter (fun v => !decide (v ∈ ((orderL q.hd q.od).map turnK).map Ky.var)) = [] := by
    rw [List.filter_eq_nil_iff]
    intro v hv
    rw [turn_var, decide_eq_true (order_all hv)]
    simp
  show (orderL q.hd q.od).map turnK ++ (q.hd.filter (fun v => !decide (v ∈ ((orderL q.hd q.od).map turnK).map Ky.var))).map (fun v => ⟨v, false⟩) = _
  rw [e]
  simp
theorem turn_names (q : Qy) (r : Rl) : namesL (turnQ q) r = namesL q r := by
  unfold namesL
  show (varsC r).foldl addN (((orderL q.hd (turnQ q).od).map Ky.var).foldl addN []) = _
  rw [turn_order, turn_var]
theorem turn_srcs (q : Qy) (r : Rl) : srcsL (turnQ q) r = srcsL q r := by
  unfold srcsL
  rw [turn_names]
theorem turn_z {q : Qy} (hz : QyZ q) : QyZ (turnQ q) := ⟨hz.hd, hz.av, hz.rs, fun k hk => by
  obtain ⟨y, hy, rfl⟩ := List.mem_map.1 hk
  exact orderL_size hz.hd hz.od y hy⟩
theorem srcs_lens {q : Qy} {r : Rl} {s : Src} (h : s ∈ srcsL q r) : s.vars.length ≤ (namesL q r).length ∧ s.cols.length ≤ (namesL q r).length := by
  obtain ⟨i, hi, e⟩ := mem_upL.1 h
  obtain ⟨h1, -, rfl⟩ := srcR_some.1 e
  exact ⟨upL_len _ _, upL_len _ _⟩
end Go.Proofs.Ytmmmdinncmbjkaa
