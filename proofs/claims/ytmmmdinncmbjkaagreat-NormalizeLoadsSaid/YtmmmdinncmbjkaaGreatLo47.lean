/- Region 29 of the reference's Sources, by itself. -/
import Derived.Test.YtmmmdinncmbjkaaGreatLo46
import Derived.Deep.RegionHeld3
namespace Go.Proofs.YtmmmdinncmbjkaaGreat
open Go.RowKit Go.Maps
/-- The region of a number, in a piece of code. -/
def findRegion (n : Nat) : Code → Option Code
  | .region i ops b => if i = n then some (.region i ops b) else none
  | .seq a b => match findRegion n a with
    | some c => some c
    | none => findRegion n b
  | .cond _ a b => match findRegion n a with
    | some c => some c
    | none => findRegion n b
  | .block _ c => findRegion n c
  | .scope c => findRegion n c
  | .loop c => findRegion n c
  | _ => none
noncomputable def ou29 : Code := ((Tryz.f15.body.bind (findRegion 29)).getD .skip)
theorem wp_only {P : Program} {c : Code} {K : Act → World → Prop} {Q : Exit → Act → World → Prop} {a : Act} {w : World} (h : c.wp P (Exit.then K (fun _ _ _ => False)) a w) : c.wp P (Exit.then K Q) a w :=
  wp_mono h (fun e _ _ hq => by cases e <;> first | exact hq | exact False.elim hq)
theorem step_append_run {P : Program} {w w8 : World} {ops : Array Oper} {o : Oper} {a : Act} {K : Act → World → Prop} {Q : Exit → Act → World → Prop} {E : Prop} (hgd : o.guard = none) (s y : Operand) (t : TypeId)
    (ho : o.op = .call { callee := .builtin .append, args := #[s, y], argTypes := #[t, t] }) (v u : Value) (hs : a.eval s = v) (hx : a.eval y = u) {v8 : Value} (hr : (Builtin.append_ #[t, t] o.type #[v, u]).run P w = .ok v8 w8) (h : K (a.put o.dst v8) w8) :
    if Region.wanted o (yielded ops a.tmps) = true then Oper.wp P o a w K Q else E := by
  have hw : Region.wanted o (yielded ops a.tmps) = true := by simp [Region.wanted, hgd]
  rw [if_pos hw]
  unfold Oper.wp execOp
  simp only [ho, resolve, invoke, builtin, Sem.run_bind, Sem.run_pure, Result.andThen_ok, List.map_toArray, List.map_cons, List.map_nil, hs, hx, hr]
  exact h
set_option maxRecDepth 100000 in
set_option maxHeartbeats 6400000 in
theorem reg29 {K : Act → World → Prop} {Q : Exit → Act → World → Prop} {X w8 : World} {br gb x z nc cc nf4 ef4 c8 : Nat} {adc : Addr} {Af4 A8 : Option Addr} {op kd it : Int} {st : ByteArray} {u0 u1 u2 u4 u5 u6 u7 u9 u10 u11 u12 u13 u16 u17 u18 u19 u20 u21 u22 u23 u24 u25 u26 u27 u28 u29 u30 u31 u32 u33 u34 u35 u36 u37 u38 u39 u40 u41 u42 u43 u44 u45 u46 u47 u48 u49 u50 u51 u52 u53 u54 u55 u56 u57 u58 u59 u60 u61 u62 u63 u64 u65 u66 u67 u68 u69 u70 u71 u72 u73 u74 u75 u76 u77 u78 u79 u80 u81 u82 u83 u84 u85 u86 u87 u88 u89 u90 u91 u92 u93 u94 u95 u96 u97 u98 u99 u100 u101 u102 u103 u104 u105 u106 u107 u108 u109 u110 u111 u112 u113 u114 u115 u116 u117 u118 u119 u120 u121 u122 u123 u124 u125 u126 u127 u128 u129 u130 u131 u132 u133 u134 u135 u136 u137 u138 u139 u140 u141 u142 u143 u144 u145 u146 u147 u148 u149 u150 u151 u152 u153 u154 u155 u156 u157 u158 u159 u160 u161 u162 u163 u164 u165 u166 u167 u168 u169 u170 u171 u172 u173 u174 u175 u176 u177 u178 u179 u180 u181 u182 u183 u184 u185 u186 u187 u188 u189 u190 u191 u192 u193 u194 u195 u196 u197 u198 u199 u200 u201 u202 u203 u204 u205 u206 u207 u208 u209 u210 u211 u212 u213 u214 u215 u216 u217 u218 u219 u220 u221 u222 u223 u224 u225 u226 : Value}
    (l1 : (0 : Int) ≤ (z : Int)) (l2 : (z : Int) < (nc : Int)) (r1 : X.cell? ⟨br, 1, none⟩ = some (.slice (some adc) nc cc)) (e1 : X.cell? ⟨(adc.add (z * 5)).block, (adc.add (z * 5)).off + 1, none⟩ = some (.int .i64 op)) (e2 : X.cell? ⟨(adc.add (z * 5)).block, (adc.add (z * 5)).off + 2, none⟩ = some (.int .i64 kd)) (e3 : X.cell? ⟨(adc.add (z * 5)).block, (adc.add (z * 5)).off + 3, none⟩ = some (.int .i64 it)) (e4 : X.cell? ⟨(adc.add (z * 5)).block, (adc.add (z * 5)).off + 4, none⟩ = some (.string st))
    (b4 : X.cell? ⟨gb, 4, none⟩ = some (.slice Af4 nf4 ef4))
    (hrun8 : (Builtin.append_ #[74, 74] 74 #[.slice Af4 nf4 ef4, .slice (some ⟨X.heap.size, 0, none⟩) 1 1]).run Tryz.prog (X.alloc (.cells #[.int .i64 (x : Int), .int .i64 op, .int .i64 kd, .int .i64 it, .string st] 137)).drew = .ok (.slice A8 (nf4 + 1) c8) w8)
    (q8 : w8.cell? ⟨gb, 4, none⟩ = some (.slice Af4 nf4 ef4)) (f8 : w8.frozen? ⟨gb, 4, none⟩ = false) (hb1 : br ≠ gb) (hb2 : adc.block ≠ gb)
    (hS8 : w8.cell? ⟨br, 1, none⟩ = some (.slice (some adc) nc cc) ∧ w8.cell? ⟨(adc.add (z * 5)).block, (adc.add (z * 5)).off + 1, none⟩ = some (.int .i64 op) ∧ w8.cell? ⟨(adc.add (z * 5)).block, (adc.add (z * 5)).off + 2, none⟩ = some (.int .i64 kd) ∧ w8.cell? ⟨(adc.add (z * 5)).block, (adc.add (z * 5)).off + 3, none⟩ = some (.int .i64 it) ∧ w8.cell? ⟨(adc.add (z * 5)).block, (adc.add (z * 5)).off + 4, none⟩ = some (.string st))
    (hK : ∀ n119 n120 n121 n122 n123 n124 n125 n126 n127 n128 n129 n130 n131 n132 n133 n134 n135 n136 n137 : Value, K ⟨#[u0, u1, u2, (.pointer (some ⟨br, 0, none⟩)), u4, u5, u6, u7, (.pointer (some ⟨gb, 0, none⟩)), u9, u10, u11, u12, u13, (.int .i64 (z : Int)), (.int .i64 (x : Int)), u16, u17, u18, u19, u20, u21, u22, u23, u24, u25, u26, u27, u28, u29, u30, u31, u32, u33, u34, u35, u36, u37, u38, u39, u40, u41, u42, u43, u44, u45, u46, u47, u48, u49, u50, u51, u52, u53, u54, u55, u56, u57, u58, u59, u60, u61, u62, u63, u64, u65, u66, u67, u68, u69, u70, u71, u72, u73, u74, u75, u76, u77, u78, u79, u80, u81, u82, u83, u84, u85, u86, u87, u88, u89, u90, u91, u92, u93, u94, u95, u96, u97, u98, u99, u100, u101, u102, u103, u104, u105, u106, u107, u108, u109, u110, u111, u112, u113, u114, u115, u116, u117, u118, n119, n120, n121, n122, n123, n124, n125, n126, n127, n128, n129, n130, n131, n132, n133, n134, n135, n136, n137, u138, u139, u140, u141, u142, u143, u144, u145, u146, u147, u148, u149, u150, u151, u152, u153, u154, u155, u156, u157, u158, u159, u160, u161, u162, u163, u164, u165, u166, u167, u168, u169, u170, u171, u172, u173, u174, u175, u176, u177, u178, u179, u180, u181, u182, u183, u184, u185, u186, u187, u188, u189, u190, u191, u192, u193, u194, u195, u196, u197, u198, u199, u200, u201, u202, u203, u204, u205, u206, u207, u208, u209, u210, u211, u212, u213, u214, u215, u216, u217, u218, u219, u220, u221, u222, u223, u224, u225, u226], []⟩ (w8.setCell ⟨gb, 4, none⟩ (.slice A8 (nf4 + 1) c8))) :
    Code.wp Tryz.prog ou29 (Exit.then K Q) ⟨#[u0, u1, u2, (.pointer (some ⟨br, 0, none⟩)), u4, u5, u6, u7, (.pointer (some ⟨gb, 0, none⟩)), u9, u10, u11, u12, u13, (.int .i64 (z : Int)), (.int .i64 (x : Int)), u16, u17, u18, u19, u20, u21, u22, u23, u24, u25, u26, u27, u28, u29, u30, u31, u32, u33, u34, u35, u36, u37, u38, u39, u40, u41, u42, u43, u44, u45, u46, u47, u48, u49, u50, u51, u52, u53, u54, u55, u56, u57, u58, u59, u60, u61, u62, u63, u64, u65, u66, u67, u68, u69, u70, u71, u72, u73, u74, u75, u76, u77, u78, u79, u80, u81, u82, u83, u84, u85, u86, u87, u88, u89, u90, u91, u92, u93, u94, u95, u96, u97, u98, u99, u100, u101, u102, u103, u104, u105, u106, u107, u108, u109, u110, u111, u112, u113, u114, u115, u116, u117, u118, u119, u120, u121, u122, u123, u124, u125, u126, u127, u128, u129, u130, u131, u132, u133, u134, u135, u136, u137, u138, u139, u140, u141, u142, u143, u144, u145, u146, u147, u148, u149, u150, u151, u152, u153, u154, u155, u156, u157, u158, u159, u160, u161, u162, u163, u164, u165, u166, u167, u168, u169, u170, u171, u172, u173, u174, u175, u176, u177, u178, u179, u180, u181, u182, u183, u184, u185, u186, u187, u188, u189, u190, u191, u192, u193, u194, u195, u196, u197, u198, u199, u200, u201, u202, u203, u204, u205, u206, u207, u208, u209, u210, u211, u212, u213, u214, u215, u216, u217, u218, u219, u220, u221, u222, u223, u224, u225, u226], []⟩ X := by
  have HK := Lib.hid hK
  clear hK
  conv => arg 2; whnf
  refine wp_only ?_
  have s1 := ((Ext.refl X).alloc (.cells #[.int .i64 (x : Int), .int .i64 op, .int .i64 kd, .int .i64 it, .string st] 137)).cell b4
  have hSX : Hid (∀ V, Ext X V → V.cell? ⟨br, 1, none⟩ = some (.slice (some adc) nc cc) ∧ V.cell? ⟨(adc.add (z * 5)).block, (adc.add (z * 5)).off + 1, none⟩ = some (.int .i64 op) ∧ V.cell? ⟨(adc.add (z * 5)).block, (adc.add (z * 5)).off + 2, none⟩ = some (.int .i64 kd) ∧ V.cell? ⟨(adc.add (z * 5)).block, (adc.add (z * 5)).off + 3, none⟩ = some (.int .i64 it) ∧ V.cell? ⟨(adc.add (z * 5)).block, (adc.add (z * 5)).off + 4, none⟩ = some (.string st)) := Lib.hid (fun V he => ⟨Ext.cell he r1, Ext.cell he e1, Ext.cell he e2, Ext.cell he e3, Ext.cell he e4⟩)
  have hs9 : (w8.setCell ⟨gb, 4, none⟩ (.slice A8 (nf4 + 1) c8)).cell? ⟨br, 1, none⟩ = some (.slice (some adc) nc cc) ∧ (w8.setCell ⟨gb, 4, none⟩ (.slice A8 (nf4 + 1) c8)).cell? ⟨(adc.add (z * 5)).block, (adc.add (z * 5)).off + 1, none⟩ = some (.int .i64 op) ∧ (w8.setCell ⟨gb, 4, none⟩ (.slice A8 (nf4 + 1) c8)).cell? ⟨(adc.add (z * 5)).block, (adc.add (z * 5)).off + 2, none⟩ = some (.int .i64 kd) ∧ (w8.setCell ⟨gb, 4, none⟩ (.slice A8 (nf4 + 1) c8)).cell? ⟨(adc.add (z * 5)).block, (adc.add (z * 5)).off + 3, none⟩ = some (.int .i64 it) ∧ (w8.setCell ⟨gb, 4, none⟩ (.slice A8 (nf4 + 1) c8)).cell? ⟨(adc.add (z * 5)).block, (adc.add (z * 5)).off + 4, none⟩ = some (.string st) := by
    obtain ⟨h1, h2, h3, h4, h5⟩ := hS8
    exact ⟨by rw [World.cell?_setCell_other _ _ _ _ (by simp [Ne.symm hb1])]; exact h1, by rw [World.cell?_setCell_other _ _ _ _ (by simp [block_add, Ne.symm hb2])]; exact h2, by rw [World.cell?_setCell_other _ _ _ _ (by simp [block_add, Ne.symm hb2])]; exact h3, by rw [World.cell?_setCell_other _ _ _ _ (by simp [block_add, Ne.symm hb2])]; exact h4, by rw [World.cell?_setCell_other _ _ _ _ (by simp [block_add, Ne.symm hb2])]; exact h5⟩
  have HS8 := Lib.hid hS8; have HS9 := Lib.hid hs9
  clear hS8 hs9
  refine wp_region_held_drew (S := fun V => V.cell? ⟨br, 1, none⟩ = some (.slice (some adc) nc cc) ∧ V.cell? ⟨(adc.add (z * 5)).block, (adc.add (z * 5)).off + 1, none⟩ = some (.int .i64 op) ∧ V.cell? ⟨(adc.add (z * 5)).block, (adc.add (z * 5)).off + 2, none⟩ = some (.int .i64 kd) ∧ V.cell? ⟨(adc.add (z * 5)).block, (adc.add (z * 5)).off + 3, none⟩ = some (.int .i64 it) ∧ V.cell? ⟨(adc.add (z * 5)).block, (adc.add (z * 5)).off + 4, none⟩ = some (.string st)) (by kernel_rfl) ?_ (fun hHeld => ?_)
  · exact hSX.out _ (Ext.refl X).drew
  refine wpAnyH_take (i := 0) (oi := ?ox1) (v := ?vx1) ?hx1 (by kernel_rfl) (by kernel_rfl) (by kernel_rfl) (fun _ _ _ h => h) (Or.inl ⟨?wx1, ?yx1⟩) hHeld ?rx1
  case hx1 => simp only [List.getElem?_toArray, List.getElem?_cons_succ, List.getElem?_cons_zero]; rfl
  case wx1 => rfl
  case yx1 => (intro V hSw; obtain ⟨q1, q2, q3, q4, q5⟩ := hSw; simp [go_sem, *]) <;> with_reducible rfl
  (try simp only [Act.put, List.setIfInBounds_toArray, List.set_cons_zero, List.set_cons_succ])
  refine wpAnyH_take (i := 2) (oi := ?ox2) (v := ?vx2) ?hx2 (by kernel_rfl) (by kernel_rfl) (by kernel_rfl) (fun _ _ _ h => h) (Or.inl ⟨?wx2, ?yx2⟩) hHeld ?rx2
  case hx2 => simp only [List.getElem?_toArray, List.getElem?_cons_succ, List.getElem?_cons_zero]; rfl
  case wx2 => rfl
  case yx2 => (intro V hSw; obtain ⟨q1, q2, q3, q4, q5⟩ := hSw; simp [go_sem, *]) <;> with_reducible rfl
  (try simp only [Act.put, List.setIfInBounds_toArray, List.set_cons_zero, List.set_cons_succ])
  refine wpAnyH_take (i := 3) (oi := ?ox3) (v := ?vx3) ?hx3 (by kernel_rfl) (by kernel_rfl) (by kernel_rfl) (fun _ _ _ h => h) (Or.inl ⟨?wx3, ?yx3⟩) hHeld ?rx3
  case hx3 => simp only [List.getElem?_toArray, List.getElem?_cons_succ, List.getElem?_cons_zero]; rfl
  case wx3 => rfl
  case yx3 => (intro V hSw; obtain ⟨q1, q2, q3, q4, q5⟩ := hSw; simp [go_sem, *]) <;> with_reducible rfl
  (try simp only [Act.put, List.setIfInBounds_toArray, List.set_cons_zero, List.set_cons_succ])
  refine wpAnyH_take (i := 5) (oi := ?ox4) (v := ?vx4) ?hx4 (by kernel_rfl) (by kernel_rfl) (by kernel_rfl) (fun _ _ _ h => h) (Or.inl ⟨?wx4, ?yx4⟩) hHeld ?rx4
  case hx4 => simp only [List.getElem?_toArray, List.getElem?_cons_succ, List.getElem?_cons_zero]; rfl
  case wx4 => rfl
  case yx4 => (intro V hSw; obtain ⟨q1, q2, q3, q4, q5⟩ := hSw; simp [go_sem, *]) <;> with_reducible rfl
  (try simp only [Act.put, List.setIfInBounds_toArray, List.set_cons_zero, List.set_cons_succ])
  refine wpAnyH_take (i := 9) (oi := ?ox5) (v := ?vx5) ?hx5 (by kernel_rfl) (by kernel_rfl) (by kernel_rfl) (fun _ _ _ h => h) (Or.inl ⟨?wx5, ?yx5⟩) hHeld ?rx5
  case hx5 => simp only [List.getElem?_toArray, List.getElem?_cons_succ, List.getElem?_cons_zero]; rfl
  case wx5 => rfl
  case yx5 => (intro V hSw; obtain ⟨q1, q2, q3, q4, q5⟩ := hSw; simp [go_sem, *]) <;> with_reducible rfl
  (try simp only [Act.put, List.setIfInBounds_toArray, List.set_cons_zero, List.set_cons_succ])
  refine wpAnyH_take (i := 11) (oi := ?ox6) (v := ?vx6) ?hx6 (by kernel_rfl) (by kernel_rfl) (by kernel_rfl) (fun _ _ _ h => h) (Or.inl ⟨?wx6, ?yx6⟩) hHeld ?rx6
  case hx6 => simp only [List.getElem?_toArray, List.getElem?_cons_succ, List.getElem?_cons_zero]; rfl
  case wx6 => rfl
  case yx6 => (intro V hSw; obtain ⟨q1, q2, q3, q4, q5⟩ := hSw; simp [go_sem, *]) <;> with_reducible rfl
  (try simp only [Act.put, List.setIfInBounds_toArray, List.set_cons_zero, List.set_cons_succ])
  refine wpAnyH_take (i := 4) (oi := ?ox7) (v := ?vx7) ?hx7 (by kernel_rfl) (by kernel_rfl) (by kernel_rfl) (fun _ _ _ h => h) (Or.inl ⟨?wx7, ?yx7⟩) hHeld ?rx7
  case hx7 => simp only [List.getElem?_toArray, List.getElem?_cons_succ, List.getElem?_cons_zero]; rfl
  case wx7 => rfl
  case yx7 => (intro V hSw; obtain ⟨q1, q2, q3, q4, q5⟩ := hSw; simp [go_sem, *]) <;> with_reducible rfl
  (try simp only [Act.put, List.setIfInBounds_toArray, List.set_cons_zero, List.set_cons_succ])
  refine wpAnyH_take (i := 6) (oi := ?ox8) (v := ?vx8) ?hx8 (by kernel_rfl) (by kernel_rfl) (by kernel_rfl) (fun _ _ _ h => h) (Or.inl ⟨?wx8, ?yx8⟩) hHeld ?rx8
  case hx8 => simp only [List.getElem?_toArray, List.getElem?_cons_succ, List.getElem?_cons_zero]; rfl
  case wx8 => rfl
  case yx8 => (intro V hSw; obtain ⟨q1, q2, q3, q4, q5⟩ := hSw; simp [go_sem, *]) <;> with_reducible rfl
  (try simp only [Act.put, List.setIfInBounds_toArray, List.set_cons_zero, List.set_cons_succ])
  refine wpAnyH_take (i := 7) (oi := ?ox9) (v := ?vx9) ?hx9 (by kernel_rfl) (by kernel_rfl) (by kernel_rfl) (fun _ _ _ h => h) (Or.inl ⟨?wx9, ?yx9⟩) hHeld ?rx9
  case hx9 => simp only [List.getElem?_toArray, List.getElem?_cons_succ, List.getElem?_cons_zero]; rfl
  case wx9 => rfl
  case yx9 => (intro V hSw; obtain ⟨q1, q2, q3, q4, q5⟩ := hSw; simp [go_sem, *]) <;> with_reducible rfl
  (try simp only [Act.put, List.setIfInBounds_toArray, List.set_cons_zero, List.set_cons_succ])
  refine wpAnyH_take (i := 8) (oi := ?ox10) (v := ?vx10) ?hx10 (by kernel_rfl) (by kernel_rfl) (by kernel_rfl) (fun _ _ _ h => h) (Or.inl ⟨?wx10, ?yx10⟩) hHeld ?rx10
  case hx10 => simp only [List.getElem?_toArray, List.getElem?_cons_succ, List.getElem?_cons_zero]; rfl
  case wx10 => rfl
  case yx10 => (intro V hSw; obtain ⟨q1, q2, q3, q4, q5⟩ := hSw; simp [go_sem, *]) <;> with_reducible rfl
  (try simp only [Act.put, List.setIfInBounds_toArray, List.set_cons_zero, List.set_cons_succ])
  refine wpAnyH_take (i := 10) (oi := ?ox11) (v := ?vx11) ?hx11 (by kernel_rfl) (by kernel_rfl) (by kernel_rfl) (fun _ _ _ h => h) (Or.inl ⟨?wx11, ?yx11⟩) hHeld ?rx11
  case hx11 => simp only [List.getElem?_toArray, List.getElem?_cons_succ, List.getElem?_cons_zero]; rfl
  case wx11 => rfl
  case yx11 => (intro V hSw; obtain ⟨q1, q2, q3, q4, q5⟩ := hSw; simp [go_sem, *]) <;> with_reducible rfl
  (try simp only [Act.put, List.setIfInBounds_toArray, List.set_cons_zero, List.set_cons_succ])
  refine wpAnyH_take (i := 12) (oi := ?ox12) (v := ?vx12) ?hx12 (by kernel_rfl) (by kernel_rfl) (by kernel_rfl) (fun _ _ _ h => h) (Or.inl ⟨?wx12, ?yx12⟩) hHeld ?rx12
  case hx12 => simp only [List.getElem?_toArray, List.getElem?_cons_succ, List.getElem?_cons_zero]; rfl
  case wx12 => rfl
  case yx12 => (intro V hSw; obtain ⟨q1, q2, q3, q4, q5⟩ := hSw; simp [go_sem, *]) <;> with_reducible rfl
  (try simp only [Act.put, List.setIfInBounds_toArray, List.set_cons_zero, List.set_cons_succ])
  refine wpAnyH_take (i := 13) (oi := ?ox13) (v := ?vx13) ?hx13 (by kernel_rfl) (by kernel_rfl) (by kernel_rfl) (fun _ _ _ h => h) (Or.inl ⟨?wx13, ?yx13⟩) hHeld ?rx13
  case hx13 => simp only [List.getElem?_toArray, List.getElem?_cons_succ, List.getElem?_cons_zero]; rfl
  case wx13 => rfl
  case yx13 => (intro V hSw; obtain ⟨q1, q2, q3, q4, q5⟩ := hSw; simp [go_sem, *]) <;> with_reducible rfl
  (try simp only [Act.put, List.setIfInBounds_toArray, List.set_cons_zero, List.set_cons_succ])
  refine wpAnyH_take (i := 14) (oi := ?ox14) (v := ?vx14) ?hx14 (by kernel_rfl) (by kernel_rfl) (by kernel_rfl) (fun _ _ _ h => h) (Or.inl ⟨?wx14, ?yx14⟩) hHeld ?rx14
  case hx14 => simp only [List.getElem?_toArray, List.getElem?_cons_succ, List.getElem?_cons_zero]; rfl
  case wx14 => rfl
  case yx14 => (intro V hSw; obtain ⟨q1, q2, q3, q4, q5⟩ := hSw; simp [go_sem, *]) <;> with_reducible rfl
  (try simp only [Act.put, List.setIfInBounds_toArray, List.set_cons_zero, List.set_cons_succ])
  refine wpAnyH_take (i := 15) (oi := ?ox15) (v := ?vx15) ?hx15 (by kernel_rfl) (by kernel_rfl) (by kernel_rfl) (fun _ _ _ h => h) (Or.inl ⟨?wx15, ?yx15⟩) hHeld ?rx15
  case hx15 => simp only [List.getElem?_toArray, List.getElem?_cons_succ, List.getElem?_cons_zero]; rfl
  case wx15 => rfl
  case yx15 => (intro V hSw; obtain ⟨q1, q2, q3, q4, q5⟩ := hSw; simp [go_sem, *]) <;> with_reducible rfl
  (try simp only [Act.put, List.setIfInBounds_toArray, List.set_cons_zero, List.set_cons_succ])
  refine wpAnyH_ready (rs := [1, 16]) (by kernel_rfl) (by simp) ?_
  refine AllReadyH.cons rfl (fun K hK => ?_) (AllReadyH.cons rfl (fun K hK => ?_) AllReadyH.nil)
  · simp [go_sem, *]
    refine hK.out _ _ (hHeld) (fun hHeld => ?_)
    clear hK K
    refine wpAnyH_ready (rs := [16]) (by kernel_rfl) (by simp) ?_
    refine AllReadyH.cons rfl (fun K hK => ?_) AllReadyH.nil
    simp [go_sem, *]
    refine hK.out _ _ ((hSX.out _ ((Ext.refl X).alloc _).drew)) (fun hHeld => ?_)
    clear hK K
    refine wpAnyH_ready (rs := [17]) (by kernel_rfl) (by simp) ?_
    refine AllReadyH.cons rfl (fun K hK => ?_) AllReadyH.nil
    refine step_append_run (by rfl) _ _ _ (by rfl) _ _ (by rfl) (by rfl) hrun8 ?_
    refine hK.out _ _ (HS8.out) (fun hHeld => ?_)
    clear hK K
    refine wpAnyH_take (i := 18) (oi := ?ox16) (v := ?vx16) ?hx16 (by kernel_rfl) (by kernel_rfl) (by kernel_rfl) (fun _ _ _ h => h) (Or.inl ⟨?wx16, ?yx16⟩) hHeld ?rx16
    case hx16 => simp only [List.getElem?_toArray, List.getElem?_cons_succ, List.getElem?_cons_zero]; rfl
    case wx16 => rfl
    case yx16 => (intro V hSw; obtain ⟨q1, q2, q3, q4, q5⟩ := hSw; simp [go_sem, *]) <;> with_reducible rfl
    (try simp only [Act.put, List.setIfInBounds_toArray, List.set_cons_zero, List.set_cons_succ])
    refine wpAnyH_ready (rs := [19]) (by kernel_rfl) (by simp) ?_
    refine AllReadyH.cons rfl (fun K hK => ?_) AllReadyH.nil
    simp [go_sem, *]
    refine hK.out _ _ (HS9.out) (fun hHeld => ?_)
    clear hK K
    refine wpAnyH_done (by kernel_rfl) ?_ _
    go_wp2_with fail
    exact HK.out _ _ _ _ _ _ _ _ _ _ _ _ _ _ _ _ _ _ _
  · simp [go_sem, *]
    refine hK.out _ _ ((hSX.out _ ((Ext.refl X).alloc _).drew)) (fun hHeld => ?_)
    clear hK K
    refine wpAnyH_ready (rs := [1]) (by kernel_rfl) (by simp) ?_
    refine AllReadyH.cons rfl (fun K hK => ?_) AllReadyH.nil
    simp [go_sem, *]
    refine hK.out _ _ (hHeld) (fun hHeld => ?_)
    clear hK K
    refine wpAnyH_ready (rs := [17]) (by kernel_rfl) (by simp) ?_
    refine AllReadyH.cons rfl (fun K hK => ?_) AllReadyH.nil
    refine step_append_run (by rfl) _ _ _ (by rfl) _ _ (by rfl) (by rfl) hrun8 ?_
    refine hK.out _ _ (HS8.out) (fun hHeld => ?_)
    clear hK K
    refine wpAnyH_take (i := 18) (oi := ?ox17) (v := ?vx17) ?hx17 (by kernel_rfl) (by kernel_rfl) (by kernel_rfl) (fun _ _ _ h => h) (Or.inl ⟨?wx17, ?yx17⟩) hHeld ?rx17
    case hx17 => simp only [List.getElem?_toArray, List.getElem?_cons_succ, List.getElem?_cons_zero]; rfl
    case wx17 => rfl
    case yx17 => (intro V hSw; obtain ⟨q1, q2, q3, q4, q5⟩ := hSw; simp [go_sem, *]) <;> with_reducible rfl
    (try simp only [Act.put, List.setIfInBounds_toArray, List.set_cons_zero, List.set_cons_succ])
    refine wpAnyH_ready (rs := [19]) (by kernel_rfl) (by simp) ?_
    refine AllReadyH.cons rfl (fun K hK => ?_) AllReadyH.nil
    simp [go_sem, *]
    refine hK.out _ _ (HS9.out) (fun hHeld => ?_)
    clear hK K
    refine wpAnyH_done (by kernel_rfl) ?_ _
    go_wp2_with fail
    exact HK.out _ _ _ _ _ _ _ _ _ _ _ _ _ _ _ _ _ _ _
end Go.Proofs.YtmmmdinncmbjkaaGreat
