/- packed -/
import Derived.Test.YtplldnnnhgnbjaaGreatDoorMr47
namespace Go.Proofs.YtplldnnnhgnbjaaGreatDoor
open Go.RowKit Go.Maps
theorem Sl.take {α : Type} {r:Rdg α} {F:Nat→Prop} {w:World} {A:Option Addr} {n c i:Nat} {xs:List α} (h:Sl r F w (.slice A n c) xs) (hi:i≤n):Sl r F w (.slice A i c) (xs.take i):=by
 have hc:=h.cap
 obtain ⟨A',c',e,h1,h2⟩:=h
 injection e with e1 e2 e3
 subst e1 e3
 refine ⟨A,c,by rw [List.length_take];congr 1;omega,by rw [List.length_take];omega,fun k hk=>?_⟩
 rw [List.length_take] at hk
 rw [List.getElem_take]
 exact h2 k (by omega)
theorem Sl.news {α : Type} {r:Rdg α} {F:Nat→Prop} {w:World} {ad:Addr} {n c:Nat} {xs:List α} (h:Sl r F w (.slice (some ad) n c) xs) (hp : 0 < r.sz):∃ css:List (List Value),css.length=xs.length∧css.flatten.length=n * r.sz∧(∀ i (h:i < xs.length) (h':i < css.length),r.R F w css[i] xs[i])∧∀ j u,css.flatten[j]?=some u→w.cell? (ad.add j)=some u:=by
 have hc:=h.cap.1
 obtain ⟨A',c',e,h1,h2⟩:=h
 injection e with e1 e2 e3
 obtain ⟨css,k1,k2⟩:=pickL (p:=fun i (cs:List Value)=>∃ hi:i < xs.length,r.R F w cs xs[i]∧∀ j (h:j < cs.length),w.cell? (ad.add (i * r.sz + j))=some cs[j]) xs.length (fun i hi=>by
  obtain ⟨ad',cs,q1,-,q3,q4⟩:=h2 i hi
  rw [← e1] at q1
  injection q1 with q1
  subst q1
  exact ⟨cs,hi,q3,q4⟩)
 have hall:∀ cs ∈ css,cs.length=r.sz:=fun cs hcs=>by
  obtain ⟨i,hi,rfl⟩:=List.getElem_of_mem hcs
  obtain ⟨_,q,-⟩:=k2 i hi
  exact r.len q
 have hl:=flat_len hall
 refine ⟨css,k1,by rw [hl,k1,hc],fun i hi hi'=>(k2 i hi').2.1,fun j u hu=>?_⟩
 have hj:j < css.flatten.length:=by
  rcases Nat.lt_or_ge j css.flatten.length with h | h
  ·exact h
  ·rw [List.getElem?_eq_none h] at hu
   cases hu
 have hdm:j / r.sz * r.sz + j % r.sz=j:=by rw [Nat.mul_comm];exact Nat.div_add_mod j r.sz
 have hm:=Nat.mod_lt j hp
 have hq:j / r.sz < css.length:=by
  rw [hl] at hj
  exact Nat.div_lt_of_lt_mul (by rw [Nat.mul_comm];exact hj)
 have h3:=flat_get hall hq hm
 rw [hdm,hu] at h3
 obtain ⟨_,q1,q2⟩:=k2 _ hq
 have hlq:=r.len q1
 have h4:=q2 (j % r.sz) (by omega)
 rw [hdm] at h4
 rw [h4,h3,List.getElem?_eq_getElem (by omega)]
theorem RwG.setc {α : Type} {r:Rdg α} {F:Nat→Prop} {w:World} {base n g cap i j:Nat} {E:TypeId} {xs:List α} {css:List (List Value)} {u:Value} {x : α} (h:RwG r F w base E (.slice (some ⟨g,0,none⟩) n cap) n xs css) (hi:i < xs.length) (hi':i < css.length) (hj:j < r.sz) (hx:r.R F (w.setCell ⟨g,i * r.sz + j,none⟩ u) (css[i].set j u) x):RwG r F (w.setCell ⟨g,i * r.sz + j,none⟩ u) base E (.slice (some ⟨g,0,none⟩) n cap) n (xs.set i x) (css.set i (css[i].set j u)):=by
 have hset:Fr (fun k=>k=g) w (w.setCell ⟨g,i * r.sz + j,none⟩ u):=(Fr.refl (fun k=>k=g) w).setCell (p:=⟨g,i * r.sz + j,none⟩) (.inl rfl) _
 have hall:∀ cs ∈ css,cs.length=r.sz:=fun cs hcs=>by
  obtain ⟨k,hk,rfl⟩:=List.getElem_of_mem hcs
  exact r.len (h.rd k (by rw [← h.len];exact hk) hk)
 have hn:=own_num (Nat.lt_of_le_of_lt (Nat.zero_le _) hj) h.own hall
 have hgF:∀ k,F k→¬ k=g:=fun k hk e=>(h.sep k hk).1 (by rw [e];rfl)
 refine ⟨by rw [List.length_set,List.length_set,h.len],?_,fun k hk hk'=>?_,fun k hk=>⟨(h.sep k hk).1,Nat.lt_of_lt_of_le (h.sep k hk).2 hset.size⟩⟩
 ·rw [← flat_set hall hi' hj]
  refine own_setc h.own ?_ u
  have:=Nat.mul_le_mul_right r.sz (show i + 1≤n by omega)
  rw [Nat.add_mul] at this
  omega
 ·rw [List.length_set] at hk hk'
  by_cases e:k=i
  ·subst e
   rw [List.getElem_set_self,List.getElem_set_self]
   exact hx
  ·rw [List.getElem_set_ne (fun h=>e h.symm),List.getElem_set_ne (fun h=>e h.symm)]
   exact r.fr (h.rd k hk hk') hset hgF
theorem posL_only (r:Rl):posL (onlyPos r)=posL r:=by
 show (r.ats.filter (fun a=>!a.neg)).filter (fun a=>!a.neg) = _
 rw [List.filter_filter]
 simp [posL]
theorem set_chk {M:Dm} {q:Qy} (h:ChkM M q) {i:Nat} (hi:i < q.rs.length) {r:Rl} (hf:∀ κ,TyRM M κ q.rs[i]→(RuleOk (needV q.hd q.av) q.rs[i]→RuleOk (needV q.hd q.av) r)) (hg:∀ κ,TyRM M κ q.rs[i]→TyRM M κ r):ChkM M (q.withRs (q.rs.set i r)):=by
 refine chk_rules h (fun e=>?_) (by rw [List.length_set];exact Nat.le_refl _) (fun x hx=>?_)
 ·have h9:=congrArg List.length e
  rw [List.length_set,List.length_nil] at h9
  omega
 ·rcases List.mem_or_eq_of_mem_set hx with hx | rfl
  ·exact ⟨x,hx,id,fun _=>id⟩
  ·obtain ⟨K,hK⟩:=h.2
   obtain ⟨κ,h1,-⟩:=hK _ (List.getElem_mem hi)
   exact ⟨q.rs[i],List.getElem_mem hi,hf κ h1,hg⟩
theorem set_ans {M:Dm} {q:Qy} {i:Nat} (hi:i < q.rs.length) {r:Rl} (hs:∀ σ,satF M q.rs[i] σ→satF M r σ) {x:List Vl} (hx:ansP M q x):ansP M (q.withRs (q.rs.set i r)) x:=by
 refine ans_rules (fun y hy=>?_) hx
 obtain ⟨k,hk,rfl⟩:=List.getElem_of_mem hy
 by_cases e:k=i
 ·subst e
  exact ⟨r,List.mem_set hi _,hs⟩
 ·exact ⟨q.rs[k],by
   rw [List.mem_iff_getElem]
   exact ⟨k,by rw [List.length_set];exact hk,List.getElem_set_ne (fun h=>e h.symm) _⟩,fun _=>id⟩
end Go.Proofs.YtplldnnnhgnbjaaGreatDoor
namespace Go.Proofs.YtplldnnnhgnbjaaGreatDoor
open Go.RowKit Go.Maps
theorem RwG.wide {α : Type} {r:Rdg α} {F F':Nat→Prop} {w:World} {base n:Nat} {E:TypeId} {v:Value} {xs:List α} {css:List (List Value)} (h:RwG r F w base E v n xs css) (hF:∀ k,F k→F' k) (hs:∀ k,F' k→v.ownBlock ≠ some k∧k < w.heap.size):RwG r F' w base E v n xs css :=
 ⟨h.len,h.own,fun i h1 h2=>r.mono (h.rd i h1 h2) (fun k _ hk=>hF k hk),hs⟩
theorem noCds_z {r:Rl} (h:RlZ r):RlZ (noCds r):=⟨h.rel,h.tms,(fun c hc=>by simp [noCds] at hc),(fun c hc=>by simp [noCds] at hc)⟩
theorem onlyPos_z {r:Rl} (h:RlZ r):RlZ (onlyPos r):=⟨fun a ha=>h.rel a (posL_mem ha).1,fun a ha=>h.tms a (posL_mem ha).1,(fun c hc=>by simp [onlyPos] at hc),(fun c hc=>by simp [onlyPos] at hc)⟩
theorem set_z {q:Qy} (h:QyZ q) {i:Nat} {r:Rl} (hr:RlZ r):QyZ (q.withRs (q.rs.set i r)):=⟨h.hd,h.av,fun x hx=>by
 rcases List.mem_or_eq_of_mem_set hx with hx | rfl
 ·exact h.rs x hx
 ·exact hr,h.od⟩
theorem set_prod {M:Dm} {q:Qy} {i:Nat} (hi:i < q.rs.length) (h:∀ r ∈ q.rs,prodA M (posL r)≤1500) {r:Rl} (e:posL r=posL q.rs[i]):∀ x ∈ (q.withRs (q.rs.set i r)).rs,prodA M (posL x)≤1500:=fun x hx=>by
 rcases List.mem_or_eq_of_mem_set hx with hx | rfl
 ·exact h x hx
 ·rw [e]
  exact h _ (List.getElem_mem hi)
theorem set_ans2 {M:Dm} {q:Qy} {i:Nat} (hi:i < q.rs.length) {x:List Vl} (hx:ansP M (q.withRs (q.rs.set i (noCds q.rs[i]))) x):ansP M (q.withRs (q.rs.set i (onlyPos q.rs[i]))) x:=by
 have hi':i < (q.withRs (q.rs.set i (noCds q.rs[i]))).rs.length:=by show i < (q.rs.set i _).length;rw [List.length_set];exact hi
 have h:=set_ans (q:=q.withRs (q.rs.set i (noCds q.rs[i]))) hi' (r:=onlyPos q.rs[i]) (fun σ hs=>by
  have e:(q.withRs (q.rs.set i (noCds q.rs[i]))).rs[i]=noCds q.rs[i]:=List.getElem_set_self _
  rw [e] at hs
  exact satF_onlyPos (r:=noCds q.rs[i]) hs) hx
 have e2:(q.withRs (q.rs.set i (noCds q.rs[i]))).withRs ((q.withRs (q.rs.set i (noCds q.rs[i]))).rs.set i (onlyPos q.rs[i]))=q.withRs (q.rs.set i (onlyPos q.rs[i])):=by
  show Qy.withRs _ ((q.rs.set i _).set i _) = _
  rw [List.set_set]
  rfl
 rw [e2] at h
 exact h
def posA (l:List At):List At:=l.filter (fun a=>!a.neg)
theorem posA_one {l:List At} {k:Nat} (hk:k < l.length):posA (l.take (k + 1))=if l[k].neg=false then posA (l.take k) ++ [l[k]] else posA (l.take k):=by
 unfold posA
 rw [List.take_succ_eq_append_getElem hk,List.filter_append]
 rcases hn:l[k].neg with _ | _ <;> simp [hn]
theorem RwG.only {F:Nat→Prop} {w:World} {base n g cap i m cp b2:Nat} {P:Option Addr} {E E2:TypeId} {rs:List Rl} {css css3:List (List Value)} (hi:i < rs.length) (h:RwG rdRl F w base E (.slice (some ⟨g,0,none⟩) n cap) n (rs.set i (noCds rs[i])) css) (ho:RwF rdAt F w b2 E2 (.slice P m cp) m (posL rs[i]) css3) (hg:g < b2) (hb:b2≤w.heap.size) :
  ∃ css',RwG rdRl (fun k=>F k ∨ (Value.slice P m cp).ownBlock=some k) (w.setCell ⟨g,i * 2 + 0,none⟩ (.slice P m cp)) base E (.slice (some ⟨g,0,none⟩) n cap) n (rs.set i (onlyPos rs[i])) css':=by
 have hsep:∀ k,F k ∨ (Value.slice P m cp).ownBlock=some k→(Value.slice (some ⟨g,0,none⟩) n cap).ownBlock ≠ some k∧k < w.heap.size:=fun k hk=>by
  rcases hk with hk | hk
  ·exact h.sep k hk
  ·refine ⟨fun e=>?_,own_lt ho.own hk⟩
   have e2:some g=some k:=e
   injection e2 with e2
   have:=own_ge ho.own hk
   omega
 have h1:=h.wide (F':=fun k=>F k ∨ (Value.slice P m cp).ownBlock=some k) (fun k hk=>.inl hk) hsep
 have hl:i < (rs.set i (noCds rs[i])).length:=by rw [List.length_set];exact hi
 have hl':i < css.length:=by rw [h.len];exact hl
 have hat:Ats (fun k=>F k ∨ (Value.slice P m cp).ownBlock=some k) w (.slice P m cp) (posL rs[i]):=Sl.ats ((ho.g hb).sl (by decide) (fun k hk=>.inr hk) (fun k hk=>.inl hk))
 have hset:Fr (fun k=>k=g) w (w.setCell ⟨g,i * 2 + 0,none⟩ (.slice P m cp)):=(Fr.refl (fun k=>k=g) w).setCell (p:=⟨g,i * 2 + 0,none⟩) (.inl rfl) _
 have hr:=h.rd i hl hl'
 rw [List.getElem_set_self] at hr
 obtain ⟨u,v,e,-,k2⟩:=hr
 have h2:=h1.setc (j:=0) (u:=.slice P m cp) (x:=onlyPos rs[i]) hl hl' (by decide) (by
  rw [e]
  refine ⟨_,v,rfl,hat.fr hset (fun k hk e=>(hsep k hk).1 (by rw [e];rfl)),?_⟩
  exact (k2.mono (by decide) (fun k _ hk=>.inl hk)).fr hset (fun k hk e=>(hsep k hk).1 (by rw [e];rfl)))
 rw [List.set_set] at h2
 exact ⟨_,h2⟩
end Go.Proofs.YtplldnnnhgnbjaaGreatDoor
