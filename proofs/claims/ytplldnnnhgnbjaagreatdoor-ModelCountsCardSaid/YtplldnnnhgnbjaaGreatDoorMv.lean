/- packed -/
import Derived.Test.YtplldnnnhgnbjaaGreatDoorMv51
import Derived.Test.YtplldnnnhgnbjaaGreatDoorMv52
namespace Go.Proofs.YtplldnnnhgnbjaaGreatDoor.modelCounts
open Go.ChangeShapes Go.WideShapes Go.ChangeAt Go.RowKit Go.Joins Go.Deep
abbrev nilQs:List Value:=[.slice none 0 0,.int .i64 0,.string ⟨#[]⟩,.slice none 0 0,.slice none 0 0]
abbrev nilQd {H:Type}:DataW H:=.agg [.nil,.lit (.int .i64 0),.lit (.string []),.nil,.nil]
abbrev wargs:Array Value:=#[.slice none 0 0,.slice none 0 0,.agg nilQs.toArray]
theorem laid_met(os:Os):laidMet Tryz.prog Rows.modelCountsRow.laid ((lP os).forCall (fun _ _=>0) ⟨#[],wargs,[]⟩).memory :=
 laidMet_of_run' 100 (by kernel_rfl) (by kernel_rfl)
theorem reads(os:Os){H:Type}(enc:TypeId×Value→H):∃places,DataW.whole enc Tryz.prog ((lP os).forCall (fun _ _=>0) ⟨#[],wargs,[]⟩).memory Tryz.f7.params.toList Rows.modelCountsSpec.vars false wargs.toList 8=some ([.nil,.nil,nilQd],[],places) :=
 ⟨[],by kernel_rfl⟩
set_option maxRecDepth 100000 in
theorem lifted(os:Os)(sh:os.Started)(H:Type)(enc:TypeId×Value→H)(F:Stop.Interp) :
  ReturnsInHanded {} Tryz.checked os 7 .any ((OpenSpec.ofChange Rows.modelCountsSpec).preRow enc Tryz.prog Tryz.f7 Rows.modelCountsRow.domain false Rows.modelCountsRow.laid) (((OpenSpec.ofChange Rows.modelCountsSpec).at F).post enc Tryz.prog Tryz.f7 false true false false):=by
 obtain⟨sr,hx⟩:=reads os enc
 refine returnsInHanded_of_row (C:=Tryz.checked) (s:=OpenSpec.ofChange Rows.modelCountsSpec) own sh (by kernel_rfl) Tryz.func7
  (witness_row_at (enc:=enc) (C:=Tryz.checked) false (lP os) wargs rfl (by kernel_rfl) (by kernel_rfl) (by kernel_rfl)
   (OpenSpec.preRow_of_cond 8 hx (by kernel_rfl) (fun k hk=>by cases hk) (by kernel_rfl) (laid_met os))) ?_
 intro W base se ds gs sp si hW _ sw _ hL _ _
 have sg:∀(j:Nat) t v,Tryz.f7.params[j]?=some t→se[j]?=some v→Value.okWide Tryz.prog W .any base t v:=si
 have sq:eG W:=tab_of hL
 have sy:=hW
 obtain⟨p,q,sx,hV,rfl,sH,sI⟩:=hW
 have hA:DataW.TrodAll enc Tryz.prog W 0 (fun _=>true) true Tryz.f7.params.toList se.toList ds p:=sx
 rw[Tryz.params7]at hA sg
 obtain⟨v0,sJ,d0,sE,p0,q0,su,rfl,rfl,h0,r0⟩:=trodAll_cons hA
 obtain⟨v1,sK,d1,sF,p1,q1,rfl,rfl,rfl,h1,r1⟩:=trodAll_cons r0
 obtain⟨v2,sL,d2,sG,p2,q2,rfl,rfl,rfl,h2,r2⟩:=trodAll_cons r1
 obtain⟨rfl,rfl,rfl⟩:=trodAll_nil r2
 obtain rfl:se=#[v0,v1,v2]:=by cases se;simp_all
 obtain⟨rfl,rfl⟩:=trodVars_none hV
 have k0:=h0
 have sB:∀x∈p0,x.block<W.heap.size:=by obtain⟨m,hm⟩:=k0;exact DataW.trod_lt m _ _ _ hm
 have k1:=h1
 have sC:∀x∈p1,x.block<W.heap.size:=by obtain⟨m,hm⟩:=k1;exact DataW.trod_lt m _ _ _ hm
 have k2:=h2
 have sD:∀x∈p2,x.block<W.heap.size:=by obtain⟨m,hm⟩:=k2;exact DataW.trod_lt m _ _ _ hm
 obtain⟨S,U,A,B,O,ns,cs,nu,cu,ca,cb,co,ss,us,q,e0,e1,e2,sA⟩:=open_law (sg 0 22 v0 rfl rfl) (sg 1 23 v1 rfl rfl) (let ⟨cs,h,_⟩:=okWide_struct Tryz.underlying28 (sg 2 28 v2 rfl rfl);⟨cs,h⟩) h0 h1 h2 sq
 subst e0 e1 e2
 refine(counts_any sA).mono fun e W' hR=>?_
 obtain⟨he,rfl⟩:=hR
 have sj:Below W.heap.size W W':=he
 exact⟨_,rfl,_,_,_,[],_,[],sy,trodAll_mk1 (shut_bool Tryz.underlying4 _),(trodAll_cons_mk (Below.trod pZ (by kernel_rfl) (of_decide_eq_true (by kernel_rfl)) k0 sj sB) (trodAll_cons_mk (Below.trod pZ (by kernel_rfl) (of_decide_eq_true (by kernel_rfl)) k1 sj sC) (trodAll_cons_mk (Below.trod pZ (by kernel_rfl) (of_decide_eq_true (by kernel_rfl)) k2 sj sD) trodAll_mk0))),rfl,sj.frame _,fun h=>by cases h⟩
theorem said:Rows.ModelCountsSaid :=
 OpenClaim.holds_of_cond 7 Tryz.f7 rfl rfl rfl rfl rfl rfl rfl ⟨rfl,rfl,rfl,rfl,rfl⟩ rfl rfl rfl rfl rfl (by kernel_rfl) Tryz.func7 closed
  (of_decide_eq_true (by kernel_rfl)) (by unfold Func.isWrapper;first|(rw[if_pos (by decide +kernel)];kernel_rfl)|(rw[if_neg (by decide +kernel)];exact⟨rfl,rfl⟩))
  (fun os se H enc _ F=>by rw[OpenClaim.pre_eq_preRow];exact lifted os se H enc F)
theorem plain(f:FuncId)(fn:Func)(hf:Tryz.pinned.checked.prog.funcNamed "ordinal/ordinallaw23.ModelCounts" = some f)(sg:Tryz.pinned.checked.prog.funcs[f]?=some fn) :
  true=Tryz.pinned.checked.prog.looks []∧∀(j:Nat) t,fn.params[j]?=some t→Tryz.pinned.checked.prog.wantsStandIn t=false:=by
 obtain rfl:f=7:=Option.some.inj ((show Tryz.prog.funcNamed "ordinal/ordinallaw23.ModelCounts" = some 7 by kernel_rfl).symm.trans hf) |>.symm
 obtain rfl:fn=Tryz.f7:=(Option.some.inj (Tryz.func7.symm.trans sg)).symm
 refine⟨by kernel_rfl,fun j t ht=>?_⟩
 rw[Tryz.params7]at ht
 have hm:t∈[22,23,28]:=by simpa using Array.mem_of_getElem? ht
 have se:∀t∈[22,23,28],Tryz.prog.wantsStandIn t=false:=by decide +kernel
 exact se t hm
theorem proved:Rows.ModelCountsCardSaid :=
 Claim7.holds_tied_plain_at .later [] _ _ _ _ said (fun _ h=>by cases h) (by as_aux_lemma=>kernel_rfl) (fun _ h=>by cases h) modelCounts_row_tie (by as_aux_lemma=>rfl) ⟨rfl,rfl⟩ (by as_aux_lemma=>kernel_rfl) rfl plain (by as_aux_lemma=>kernel_rfl)
#print axioms proved
