/- packed -/
import Derived.Test.YtplldnnnhgnbjaaGreatDoorMv27
import Derived.Test.YtplldnnnhgnbjaaGreatDoorMv16
set_option maxRecDepth 20000
set_option maxHeartbeats 3200000
namespace Go.Proofs.YtplldnnnhgnbjaaGreatDoor
open Go.RowKit Go.Maps
structure mD(M:Dm):Prop where
 key:∀s x,M s=some x→s.size≤1000∧x.kinds.length≤1000
 so:∀s x,M s=some x→SoR x.rel.rows
 ln:∀s x,M s=some x→x.rel.rows.length≤1000000
 row:∀s x,M s=some x→∀r∈x.rel.rows,r.length=x.kinds.length∧∀v∈r,okV v=true∧VOk v
theorem kK{M:Dm}{s:ByteArray}{x:En}(h:M s=some x):aS M s=x.rel.rows:=by unfold aS;rw[h];rfl
theorem rL{l:List (List Vl)}(h:SoR l):l.Nodup:=List.Pairwise.imp (fun {a b} se e=>by
 subst e
 have:=bG.self a
 unfold dh at se this
 omega) h
section
variable {M:Dm} {r:Rl}
theorem ir(h:bC M r=0):(∀a∈r.ats,∃x,M a.rel=some x∧a.terms.length=x.kinds.length)∧(∀s∈aj r,lS r s=true)∧∀c∈r.cds,eI c=0:=by
 unfold bC at h
 split at h
 ·rename_i h1
  split at h
  ·rename_i h2
   refine⟨fun a ha=>?_,fun s hs=>jA.1 h2 s hs,aF.1 h⟩
   have h3:=aF.1 h1 a ha
   unfold dB at h3
   split at h3
   ·cases h3
   ·rename_i x hx
    split at h3
    ·rename_i h4
     exact⟨x,hx,h4⟩
    ·cases h3
  ·cases h
 ·rename_i h1
  exact absurd h h1
theorem dE(h:bC M r=0):eF (aj r) r where
 at':=fun a ha t ht h0=>by
  rw[cW]
  exact eE.2 ⟨t,jP _ (kP.2 ⟨a,ha,ht⟩),rfl,h0⟩
 cd:=fun c hc h0=>by
  rw[cW]
  exact eE.2 ⟨cdT c,zq _ (jG.2 ⟨c,hc,rfl⟩),rfl,h0⟩
 ne:=fun h1=>by
  rw[cW]at h1
  obtain⟨t,-,h2,h3⟩:=eE.1 h1
  exact h3 rfl
 nd:=by rw[cW];exact mB _
 bd:=fun s hs=>by
  have h1:=(ir h).2.1 s hs
  unfold lS at h1
  obtain⟨t,ht,h2⟩:=jM.1 h1
  unfold de at ht
  obtain⟨a,ha,se⟩:=List.mem_flatMap.1 ht
  by_cases hn:a.neg=true
  ·rw[if_pos hn]at se
   simp at se
  ·rw[if_neg hn]at se
   exact⟨a,jC.2 ⟨ha,by simpa using hn⟩,t,se,by simpa using h2⟩
theorem cX(hd:mD M)(h:bC M r=0){a:At}(ha:a∈r.ats):(∃x,M a.rel=some x)∧(∀x∈aS M a.rel,x.length=a.terms.length∧∀v∈x,okV v=true∧VOk v)∧(aS M a.rel).length≤1000000∧SoR (aS M a.rel):=by
 obtain⟨x,hx,hl⟩:=(ir h).1 a ha
 rw[kK hx]
 exact⟨⟨x,hx⟩,fun y hy=>⟨by rw[(hd.row _ _ hx y hy).1,hl],(hd.row _ _ hx y hy).2⟩,hd.ln _ _ hx,hd.so _ _ hx⟩
theorem ng_ok(hd:mD M)(h:bC M r=0){a:At}(ha:a∈r.ats)(hl:a.terms.length≤1000):NgOk (aj r).length (gi (aj r) M a):=by
 obtain⟨-,h1,h2,h3⟩:=cX hd h ha
 have hs:=dE h
 refine⟨h3,by simp[gi,bg],by simp[gi,bg];omega,jr h2 (by decide),fun x hx=>?_,fun c hc=>?_⟩
 ·have:=(h1 x hx).1
  omega
 ·obtain⟨t,ht,rfl⟩:=jG.1 hc
  by_cases h0:t.var=⟨#[]⟩
  ·have:dl (aj r) t.var = -1:=if_pos h0
   omega
  ·have hm:=hs.at' a ha t ht h0
   rw[cE h0 hm]
   have:=bR hm
   omega
theorem smL_mem{vars:List ByteArray}{cds:List Cd}{s:Sm}:∀{l:List At} {B:List Nat},s∈smL vars M cds l B→∃a∈l,∃B',s=rK vars M cds B' a []
 | [],_,h=>by simp[smL]at h
 | a::l,B,h=>by
  rcases jB.1 h with rfl|h
  ·exact⟨a,by simp,B,rfl⟩
  ·obtain⟨b,hb,B',e⟩:=smL_mem h
   exact⟨b,js _ hb,B',e⟩
theorem sm_ok(hd:mD M)(h:bC M r=0)(su:r.ats.length≤100)(si:∀a∈r.ats,a.terms.length≤1000):∀s∈smF (aj r) M r,SmOk (aj r).length s:=fun s hs=>by
 have sh:=dE h
 unfold smF at hs
 obtain⟨⟨t,i⟩,sr,rfl⟩:=jG.1 hs
 obtain⟨a,ha,B,rfl⟩:=smL_mem (List.fst_mem_of_mem_zipIdx sr)
 have se:=(lm ha).1
 obtain⟨-,h1,h2,-⟩:=cX hd h se
 have sg:=cA (aj r) B a.terms
 have hl:=ii B (bg (aj r) a.terms) a.terms.length
 have sw:=si a se
 refine⟨sg.l2,fun v hv=>?_,fun v hv=>?_,fun c hc=>⟨fun i hi=>?_,fun v hv=>?_⟩,fun g hg=>?_,?_,?_,?_,?_⟩
 ·obtain⟨-,t,ht,h3,rfl⟩:=(dJ (sh.at' a se)).1 hv
  exact bR (sh.at' a se t ht h3)
 ·obtain⟨i,hi⟩:=bY sg.l1 hv
  obtain⟨-,sq,h3,rfl⟩:=(qy (sh.at' a se)).1 hi
  exact bR (sh.at' a se _ (jf sq) h3)
 ·have sp:=(jC.1 hc).1
  rw[(h1 c sp).1]
  obtain⟨k,hk,rfl⟩:=jx hi
  have hz:=zip_at (s:=aR (aj r) B a.terms) sg.l2 (i:=k) (by rw[sg.l2];exact hk)
  exact((sg.fr _ _).1 hz).1
 ·exact((h1 c (jC.1 hc).1).2 v hv).2
 ·obtain⟨b,hb,rfl⟩:=jG.1 hg
  have sj:=(jC.1 (jC.1 hb).1).1
  exact ng_ok hd h sj (si b sj)
 ·exact jr (jF _ _) h2
 ·exact jr hl.2.2.2 (by omega)
 ·exact jr hl.1 (by omega)
 ·show ((iM (aj r) r (i+1)).map _).length≤_
  rw[jk]
  exact jr (jF _ _) (jr (jF _ _) (by omega))
theorem smF_len:(smF (aj r) M r).length≤r.ats.length:=by
 unfold smF
 rw[jk,List.length_zipIdx,mO]
 exact jF _ _
end
def dq(n:Nat):List Vl:=List.replicate n zv
theorem zRow_ok(n:Nat):∀v∈dq n,VOk v:=fun v hv=>by
 rw[(List.mem_replicate.1 hv).2]
 exact⟨by decide,by decide,by decide,by decide,by decide⟩
theorem zRow_at:∀(n i:Nat),(au (dq n))[i]?=if i<n*3 then (#[Value.int .i64 0,.int .i64 0,.string ⟨#[]⟩])[i % 3]? else none
 | 0,i=>by simp[dq,au]
 | n+1,i=>by
  have e1:au (dq (n+1))=Vl.cells zv++au (dq n):=rfl
  rcases jz i 3 with h|h
  ·rw[e1,zi (by exact h),if_pos (by omega),Nat.mod_eq_of_lt h]
   rcases(show i=0∨i=1∨i=2 by omega) with rfl|rfl|rfl <;> rfl
  ·rw[e1,zg (by exact h),show (Vl.cells zv).length=3 from rfl,zRow_at n (i-3)]
   by_cases h2:i<(n+1)*3
   ·rw[if_pos (by omega),if_pos h2,show i % 3=(i-3) % 3 by omega]
   ·rw[if_neg (by omega),if_neg h2]
theorem make_vals(n:Nat)(hn:n≤1000000)(w:World):(Instr.makeSlice 74 (.int .i64 (n:Int)) (.int .i64 (n:Int))).run Tryz.prog w=.ok (.slice (some ⟨w.heap.size,0,none⟩) n n) (w.alloc (.cells (au (dq n)).toArray 51)):=by
 obtain⟨i,hi,h1,h2,h3⟩:=info_parts ic
 have hr:=run_make (P:=Tryz.prog) w 74 51 i _ Tryz.underlying74 hi h1 .i64 .i64 n n (by omega) (by omega) (by rw[h3];omega) (by omega)
 rw[hr,jL,h2]
 have:madeCells (Value.cells (.agg #[.int .i64 0,.int .i64 0,.string ⟨#[]⟩])) (n*3)=(au (dq n)).toArray:=by
  have e:Value.cells (.agg #[.int .i64 0,.int .i64 0,.string ⟨#[]⟩])=#[.int .i64 0,.int .i64 0,.string ⟨#[]⟩]:=by rfl
  rw[e]
  refine Array.ext_getElem? (fun j=>?_)
  rw[show ((au (dq n)).toArray)[j]?=(au (dq n))[j]? from by simp,zRow_at]
  unfold madeCells
  rw[Array.getElem?_map,Array.getElem?_range]
  by_cases hj:j<n*3
  ·rw[if_pos hj,if_pos hj]
   have h8:j % 3<3:=Nat.mod_lt _ (by decide)
   rw[Array.getElem?_eq_getElem (show j % 3<(#[Value.int .i64 0,.int .i64 0,.string ⟨#[]⟩]).size from h8)]
   simp only[Option.map_some]
   exact congrArg some (getElem!_pos (#[Value.int .i64 0,.int .i64 0,.string ⟨#[]⟩]) (j % 3) h8)
  ·rw[if_neg hj,if_neg hj]
   rfl
 rw[this]
def mR(M:Dm)(r:Rl)(St:List (List Vl)→(Nat→Prop)→World→Prop)(L:List (List Vl))(O:Nat→Prop)(w:World)(e:Ending)(w':World):Prop :=
 e=.returned (.int .i64 (bC M r))∧∃L' O',St (L++L') O' w'∧Fr O w w'∧(∀q,O' q→O q∨w.heap.size≤q)∧((bC M r≠0∧L'=[])∨(bC M r=0∧L'.Nodup∧∀z,z∈L'↔z.length=(aj r).length∧eO M (aj r) r z))
theorem four_blk(w:World)(t u v x:TypeId)(cs ds es fs:List Value):Bk ((((w.alloc (.cells cs.toArray t)).alloc (.cells ds.toArray u)).alloc (.cells es.toArray v)).alloc (.cells fs.toArray x)) w.heap.size t cs∧Bk ((((w.alloc (.cells cs.toArray t)).alloc (.cells ds.toArray u)).alloc (.cells es.toArray v)).alloc (.cells fs.toArray x)) (w.heap.size+1) u ds∧Bk ((((w.alloc (.cells cs.toArray t)).alloc (.cells ds.toArray u)).alloc (.cells es.toArray v)).alloc (.cells fs.toArray x)) (w.heap.size+1+1) v es∧Bk ((((w.alloc (.cells cs.toArray t)).alloc (.cells ds.toArray u)).alloc (.cells es.toArray v)).alloc (.cells fs.toArray x)) (w.heap.size+1+1+1) x fs:=by
 obtain⟨h1,h2,h3⟩:=dN w t u v cs ds es
 refine⟨h1.alloc _,h2.alloc _,h3.alloc _,?_⟩
 have h:=Bk.new (((w.alloc (.cells cs.toArray t)).alloc (.cells ds.toArray u)).alloc (.cells es.toArray v)) x fs
 rw[show (((w.alloc (.cells cs.toArray t)).alloc (.cells ds.toArray u)).alloc (.cells es.toArray v)).heap.size=w.heap.size+1+1+1 by simp]at h
 exact h
theorem nF{F G H:Nat→Prop}{w wT:World}{sv vc:Value}{r:Rl}{b nb N fid:Nat}{caps:Array Value}{M:Dm}{St:List (List Vl)→(Nat→Prop)→World→Prop}{L:List (List Vl)}{O:Nat→Prop}(hA:Ats G w sv r.ats)(hC:Sl eL H w vc r.cds)(hD:DbB F w b nb M)(hz:RlZ r)(tI:r.ats.length≤90)(tJ:∀a∈r.ats,a.terms.length≤1000)(um:r.cds.length≤1000)(hd:mD M)(sO:eG wT)(hT:Ext wT w)(eg:∀args w,(callFunc fid args).run Tryz.prog w=.ok (.enter fid args) w)(hv:∀gx h1,w.heap.size≤gx→gx<h1→qp N fid caps gx (aj r).length wT h1 St)(ue:bC M r=0→∀L':List (List Vl),L'.Nodup→(∀z,z∈L'↔z.length=(aj r).length∧eO M (aj r) r z)→L.length+L'.length≤N)(hS:St L O w)(uh:∀q,O q→q<w.heap.size)(ug:∀q,O q→wT.heap.size≤q)(ud:∀q,F q→q<w.heap.size→¬O q) :
  Calls Tryz.prog 49 #[.agg #[sv,vc],.agg #[.map (some b)],.func (.func fid) #[] caps] w (mR M r St L O w):=by
 have uY:(aY r.ats).length≤90000:=by
  have:∀l:List At,(∀a∈l,a.terms.length≤1000)→(aY l).length≤l.length*1000:=by
   intro l
   induction l with
   | nil=>intro _;simp[aY]
   | cons a l ih =>
    intro h
    have h1:=h a (by simp)
    have h2:=ih (fun b hb=>h b (js _ hb))
    unfold aY at h2 ⊢
    rw[jS,jm,jD,Nat.add_mul]
    omega
  have h1:=this r.ats tJ
  have h2:r.ats.length*1000≤90*1000:=jW _ tI
  omega
 have tK:RlB r:=⟨hz,by omega,by omega,by omega⟩
 have uZ:(aj r).length≤91000:=by
  rw[cW]
  have h2:=cY (aY r.ats++r.cds.map cdT)
  simp only[jm,jk]at h2
  omega
 have sH:=zN (fun (V:World) (hV:Ext w V)=>mvalid_any (hA.ext hV) (hC.ext hV) (hD.ext hV) tK hd.key)
 have sI:=zN (fun (V:World) (hV:Ext w V)=>fN (hA.ext hV) (hC.ext hV) tK)
 obtain⟨Aa,na,ca,rfl⟩:∃A n c,sv=.slice A n c:=let ⟨A,c,e⟩:=hA.sl;⟨A,_,c,e⟩
 obtain⟨Ac,nc,cc,rfl⟩:∃A n c,vc=.slice A n c:=let ⟨A,c,e⟩:=hC.sl;⟨A,_,c,e⟩
 have k2:=dN w 46 33 126 [.slice Aa na ca,.slice Ac nc cc] [.map (some b)] [.func (.func fid) #[] caps]
 have hx:=(((Ext.refl w).alloc (.cells #[.slice Aa na ca,.slice Ac nc cc] 46)).alloc (.cells #[.map (some b)] 33)).alloc (.cells #[.func (.func fid) #[] caps] 126)
 have HA:=zN hA;have HC:=zN hC;have HD:=zN hD;have HZ:=zN hz;have sU:=zN tJ;have sx:=zN hd;have sG:=zN sO;have HT:=zN hT;have HV:=zN hv;have uL:=zN ue;have HS:=zN hS;have uN:=zN uh;have uO:=zN ug;have uD:=zN ud;have sP:=zN tI;have tU:=zN um
 obtain⟨ev,sM⟩:=sd (bC M r)
 rw[←sM]at sH
 have uC:=zN sM
 have sg:=zN (fun (V:World) (L':List (List Vl)) (O':Nat→Prop) (h1:St (L++L') O' V) (h2:Fr O w V) (h3:∀q,O' q→O q∨w.heap.size≤q) (h4:(ev≠0∧L'=[])∨(ev=0∧L'.Nodup∧∀z,z∈L'↔z.length=(aj r).length∧eO M (aj r) r z))=>(show mR M r St L O w (.returned (.int .i64 ev)) V from ⟨by rw[sM],L',O',h1,h2,h3,by rw[←sM];exact h4⟩))
 obtain⟨PP,ui⟩:=sd (mR M r St L O w)
 rw[←ui]at sg ⊢
 clear hA hC hD hz tI tJ um hd sO hT hv ue hS uh ug ud tK uY sM ui
 go_enter Tryz.func49,Tryz.ntmps49
 go_upto_region 1 with fail
 change Bk (((w.alloc (.cells #[.slice Aa na ca,.slice Ac nc cc] 46)).alloc (.cells #[.map (some b)] 33)).alloc (.cells #[.func (.func fid) #[] caps] 126)) _ _ _∧Bk (((w.alloc (.cells #[.slice Aa na ca,.slice Ac nc cc] 46)).alloc (.cells #[.map (some b)] 33)).alloc (.cells #[.func (.func fid) #[] caps] 126)) _ _ _∧Bk (((w.alloc (.cells #[.slice Aa na ca,.slice Ac nc cc] 46)).alloc (.cells #[.map (some b)] 33)).alloc (.cells #[.func (.func fid) #[] caps] 126)) _ _ _ at k2
 obtain⟨ka,kd,kv⟩:=k2
 generalize (((w.alloc (.cells #[.slice Aa na ca,.slice Ac nc cc] 46)).alloc (.cells #[.map (some b)] 33)).alloc (.cells #[.func (.func fid) #[] caps] 126))=w1 at *
 have a0:=ka.c0;have a1:=ka.c1;have d0:=kd.c0
 have ua:=zN hx;have uE:=zN ka;have uF:=zN kd;have uI:=zN kv
 have uV:=kv.lt
 clear hx ka kd kv
 go_wp2_with fail
 refine(sH.out _ ua.out).mono ?_
 rintro e w2 ⟨rfl,sC⟩
 have hx2:=ua.out.trans sC
 have ve:=zN hx2;have sy:=zN (uE.out.ext sC);have sE:=zN (uF.out.ext sC);have te:=zN (uI.out.ext sC)
 have vo:=sC.size
 clear a0 a1 d0 sC
 by_cases h0:ev=0
 ·subst h0
  have sT:bC M r=0:=uC.out.symm
  have a0:=sy.out.c0;have a1:=sy.out.c1;have d0:=sE.out.c0
  obtain⟨n,hn⟩:=sd ((aj r).length)
  rw[←hn]at uZ
  have sJ:=zN hn;have se:=zN sT
  clear sT
  go_wp2_with fail
  refine(sI.out _ hx2).mono ?_
  rintro e w3 ⟨y,rfl,sD,sq⟩
  obtain⟨Av,cv,rfl⟩:=af sq
  rw[←hn]at sq ⊢
  have hx3:=hx2.trans sD
  have ux:=Strs.ofn sq (Ext.refl _)
  have tQ:(aj r).length≤100000:=by have:=sJ.out;omega
  have sF:=zN (plan_any (HA.out.ext hx3) (HC.out.ext hx3) ((HD.out.mono (G:=fun k=>F k∧k<w.heap.size) (fun k h1 h2=>⟨h2,h1⟩)).ext hx3) ux (dE se.out) (fun a ha=>(cX sx.out se.out ha).1) (fun a ha=>(cX sx.out se.out ha).2.1) (fun a ha=>(cX sx.out se.out ha).2.2.1) (ir se.out).2.2 HZ.out (lq HZ.out) (by have:=sP.out;omega) sU.out tU.out tQ (sG.out.fore (HT.out.trans hx3)))
  have ub:=zN hx3;have sA:=zN (sy.out.ext sD);have sW:=zN (sE.out.ext sD);have tf:=zN (te.out.ext sD)
  have b0:=sA.out.c0;have b1:=sA.out.c1;have e0:=sW.out.c0
  have vp:=sD.size
  clear hn sq ux hx2 hx3 sD a0 a1 d0
  go_wp2_with fail
  refine sF.out.mono ?_
  rintro e w4 ⟨sL,SS,cs,FF,cf,rfl,tP,tO⟩
  obtain⟨ns,tN⟩:=sd ((smF (aj r) M r).length)
  obtain⟨nf,tM⟩:=sd (((iM (aj r) r 0).map (gi (aj r) M)).length)
  rw[←tN]at tP ⊢
  rw[←tM]at tO ⊢
  have hx4:=ub.out.trans sL
  have uW:=make_vals n (by omega)
  have sN:=tP.mono (G:=fun q=>((F q∧q<w.heap.size)∨w.heap.size≤q)∧q<w4.heap.size) (by decide) (fun q hq h2=>⟨h2.imp_right (fun h3=>by have:=ub.out.size;omega),hq⟩)
  have uQ:=zN sN;have uP:=zN tO;have uR:=zN hx4;have sV:=zN (sA.out.ext sL);have tg:=zN (tf.out.ext sL)
  have tB:=zN tN;have uM:=zN tM
  have vq:=sL.size
  have c1:=sV.out.c1
  clear tN tM tP sN tO hx4 sL b0 b1 e0
  go_upto_region 8 with fail
  have k4:=four_blk w4 215 51 74 222 [.slice SS ns cs] (au (dq n)) [.slice (some ⟨w4.heap.size+1,0,none⟩) n n] [.func (.func 115) #[] #[.pointer (some ⟨w4.heap.size+1+1,0,none⟩)]]
  change Bk ((((w4.alloc (.cells #[.slice SS ns cs] 215)).alloc (.cells (au (dq n)).toArray 51)).alloc (.cells #[.slice (some ⟨w4.heap.size+1,0,none⟩) n n] 74)).alloc (.cells #[.func (.func 115) #[] #[.pointer (some ⟨w4.heap.size+1+1,0,none⟩)]] 222)) _ _ _∧Bk ((((w4.alloc (.cells #[.slice SS ns cs] 215)).alloc (.cells (au (dq n)).toArray 51)).alloc (.cells #[.slice (some ⟨w4.heap.size+1,0,none⟩) n n] 74)).alloc (.cells #[.func (.func 115) #[] #[.pointer (some ⟨w4.heap.size+1+1,0,none⟩)]] 222)) _ _ _∧Bk ((((w4.alloc (.cells #[.slice SS ns cs] 215)).alloc (.cells (au (dq n)).toArray 51)).alloc (.cells #[.slice (some ⟨w4.heap.size+1,0,none⟩) n n] 74)).alloc (.cells #[.func (.func 115) #[] #[.pointer (some ⟨w4.heap.size+1+1,0,none⟩)]] 222)) _ _ _∧Bk ((((w4.alloc (.cells #[.slice SS ns cs] 215)).alloc (.cells (au (dq n)).toArray 51)).alloc (.cells #[.slice (some ⟨w4.heap.size+1,0,none⟩) n n] 74)).alloc (.cells #[.func (.func 115) #[] #[.pointer (some ⟨w4.heap.size+1+1,0,none⟩)]] 222)) _ _ _ at k4
  have hx5:Ext w4 ((((w4.alloc (.cells #[.slice SS ns cs] 215)).alloc (.cells (au (dq n)).toArray 51)).alloc (.cells #[.slice (some ⟨w4.heap.size+1,0,none⟩) n n] 74)).alloc (.cells #[.func (.func 115) #[] #[.pointer (some ⟨w4.heap.size+1+1,0,none⟩)]] 222)):=((((Ext.refl w4).alloc _).alloc _).alloc _).alloc _
  replace c1:=hx5.cell c1
  generalize ((((w4.alloc (.cells #[.slice SS ns cs] 215)).alloc (.cells (au (dq n)).toArray 51)).alloc (.cells #[.slice (some ⟨w4.heap.size+1,0,none⟩) n n] 74)).alloc (.cells #[.func (.func 115) #[] #[.pointer (some ⟨w4.heap.size+1+1,0,none⟩)]] 222))=w5 at *
  obtain⟨kS,kx,kX,kE⟩:=k4
  obtain⟨gE,uo⟩:=sd (w4.heap.size+1+1+1)
  obtain⟨gX,uv⟩:=sd (w4.heap.size+1+1)
  obtain⟨gx,uw⟩:=sd (w4.heap.size+1)
  obtain⟨gS,ut⟩:=sd w4.heap.size
  rw[←uo]at kE ⊢
  rw[←uv]at kX kE ⊢
  rw[←uw]at kx kX ⊢
  rw[←ut]at kS ⊢
  have vm:=kE.lt
  have vh:w4.heap.size≤gS∧gS<gx∧gx<gX∧gX<gE:=by omega
  have tT:(dq n).length=n:=by simp[dq]
  have sK:((iM (aj r) r 0).map (gi (aj r) M)).any (ngB (dq n))=iK M (aj r) r 0 (dq n):=bad_any (dE se.out) 0 (dq n)
  have tH:=mu kX (kJ kx tT) (uP.out.ext hx5) (fun g hg=>by
   obtain⟨a,ha,rfl⟩:=jG.1 hg
   have h2:=(jC.1 (jC.1 ha).1).1
   rw[sJ.out]
   exact ng_ok sx.out se.out h2 (sU.out a h2)) (by rw[uM.out,jk];exact jr (jF _ _) (jr (jF _ _) (by have:=sP.out;omega))) (show n≤1048576 by omega)
  rw[sK]at tH
  have tW:=zN tH
  obtain⟨z1,tR⟩:=sd (iK M (aj r) r 0 (dq n))
  rw[←tR]at tW
  have uc:=zN tR
  have uS:=zN (uR.out.trans hx5);have uH:=zN kS;have uK:=zN kx;have uJ:=zN kX;have uG:=zN kE;have th:=zN (tg.out.ext hx5)
  have tC:=zN (uQ.out.ext hx5)
  have m0:=kE.c0
  have vt:=hx5.size
  clear uW uo uv uw ut sK tH tR hx5 kS kx kX kE
  go_wp2_with fail
  refine tW.out.mono ?_
  rintro e w6 ⟨y9,rfl,sp,rfl⟩
  have hx6:=uS.out.trans sp
  replace c1:=sp.cell c1
  have sQ:=zN hx6;have ta:=zN (uH.out.ext sp);have tw:=zN (uK.out.ext sp);have tq:=zN (uJ.out.ext sp);have sX:=zN (uG.out.ext sp);have tj:=zN (th.out.ext sp);have tD:=zN (tC.out.ext sp)
  have vu:=sp.size
  have sw:Hid (∀V,Ext w V→(fW M (aj r) r (dq n)=true)→PP (.returned (.int .i64 0)) V):=zN (fun V hV hf=>sg.out V [] O (by rw[zG];exact(HV.out w.heap.size (w.heap.size+1) (jo _) (Nat.lt_succ_self _)).keep HS.out (hV.fr (fun _=>False)) (fun _ h=>h.elim)) (hV.fr _) (fun q hq=>.inl hq) (.inr ⟨by trivial,zC,fun z=>by
   constructor
   ·intro h;simp at h
   ·rintro⟨-,h⟩
    exact absurd h (nG (dE se.out) hf z)⟩))
  clear hx6 sp m0
  rcases z1 with _|_
  ·have tG:=qE (HC.out.ext sQ.out) (by
    have:=(HC.out.cap).1
    have:=tU.out
    omega)
   obtain⟨z2,tS⟩:=sd (r.cds.any nmB)
   rw[←tS]at tG
   have uB:=zN tG
   have tX:Hid (fW M (aj r) r (dq n)=z2):=zN (by
    unfold fW
    rw[←uc.out,Bool.false_or,tS]
    rfl)
   clear tS tG
   go_wp2_with fail
   refine uB.out.mono ?_
   rintro e w7 ⟨y9,rfl,sj,rfl⟩
   rcases z2 with _|_
   ·have hx7:=sQ.out.trans sj
    have uT:=zN hx7;have tc:=zN (ta.out.ext sj);have tz:=zN (tw.out.ext sj);have tt:=zN (tq.out.ext sj);have sY:=zN (sX.out.ext sj);have tn:=zN (tj.out.ext sj);have tE:=zN (tD.out.ext sj)
    have vw:=sj.size
    clear hx7 sj c1
    go_upto_region 11 with fail
    have kF:=Bk.new w7 226 [.nilFunc]
    change Bk (w7.alloc (.cells #[.nilFunc] 226)) _ _ _ at kF
    have hx8:Ext w7 (w7.alloc (.cells #[.nilFunc] 226)):=(Ext.refl w7).alloc _
    generalize (w7.alloc (.cells #[.nilFunc] 226))=w8 at *
    obtain⟨gF,uq⟩:=sd w7.heap.size
    rw[←uq]at kF ⊢
    have vn:=kF.lt
    have uU:w7.heap.size≤gF:=by omega
    have uy:=kF.set 0 (.func (.func 120) #[] #[.pointer (some ⟨gS,0,none⟩),.pointer (some ⟨w.heap.size+1+1,0,none⟩),.pointer (some ⟨gX,0,none⟩),.pointer (some ⟨gE,0,none⟩),.pointer (some ⟨gF,0,none⟩)])
    have tL:Fr (fun q=>q=gF) w8 (w8.setCell ⟨gF,0,none⟩ (.func (.func 120) #[] #[.pointer (some ⟨gS,0,none⟩),.pointer (some ⟨w.heap.size+1+1,0,none⟩),.pointer (some ⟨gX,0,none⟩),.pointer (some ⟨gE,0,none⟩),.pointer (some ⟨gF,0,none⟩)])):=(Fr.refl (fun q=>q=gF) w8).setCell (p:=⟨gF,0,none⟩) (.inl rfl) _
    have hx9:Ext w7 (w8.setCell ⟨gF,0,none⟩ (.func (.func 120) #[] #[.pointer (some ⟨gS,0,none⟩),.pointer (some ⟨w.heap.size+1+1,0,none⟩),.pointer (some ⟨gX,0,none⟩),.pointer (some ⟨gE,0,none⟩),.pointer (some ⟨gF,0,none⟩)])):=tL.new hx8 (fun q e=>by omega)
    obtain⟨v0,sT⟩:∃u,w8.cell? ⟨gF,0,none⟩=some u:=⟨_,kF.cell (by simp)⟩
    have f0:=kF.free 0
    have tY:=zN uy
    have uX:=tL.size
    have sR:=zN (uT.out.trans hx9);have td:=zN (tc.out.ext hx9);have tA:=zN (tz.out.ext hx9);have tu:=zN (tt.out.ext hx9);have sZ:=zN (sY.out.ext hx9);have tp:=zN (tn.out.ext hx9);have tF:=zN (tE.out.ext hx9)
    clear kF hx8 uq uy tL hx9
    go_upto_region 12 with fail
    generalize (w8.setCell ⟨gF,0,none⟩ (.func (.func 120) #[] #[.pointer (some ⟨gS,0,none⟩),.pointer (some ⟨w.heap.size+1+1,0,none⟩),.pointer (some ⟨gX,0,none⟩),.pointer (some ⟨gE,0,none⟩),.pointer (some ⟨gF,0,none⟩)]))=w9 at *
    clear sT f0
    have p0:=tY.out.c0
    try simp only[jh,ja]at p0
    have vy:w.heap.size+1+1<w1.heap.size:=uV
    have hI:ExI ⟨gS,w.heap.size+1+1,gX,gE,gF,gx⟩ (.func (.func fid) #[] caps) wT (fun q=>((F q∧q<w.heap.size)∨w.heap.size≤q)∧q<w9.heap.size∧q≠gx) w9.heap.size n (smF (aj r) M r) SS cs w9 O (dq n):=by
     have sB:∀q,w.heap.size≤q→¬O q:=fun q hq h=>by have:=uN.out q h;omega
     refine⟨by rw[←tB.out];exact td.out,tp.out,tu.out,sZ.out,by simpa using tY.out,?_,tA.out,tT,zRow_ok n,fun q hq=>⟨fun h=>?_,hq.2.2,hq.2.1⟩,sB _ (by show w.heap.size≤gS;omega),sB _ (by show w.heap.size≤w.heap.size+1+1;omega),sB _ (by show w.heap.size≤gX;omega),sB _ (by show w.heap.size≤gE;omega),sB _ (by show w.heap.size≤gF;omega),sB _ (by show w.heap.size≤gx;omega),jo _,⟨by show gS<_;omega,by show w.heap.size+1+1<_;omega,by show gX<_;omega,by show gE<_;omega,by show gF<_;omega,by show gx<_;omega⟩,HT.out.trans sR.out,uO.out,by show wT.heap.size≤gx;have:=HT.out.size;omega⟩
     ·rw[←tB.out]
      exact tF.out.mono (by decide) (fun q hq h2=>⟨h2.1,hq,by have:=h2.2;omega⟩)
     ·rcases hq.1 with h1|h1
      ·exact uD.out q h1.1 h1.2 h
      ·exact sB q h1 h
    have sr:=HV.out gx w9.heap.size (by omega) (by omega)
    rw[←sJ.out]at sr
    have sS:=rt (M:=M) (dE se.out) (fun a ha x hx=>((cX sx.out se.out ha).2.1 x hx).1) (fun a ha=>rL (cX sx.out se.out ha).2.2.2) (y:=dq n) (by rw[tT,sJ.out]) tX.out
    have sh:=extend_any (c:=⟨gS,w.heap.size+1+1,gX,gE,gF,gx⟩) eg sr (by rw[sJ.out];exact sm_ok sx.out se.out (by have:=sP.out;omega) sU.out) (by omega) (jr smF_len (by have:=sP.out;omega)) sG.out ns 0 (by rw[tB.out];omega) L O (dq n) w9 hI (sr.keep HS.out (sR.out.fr (fun _=>False)) (fun _ h=>h.elim)) (by rw[List.drop_zero,rI (dE se.out)];exact uL.out se.out _ sS.1 sS.2)
    rw[List.drop_zero,rI (dE se.out)]at sh
    have su:=zN sh
    clear hI sr sh
    have si:Calls Tryz.prog 120 #[.int .i64 0,.pointer (some ⟨gS,0,none⟩),.pointer (some ⟨w.heap.size+1+1,0,none⟩),.pointer (some ⟨gX,0,none⟩),.pointer (some ⟨gE,0,none⟩),.pointer (some ⟨gF,0,none⟩)] w9 _:=su.out
    have uA:=zN si
    have tZ:=zN sS
    clear si sS su
    go_wp2_with fail
    refine uA.out.mono ?_
    rintro e vd ⟨rfl,O',uk,-,un,uf⟩
    have HP:=zN (sg.out vd _ O' uk (Fr.comp (sR.out.fr O) un (fun q hq=>hq.imp_right (fun e=>by rw[e];show w.heap.size≤gx;omega))) (fun q hq=>(uf q hq).imp_right (fun h=>by have:=sR.out.size;omega)) (.inr ⟨by trivial,tZ.out.1,tZ.out.2⟩))
    clear uk un uf
    go_wp2_with fail
    exact HP.out
   ·have HP:=zN (sw.out w7 (sQ.out.trans sj) tX.out)
    clear sj c1
    go_wp2_with fail
    exact HP.out
  ·have HP:=zN (sw.out w6 sQ.out (by unfold fW;rw[←uc.out];rfl))
   clear c1
   go_wp2_with fail
   exact HP.out
 ·have g0:(ev != 0)=true:=bne_iff_ne.2 h0
  have hp:=sg.out w2 [] O (by rw[zG];exact(HV.out w.heap.size (w.heap.size+1) (jo _) (Nat.lt_succ_self _)).keep HS.out (hx2.fr (fun _=>False)) (fun _ h=>h.elim)) (hx2.fr _) (fun q hq=>.inl hq) (.inl ⟨h0,rfl⟩)
  have HP:=zN hp
  clear hp h0 hx2
  go_wp2_with fail
  exact HP.out
end Go.Proofs.YtplldnnnhgnbjaaGreatDoor
namespace Go.Proofs.YtplldnnnhgnbjaaGreatDoor
open Go.RowKit Go.Maps
def fB(rows:List (List Vl))(s:ByteArray):Bool:=rows.any (fun r=>decide (di r=s))
def iR(rows:List (List Vl)):ByteArray→Option Value:=fun s=>if fB rows s=true then some (.bool true) else none
def eR(rows:List (List Vl))(a:List Vl):List (List Vl):=if fB rows (di a)=true then rows else rows++[a]
theorem iC{rows:List (List Vl)}{a:List Vl}:fB rows (di a)=true↔a∈rows:=by
 unfold fB
 rw[jM]
 constructor
 ·rintro⟨r,hr,h⟩
  rw[decide_eq_true_eq,pW]at h
  exact h ▸ hr
 ·intro h
  exact⟨a,h,by simp⟩
theorem seenR_add{rows:List (List Vl)}{a:List Vl}{s:ByteArray}(hs:s=di a)(h:fB rows s=false):cI (iR rows) s (some (.bool true))=iR (rows++[a]):=by
 funext t
 unfold cI iR fB
 rw[List.any_append]
 by_cases e:t=s
 ·subst e
  rw[if_pos rfl]
  simp[hs]
 ·rw[if_neg e]
  have:decide (di a=t)=false:=decide_eq_false (fun h=>e (by rw[←h,hs]))
  simp[this]
def cB(cols:List Int)(rows0 L:List (List Vl)):List (List Vl):=(L.map (be cols)).foldl eR rows0
theorem mW(cols:List Int)(se L:List (List Vl))(y:List Vl):cB cols se (L++[y])=eR (cB cols se L) (be cols y):=by
 unfold cB
 rw[jH,zD]
 rfl
theorem addR_len(rows:List (List Vl))(a:List Vl):(eR rows a).length≤rows.length+1:=by
 unfold eR
 split
 ·omega
 ·rw[jm]
  exact jo _
theorem oO:∀(l rows:List (List Vl)),(l.foldl eR rows).length≤rows.length+l.length
 | [],_=>jo _
 | a::l,rows=>by
  have h1:=oO l (eR rows a)
  have h2:=addR_len rows a
  rw[zr,jD]
  omega
theorem fx(cols:List Int)(se L:List (List Vl)):(cB cols se L).length≤se.length+L.length:=by
 have h:=oO (L.map (be cols)) se
 rwa [jk]at h
theorem OwR.more2{F F':Nat→Prop}{w wb w9:World}{base n:Nat}{v v9 u:Value}{us:List Value}{rows:List (List Vl)}{x:List Vl}(h:OwR F w base v n us rows)(he:Ext w wb)(hx:Sl aM (fun k=>F' k∧v.ownBlock≠some k∧k<wb.heap.size) wb u x)(sg:∀k,F k→F' k)(hr:w9.ownsRow base 74 1 v9 (n+1) (us++[u]))(hg:wb.grownBy w9 v.ownBlock)(hv:df wb v v9):OwR F' w9 base v9 (n+1) (us++[u]) (rows++[x]):=by
 have hl:=h.len
 have h9:∀k,v.ownBlock≠some k→k<wb.heap.size→v9.ownBlock≠some k:=fun k hk si e=>by
  rcases hv with h|h
  ·exact hk (h ▸ e)
  ·rw[h]at e
   injection e with e
   omega
 have sj:=he.size
 refine⟨hr,by simp[hl],fun i hi sh=>?_⟩
 rcases jz i rows.length with se|se
 ·rw[jw se,jw (by omega)]
  exact((((h.rd i se (by omega)).mono (G:=fun k=>(F k∧v.ownBlock≠some k)∧k<w.heap.size) (by decide) (fun k hk hf=>⟨hf,hk⟩)).ext he).fr (am hg) (fun k hk e=>hk.1.2 e)).mono (by decide) (fun k _ hk=>⟨sg k hk.1.1,h9 k hk.1.2 (by omega)⟩)
 ·have e:i=rows.length:=by simp at hi;omega
  subst e
  rw[jv (jo _),jv (by omega)]
  simp only[hl,zm,ja]
  exact(hx.fr (am hg) (fun k hk e=>hk.2.1 e)).mono (by decide) (fun k _ hk=>⟨hk.1,h9 k hk.2.1 hk.2.2⟩)
structure pA(W:World)(base gh gs gr bm p c:Nat)(H:Option Addr)(G F:Nat→Prop)(cols:List Int)(rows:List (List Vl))(v:Value)(us:List Value):Prop where
 head:Bk W gh 63 [.slice H p c]
 cols:Ins G W (.slice H p c) cols
 seen:Bk W gs 121 [.map (some bm)]
 map:aI W bm rows.length (iR rows)
 box:Bk W gr 38 [v]
 own:OwR F W base v us.length us rows
 fm:¬F bm
 fr':¬F gr
 fG:∀q,G q→q≠bm∧q≠gr∧v.ownBlock≠some q∧q<W.heap.size
theorem pA.fr{W W':World}{S G F:Nat→Prop}{base gh gs gr bm p c:Nat}{H:Option Addr}{cols:List Int}{rows:List (List Vl)}{v:Value}{us:List Value}(h:pA W base gh gs gr bm p c H G F cols rows v us)(hf:Fr S W W')(h1:¬S gh)(h2:¬S gs)(h3:¬S gr)(h4:¬S bm)(h5:∀q,G q→¬S q)(h6:∀q,F q→¬S q)(h7:∀q,v.ownBlock=some q→¬S q):pA W' base gh gs gr bm p c H G F cols rows v us :=
 ⟨h.head.fr hf h1,h.cols.fr hf h5,h.seen.fr hf h2,h.map.fr hf h4,h.box.fr hf h3,h.own.fr hf h7 h6,h.fm,h.fr',fun q hq=>let ⟨a,b,c,d⟩:=h.fG q hq;⟨a,b,c,jE d hf.size⟩⟩
theorem pA.ext{W W':World}{G F:Nat→Prop}{base gh gs gr bm p c:Nat}{H:Option Addr}{cols:List Int}{rows:List (List Vl)}{v:Value}{us:List Value}(h:pA W base gh gs gr bm p c H G F cols rows v us)(he:Ext W W'):pA W' base gh gs gr bm p c H G F cols rows v us :=
 h.fr (he.fr (fun _=>False)) (fun h=>h) (fun h=>h) (fun h=>h) (fun h=>h) (fun _ _ h=>h) (fun _ _ h=>h) (fun _ _ h=>h)
def AnsPost(base gh gs gr bm p c:Nat)(H:Option Addr)(G F:Nat→Prop)(cols:List Int)(rows:List (List Vl))(v:Value)(W:World)(e:Ending)(W':World):Prop :=
 e=.returned (.tuple #[])∧∃F' v' us',pA W' base gh gs gr bm p c H G F' cols rows v' us'∧Fr (fun q=>q=bm∨q=gr∨v.ownBlock=some q) W W'∧(∀q,F' q→F q∨(W.heap.size≤q∧q<W'.heap.size))∧∀q,v'.ownBlock=some q→v.ownBlock=some q∨(W.heap.size≤q∧q<W'.heap.size)
theorem lM:(Tryz.prog.info? 74).map (fun i=>(i.zero,i.size,i.bytes))=some (some (.slice none 0 0),1,24):=by kernel_rfl
theorem ans_any{W:World}{G F:Nat→Prop}{base gh gs gr bm p c gx n:Nat}{H:Option Addr}{cols:List Int}{rows:List (List Vl)}{v:Value}{us:List Value}{y:List Vl}(h:pA W base gh gs gr bm p c H G F cols rows v us)(te:base≤W.heap.size)(hl:rows.length≤1048576)(hx:Bk W gx 51 (au y))(tp:y.length=n)(tj:∀v∈y,VOk v)(hc:∀x∈cols,0≤x∧x<(n:Int))(hp:p≤1000)(sx:eG W) :
  Calls Tryz.prog 50 #[.slice (some ⟨gx,0,none⟩) n n,.pointer (some ⟨gh,0,none⟩),.pointer (some ⟨gs,0,none⟩),.pointer (some ⟨gr,0,none⟩)] W (AnsPost base gh gs gr bm p c H G F cols (eR rows (be cols y)) v W):=by
 have sh:∀v∈be cols y,VOk v:=fun u hu=>by
  obtain⟨x,hx,rfl⟩:=jG.1 hu
  have h1:=hc x hx
  have h2:x.toNat<y.length:=by omega
  show VOk (y.getD x.toNat zv)
  rw[bA h2]
  exact tj _ (jf h2)
 have sF:(be cols y).length=p:=by
  obtain⟨A,c',e,-,-⟩:=h.cols
  injection e with e1 e2 e3
  rw[be,jk,e2]
 have sg:(di (be cols y)).size≤maxLen:=by
  rw[fH]
  have h2:=fF sh
  rw[sF]at h2
  have h3:p*1048700≤1000*1048700:=jW _ hp
  simp only[maxLen]
  omega
 have ta:=zN (ll (kJ hx tp) h.cols hc (by omega))
 obtain⟨A,c0,rfl⟩:=af h.own.own
 have r1:=h.head.c0;have r2:=h.seen.c0;have r3:=h.box.c0
 obtain⟨a,ha⟩:=sd (be cols y)
 rw[←ha]at sh sF sg ta ⊢
 obtain⟨nu,sE⟩:=sd us.length
 have tn:nu=rows.length:=by rw[sE];exact h.own.len
 rw[←sE]at r3 ⊢
 have HH:=zN h;have sM:=zN sx;have sN:=zN sh;have tc:=zN sF;have si:=zN sE;have tB:=zN tn
 obtain⟨i0,tf,tq,sU,sV⟩:=info_parts lM
 have sA:=zN (And.intro tf (And.intro tq (And.intro sU sV)))
 have tC:nu≤1048576:=by omega
 clear tf tq sU sV h hx tj hc sx sh sF tp ha sE tn
 go_enter Tryz.func50,Tryz.ntmps50
 go_wp2_with fail
 refine ta.out.mono ?_
 rintro e W1 ⟨sp,AP,cp,rfl,sG⟩
 have sj:=eM sG (by have:=tc.out;omega) sN.out (fun w2 h2=>sM.out w2 (sp.trans h2))
 rw[tc.out]at sj sG ⊢
 have tu:=zN sj;have tw:=zN sG;have tt:=zN sp
 replace r2:=sp.cell r2;replace r3:=sp.cell r3
 have sU:=sp.size
 clear sj sG sp r1
 go_wp2_with fail
 refine tu.out.mono ?_
 rintro e W2 ⟨_,rfl,sq,rfl⟩
 obtain⟨ks,sD⟩:=sd (di a)
 rw[show (⟨(eJ a).toArray⟩:ByteArray)=ks from sD.symm]
 rw[←sD]at sg
 have sJ:=zN sD
 replace r2:=sq.cell r2;replace r3:=sq.cell r3
 have sI:=zN (tt.out.trans sq)
 have se:=zN (HH.out.ext sI.out)
 have sL:=zN ((tw.out.mono (G:=fun k=>W.heap.size≤k∧k<W1.heap.size) (by decide) (fun k hk h=>⟨h,hk⟩)).ext sq)
 have sV:=sq.size
 clear sq sD
 rcases hb:fB rows ks with _|_
 ·have HB:=zN hb
  clear hb
  go_wp2_with (first
   | (at_lookup;refine ao rfl _ _ 121 4 rfl Tryz.underlying121 (.bool false) (bI _) bm rows.length (iR rows) rfl se.out.map ks rfl sg (.bool false) (by rw[iR,HB.out];rfl) ?_)
   | (at_mapUpdate;refine aN rfl _ _ _ 121 4 rfl Tryz.underlying121 bm rows.length (iR rows) rfl se.out.map (by simp only[maxLen];omega) ks (.bool true) rfl sg rfl ?_;intro W3 tg sr;have sZ:=zN tg;have sX:=zN sr;have sO:Bk W3 gr 38 [.slice A nu c0]:=(by have h9:=se.out.box;rw[←si.out]at h9;exact h9.fr (am sr) (fun e=>by injection e with e;exact se.out.map.ne se.out.box e.symm));have sQ:=se.out.own.fr (am sr) (fun k hk e=>by injection e with e;exact se.out.map.ne_own se.out.own.own hk e.symm) (fun k hk e=>by injection e with e;exact se.out.fm (e ▸ hk));rw[←si.out]at sQ;have sW:=zN sO;have sB:=zN sQ;have a0:=sO.c0;have tD:=sr.size;clear tg sr sO sQ r2 r3)
   | (at_builtin;refine aq rfl _ _ 38 rfl base 74 i0 (.slice none 0 0) 1 24 Tryz.underlying38 sA.out.1 sA.out.2.1 sA.out.2.2.1 sA.out.2.2.2 rfl (by omega) (.slice A nu c0) nu us rfl (sB.out.own.alloc _) ⟨W3.heap.size,0,none⟩ 1 1 [.slice AP p cp] rfl rfl (aE W3 _ _) (by simp[Value.oneCell']) (by simp only[maxLen];omega) (by omega) (by simp;omega) ?_;intro v9 W9 sS sP su;obtain⟨A9,c9,rfl⟩:=af sS;have sH:Bk W9 gr 38 [.slice A nu c0]:=Bk.fr (sW.out.alloc _) (am sP) (fun e=>aQ sB.out.own sW.out (by decide) e rfl);have b0:=sH.c0;have f0:=sH.free 0;have sK:=zN sS;have sy:=zN sP;have sY:=zN su;have td:=zN sH;clear sS sP su sH))
  have tE:bm<W.heap.size:=HH.out.map.lt
  have tF:gr<W.heap.size:=HH.out.box.lt
  have tA:=sy.out.size
  rw[World.size_alloc]at tA
  have e1:eR rows a=rows++[a]:=by rw[eR,←sJ.out,if_neg (by rw[HB.out];decide)]
  have sw:Fr (fun k=>k=gr) W9 (W9.setCell ⟨gr,0,none⟩ (.slice A9 (nu+1) c9)):=Fr.setCell (S:=fun k=>k=gr) (Fr.refl _ W9) (p:=⟨gr,0,none⟩) (.inl rfl) _
  have tz:∀k,(Value.slice A nu c0).ownBlock=some k→k<W.heap.size:=fun k hk=>aV (by have h9:=HH.out.own.own;rw[←si.out]at h9;exact h9) hk
  have sC:Fr (fun q=>q=bm∨q=gr∨(Value.slice A nu c0).ownBlock=some q) W2 (W9.setCell ⟨gr,0,none⟩ (.slice A9 (nu+1) c9)):=Fr.setCell (Fr.comp (((am sX.out).mono (T:=fun q=>q=bm∨q=gr∨(Value.slice A nu c0).ownBlock=some q) (fun k _ e=>.inl (by injection e with e;exact e.symm))).ext ((Ext.refl W3).alloc _)) (am sy.out) (fun k hk=>.inl (.inr (.inr hk)))) (.inl (.inr (.inl rfl))) _
  have su:∀q,(Value.slice A9 (nu+1) c9).ownBlock=some q→(Value.slice A nu c0).ownBlock=some q∨(W2.heap.size≤q∧q<W9.heap.size):=fun q hq=>by
   rcases sY.out with h|h
   ·exact .inl (h ▸ hq)
   ·have h3:=aV sK.out hq
    rw[h]at hq
    injection hq with hq
    rw[World.size_alloc]at hq
    right
    omega
  have sT:(W9.setCell ⟨gr,0,none⟩ (.slice A9 (nu+1) c9)).heap.size=W9.heap.size:=World.size_setCell _ _ _
  have hx3:Sl aM (fun k=>(F k∨(W.heap.size≤k∧k<W1.heap.size))∧(Value.slice A nu c0).ownBlock≠some k∧k<(W3.alloc (.cells #[.slice AP p cp] 74)).heap.size) (W3.alloc (.cells #[.slice AP p cp] 74)) (.slice AP p cp) a :=
   (((sL.out.fr (am sX.out) (fun k hk e=>by injection e with e;have:=hk.1;omega)).ext ((Ext.refl W3).alloc (.cells #[.slice AP p cp] 74)))).mono (by decide) (fun k h1 hk=>⟨.inr hk,fun e=>by have:=tz k e;have:=hk.1;omega,h1⟩)
  have sR:=OwR.more2 (F':=fun k=>F k∨(W.heap.size≤k∧k<W1.heap.size)) sB.out ((Ext.refl W3).alloc (.cells #[.slice AP p cp] 74)) hx3 (fun k hk=>.inl hk) sK.out sy.out sY.out
  refine bodyPost_end (results_none rfl _ _ _) rfl ⟨rfl,fun k=>F k∨(W.heap.size≤k∧k<W1.heap.size),.slice A9 (nu+1) c9,us++[.slice AP p cp],?_,?_,?_,?_⟩
  ·have th:∀{g:Nat} {t:TypeId} {l:List Value},Bk W2 g t l→t≠38→t≠74→¬(g=bm∨g=gr∨(Value.slice A nu c0).ownBlock=some g):=fun {g t l} hb h1 h2 e=>by
    rcases e with e|e|e
    ·exact se.out.map.ne hb e
    ·subst e
     exact(hb.ne se.out.box h1) rfl
    ·exact aQ (by have h9:=se.out.own.own;rw[←si.out]at h9;exact h9) hb (fun e=>h2 e.symm) e rfl
   rw[e1]
   refine⟨se.out.head.fr sC (th se.out.head (by decide) (by decide)),se.out.cols.fr sC (fun q hq e=>?_),se.out.seen.fr sC (th se.out.seen (by decide) (by decide)),?_,td.out.set 0 _,?_,?_,?_,fun q hq=>?_⟩
   ·have h9:=se.out.fG q hq
    rw[←si.out]at h9
    exact e.elim h9.1 (fun e=>e.elim h9.2.1 h9.2.2.1)
   ·rw[←seenR_add sJ.out HB.out,jm]
    exact((sZ.out.ext ((Ext.refl W3).alloc _)).fr (am sy.out) (fun e=>sZ.out.ne_own sB.out.own e rfl)).fr sw (fun e=>HH.out.map.ne HH.out.box e.symm)
   ·have h9:=sR.fr sw (fun k hk e=>by subst e;exact aQ sK.out td.out (by decide) hk rfl) (fun k hk e=>by
     subst e
     rcases hk with hk|hk
     ·exact HH.out.fr' hk
     ·omega)
    rw[show (us++[Value.slice AP p cp]).length=nu+1 by simp[si.out]]
    exact h9
   ·rintro(hk|hk)
    ·exact HH.out.fm hk
    ·omega
   ·rintro(hk|hk)
    ·exact HH.out.fr' hk
    ·omega
   ·have h9:=se.out.fG q hq
    rw[←si.out]at h9
    refine⟨h9.1,h9.2.1,fun e=>(su q e).elim h9.2.2.1 (fun h=>by have:=h9.2.2.2;omega),by have:=h9.2.2.2;rw[sT];omega⟩
  ·exact Fr.comp (sI.out.fr _) sC (fun k hk=>.inl hk)
  ·rintro q (hq|hq)
   ·exact .inl hq
   ·exact .inr ⟨hq.1,by rw[sT];omega⟩
  ·intro q hq
   exact(su q hq).imp_right (fun h=>⟨by omega,by rw[sT];exact h.2⟩)
 ·have HB:=zN hb
  clear hb
  go_wp2_with (first
   | (at_lookup;refine ao rfl _ _ 121 4 rfl Tryz.underlying121 (.bool false) (bI _) bm rows.length (iR rows) rfl se.out.map ks rfl sg (.bool true) (by rw[iR,HB.out];rfl) ?_))
  have e0:eR rows a=rows:=by rw[eR,←sJ.out,if_pos HB.out]
  refine bodyPost_end (results_none rfl _ _ _) rfl ⟨rfl,F,_,us,?_,sI.out.fr _,fun q hq=>.inl hq,fun q hq=>.inl hq⟩
  rw[e0]
  have h9:=se.out
  rwa [←si.out]at h9
def AnsSt(base gh gs gr bm p c:Nat)(H:Option Addr)(G:Nat→Prop)(cols:List Int)(rows0 L:List (List Vl))(O:Nat→Prop)(W:World):Prop :=
 ∃F v us,pA W base gh gs gr bm p c H G F cols (cB cols rows0 L) v us∧(∀q,O q→q<W.heap.size)∧O gh∧O gs∧O gr∧O bm∧(∀q,G q→O q)∧(∀q,F q→O q)∧∀q,v.ownBlock=some q→O q
theorem ans_vis{base gh gs gr bm p c gx n h1 N:Nat}{wT:World}{H:Option Addr}{G:Nat→Prop}{cols:List Int}{se:List (List Vl)}(sg:base≤wT.heap.size)(hN:se.length+N≤1048576)(hc:∀x∈cols,0≤x∧x<(n:Int))(hp:p≤1000)(sh:eG wT) :
  qp N 50 #[.pointer (some ⟨gh,0,none⟩),.pointer (some ⟨gs,0,none⟩),.pointer (some ⟨gr,0,none⟩)] gx n wT h1 (AnsSt base gh gs gr bm p c H G cols se) where
 lt:=fun ⟨_,_,_,_,h,_⟩=>h
 keep:=fun ⟨F,v,us,hB,h1,h2,h3,h4,h5,h6,h7,h8⟩ hf ht=>⟨F,v,us,hB.fr hf (fun h=>ht _ h h2) (fun h=>ht _ h h3) (fun h=>ht _ h h4) (fun h=>ht _ h h5) (fun q hq h=>ht _ h (h6 q hq)) (fun q hq h=>ht _ h (h7 q hq)) (fun q hq h=>ht _ h (h8 q hq)),fun q hq=>jE (h1 q hq) hf.size,h2,h3,h4,h5,h6,h7,h8⟩
 visit:=by
  rintro L O W y ⟨F,v,us,hB,h1,h2,h3,h4,h5,h6,h7,h8⟩ sr he hh hx hl sp su
  have sj:=fx cols se L
  refine(ans_any hB (jr sg he.size) (by omega) hx hl sp hc hp (fun w2 k2=>sh w2 (he.trans k2))).mono ?_
  rintro e W' ⟨rfl,F',v',sq,si,hf,hF,hv⟩
  have hz:=hf.size
  refine⟨rfl,fun q=>O q∨(W.heap.size≤q∧q<W'.heap.size),⟨F',v',sq,?_,?_,.inl h2,.inl h3,.inl h4,.inl h5,fun q hq=>.inl (h6 q hq),fun q hq=>?_,fun q hq=>?_⟩,hf.mono (fun q _ hq=>?_),fun q hq=>hq.imp_right (fun h=>h.1)⟩
  ·rw[mW]
   exact si
  ·rintro q (hq|hq)
   ·have:=h1 q hq;omega
   ·exact hq.2
  ·exact(hF q hq).imp_left (h7 q)
  ·exact(hv q hq).imp_left (h8 q)
  ·rcases hq with rfl|rfl|hq
   ·exact h5
   ·exact h4
   ·exact h8 q hq
end Go.Proofs.YtplldnnnhgnbjaaGreatDoor
namespace Go.Proofs.YtplldnnnhgnbjaaGreatDoor
open Go.RowKit Go.Maps
def l8(rows:List (List Vl))(gts:List Nat):ByteArray→Option Value:=fun s=>((rows.zip gts).find? (fun p=>decide (di p.1=s))).map (fun p=>.pointer (some ⟨p.2,0,none⟩))
theorem pv{rows:List (List Vl)}{gts:List Nat}{s:ByteArray}(h:fB rows s=false):l8 rows gts s=none:=by
 unfold l8
 rw[List.find?_eq_none.2 (fun p hp=>?_)]
 ·rfl
 ·have h1:=(List.of_mem_zip (show (p.1,p.2)∈_ from hp)).1
  intro h2
  have h3:fB rows s=true:=jM.2 ⟨p.1,h1,h2⟩
  rw[h]at h3
  cases h3
theorem l9:∀{rows:List (List Vl)} {gts:List Nat} {a:List Vl},gts.length=rows.length→a∈rows→∃i,∃(h1:i<rows.length) (h2:i<gts.length),rows[i]=a∧l8 rows gts (di a)=some (.pointer (some ⟨gts[i],0,none⟩))
 | [],_,_,_,h=>by cases h
 | r::rows,[],_,h,_=>by cases h
 | r::rows,g::gts,a,hl,h=>by
  by_cases e:r=a
  ·subst e
   refine⟨0,by simp,by simp,rfl,?_⟩
   unfold l8
   rw[List.zip_cons_cons,List.find?_cons_of_pos (by simp)]
   rfl
  ·have h1:a∈rows:=by
    rcases jB.1 h with h|h
    ·exact absurd h.symm e
    ·exact h
   obtain⟨i,k1,k2,k3,k4⟩:=l9 (rows:=rows) (gts:=gts) (by simpa using hl) h1
   refine⟨i+1,by simp;omega,by simp;omega,by simpa using k3,?_⟩
   unfold l8 at k4 ⊢
   rw[List.zip_cons_cons,List.find?_cons_of_neg (by simp only[decide_eq_true_eq,pW];exact e)]
   simpa using k4
theorem talR_add{rows:List (List Vl)}{gts:List Nat}{a:List Vl}{g:Nat}{s:ByteArray}(hs:s=di a)(hl:gts.length=rows.length)(h:fB rows s=false):cI (l8 rows gts) s (some (.pointer (some ⟨g,0,none⟩)))=l8 (rows++[a]) (gts++[g]):=by
 funext t
 unfold cI
 by_cases e:t=s
 ·subst e
  rw[if_pos rfl]
  have h1:=pv (gts:=gts) h
  unfold l8 at h1 ⊢
  rw[List.zip_append hl.symm,List.find?_append]
  rw[Option.map_eq_none_iff]at h1
  rw[h1]
  simp[hs]
 ·rw[if_neg e]
  unfold l8
  rw[List.zip_append hl.symm,List.find?_append]
  have:decide (di a=t)=false:=decide_eq_false (fun h=>e (by rw[←h,hs]))
  simp[this]
def pK(ν : List Vl→Nat)(a:List Vl):List Vl→Nat:=fun b=>ν b+if b=a then 1 else 0
def qd(u:Value)(n:Nat):List Value:=[u,.int .u64 (n:Int),.int .u64 0,.int .u64 0,.int .u64 0,.int .u64 0,.int .i64 0,.int .i64 0,.string ⟨#[]⟩,.int .i64 0,.int .i64 0,.string ⟨#[]⟩]
structure iJ(W:World)(base gh gs gr go bm p c:Nat)(H:Option Addr)(G F:Nat→Prop)(cols:List Int)(rows:List (List Vl))(v:Value)(us:List Value)(gts:List Nat)(ν : List Vl→Nat):Prop where
 head:Bk W gh 63 [.slice H p c]
 cols:Ins G W (.slice H p c) cols
 seen:Bk W gs 135 [.map (some bm)]
 map:aI W bm rows.length (l8 rows gts)
 box:Bk W gr 38 [v]
 opd:Bk W go 3 [.int .i64 (-1)]
 own:OwR F W base v us.length us rows
 gl:gts.length=rows.length
 tal:∀i (h:i<gts.length) (h1:i<us.length) (h2:i<rows.length),Bk W gts[i] 140 (qd us[i] (ν rows[i]))
 nd:gts.Nodup
 rn:rows.Nodup
 z:∀b,b ∉ rows→ν b=0
 vk:∀x∈rows,x.length=p∧∀v∈x,VOk v
 fm:¬F bm
 fr':¬F gr
 ft:∀g∈gts,¬F g
 fl:∀q,F q→q<W.heap.size
 fG:∀q,G q→q≠bm∧q≠gr∧q ∉ gts∧v.ownBlock≠some q∧q<W.heap.size
section
variable {W W':World} {S G F:Nat→Prop} {base gh gs gr go bm p c:Nat} {H:Option Addr} {cols:List Int} {rows:List (List Vl)} {v:Value} {us:List Value} {gts:List Nat} {ν : List Vl→Nat}
theorem iJ.tl(h:iJ W base gh gs gr go bm p c H G F cols rows v us gts ν){g:Nat}(hg:g∈gts):∃xs,Bk W g 140 xs:=by
 obtain⟨i,hi,rfl⟩:=jx hg
 have h1:=h.gl
 have h2:=h.own.len
 exact⟨_,h.tal i hi (by omega) (by omega)⟩
theorem iJ.fr(h:iJ W base gh gs gr go bm p c H G F cols rows v us gts ν)(hf:Fr S W W')(h1:¬S gh)(h2:¬S gs)(h3:¬S gr)(h4:¬S bm)(h0:¬S go)(h5:∀q,G q→¬S q)(h6:∀q,F q→¬S q)(h7:∀q,v.ownBlock=some q→¬S q)(h8:∀q,q∈gts→¬S q):iJ W' base gh gs gr go bm p c H G F cols rows v us gts ν :=
 ⟨h.head.fr hf h1,h.cols.fr hf h5,h.seen.fr hf h2,h.map.fr hf h4,h.box.fr hf h3,h.opd.fr hf h0,h.own.fr hf h7 h6,h.gl,fun i k1 k2 k3=>(h.tal i k1 k2 k3).fr hf (h8 _ (jf k1)),h.nd,h.rn,h.z,h.vk,h.fm,h.fr',h.ft,fun q hq=>jE (h.fl q hq) hf.size,fun q hq=>let ⟨a,b,c,d,e⟩:=h.fG q hq;⟨a,b,c,d,jE e hf.size⟩⟩
theorem iJ.ext(h:iJ W base gh gs gr go bm p c H G F cols rows v us gts ν)(he:Ext W W'):iJ W' base gh gs gr go bm p c H G F cols rows v us gts ν :=
 h.fr (he.fr (fun _=>False)) (fun h=>h) (fun h=>h) (fun h=>h) (fun h=>h) (fun h=>h) (fun _ _ h=>h) (fun _ _ h=>h) (fun _ _ h=>h) (fun _ _ h=>h)
theorem iJ.count{a:List Vl}{i:Nat}(h:iJ W base gh gs gr go bm p c H G F cols rows v us gts ν)(h1:i<gts.length)(h2:i<rows.length)(ha:rows[i]=a):iJ (W.setCell ⟨gts[i],1,none⟩ (.int .u64 ((ν a:Int)+1))) base gh gs gr go bm p c H G F cols rows v us gts (pK ν a):=by
 have h3:i<us.length:=by have:=h.own.len;omega
 have hb:=h.tal i h1 h3 h2
 have hf:Fr (fun k=>k=gts[i]) W (W.setCell ⟨gts[i],1,none⟩ (.int .u64 ((ν a:Int)+1))):=(Fr.refl (fun k=>k=gts[i]) W).setCell (p:=⟨gts[i],1,none⟩) (.inl rfl) _
 have hm:gts[i]∈gts:=jf h1
 refine⟨h.head.fr hf (h.head.ne hb (by decide)),h.cols.fr hf (fun q hq e=>(h.fG q hq).2.2.1 (e ▸ hm)),h.seen.fr hf (h.seen.ne hb (by decide)),h.map.fr hf (fun e=>h.map.ne hb e.symm),h.box.fr hf (h.box.ne hb (by decide)),h.opd.fr hf (h.opd.ne hb (by decide)),h.own.fr hf (fun k hk e=>aQ h.own.own hb (by decide) hk e) (fun k hk e=>h.ft _ hm (e ▸ hk)),h.gl,fun j k1 k2 k3=>?_,h.nd,h.rn,fun b hb=>?_,h.vk,h.fm,h.fr',h.ft,fun q hq=>jE (h.fl q hq) hf.size,fun q hq=>let ⟨a,b,c,d,e⟩:=h.fG q hq;⟨a,b,c,d,jE e hf.size⟩⟩
 ·by_cases e:j=i
  ·subst e
   have h9:=hb.set 1 (.int .u64 ((ν a:Int)+1))
   have e1:pK ν a rows[j]=ν a+1:=by unfold pK;rw[ha,if_pos rfl]
   rw[e1]
   exact h9
  ·have e1:pK ν a rows[j]=ν rows[j]:=by
    unfold pK
    rw[if_neg (fun e2=>e (lQ h.rn k3 h2 (e2.trans ha.symm))),Nat.add_zero]
   rw[e1]
   exact(h.tal j k1 k2 k3).fr hf (fun e2=>e (lQ h.nd k1 h1 e2))
 ·unfold pK
  rw[h.z b hb,if_neg (fun e=>hb (by rw[e,←ha];exact jf h2))]
end
def GrpPost(base gh gs gr go bm p c:Nat)(H:Option Addr)(G F:Nat→Prop)(cols:List Int)(rows:List (List Vl))(v:Value)(gts:List Nat)(ν : List Vl→Nat)(W:World)(e:Ending)(W':World):Prop :=
 e=.returned (.tuple #[])∧∃F' v' us' gts',iJ W' base gh gs gr go bm p c H G F' cols rows v' us' gts' ν∧Fr (fun q=>q=bm∨q=gr∨q∈gts∨v.ownBlock=some q) W W'∧(∀q,F' q→F q∨(W.heap.size≤q∧q<W'.heap.size))∧(∀q,v'.ownBlock=some q→v.ownBlock=some q∨(W.heap.size≤q∧q<W'.heap.size))∧∀q,q∈gts'→q∈gts∨(W.heap.size≤q∧q<W'.heap.size)
theorem oo(w:World):(zeroValue 136).run Tryz.prog w=.ok (.pointer none) w:=by kernel_rfl
theorem grp_any{W:World}{G F:Nat→Prop}{base gh gs gr go bm p c gx n:Nat}{H:Option Addr}{cols:List Int}{rows:List (List Vl)}{v:Value}{us:List Value}{gts:List Nat}{ν : List Vl→Nat}{y:List Vl}(h:iJ W base gh gs gr go bm p c H G F cols rows v us gts ν)(tN:base≤W.heap.size)(hl:rows.length≤1048576)(hν : ∀b,ν b≤1048576)(hx:Bk W gx 51 (au y))(tS:y.length=n)(tR:∀v∈y,VOk v)(hc:∀x∈cols,0≤x∧x<(n:Int))(hp:p≤1000)(sU:eG W) :
  Calls Tryz.prog 60 #[.slice (some ⟨gx,0,none⟩) n n,.pointer (some ⟨gh,0,none⟩),.pointer (some ⟨gs,0,none⟩),.pointer (some ⟨gr,0,none⟩),.pointer (some ⟨go,0,none⟩)] W (GrpPost base gh gs gr go bm p c H G F cols (eR rows (be cols y)) v gts (pK ν (be cols y)) W):=by
 have sj:∀v∈be cols y,VOk v:=fun u hu=>by
  obtain⟨x,hx,rfl⟩:=jG.1 hu
  have h1:=hc x hx
  have h2:x.toNat<y.length:=by omega
  show VOk (y.getD x.toNat zv)
  rw[bA h2]
  exact tR _ (jf h2)
 have ta:(be cols y).length=p:=by
  obtain⟨A,c',e,-,-⟩:=h.cols
  injection e with e1 e2 e3
  rw[be,jk,e2]
 have sg:(di (be cols y)).size≤maxLen:=by
  rw[fH]
  have h2:=fF sj
  rw[ta]at h2
  have h3:p*1048700≤1000*1048700:=jW _ hp
  simp only[maxLen]
  omega
 have tL:=zN (ll (kJ hx tS) h.cols hc (by omega))
 obtain⟨A,c0,rfl⟩:=af h.own.own
 have r1:=h.head.c0;have r2:=h.seen.c0;have r3:=h.box.c0;have r4:=h.opd.c0
 obtain⟨a,ha⟩:=sd (be cols y)
 rw[←ha]at sj ta sg tL ⊢
 obtain⟨nu,sG⟩:=sd us.length
 have tD:nu=rows.length:=by rw[sG];exact h.own.len
 rw[←sG]at r3 ⊢
 have HH:=zN h;have tt:=zN sU;have sI:=zN sj;have tn:=zN ta;have sp:=zN sG;have ui:=zN tD;have ue:=zN hν
 obtain⟨i0,tO,tT,tE,tF⟩:=info_parts lM
 have sW:=zN (And.intro tO (And.intro tT (And.intro tE tF)))
 have uy:nu≤1048576:=by omega
 clear tO tT tE tF h hx tR hc sU sj ta tS ha sG tD hν
 go_enter Tryz.func60,Tryz.ntmps60
 go_wp2_with fail
 refine tL.out.mono ?_
 rintro e W1 ⟨sw,AP,cp,rfl,tc⟩
 have sy:=eM tc (by have:=tn.out;omega) sI.out (fun w2 h2=>tt.out w2 (sw.trans h2))
 rw[tn.out]at sy tc ⊢
 have ub:=zN sy;have ug:=zN tc;have tX:=zN sw
 replace r2:=sw.cell r2;replace r3:=sw.cell r3;replace r4:=sw.cell r4
 have tE:=sw.size
 clear sy tc sw r1
 go_wp2_with fail
 refine ub.out.mono ?_
 rintro e W2 ⟨_,rfl,sx,rfl⟩
 obtain⟨ks,sZ⟩:=sd (di a)
 rw[show (⟨(eJ a).toArray⟩:ByteArray)=ks from sZ.symm]
 rw[←sZ]at sg
 have sC:=zN sZ
 replace r2:=sx.cell r2;replace r3:=sx.cell r3;replace r4:=sx.cell r4
 have tf:=zN (tX.out.trans sx)
 have su:=zN (HH.out.ext tf.out)
 have tq:=zN ((ug.out.mono (G:=fun k=>W.heap.size≤k∧k<W1.heap.size) (by decide) (fun k hk h=>⟨h,hk⟩)).ext sx)
 have tF:=sx.size
 clear sx sZ
 rcases hb:fB rows ks with _|_
 ·have HB:=zN hb
  have kt:=Bk.new W2 140 (qd (.slice AP p cp) 0)
  have hx3:=(Ext.refl W2).alloc (.cells (qd (.slice AP p cp) 0).toArray 140)
  clear hb
  go_upto_region 5 with (first
   | (at_lookup;refine ao rfl _ _ 135 136 rfl Tryz.underlying135 (.pointer none) (oo _) bm rows.length (l8 rows gts) rfl su.out.map ks rfl sg (.pointer none) (by rw[pv HB.out];rfl) ?_))
  change Bk (W2.alloc (.cells #[.slice AP p cp,.int .u64 0,.int .u64 0,.int .u64 0,.int .u64 0,.int .u64 0,.int .i64 0,.int .i64 0,.string ⟨#[]⟩,.int .i64 0,.int .i64 0,.string ⟨#[]⟩] 140)) _ _ _ at kt
  change Ext _ (W2.alloc (.cells #[.slice AP p cp,.int .u64 0,.int .u64 0,.int .u64 0,.int .u64 0,.int .u64 0,.int .i64 0,.int .i64 0,.string ⟨#[]⟩,.int .i64 0,.int .i64 0,.string ⟨#[]⟩] 140)) at hx3
  generalize (W2.alloc (.cells #[.slice AP p cp,.int .u64 0,.int .u64 0,.int .u64 0,.int .u64 0,.int .u64 0,.int .i64 0,.int .i64 0,.string ⟨#[]⟩,.int .i64 0,.int .i64 0,.string ⟨#[]⟩] 140))=W3 at *
  obtain⟨gt,sD⟩:=sd W2.heap.size
  rw[←sD]at kt ⊢
  replace r2:=hx3.cell r2;replace r3:=hx3.cell r3;replace r4:=hx3.cell r4
  have se:=zN (su.out.ext hx3);have uk:=zN hx3;have th:=zN kt;have ua:=zN sD
  have uf:=zN (tq.out.ext hx3)
  have uC:=hx3.size
  clear kt hx3 sD
  go_upto_region 7 with (first
   | (at_mapUpdate;refine aN rfl _ _ _ 135 136 rfl Tryz.underlying135 bm rows.length (l8 rows gts) rfl se.out.map (by simp only[maxLen];omega) ks (.pointer (some ⟨gt,0,none⟩)) rfl sg rfl ?_;intro W4 tP sL;have tK:=zN tP;have tI:=zN sL;have tu:Bk W4 gr 38 [.slice A nu c0]:=(by have h9:=se.out.box;rw[←sp.out]at h9;exact h9.fr (am sL) (fun e=>by injection e with e;exact se.out.map.ne se.out.box e.symm));have tB:=se.out.own.fr (am sL) (fun k hk e=>by injection e with e;exact se.out.map.ne_own se.out.own.own hk e.symm) (fun k hk e=>by injection e with e;exact se.out.fm (e ▸ hk));rw[←sp.out]at tB;have tG:=zN tu;have sX:=zN tB;have a0:=tu.c0;have uq:=sL.size;clear tP sL tu tB r2 r3)
   | (at_builtin;refine aq rfl _ _ 38 rfl base 74 i0 (.slice none 0 0) 1 24 Tryz.underlying38 sW.out.1 sW.out.2.1 sW.out.2.2.1 sW.out.2.2.2 rfl (by omega) (.slice A nu c0) nu us rfl (sX.out.own.alloc _) ⟨W4.heap.size,0,none⟩ 1 1 [.slice AP p cp] rfl rfl (aE W4 _ _) (by simp[Value.oneCell']) (by simp only[maxLen];omega) (by omega) (by simp;omega) ?_;intro v9 W9 tC tw sE;obtain⟨A9,c9,e9⟩:=af tC;subst e9;have td:Bk W9 gr 38 [.slice A nu c0]:=Bk.fr (tG.out.alloc _) (am tw) (fun e=>aQ sX.out.own tG.out (by decide) e rfl);have b0:=td.c0;have f0:=td.free 0;have tp:=zN tC;have sV:=zN tw;have tJ:=zN sE;have tM:=zN td;clear tC tw sE td))
  have ut:bm<W.heap.size:=HH.out.map.lt
  have uw:gr<W.heap.size:=HH.out.box.lt
  have uv:go<W.heap.size:=HH.out.opd.lt
  have tz:gt=W2.heap.size:=ua.out
  have tU:=sV.out.size
  rw[World.size_alloc]at tU
  have sh:a ∉ rows:=fun h=>by
   have h1:=iC.2 h
   rw[←sC.out,HB.out]at h1
   cases h1
  have e1:eR rows a=rows++[a]:=by rw[eR,←sC.out,if_neg (by rw[HB.out];decide)]
  have sB:Fr (fun k=>k=gr) W9 (W9.setCell ⟨gr,0,none⟩ (.slice A9 (nu+1) c9)):=Fr.setCell (S:=fun k=>k=gr) (Fr.refl _ W9) (p:=⟨gr,0,none⟩) (.inl rfl) _
  have tQ:∀k,(Value.slice A nu c0).ownBlock=some k→k<W.heap.size:=fun k hk=>aV (by have h9:=HH.out.own.own;rw[←sp.out]at h9;exact h9) hk
  have sq:Fr (fun q=>q=bm∨q=gr∨(Value.slice A nu c0).ownBlock=some q) W3 (W9.setCell ⟨gr,0,none⟩ (.slice A9 (nu+1) c9)):=Fr.setCell (Fr.comp (((am tI.out).mono (T:=fun q=>q=bm∨q=gr∨(Value.slice A nu c0).ownBlock=some q) (fun k _ e=>.inl (by injection e with e;exact e.symm))).ext ((Ext.refl W4).alloc _)) (am sV.out) (fun k hk=>.inl (.inr (.inr hk)))) (.inl (.inr (.inl rfl))) _
  have sE:∀q,(Value.slice A9 (nu+1) c9).ownBlock=some q→(Value.slice A nu c0).ownBlock=some q∨(W3.heap.size≤q∧q<W9.heap.size):=fun q hq=>by
   rcases tJ.out with h|h
   ·exact .inl (h ▸ hq)
   ·have h3:=aV tp.out hq
    rw[h]at hq
    injection hq with hq
    rw[World.size_alloc]at hq
    right
    omega
  have sH:(W9.setCell ⟨gr,0,none⟩ (.slice A9 (nu+1) c9)).heap.size=W9.heap.size:=World.size_setCell _ _ _
  have hx4:Sl aM (fun k=>(F k∨(W.heap.size≤k∧k<W1.heap.size))∧(Value.slice A nu c0).ownBlock≠some k∧k<(W4.alloc (.cells #[.slice AP p cp] 74)).heap.size) (W4.alloc (.cells #[.slice AP p cp] 74)) (.slice AP p cp) a :=
   (((uf.out.fr (am tI.out) (fun k hk e=>by injection e with e;have:=hk.1;omega)).ext ((Ext.refl W4).alloc (.cells #[.slice AP p cp] 74)))).mono (by decide) (fun k h1 hk=>⟨.inr hk,fun e=>by have:=tQ k e;have:=hk.1;omega,h1⟩)
  have sS:=OwR.more2 (F':=fun k=>F k∨(W.heap.size≤k∧k<W1.heap.size)) sX.out ((Ext.refl W4).alloc (.cells #[.slice AP p cp] 74)) hx4 (fun k hk=>.inl hk) tp.out sV.out tJ.out
  have sF:∀{g:Nat} {t:TypeId} {l:List Value},Bk W3 g t l→t≠38→t≠74→¬(g=bm∨g=gr∨(Value.slice A nu c0).ownBlock=some g):=fun {g t l} hb h1 h2 e=>by
   rcases e with e|e|e
   ·exact se.out.map.ne hb e
   ·subst e
    exact(hb.ne se.out.box h1) rfl
   ·exact aQ (by have h9:=se.out.own.own;rw[←sp.out]at h9;exact h9) hb (fun e=>h2 e.symm) e rfl
  have si:=th.out.fr sq (sF th.out (by decide) (by decide))
  have ho10:=se.out.opd.fr sq (sF se.out.opd (by decide) (by decide))
  have h10:iJ (W9.setCell ⟨gr,0,none⟩ (.slice A9 (nu+1) c9)) base gh gs gr go bm p c H G (fun k=>F k∨(W.heap.size≤k∧k<W1.heap.size)) cols (rows++[a]) (.slice A9 (nu+1) c9) (us++[.slice AP p cp]) (gts++[gt]) ν:=by
   have sM:=HH.out.gl
   have tD:=ui.out
   have sG:=sp.out
   refine⟨se.out.head.fr sq (sF se.out.head (by decide) (by decide)),se.out.cols.fr sq (fun q hq e=>?_),se.out.seen.fr sq (sF se.out.seen (by decide) (by decide)),?_,tM.out.set 0 _,ho10,?_,by simp[sM],fun i k1 k2 k3=>?_,?_,?_,fun b hb=>HH.out.z b (fun h=>hb (jP _ h)),fun x hx=>(ju.1 hx).elim (HH.out.vk x) (fun h=>by rw[jq.1 h];exact⟨tn.out,sI.out⟩),?_,?_,?_,?_,fun q hq=>?_⟩
   ·have h9:=se.out.fG q hq
    rw[←sp.out]at h9
    exact e.elim h9.1 (fun e=>e.elim h9.2.1 h9.2.2.2.1)
   ·rw[←talR_add sC.out sM HB.out,jm]
    exact((tK.out.ext ((Ext.refl W4).alloc _)).fr (am sV.out) (fun e=>tK.out.ne_own sX.out.own e rfl)).fr sB (fun e=>HH.out.map.ne HH.out.box e.symm)
   ·have h9:=sS.fr sB (fun k hk e=>by subst e;exact aQ tp.out tM.out (by decide) hk rfl) (fun k hk e=>by
     subst e
     rcases hk with hk|hk
     ·exact HH.out.fr' hk
     ·omega)
    rw[show (us++[Value.slice AP p cp]).length=nu+1 by simp[sG]]
    exact h9
   ·rcases jz i gts.length with hi|hi
    ·have h9:=se.out.tal i hi (by omega) (by omega)
     rw[jw hi,jw (by omega),jw (by omega)]
     exact h9.fr sq (sF h9 (by decide) (by decide))
    ·have e:i=gts.length:=by simp at k1;omega
     subst e
     rw[jv (jo _),jv (by omega),jv (by omega)]
     simp only[show gts.length-us.length=0 by omega,show gts.length-rows.length=0 by omega,zm,ja]
     rw[HH.out.z a sh]
     exact si
   ·rw[zF]
    refine⟨HH.out.nd,by simp,fun x hx y hy e=>?_⟩
    obtain⟨xs,hb⟩:=HH.out.tl hx
    have h1:=hb.lt
    have h2:=jq.1 hy
    omega
   ·rw[zF]
    refine⟨HH.out.rn,by simp,fun x hx y hy e=>?_⟩
    have h2:=jq.1 hy
    exact sh (h2 ▸ e ▸ hx)
   ·rintro(hk|hk)
    ·exact HH.out.fm hk
    ·omega
   ·rintro(hk|hk)
    ·exact HH.out.fr' hk
    ·omega
   ·intro g hg hk
    rcases ju.1 hg with hg|hg
    ·obtain⟨xs,hb⟩:=HH.out.tl hg
     have h1:=hb.lt
     rcases hk with hk|hk
     ·exact HH.out.ft g hg hk
     ·omega
    ·have h2:=jq.1 hg
     rcases hk with hk|hk
     ·have:=HH.out.fl _ hk;omega
     ·omega
   ·rintro q (hk|hk)
    ·have:=HH.out.fl q hk;rw[sH];omega
    ·rw[sH];omega
   ·have h9:=se.out.fG q hq
    have h8:=(HH.out.fG q hq).2.2.2.2
    rw[←sp.out]at h9
    refine⟨h9.1,h9.2.1,fun e=>(ju.1 e).elim h9.2.2.1 (fun e=>?_),fun e=>(sE q e).elim h9.2.2.2.1 (fun h=>by omega),by rw[sH];omega⟩
    have h2:=jq.1 e
    omega
  have sP:∀q,(Value.slice A9 (nu+1) c9).ownBlock=some q→(Value.slice A nu c0).ownBlock=some q∨(W.heap.size≤q∧q<(W9.setCell ⟨gr,0,none⟩ (.slice A9 (nu+1) c9)).heap.size):=fun q hq=>(sE q hq).imp_right (fun h=>⟨by omega,by rw[sH];exact h.2⟩)
  have sJ:Fr (fun q=>q=bm∨q=gr∨q∈gts∨(Value.slice A nu c0).ownBlock=some q) W (W9.setCell ⟨gr,0,none⟩ (.slice A9 (nu+1) c9)):=Fr.comp ((tf.out.trans uk.out).fr _) sq (fun k hk=>.inl (hk.imp id (Or.imp id .inr)))
  have sT:W3.heap.size≤(W9.setCell ⟨gr,0,none⟩ (.slice A9 (nu+1) c9)).heap.size:=by rw[sH];omega
  have tg:Hid (W.heap.size≤gt∧gt<W3.heap.size):=zN ⟨by omega,th.out.lt⟩
  have tW:=zN h10;have uc:=zN sP;have tZ:=zN sJ;have uh:=zN sT;have te:=zN sh;have tY:=zN e1
  have sN:=si.cell (i:=1) (by simp[qd]);have sO:=si.free 1
  change _=some (Value.int .u64 0) at sN
  have uA:=ho10.c0
  have tj:=zN ho10
  clear ut uw uv tz tU sh e1 sB tQ sq sE sH hx4 sS sF si ho10 h10 sP sJ sT a0 b0 f0 r4 uq
  generalize (W9.setCell ⟨gr,0,none⟩ (.slice A9 (nu+1) c9))=W10 at *
  have sY:go≠gt:=by have:=HH.out.opd.lt;have:=tg.out;omega
  have ho11:=tj.out.fr ((Fr.refl (fun k=>k=gt) W10).setCell (p:=⟨gt,1,none⟩) (.inl rfl) (.int .u64 1)) sY
  have sR:=ho11.c0
  go_wp2_with fail
  have sM:=HH.out.gl
  have sr:=tW.out.count (a:=a) (i:=gts.length) (by simp) (by simp[sM]) (by rw[jv (by omega)];simp only[sM,zm,ja])
  rw[jv (jo _),HH.out.z a te.out]at sr
  simp only[zm,ja]at sr
  change iJ (W10.setCell ⟨gt,1,none⟩ (.int .u64 1)) _ _ _ _ _ _ _ _ _ _ _ _ _ _ _ _ _ at sr
  have sA:(W10.setCell ⟨gt,1,none⟩ (.int .u64 1)).heap.size=W10.heap.size:=World.size_setCell _ _ _
  have um:=tg.out.1;have ux:=tg.out.2;have uB:=uh.out
  refine bodyPost_end (results_none rfl _ _ _) rfl ⟨rfl,fun k=>F k∨(W.heap.size≤k∧k<W1.heap.size),.slice A9 (nu+1) c9,us++[.slice AP p cp],gts++[gt],by rw[tY.out];exact sr,?_,?_,fun q hq=>?_,fun q hq=>?_⟩
  ·exact Fr.comp tZ.out ((Fr.refl (fun k=>k=gt) W10).setCell (p:=⟨gt,1,none⟩) (.inl rfl) _) (fun k hk=>.inr (hk ▸ um))
  ·rintro q (hq|hq)
   ·exact .inl hq
   ·exact .inr ⟨hq.1,by rw[sA];omega⟩
  ·rw[sA]
   exact uc.out q hq
  ·rcases ju.1 hq with hq|hq
   ·exact .inl hq
   ·have:=jq.1 hq
    exact .inr ⟨by omega,by rw[sA];omega⟩
 ·have sQ:a∈rows:=iC.1 (by rw[←sC.out];exact hb)
  obtain⟨i,j1,j2,j3,j4⟩:=l9 HH.out.gl sQ
  rw[←sC.out]at j4
  have HB:=zN hb;have HJ:=zN j4
  have sr:=su.out.count j2 j1 j3
  have sK:=su.out.tal i j2 (by have:=HH.out.own.len;omega) j1
  rw[j3]at sK
  have sN:=sK.cell (i:=1) (by simp[qd]);have sO:=sK.free 1
  change _=some (Value.int .u64 (ν a:Int)) at sN
  have tA:gts[i]∈gts:=jf j2
  have sY:go≠gts[i]:=su.out.opd.ne sK (by decide)
  obtain⟨gt,sD⟩:=sd (gts[i])
  rw[←sD]at sr sN sO tA sY HJ
  have un:=ue.out a
  have uo:IntKind.u64.wrap ((ν a:Int)+1)=(ν a:Int)+1:=by simp only[IntKind.wrap,IntKind.signed,IntKind.bits];simp;omega
  have ho11:=su.out.opd.fr ((Fr.refl (fun k=>k=gt) W2).setCell (p:=⟨gt,1,none⟩) (.inl rfl) (.int .u64 ((ν a:Int)+1))) sY
  have sR:=ho11.c0
  have tH:=zN sr;have ud:=zN tA
  obtain⟨k,hk⟩:∃k:Int,k=(ν a:Int):=⟨_,rfl⟩
  rw[←hk]at sN uo sR tH
  clear hb sQ j1 j2 j3 j4 sr sK tA sD un ho11 hk
  go_wp2_with (first
   | (at_lookup;refine ao rfl _ _ 135 136 rfl Tryz.underlying135 (.pointer none) (oo _) bm rows.length (l8 rows gts) rfl su.out.map ks rfl sg (.pointer (some ⟨gt,0,none⟩)) (by rw[HJ.out];rfl) ?_))
  have e0:eR rows a=rows:=by rw[eR,←sC.out,if_pos HB.out]
  refine bodyPost_end (results_none rfl _ _ _) rfl ⟨rfl,F,_,us,gts,?_,Fr.comp (tf.out.fr _) ((Fr.refl (fun k=>k=gt) W2).setCell (p:=⟨gt,1,none⟩) (.inl rfl) _) (fun q hq=>.inl (hq ▸ .inr (.inr (.inl ud.out)))),fun q hq=>.inl hq,fun q hq=>.inl hq,fun q hq=>.inl hq⟩
  rw[e0]
  have h9:=tH.out
  rwa [←sp.out]at h9
def mF(cols:List Int)(L:List (List Vl))(a:List Vl):Nat:=((L.map (be cols)).filter (fun b=>decide (b=a))).length
theorem cntL_snoc(cols:List Int)(L:List (List Vl))(y:List Vl):mF cols (L++[y])=pK (mF cols L) (be cols y):=by
 funext a
 unfold mF pK
 rw[jH,jK,jm]
 by_cases e:be cols y=a
 ·rw[if_pos e.symm]
  simp[e]
 ·rw[if_neg (fun h=>e h.symm)]
  simp[e]
theorem cntL_le(cols:List Int)(L:List (List Vl))(a:List Vl):mF cols L a≤L.length:=by
 have h:=jF (fun b=>decide (b=a)) (L.map (be cols))
 rwa [jk]at h
def oG(base gh gs gr go bm p c:Nat)(H:Option Addr)(G:Nat→Prop)(cols:List Int)(L:List (List Vl))(O:Nat→Prop)(W:World):Prop :=
 ∃F v us gts,iJ W base gh gs gr go bm p c H G F cols (cB cols [] L) v us gts (mF cols L)∧(∀q,O q→q<W.heap.size)∧O gh∧O gs∧O gr∧O go∧O bm∧(∀q,G q→O q)∧(∀q,F q→O q)∧(∀q,v.ownBlock=some q→O q)∧∀q,q∈gts→O q
theorem grp_vis{base gh gs gr go bm p c gx n h1 N:Nat}{wT:World}{H:Option Addr}{G:Nat→Prop}{cols:List Int}(se:base≤wT.heap.size)(hN:N≤1048576)(hc:∀x∈cols,0≤x∧x<(n:Int))(hp:p≤1000)(si:eG wT) :
  qp N 60 #[.pointer (some ⟨gh,0,none⟩),.pointer (some ⟨gs,0,none⟩),.pointer (some ⟨gr,0,none⟩),.pointer (some ⟨go,0,none⟩)] gx n wT h1 (oG base gh gs gr go bm p c H G cols) where
 lt:=fun ⟨_,_,_,_,_,h,_⟩=>h
 keep:=fun ⟨F,v,us,gts,hB,h1,h2,h3,h4,h0,h5,h6,h7,h8,h9⟩ hf ht=>⟨F,v,us,gts,hB.fr hf (fun h=>ht _ h h2) (fun h=>ht _ h h3) (fun h=>ht _ h h4) (fun h=>ht _ h h5) (fun h=>ht _ h h0) (fun q hq h=>ht _ h (h6 q hq)) (fun q hq h=>ht _ h (h7 q hq)) (fun q hq h=>ht _ h (h8 q hq)) (fun q hq h=>ht _ h (h9 q hq)),fun q hq=>jE (h1 q hq) hf.size,h2,h3,h4,h0,h5,h6,h7,h8,h9⟩
 visit:=by
  rintro L O W y ⟨F,v,us,gts,hB,h1,h2,h3,h4,h0,h5,h6,h7,h8,h9⟩ sr he hh hx hl sp su
  have sh:=fx cols [] L
  rw[jQ]at sh
  refine(grp_any hB (jr se he.size) (by omega) (fun b=>by have:=cntL_le cols L b;omega) hx hl sp hc hp (fun w2 k2=>si w2 (he.trans k2))).mono ?_
  rintro e W' ⟨rfl,F',v',sq,sg,sj,hf,hF,hv,hg⟩
  have hz:=hf.size
  refine⟨rfl,fun q=>O q∨(W.heap.size≤q∧q<W'.heap.size),⟨F',v',sq,sg,?_,?_,.inl h2,.inl h3,.inl h4,.inl h0,.inl h5,fun q hq=>.inl (h6 q hq),fun q hq=>?_,fun q hq=>?_,fun q hq=>?_⟩,hf.mono (fun q _ hq=>?_),fun q hq=>hq.imp_right (fun h=>h.1)⟩
  ·rw[mW,cntL_snoc]
   exact sj
  ·rintro q (hq|hq)
   ·have:=h1 q hq;omega
   ·exact hq.2
  ·exact(hF q hq).imp_left (h7 q)
  ·exact(hv q hq).imp_left (h8 q)
  ·exact(hg q hq).imp_left (h9 q)
  ·rcases hq with rfl|rfl|hq|hq
   ·exact h5
   ·exact h4
   ·exact h9 q hq
   ·exact h8 q hq
end Go.Proofs.YtplldnnnhgnbjaaGreatDoor
