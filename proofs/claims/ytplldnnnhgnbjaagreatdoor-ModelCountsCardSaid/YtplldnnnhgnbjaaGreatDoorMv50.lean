/- packed -/
import Derived.Test.YtplldnnnhgnbjaaGreatDoorMv48
import Derived.Test.YtplldnnnhgnbjaaGreatDoorMv49
import Derived.Test.YtplldnnnhgnbjaaGreatDoorMv33
import Derived.Test.YtplldnnnhgnbjaaGreatDoorMv34
import Derived.Test.YtplldnnnhgnbjaaGreatDoorMv39
import Derived.Test.YtplldnnnhgnbjaaGreatDoorCards
import Derived.Test.YtplldnnnhgnbjaaGreatDoorTie
import Derived.Lib.LaidTab
set_option maxRecDepth 100000
set_option maxHeartbeats 12800000
namespace Go.Proofs.YtplldnnnhgnbjaaGreatDoor
open Go.RowKit Go.Maps
structure RwG{α : Type}(r:Rdg α)(F:Nat→Prop)(w:World)(base:Nat)(E:TypeId)(v:Value)(n:Nat)(xs:List α)(css:List (List Value)):Prop where
 len:css.length=xs.length
 own:w.ownsRow base E r.sz v n css.flatten
 rd:∀i (h:i<xs.length) (h':i<css.length),r.R F w css[i] xs[i]
 sep:∀k,F k→v.ownBlock≠some k∧k<w.heap.size
section
variable {α : Type} {r:Rdg α} {F F' S:Nat→Prop} {w w' wb w9:World} {base n:Nat} {E:TypeId} {v v9:Value} {xs:List α} {css:List (List Value)} {cs:List Value} {x : α}
theorem RwG.empty:RwG r (fun _=>False) w base E (.slice none 0 0) 0 [] []:=⟨rfl,World.ownsRow_nil _ _ _ _,fun i h=>by simp at h,fun _ h=>h.elim⟩
theorem own_num{sz:Nat}(hs : 0<sz)(h:w.ownsRow base E sz v n css.flatten)(hl:∀cs∈css,cs.length=sz):n=css.length:=by
 have h1:=h.1
 rw[gZ hl]at h1
 exact(Nat.mul_right_cancel hs h1).symm
theorem RwG.sl{G:Nat→Prop}(h:RwG r F w base E v n xs css)(hp : 0<r.sz)(hG:∀k,v.ownBlock=some k→G k)(hF:∀k,F k→G k):Sl r G w v xs:=by
 have se:∀cs∈css,cs.length=r.sz:=fun cs si=>by
  obtain⟨i,hi,rfl⟩:=jx si
  exact r.len (h.rd i (by rw[←h.len];exact hi) hi)
 have hn:=own_num hp h.own se
 obtain⟨hl,ho,hr,-⟩:=h
 rw[hl]at hn
 subst hn
 rcases ho.2 with ⟨e,h0⟩|⟨g,cap,sh,e,k1,k2,k3,k4,k5,k6⟩
 ·subst e
  have hx:xs=[]:=jZ h0
  subst hx
  exact Sl.nil _ _ _
 ·subst e
  refine⟨_,_,rfl,k3,fun i hi=>?_⟩
  have sg:i<css.length:=by omega
  have sj:css[i].length=r.sz:=se _ (jf sg)
  refine⟨_,css[i],rfl,hG g rfl,r.mono (hr i hi sg) (fun k _ hk=>hF k hk),fun j hj=>?_⟩
  rw[cJ]
  have h1:=dW se sg (j:=j) (by omega)
  rw[jl hj,←k6]at h1
  have h9:sh.toList[i*r.sz+j]?=some css[i][j]:=by
   rw[List.getElem?_take]at h1
   split at h1
   ·exact h1
   ·cases h1
  rw[Array.getElem?_toList]at h9
  simp[World.cell?,k2,h9]
theorem RwG.more(h:RwG r F w base E v n xs css)(he:Ext w wb)(ht:r.R F' wb cs x)(sh:∀k,F k→F' k)(hF:∀k,F' k→v.ownBlock≠some k∧k<wb.heap.size)(hr:w9.ownsRow base E r.sz v9 (n+1) (css.flatten++cs))(hg:wb.grownBy w9 v.ownBlock)(hl:df wb v v9):RwG r F' w9 base E v9 (n+1) (xs++[x]) (css++[cs]):=by
 have sg:=h.len
 refine⟨by simp[sg],by rw[List.flatten_append,List.flatten_cons,List.flatten_nil,zG];exact hr,fun i hi si=>?_,fun k hk=>⟨fun e=>?_,jE (hF k hk).2 hg.size⟩⟩
 ·rcases jz i xs.length with se|se
  ·rw[jw se,jw (by omega)]
   exact r.mono (r.fr (r.ext (h.rd i se (by omega)) he) (am hg) (fun k hk e=>(h.sep k hk).1 e)) (fun k _ hk=>sh k hk)
  ·have e:i=xs.length:=by simp at hi;omega
   subst e
   rw[jv (jo _),jv (by omega)]
   simp only[sg,zm,ja]
   exact r.fr ht (am hg) (fun k hk e=>(hF k hk).1 e)
 ·rcases hl with h9|h9
  ·exact(hF k hk).1 (h9 ▸ e)
  ·rw[h9]at e
   injection e with e
   have:=(hF k hk).2
   omega
end
end Go.Proofs.YtplldnnnhgnbjaaGreatDoor
namespace Go.Proofs.YtplldnnnhgnbjaaGreatDoor
open Go.RowKit Go.Maps
structure Gpt where
 row:List Vl
 cnt:Nat
def rdGp:Rdg Gpt where
 sz:=8
 R:=fun F w cs g=>∃u gn,cs=grC u gn∧Sl aM F w u g.row∧F gn∧Bk w gn 165 (n32 g.cnt)
 len:=fun ⟨_,_,e,_⟩=>by rw[e];rfl
 fr:=fun ⟨u,gn,e,h,k,b⟩ hf hs=>⟨u,gn,e,h.fr hf hs,k,b.fr hf (hs _ k)⟩
 mono:=fun ⟨u,gn,e,h,k,b⟩ hs=>⟨u,gn,e,h.mono (by decide) hs,hs _ b.lt k,b⟩
theorem cntL_pos{cols:List Int}{L:List (List Vl)}{a:List Vl}(h:a∈cB cols [] L) : 1≤mF cols L a:=by
 rcases ix.1 h with h|⟨z,hz,rfl⟩
 ·cases h
 ·unfold mF
  exact List.length_pos_of_mem (jC.2 ⟨jG.2 ⟨z,hz,rfl⟩,by simp⟩)
def gpL(cols:List Int)(L R:List (List Vl)):List Gpt:=R.map (fun a=>⟨a,mF cols L a⟩)
def mS(M:Dm)(q:Qy)(r:Rl)(ev:Int)(w:World)(e:Ending)(w':World):Prop :=
 Ext w w'∧((ev≠0∧e=.returned (.tuple #[.slice none 0 0,.int .i64 ev]))∨(ev=0∧∃A n c L R,e=.returned (.tuple #[.slice A n c,.int .i64 0])∧L.Nodup∧L.length≤1500∧(∀z,z∈L↔z.length=(aj r).length∧eO M (aj r) r z)∧lD (cN q.hd q.od) R∧R.Perm (cB (aC (aj r) q.hd) [] L)∧n=R.length∧Sl rdGp (fun k=>w.heap.size≤k) w' (.slice A n c) (gpL (aC (aj r) q.hd) L R)))
def GrpEach(M:Dm)(r:Rl)(base gh gs gr go bm p c:Nat)(H:Option Addr)(G:Nat→Prop)(cols:List Int)(O:Nat→Prop)(W:World)(e:Ending)(W3:World):Prop :=
 e=.returned (.int .i64 0)∧∃L O',oG base gh gs gr go bm p c H G cols L O' W3∧Fr O W W3∧(∀q,O' q→O q∨W.heap.size≤q)∧L.Nodup∧L.length≤1500∧∀z,z∈L↔z.length=(aj r).length∧eO M (aj r) r z
theorem grp_each{F G' H' G O:Nat→Prop}{w W:World}{sv vc:Value}{r:Rl}{q:Qy}{b nb gh gs gr go bm p c:Nat}{H:Option Addr}{M:Dm}(hA:Ats F w sv r.ats)(sj:Sl eL G' w vc r.cds)(hD:DbB H' w b nb M)(hz:RlZ r)(hd:mD M)(hc:mC M q)(hr:r∈q.rs)(hh:bM M (bL r)≤1500)(sg:eG w)(hX:Ext w W)(si:oG w.heap.size gh gs gr go bm p c H G (aC (aj r) q.hd) [] O W)(hp:p≤1000)(se:∀k,O k→w.heap.size≤k) :
  Calls Tryz.prog 49 #[.agg #[sv,vc],.agg #[.map (some b)],.func (.func 60) #[] #[.pointer (some ⟨gh,0,none⟩),.pointer (some ⟨gs,0,none⟩),.pointer (some ⟨gr,0,none⟩),.pointer (some ⟨go,0,none⟩)]] W (GrpEach M r w.heap.size gh gs gr go bm p c H G (aC (aj r) q.hd) O W):=by
 obtain⟨hv,sw,sr⟩:=ep hc hr
 obtain⟨k1,k2,k3,k4⟩:=eN sw
 have su:∀k,O k→k<W.heap.size:=fun k hk=>by
  obtain⟨F,v,us,gts,-,h1,-⟩:=si
  exact h1 k hk
 refine(nF (N:=1500) (wT:=w) (hA.ext hX) (sj.ext hX) ((hD.mono (G:=fun k=>H' k∧k<w.heap.size) (fun k h1 h2=>⟨h2,h1⟩)).ext hX) hz k1 k2 k3 hd sg hX (fun _ _=>rfl) (fun gx h1 _ _=>grp_vis (jo _) (by omega) (cols_in sr) hp sg) (fun _ L' hL hm=>by rw[jQ,jY];exact fL hd hv hh hL hm) si su se (fun k hk _ hO=>by have:=se k hO;have:=hk.2;omega)).mono ?_
 rintro e W3 ⟨he,L,O',hS,sq,sp,hL⟩
 rw[hv]at he
 rcases hL with ⟨h0,-⟩|⟨-,sh,hm⟩
 ·exact absurd hv h0
 rw[ze]at hS
 exact⟨he,L,O',hS,sq,sp,sh,fL hd hv hh sh hm,hm⟩
theorem oG.start{base gh gs gr go bm p c B:Nat}{H:Option Addr}{cols:List Int}{W:World}(h1:Bk W gh 63 [.slice H p c])(h2:W.ownsRow B 3 1 (.slice H p c) p (cols.map I64))(h3:Bk W gs 135 [.map (some bm)])(h4:aI W bm 0 (fun _=>none))(h5:Bk W gr 38 [.slice none 0 0])(h6:Bk W go 3 [.int .i64 (-1)]) :
  oG base gh gs gr go bm p c H (fun q=>(Value.slice H p c).ownBlock=some q∧B≤q) cols [] (fun q=>q=gh∨q=gs∨q=gr∨q=go∨q=bm∨(Value.slice H p c).ownBlock=some q) W:=by
 refine⟨fun _=>False,.slice none 0 0,[],[],⟨h1,Ins.of_own h2,h3,h4,h5,h6,OwR.nil _ _ _,rfl,fun i hi=>by simp at hi,zC,zC,fun _ _=>rfl,(fun x hx=>by cases hx),fun h=>h,fun h=>h,(fun _ h=>by cases h),fun _ h=>h.elim,fun q hq=>⟨fun e=>?_,fun e=>?_,(fun h=>by cases h),(fun h=>by cases h),aV h2 hq.1⟩⟩,?_,.inl rfl,.inr (.inl rfl),.inr (.inr (.inl rfl)),.inr (.inr (.inr (.inl rfl))),.inr (.inr (.inr (.inr (.inl rfl)))),fun q hq=>.inr (.inr (.inr (.inr (.inr hq.1)))),fun _ h=>h.elim,(fun q hq=>by cases hq),(fun q hq=>by cases hq)⟩
 ·exact h4.ne_own h2 hq.1 e
 ·exact aQ h2 h5 (by decide) hq.1 e
 ·rintro q (rfl|rfl|rfl|rfl|rfl|hq)
  ·exact h1.lt
  ·exact h3.lt
  ·exact h5.lt
  ·exact h6.lt
  ·exact h4.lt
  ·exact aV h2 hq
theorem groups_any{F H:Nat→Prop}{w:World}{A B O_:Option Addr}{ca cb co b nb:Nat}{q:Qy}{r:Rl}{M:Dm}{l0:List ByteArray}(h:QyR F w A ca B cb O_ co q)(sF:q.ag=1)(sG:q.av=⟨#[]⟩)(ut:q.rs=[r])(hD:DbB H w b nb M)(hz:QyZ q)(wK:q.od.length≤100000)(hd:mD M)(wL:nb≤1000000)(um:bU M l0)(hh:bM M (bL r)≤1500)(tA:eG w) :
  Calls Tryz.prog 21 #[.agg #[.slice A q.hd.length ca,.int .i64 1,.string ⟨#[]⟩,.slice B 1 cb,.slice O_ q.od.length co],.agg #[.map (some b)]] w (mS M q r (aZ (cH M l0) q) w):=by
 have k2:=bH w 28 33 [.slice A q.hd.length ca,.int .i64 1,.string ⟨#[]⟩,.slice B 1 cb,.slice O_ q.od.length co] [.map (some b)]
 have hx:=((Ext.refl w).alloc (.cells #[.slice A q.hd.length ca,.int .i64 1,.string ⟨#[]⟩,.slice B 1 cb,.slice O_ q.od.length co] 28)).alloc (.cells #[.map (some b)] 33)
 have sK:q.rs.length=1:=by rw[ut];rfl
 have uK:=fun (V:World) (hV:Ext w V)=>im (hD.ext hV) wL hd.key
 have sS:=fun (V:World) (S:Option Addr) (n c:Nat) (l:List ByteArray) (G:Nat→Prop) (hV:Ext w V) (h1:bU M l) (h2:l.length≤nb) (hs:Sl el G V (.slice S n c) (cH M l))=>(mq h1 um q) ▸ oL (h.ext hV) hs hz (by omega) (by unfold cH;rw[jk];simp only[maxLen];omega)
 rw[sF,sG,sK]at sS
 have sR:Hid (aZ (cH M l0) q=0→mC M q):=zN (fun e=>(mH um).1 e)
 obtain⟨ev,sO⟩:=sd (aZ (cH M l0) q)
 rw[←sO]at sR
 obtain⟨PP,tH⟩:=sd (mS M q r (aZ (cH M l0) q) w)
 have ws:Hid (∀V,Ext w V→ev≠0→PP (.returned (.tuple #[.slice none 0 0,.int .i64 ev])) V):=zN (fun V hV h0=>by rw[tH,←sO];exact⟨hV,.inl ⟨h0,rfl⟩⟩)
 have wt:Hid (∀V (A:Option Addr) (n c:Nat) (L R:List (List Vl)),Ext w V→ev=0→L.Nodup→L.length≤1500→(∀z,z∈L↔z.length=(aj r).length∧eO M (aj r) r z)→lD (cN q.hd q.od) R→R.Perm (cB (aC (aj r) q.hd) [] L)→n=R.length→Sl rdGp (fun k=>w.heap.size≤k) V (.slice A n c) (gpL (aC (aj r) q.hd) L R)→PP (.returned (.tuple #[.slice A n c,.int .i64 0])) V):=zN (fun V A n c L R hV h0 j1 j2 j3 j4 j5 j6 j7=>by rw[tH,←sO];exact⟨hV,.inr ⟨h0,A,n,c,L,R,rfl,j1,j2,j3,j4,j5,j6,j7⟩⟩)
 rw[←sO]at sS
 rw[←tH]
 have HH:=zN h;have HD:=zN hD;have HZ:=zN hz;have vR:=zN hd;have vX:=zN hh;have tj:=zN tA;have uI:=zN ut
 have wX:=@run_makeMap Tryz.prog
 have sp:=fun (V:World) (hV:Ext w V) (wJ:q.hd.length≤100000)=>gW (ca:=ca) (cb:=cb) (co:=co) (nb:=q.rs.length) (ag:=q.ag) (av:=q.av) (B:=B) (h.hd.ext hV) (h.od.ext hV) hz.hd hz.od wJ wK
 rw[sF,sG,sK]at sp
 obtain⟨nh,uo⟩:=sd q.hd.length
 obtain⟨no,vD⟩:=sd q.od.length
 rw[←uo,←vD]at k2 hx sS sp ⊢
 have td:=zN uo;have wQ:=zN sO;have sU:=zN sp
 have tf:=zN (fun (V:World) (hV:Ext _ V)=>uK V (hx.trans hV))
 have sT:=zN (fun (V:World) (S:Option Addr) (n c:Nat) (l:List ByteArray) (G:Nat→Prop) (hV:Ext _ V)=>sS V S n c l G (hx.trans hV))
 clear h hD hz hd hh tA um sO tH uo vD uK sS sF sG ut sK sp
 go_enter Tryz.func21,Tryz.ntmps21
 go_upto_region 1 with fail
 change Bk ((w.alloc (.cells #[.slice A nh ca,.int .i64 1,.string ⟨#[]⟩,.slice B 1 cb,.slice O_ no co] 28)).alloc (.cells #[.map (some b)] 33)) _ _ _∧Bk ((w.alloc (.cells #[.slice A nh ca,.int .i64 1,.string ⟨#[]⟩,.slice B 1 cb,.slice O_ no co] 28)).alloc (.cells #[.map (some b)] 33)) _ _ _ at k2
 generalize ((w.alloc (.cells #[.slice A nh ca,.int .i64 1,.string ⟨#[]⟩,.slice B 1 cb,.slice O_ no co] 28)).alloc (.cells #[.map (some b)] 33))=w1 at *
 obtain⟨kq,kd⟩:=k2
 obtain⟨gd,uh⟩:=sd (w.heap.size+1)
 obtain⟨gq,tK⟩:=sd w.heap.size
 rw[←uh]at kd ⊢
 rw[←tK]at kq uh ⊢
 have tJ:w.heap.size≤gq∧gq<w1.heap.size∧gd<w1.heap.size∧w.heap.size≤gd:=⟨by omega,kq.lt,kd.lt,by omega⟩
 have vV:=zN tJ
 clear tJ uh tK
 have b0:=kq.c0;have b1:=kq.c1;have b2:=kq.c2;have b3:=kq.c3;have b4:=kq.c4;have b5:=kd.c0
 have wf:=zN kq;have wd:=zN kd;have uQ:=zN hx
 clear kq kd hx
 refine cS ?_
 intro KK sw
 refine chk_regG b0 b1 b2 b3 b4 b5 tf sT ?_
 intro t6 t14 t17 t18 t19 t20 w2 hx2
 have tp:=zN (uQ.out.trans hx2)
 have sD:=zN (wf.out.ext hx2);have tR:=zN (wd.out.ext hx2)
 have wY:w1.heap.size≤w2.heap.size:=hx2.size
 clear hx2 b0 b1 b2 b3 b4 b5 tf sT
 rw[sw]
 clear sw KK
 by_cases h0:ev=0
 ·have g0:(ev != 0)=false:=by rw[h0];rfl
  have HC:=zN (sR.out h0)
  have vT:=zN h0
  have sM:Hid (nh≤6):=zN (by rw[td.out];exact ia HC.out.1.hd)
  have b1:=sD.out.c1;have b3:=sD.out.c3
  have ui : 0<q.rs.length:=by rw[uI.out];exact Nat.one_pos
  have uv:q.rs[0]=r:=by simp[uI.out]
  obtain⟨ad,B1,d1,C1,e1,rfl,-,f0,f1,tF,tG⟩:=HH.out.rs.rl ui
  rw[uv]at f0 f1 tF tG
  replace f0:=tp.out.cell f0;replace f1:=tp.out.cell f1
  rw[Nat.zero_mul]at f0 f1
  rw[show ad.add 0=ad by simp[Addr.add]]at f0 f1
  have tM:r∈q.rs:=by rw[←uv];exact jf ui
  have tC:=HZ.out.rs _ tM
  obtain⟨tO,uw,wG⟩:=ep HC.out tM
  obtain⟨m1,m2,m3,m4⟩:=eN uw
  obtain⟨uX,-⟩:=ie (lr (iH.2 uw)).1 tC
  obtain⟨n1,vz⟩:=sd r.ats.length
  obtain⟨n2,vA⟩:=sd r.cds.length
  rw[←vz]at f0 tF
  rw[←vA]at f1 tG
  have uB:=zN tF;have uC:=zN tG;have wy:=zN tM;have vQ:=zN uX;have uO:Hid ((aj r).length≤8):=zN m4;have wE:=zN tC
  have kt:=Bk.new w2 46 [.slice B1 n1 d1,.slice C1 n2 e1]
  have hx3:=(Ext.refl w2).alloc (.cells #[.slice B1 n1 d1,.slice C1 n2 e1] 46)
  clear h0 ui uv tM tC tO uw wG m1 m2 m3 m4 uX vz vA tF tG
  go_upto_region 7 with fail
  change Bk (w2.alloc (.cells #[.slice B1 n1 d1,.slice C1 n2 e1] 46)) _ _ _ at kt
  generalize (w2.alloc (.cells #[.slice B1 n1 d1,.slice C1 n2 e1] 46))=w3 at *
  obtain⟨gR,vh⟩:=sd w2.heap.size
  rw[←vh]at kt ⊢
  have tq:=zN (tp.out.trans hx3)
  have tX:=zN (sD.out.ext hx3);have tS:=zN (tR.out.ext hx3);have wg:=zN kt
  have uP:Hid (w.heap.size≤gR∧w1.heap.size≤w3.heap.size):=zN ⟨by have:=tp.out.size;omega,by have:=hx3.size;omega⟩
  have c0:=kt.c0;have c1:=kt.c1
  have uN:=zN (fN (uB.out.ext tq.out) (uC.out.ext tq.out) vQ.out)
  clear b1 b3 f0 f1 kt hx3 vh
  go_wp2_with fail
  refine uN.out.mono ?_
  rintro e w4 ⟨vv,rfl,hx4,se⟩
  obtain⟨AV,cv,rfl⟩:=af se
  have uR:=zN (tq.out.trans hx4)
  have tg:=hx4.size
  have sZ:=zN (tX.out.ext hx4);have tT:=zN (tS.out.ext hx4);have tZ:=zN (wg.out.ext hx4)
  have b0:=sZ.out.c0
  have sH:Calls Tryz.prog 47 #[.slice AV (aj r).length cv,.slice A nh ca] w4 (Ret (fun x w'=>w'.ownsRow w4.heap.size 3 1 x nh ((aC (aj r) q.hd).map I64)) w4):=by
   have h9:=HH.out.hd.ext uR.out
   rw[←td.out]at h9
   exact mr (Strs.of_own se) h9 (by have:=uO.out;omega) (by have:=sM.out;omega)
  obtain⟨nv,uq⟩:=sd ((aj r).length)
  rw[←uq]at sH se ⊢
  have sV:=zN sH;have uc:=zN se;have wl:=zN uq
  clear c0 c1 sH se hx4 uq uN
  go_wp2_with fail
  refine sV.out.mono ?_
  rintro e w5 ⟨vv,rfl,hx5,se⟩
  obtain⟨Hc,cc,rfl⟩:=af se
  have wB:=zN (uR.out.trans hx5)
  have kh:=Bk.new w5 63 [.slice Hc nh cc]
  have hx6:=(Ext.refl w5).alloc (.cells #[.slice Hc nh cc] 63)
  have tY:=zN (sZ.out.ext hx5);have tU:=zN (tT.out.ext hx5);have ua:=zN (tZ.out.ext hx5);have wq:=zN (aD uc.out hx5);have wn:=zN se
  have sq:Hid (w3.heap.size≤w4.heap.size∧w4.heap.size≤w5.heap.size):=zN ⟨tg,hx5.size⟩
  clear b0 se hx5 sV tg
  go_upto_region 9 with fail
  change Bk (w5.alloc (.cells #[.slice Hc nh cc] 63)) _ _ _ at kh
  generalize (w5.alloc (.cells #[.slice Hc nh cc] 63))=w6 at *
  obtain⟨gh,vm⟩:=sd w5.heap.size
  rw[←vm]at kh ⊢
  have wC:=zN (wB.out.trans hx6)
  have ta:=zN (tY.out.ext hx6);have tW:=zN (tU.out.ext hx6);have ub:=zN (ua.out.ext hx6);have te:=zN (aD wn.out hx6);have we:=zN kh
  have tw:Calls Tryz.prog 59 #[.slice AV nv cv,.string ⟨#[]⟩] w6 (fun e w'=>e=.returned (.int .i64 (-1))∧w6=w'):=by
   have h9:=aD wq.out hx6
   have hs:=Strs.of_own h9
   rw[wl.out]at hs ⊢
   refine(qS (s:=⟨#[]⟩) hs (by have:=uO.out;simp only[maxLen];omega)).mono ?_
   rintro e w' ⟨rfl,rfl⟩
   refine⟨?_,rfl⟩
   rw[bW,if_neg (fun h=>(o9.1 h).1 rfl)]
  have vY:=zN tw
  have b2:=ta.out.c2
  have uJ:Hid (w3.heap.size≤gh∧w4.heap.size≤w6.heap.size):=zN ⟨by have:=sq.out;omega,by have:=sq.out;have:=hx6.size;omega⟩
  clear vm kh hx6 tw
  go_wp2_with fail
  refine vY.out.mono ?_
  rintro e w' ⟨rfl,rfl⟩
  have ko:=Bk.new w6 3 [.int .i64 (-1)]
  have hx7:=(Ext.refl w6).alloc (.cells #[.int .i64 (-1)] 3)
  clear b2
  go_upto_region 10 with fail
  change Bk (w6.alloc (.cells #[.int .i64 (-1)] 3)) _ _ _ at ko
  generalize (w6.alloc (.cells #[.int .i64 (-1)] 3))=w7 at *
  obtain⟨go,vo⟩:=sd w6.heap.size
  rw[←vo]at ko ⊢
  have hm:=aI.made w7
  have vN:=(Ext.refl w7).alloc (.map #[] 0)
  have k3:=bH (w7.alloc (.map #[] 0)) 135 38 [.map (some w7.heap.size)] [.slice none 0 0]
  simp only[World.size_alloc]at k3
  have hx10:=(vN.alloc (.cells #[.map (some w7.heap.size)] 135)).alloc (.cells #[.slice none 0 0] 38)
  have un:aI _ w7.heap.size 0 (fun _=>none):=hm.ext (((Ext.refl _).alloc (.cells #[.map (some w7.heap.size)] 135)).alloc (.cells #[.slice none 0 0] 38))
  clear hm vN
  go_upto_region 12 with fail
  change Bk (((w7.alloc (.map #[] 0)).alloc (.cells #[.map (some w7.heap.size)] 135)).alloc (.cells #[.slice none 0 0] 38)) _ _ _∧Bk (((w7.alloc (.map #[] 0)).alloc (.cells #[.map (some w7.heap.size)] 135)).alloc (.cells #[.slice none 0 0] 38)) _ _ _ at k3
  generalize (((w7.alloc (.map #[] 0)).alloc (.cells #[.map (some w7.heap.size)] 135)).alloc (.cells #[.slice none 0 0] 38))=w10 at *
  obtain⟨kS,kR⟩:=k3
  obtain⟨gr,vp⟩:=sd (w7.heap.size+1+1)
  obtain⟨gs,vq⟩:=sd (w7.heap.size+1)
  obtain⟨bm,uY⟩:=sd w7.heap.size
  rw[←vp]at kR ⊢
  rw[←vq]at kS ⊢
  rw[←uY]at kS un
  have sg:=hx7.trans hx10
  have tn:=zN (wC.out.trans sg)
  have sJ:∀k,(k=gh∨k=gs∨k=gr∨k=go∨k=bm∨(Value.slice Hc nh cc).ownBlock=some k)→w3.heap.size≤k:=fun k hk=>by
   have h1:=uJ.out;have h2:=sq.out;have h3:=hx7.size
   rcases hk with rfl|rfl|rfl|rfl|rfl|hk
   ·omega
   ·omega
   ·omega
   ·omega
   ·omega
   ·have:=aw te.out hk
    omega
  have sE:=zN sJ
  have sx:=grp_each uB.out uC.out HD.out wE.out vR.out HC.out wy.out vX.out tj.out tn.out (oG.start (base:=w.heap.size) (we.out.ext sg) (aD te.out sg) kS un kR (ko.ext hx10)) (by have:=sM.out;omega) (fun k hk=>jr (by have:=uP.out;have:=uQ.out.size;omega) (sJ k hk))
  have sW:=zN sx
  have sY:=zN (ta.out.ext sg);have sX:=zN (tW.out.ext sg)
  have sL:=ub.out.ext sg
  have c0:=sL.c0;have c1:=sL.c1;have c2:=sX.out.c0
  have th:Hid (w3.heap.size≤w10.heap.size):=zN (by have h1:=uJ.out;have h2:=sq.out;have h3:=sg.size;omega)
  clear hx7 ko vo hx10 kR vp vq un kS uY sg sJ sx sL
  go_wp2_with fail
  refine sW.out.mono ?_
  rintro e W3 ⟨rfl,L,O',hS,ug,uU,vB,sr,uT⟩
  obtain⟨F1,v,us,gts,hT,wF,-,-,-,-,-,-,uS,tO,tJ⟩:=hS
  have sA:∀k,O' k→w3.heap.size≤k:=fun k hk=>(uU k hk).elim (sE.out k) (fun h=>jr th.out h)
  have uA:=uP.out.2
  have ue:Ext w W3:=ug.new tn.out (fun k hk=>jr tq.out.size (sE.out k hk))
  have wD:=zN ue
  have tK:=vV.out
  have sh:=zN (sY.out.fr ug (fun e=>by have:=sE.out _ e;omega))
  have vJ:(cB (aC (aj r) q.hd) [] L).length≤1500:=by
   have h1:=fx (aC (aj r) q.hd) [] L
   rw[jQ]at h1
   omega
  have vM:us.length≤1048576:=by
   have h1:=hT.own.len
   omega
  have vG:(aP q.hd q.od).length≤1000000:=by
   unfold aP
   rw[jm,jk]
   have h1:=jF (fun v=>!decide (v∈q.od.map Ky.var)) q.hd
   have h2:=sM.out
   have h3:=td.out
   omega
  have uM:=zN (fun (V X:World) (vf:Value) (hV:Ext W3 V) (hp:dm q.hd q.od V (.returned vf) X)=>rM hT.own hV hp (fun x hx=>(hT.vk x hx).1.trans td.out) vM (g8 HC.out.1.hd) HC.out.1.od vG)
  have uD:=zN (fun (V:World) (hV:Ext W3 V)=>sU.out V (ue.trans hV) (by have:=sM.out;have:=td.out;omega))
  obtain⟨AU,nu,cu,hv⟩:∃A n c,v=.slice A n c:=by
   obtain⟨A3,c3,e3⟩:=af hT.own.own
   exact⟨A3,_,c3,e3⟩
  have sj:v.oneCell'=true:=by rw[hv];rfl
  have b0:=sh.out.c0;have b1:=sh.out.c1;have b2:=sh.out.c2;have b3:=sh.out.c3;have b4:=sh.out.c4;have b5:=hT.box.c0
  have HT:=zN hT;have tD:=zN (And.intro vB (And.intro sr uT));have vU:=zN uS;have wh:=zN sA;have ww:=zN vJ;have wU:=zN hv;have wS:=zN tO
  clear c0 c1 c2 hT vB sr uT uS tO tJ wF sA ug uU ue tK vJ vM vG uA
  go_upto_region 15 with fail
  refine cS ?_
  intro KK sw
  refine srt_regG (P:=fun X=>∃tP R,lD (cN q.hd q.od) R∧R.Perm (cB (aC (aj r) q.hd) [] L)∧OwR F1 X w.heap.size v us.length tP R∧(∃Y,Y.grownBy X v.ownBlock∧Ext W3 Y)) b0 b1 b2 b3 b4 b5 sj uD (zN (fun V X vf hV hp=>(uM.out V X vf hV hp).mono (by
   rintro e w' ⟨rfl,tP,R,q1,q2,q3,q4,q5⟩
   exact⟨rfl,tP,R,q1,q2,q3,X,q4,q5⟩))) ?_
  intro t48 t49 t50 t51 X hX
  obtain⟨tP,R,q1,q2,q3,Y,q4,q5⟩:=hX
  have se:=HT.out.own.own
  have sy:Fr (fun k=>v.ownBlock=some k) W3 X:=Fr.comp (q5.fr _) (am q4) (fun k hk=>.inl hk)
  have tE:=zN ((wD.out.trans q5).grown q4 (fun k hk=>aw se hk))
  have tt:=sh.out.fr sy (fun e=>aQ se sh.out (by decide) e rfl)
  have sB:=HT.out.seen.fr sy (fun e=>aQ se HT.out.seen (by decide) e rfl)
  have tz:=HT.out.map.fr sy (fun e=>HT.out.map.ne_own se e rfl)
  have vd:=HT.out.box.fr sy (fun e=>aQ se HT.out.box (by decide) e rfl)
  have tB:∀i (h:i<gts.length) (h1:i<us.length) (h2:i<(cB (aC (aj r) q.hd) [] L).length),Bk X gts[i] 140 (qd us[i] (mF (aC (aj r) q.hd) L (cB (aC (aj r) q.hd) [] L)[i])):=fun i k1 k2 k3=>(HT.out.tal i k1 k2 k3).fr sy (fun e=>aQ se (HT.out.tal i k1 k2 k3) (by decide) e rfl)
  have vH:∀i (h1:i<us.length) (h2:i<(cB (aC (aj r) q.hd) [] L).length),Sl aM (fun k=>F1 k∧v.ownBlock≠some k) X us[i] (cB (aC (aj r) q.hd) [] L)[i]:=fun i k1 k2=>(HT.out.own.rd i k2 k1).fr sy (fun k hk e=>hk.2 e)
  have uy:=q3.sl (G:=fun _=>True) (fun _ _=>trivial) (fun _ _=>trivial)
  have uV:us.length=R.length:=by rw[HT.out.own.len];exact q2.length_eq.symm
  have vw:=sy.size
  subst hv
  have vE:nu=R.length:=uy.cap.1
  have tc:=zN tt;have uL:=zN sB;have wk:=zN tz;have wA:=zN tB;have wv:=zN vH;have ud:=zN uy;have wu:=zN q1;have uH:=zN q2;have uG:=zN vE;have wR:=zN uV;have wj:=zN vw
  have c5:=vd.c0
  have wM:nu≤1500:=by
   have h1:=ww.out
   have h2:=q2.length_eq
   omega
  obtain⟨j0,wH,wO,tC,wP⟩:=info_parts info_gr
  clear wH wO tC wP b0 b1 b2 b3 b4 b5 sj uM uD se sy tt sB tz vd tB vH uy uV vw q1 q2 q3 q4 q5 vE
  rw[sw]
  clear sw KK
  go_wp2_with fail
  go_loopw [15,59] (fun v t wr=>∃(i:Nat) (P:Option Addr) (cp:Nat) (F:Nat→Prop) (css:List (List Value)),i≤nu∧t=.int .i64 (i:Int)∧v=.slice P i cp∧Hid (RwG rdGp F wr X.heap.size 80 (.slice P i cp) i (gpL (aC (aj r) q.hd) L (R.take i)) css)∧Hid (∀k,F k→w.heap.size≤k)∧Hid (Ext X wr)) (fun _ t _=>nu-(intOf t).toNat)
  case atStart=>exact⟨0,none,0,fun _=>False,[],jn _,rfl,rfl,zN RwG.empty,zN (fun _ h=>h.elim),zN (Ext.refl _)⟩
  case round =>
   obtain⟨i,P,cp,F9,css,hi,rfl,rfl,HG,uE,HE⟩:=hrel
   obtain⟨W,rfl⟩:∃W:World,W=wr:=⟨_,rfl⟩
   by_cases hlt:i<nu
   ·have i1:(0:Int)≤(i:Int):=by omega
    have i2:(i:Int)<(nu:Int):=by omega
    have tL:i<R.length:=by have:=uG.out;omega
    obtain⟨wV,B2,p2,e2,-,c0,ux⟩:=ud.out.row tL
    subst e2
    have su:R[i]∈cB (aC (aj r) q.hd) [] L:=uH.out.mem_iff.1 (jf tL)
    have sQ:=HT.out.vk _ su
    obtain⟨j,j1,j2,j3,j4⟩:=l9 HT.out.gl su
    have uk:j<us.length:=by have:=HT.out.own.len;omega
    have tI:=cntL_pos su
    have uf:=cntL_le (aC (aj r) q.hd) L R[i]
    have sr:=tD.out.2.1
    have sC:=wA.out j j2 uk j1
    have sP:=wv.out j uk j1
    rw[j3]at sC sP
    obtain⟨AJ,cj,sN⟩:=sP.sl
    have tN:gpL (aC (aj r) q.hd) L (R.take (i+1))=gpL (aC (aj r) q.hd) L (R.take i)++[⟨R[i],mF (aC (aj r) q.hd) L R[i]⟩]:=by
     unfold gpL
     rw[jj tL,jH]
     rfl
    obtain⟨a,ha⟩:=sd (R[i])
    rw[←ha]at c0 ux sQ sC sP tN j4 tI uf sN
    obtain⟨kn,vt⟩:=sd (mF (aC (aj r) q.hd) L a)
    rw[←vt]at sC tN tI uf
    obtain⟨uj,vL⟩:=sd (us[j])
    obtain⟨gj,vn⟩:=sd (gts[j])
    rw[←vL]at sC sP sN
    rw[←vn]at sC j4
    have vu:(di a).size≤maxLen:=by
     rw[fH]
     have h2:=fF sQ.2
     have h3:a.length*1048700≤1000*1048700:=jW _ (by have:=sQ.1;have:=sM.out;omega)
     simp only[maxLen]
     omega
    have uW:a.length≤100000:=by have:=sQ.1;have:=sM.out;omega
    obtain⟨ks,sI⟩:=sd (di a)
    have uF:Hid (∀V,Ext W V→Calls Tryz.prog 52 #[.slice B2 a.length p2] V (fun e W'=>Ext V W'∧e=.returned (.string ks))):=zN (fun V hV=>(eM (ux.ext (HE.out.trans hV)) uW sQ.2 (fun w2 h2=>tj.out w2 (tE.out.trans (HE.out.trans (hV.trans h2))))).mono (by
     rintro e W' ⟨_,rfl,he,rfl⟩
     refine⟨he,?_⟩
     rw[sI]
     rfl))
    rw[sN]at sC
    have vW:Hid (∀V,Ext W V→Calls Tryz.prog 62 #[.pointer (some ⟨gj,0,none⟩),.int .i64 1] V (fun e W'=>∃gn,e=.returned (.agg (grC uj gn).toArray)∧Bk W' gn 165 (n32 kn)∧V.heap.size≤gn∧Ext V W')):=zN (fun V hV=>by
     rw[sN]
     exact group_cnt (sC.ext (HE.out.trans hV)) tI (by omega))
    rw[←sI]at vu j4
    have b0:=(uL.out.ext HE.out).c0;have b1:=(tc.out.ext HE.out).c1
    have se:=HG.out.own
    have vO:¬(Value.slice P i cp).ownBlock=some gs:=fun e=>by have h1:=aw se e;have h2:=uL.out.lt;omega
    have vP:¬(Value.slice P i cp).ownBlock=some gq:=fun e=>by have h1:=aw se e;have h2:=tc.out.lt;omega
    have sj:uj.oneCell'=true:=by rw[sN];rfl
    have vy:=wk.out.ext HE.out
    have vK:=HE.out.size
    have wm:Hid (∀(A9:Option Addr) (c9 gn:Nat) (W9:World),GgPost W X.heap.size i cp P css.flatten uj kn gn A9 c9 W9→(RwG rdGp (fun k=>F9 k∨F1 k∨k=gn) W9 X.heap.size 80 (.slice A9 (i+1) c9) (i+1) (gpL (aC (aj r) q.hd) L (R.take (i+1))) (css++[grC uj gn]))∧(∀k,(F9 k∨F1 k∨k=gn)→w.heap.size≤k)∧Ext X W9):=zN (fun A9 c9 gn W9 hp=>by
     obtain⟨V,hV,uZ,wW,wN,ve,wI⟩:=hp
     refine⟨?_,?_,(HE.out.trans hV).grown ve (fun k hk=>aw se hk)⟩
     ·rw[tN]
      refine HG.out.more (F':=fun k=>F9 k∨F1 k∨k=gn) hV ⟨uj,gn,rfl,(sP.ext (HE.out.trans hV)).mono (by decide) (fun k _ hk=>.inr (.inl hk.1)),.inr (.inr rfl),uZ⟩ (fun k hk=>.inl hk) (fun k hk=>?_) wN ve wI
      rcases hk with hk|hk|hk
      ·exact⟨(HG.out.sep k hk).1,jE (HG.out.sep k hk).2 hV.size⟩
      ·have h1:=HT.out.fl k hk
       have h2:=wj.out
       have h3:=hV.size
       exact⟨fun e=>by have:=aw se e;omega,by omega⟩
      ·subst hk
       exact⟨fun e=>by have:=aV se e;omega,uZ.lt⟩
     ·rintro k (hk|hk|hk)
      ·exact uE.out k hk
      ·exact jr (by have:=tq.out.size;exact this) (wh.out k (vU.out k hk))
      ·have:=tE.out.size
       omega)
    replace c0:=HE.out.cell c0
    obtain⟨al,si⟩:=sd a.length
    rw[←si]at c0 uF
    clear c5 tL ux su sQ j1 j2 j3 uk tI uf sr sC sP sN tN vt vL vn sI uW si ha
    go_upto_region 20 with fail
    refine cS ?_
    intro KK sw
    refine ggr_reg b0 b1 vO vP vy vu j4 sj se vK (by omega) uF vW ?_
    intro A9 c9 gn t66 t67 t70 t71 t72 W9 hp
    obtain⟨k1,k2,k3⟩:=wm.out _ _ _ _ hp
    have vZ:=zN k1;have wa:=zN k2;have wc:=zN k3
    clear hp k1 k2 k3 b0 b1 vO vP vy sj se vK c0
    rw[sw]
    clear sw KK
    go_wp2_with fail
    go_roundw
    case rel=>exact⟨i+1,A9,c9,_,_,by omega,by go_num,rfl,vZ,wa,wc⟩
    case measure=>simp[intOf];omega
   ·obtain rfl:i=nu:=by omega
    have vC:=uG.out
    have si:R.take i=R:=jp (by omega)
    have hg:=HG.out
    rw[si]at hg
    have tu:=wt.out W P i cp L R (tE.out.trans HE.out) vT.out tD.out.1 tD.out.2.1 tD.out.2.2 wu.out uH.out vC (hg.sl (by decide) (fun k hk=>jr tE.out.size (aw hg.own hk)) uE.out)
    have tQ:=zN tu
    clear c5 vC si hg tu
    go_wp2_with fail
    exact tQ.out
 ·have g0:(ev != 0)=true:=bne_iff_ne.2 h0
  have HP:=zN (ws.out w2 tp.out h0)
  clear h0
  go_wp2_with fail
  exact HP.out
end Go.Proofs.YtplldnnnhgnbjaaGreatDoor
namespace Go.Proofs.YtplldnnnhgnbjaaGreatDoor
open Go.RowKit Go.Maps
structure gN(F G H:Nat→Prop)(w:World)(S U A B O:Option Addr)(ns cs nu cu ca cb co:Nat)(ss:List Sc)(us:List Up)(q:Qy):Prop where
 s:Sl el F w (.slice S ns cs) ss
 u:Sl fJ G w (.slice U nu cu) us
 qr:QyR H w A ca B cb O co q
 n:∀r∈q.rs,RlN r
 z:QyZ q
 ul:us.length≤9223372036854775807
 ur:∀u∈us,u.row.length≤9223372036854775807
 rl:q.rs.length≤9223372036854775807
 sz:∀x∈ss,x.name.size≤maxLen
 sk:∀x∈ss,x.kinds.length≤maxLen
 uz:∀u∈us,u.rel.size≤maxLen∧∀v∈u.row,v.str.size≤maxLen
 tab:eG w
section
variable {F G H:Nat→Prop} {w w':World} {S U A B O:Option Addr} {ns cs nu cu ca cb co:Nat} {ss:List Sc} {us:List Up} {q:Qy}
theorem gN.ext(h:gN F G H w S U A B O ns cs nu cu ca cb co ss us q)(he:Ext w w'):gN F G H w' S U A B O ns cs nu cu ca cb co ss us q :=
 { h with s:=h.s.ext he,u:=h.u.ext he,qr:=h.qr.ext he,tab:=fun V hV=>h.tab V (he.trans hV) }
theorem gN.great(h:gN F G H w S U A B O ns cs nu cu ca cb co ss us q):Calls Tryz.prog 10 #[.slice S ns cs,.slice U nu cu,.agg #[.slice A q.hd.length ca,.int .i64 q.ag,.string q.av,.slice B q.rs.length cb,.slice O q.od.length co]] w (NoP (iY ss us q) w) :=
 great_any h.s h.u h.qr h.n h.ul h.ur h.rl
theorem gN.database(h:gN F G H w S U A B O ns cs nu cu ca cb co ss us q)(k:iY ss us q):Calls Tryz.prog 12 #[.slice S ns cs,.slice U nu cu] w (fO ss us w) :=
 ld h.s h.u (by rw[h.s.cap.1];exact k.s) (by rw[h.u.cap.1];exact k.u) h.sz h.sk k.v (fun u hu=>⟨(h.uz u hu).1,jr (h.ur u hu) (by simp only[maxLen];omega),(h.uz u hu).2⟩)
theorem gN.awake(h:gN F G H w S U A B O ns cs nu cu ca cb co ss us q):Calls Tryz.prog 11 #[] w (Ret (fun x _=>x=.bool true) w):=awake_any h.tab
end
end Go.Proofs.YtplldnnnhgnbjaaGreatDoor
namespace Go.Proofs.YtplldnnnhgnbjaaGreatDoor
open Go.RowKit Go.Maps
def Qy.one(q:Qy)(r:Rl)(ag:Int):Qy:={ q with rs:=[r],ag:=ag,av:=⟨#[]⟩ }
theorem one_chk{M:Dm}{q:Qy}{r:Rl}(h:mC M (q.one r 1)):mC M (q.one r 0):=by
 obtain⟨hA,K,hK⟩:=h
 refine⟨⟨hA.ne,⟨hA.l3.1,.inr rfl⟩,hA.hd,rfl,hA.rs,hA.od⟩,K,fun x hx=>?_⟩
 obtain⟨κ,k1,k2,k3⟩:=hK x hx
 exact⟨κ,k1,k2,nofun⟩
theorem one_z{q:Qy}{r:Rl}{ag:Int}(h:QyZ q)(hr:RlZ r):QyZ (q.one r ag):=⟨h.hd,jn _,fun x hx=>by rw[jq.1 hx];exact hr,h.od⟩
theorem one_rows{M:Dm}{q:Qy}{r:Rl}{L R Ra:List (List Vl)}(hc:mC M (q.one r 0))(hl:L.length≤1500)(hm:∀z,z∈L↔z.length=(aj r).length∧eO M (aj r) r z)(ha:lD (cN q.hd q.od) R)(hp:R.Perm (cB (aC (aj r) q.hd) [] L))(hR:iP M (q.one r 0) Ra):R=Ra:=by
 have h0:mU M (q.one r 0) 0 []:=⟨zC,jo _,fun x=>by simp⟩
 have h1:=h0.more (i:=0) (L:=L) (show 0<1 by omega) hl hm
 have h2:=ans_ok (q:=q.one r 0) hc (rows:=cB (aC (aj r) q.hd) [] L) (R:=R) h1 ha hp
 exact h2.uniq hR rfl rfl (fun x=>Iff.rfl)
def l7(gs:List Gpt):Nat:=(gs.map Gpt.cnt).foldr (·+·) 0
theorem sumC_snoc(gs:List Gpt)(g:Gpt):l7 (gs++[g])=l7 gs+g.cnt:=by
 unfold l7
 rw[jH,List.foldr_append]
 induction gs with
 | nil=>simp
 | cons a l ih =>
  simp only[jU,List.foldr_cons,List.map_nil,List.foldr_nil]at ih ⊢
  rw[ih]
  omega
theorem sum_one{α : Type} [DecidableEq α] (a : α):∀{l:List α},l.Nodup→a∈l→(l.map (fun b=>if a=b then 1 else 0)).foldr (·+·) 0=1
 | [],_,h=>by cases h
 | b::l,hn,h=>by
  have h1:=List.nodup_cons.1 hn
  rw[jU,List.foldr_cons]
  by_cases e:a=b
  ·subst e
   have h0:∀m:List α,a ∉ m→(m.map (fun b=>if a=b then 1 else 0)).foldr (·+·) 0=0:=by
    intro m hm
    induction m with
    | nil=>rfl
    | cons x m ih =>
     rw[jU,List.foldr_cons,ih (fun h=>hm (js _ h)),if_neg (fun e=>hm (by rw[e];exact zx))]
   rw[if_pos rfl,h0 l h1.1]
  ·rw[if_neg e,sum_one a h1.2 ((jB.1 h).resolve_left e)]
theorem sum_add{α : Type}(f g : α→Nat):∀l:List α,(l.map (fun b=>f b+g b)).foldr (·+·) 0=(l.map f).foldr (·+·) 0+(l.map g).foldr (·+·) 0
 | []=>rfl
 | b::l=>by
  simp only[jU,List.foldr_cons]
  rw[sum_add f g l]
  omega
theorem sum_all{α : Type} [DecidableEq α] {rows:List α} (hn:rows.Nodup):∀{xs:List α},(∀x∈xs,x∈rows)→(rows.map (fun a=>(xs.filter (fun b=>decide (b=a))).length)).foldr (·+·) 0=xs.length
 | [],_=>by
  have:∀l:List α,(l.map (fun _=>0)).foldr (·+·) 0=0:=by
   intro l
   induction l with
   | nil=>rfl
   | cons a l ih=>rw[jU,List.foldr_cons,ih]
  simpa using this rows
 | x::xs,h=>by
  have h1:=sum_all hn (xs:=xs) (fun y hy=>h y (js _ hy))
  have h2:=sum_one x hn (h x zx)
  have h3:=sum_add (fun a=>(xs.filter (fun b=>decide (b=a))).length) (fun a=>if x=a then 1 else 0) rows
  have e:(fun a=>((x::xs).filter (fun b=>decide (b=a))).length)=fun a=>(xs.filter (fun b=>decide (b=a))).length+if x=a then 1 else 0:=by
   funext a
   by_cases e:x=a
   ·rw[List.filter_cons_of_pos (by simp[e]),jD,if_pos e]
   ·rw[List.filter_cons_of_neg (by simp[e]),if_neg e,Nat.add_zero]
  rw[e,h3,h1,h2,jD]
theorem perm_sum{l m:List Nat}(h:l.Perm m):l.foldr (·+·) 0=m.foldr (·+·) 0:=by
 induction h with
 | nil=>rfl
 | cons x _ ih=>simp only[List.foldr_cons,ih]
 | swap x y l=>simp only[List.foldr_cons];omega
 | trans _ _ h1 h2=>exact h1.trans h2
theorem sumC_all{cols:List Int}{L R:List (List Vl)}(hp:R.Perm (cB cols [] L)):l7 (gpL cols L R)=L.length:=by
 unfold l7 gpL
 rw[List.map_map]
 rw[perm_sum (hp.map (Gpt.cnt ∘ fun a=>⟨a,mF cols L a⟩))]
 have h:=sum_all (mj (cols:=cols) (L:=L) zC) (xs:=L.map (be cols)) (fun x hx=>by
  obtain⟨z,hz,rfl⟩:=jG.1 hx
  exact ix.2 (.inr ⟨z,hz,rfl⟩))
 rw[jk]at h
 exact h
theorem len_eq{L L':List (List Vl)}(h:L.Nodup)(h':L'.Nodup)(hm:∀z,z∈L↔z∈L'):L.length=L'.length:=((List.perm_ext_iff_of_nodup h h').2 hm).length_eq
theorem sum_le{l:List Nat}{i:Nat}:(l.take i).foldr (·+·) 0≤l.foldr (·+·) 0:=by
 induction l generalizing i with
 | nil=>simp
 | cons a l ih =>
  rcases i with _|i
  ·simp
  ·simp only[List.take_succ_cons,List.foldr_cons]
   have:=ih (i:=i)
   omega
theorem sumC_take(gs:List Gpt)(i:Nat):l7 (gs.take i)≤l7 gs:=by
 unfold l7
 rw[List.map_take]
 exact sum_le
theorem n32_nv{w:World}{g n:Nat}(h:Bk w g 165 (n32 n))(hn:n≤1048576):N1.Nv w (.slice (some ⟨g,0,none⟩) 1 1) n:=by
 refine⟨[n],N1.Dg.of_parts rfl (by omega) (by omega) (fun d hd=>?_) ?_,?_⟩
 ·rw[jq]at hd
  omega
 ·intro i hi
  obtain rfl:i=0:=by omega
  refine⟨_,rfl,?_⟩
  rw[cJ]
  exact h.cell (i:=0) (by simp[n32])
 ·simp[N1.val]
theorem qJ:∀f n,(N1.digF f n).length≤f
 | 0,_=>jo _
 | f+1,n=>by
  unfold N1.digF
  split
  ·exact jn _
  ·rw[jD]
   have:=qJ f (n / 4294967296)
   omega
theorem dig_len(n:Nat):(N1.dig n).length≤n:=qJ n n
end Go.Proofs.YtplldnnnhgnbjaaGreatDoor
namespace Go.Proofs.YtplldnnnhgnbjaaGreatDoor
open Go.RowKit Go.Maps
structure AsI(w1:World)(nl:Nat)(b5 b6 b7 b8 b9 b10:Bool)(t12 t13 t61 t67 t68 t69:Value)(A:Option Addr)(c:Nat)(W:World):Prop where
 ext:Ext w1 W
 h67:b5=true→t67=.tuple #[.slice A nl c,.int .i64 0]
 h61:b6=true→t61=.tuple #[.slice A nl c,.int .i64 0]
 h68:b7=true→t68=.slice A nl c
 h69:b8=true→t69=.int .i64 0
 h12:b9=true→t12=.slice A nl c
 h13:b10=true→t13=.int .i64 0
section
variable {w1 W W':World} {nl c c':Nat} {b5 b6 b7 b8 b9 b10:Bool} {t12 t13 t61 t67 t68 t69:Value} {A A':Option Addr}
theorem AsI.start:AsI w1 nl false false false false false false t12 t13 t61 t67 t68 t69 A c w1.drew:=⟨(Ext.refl _).drew,nofun,nofun,nofun,nofun,nofun,nofun⟩
theorem AsI.call(h:AsI w1 nl false false false false false false t12 t13 t61 t67 t68 t69 A c W)(he:Ext W W'):AsI w1 nl true false false false false false t12 t13 t61 (.tuple #[.slice A' nl c',.int .i64 0]) t68 t69 A' c' W':=⟨h.ext.trans he,fun _=>rfl,nofun,nofun,nofun,nofun,nofun⟩
theorem AsI.mv(h:AsI w1 nl true false b7 b8 b9 b10 t12 t13 t61 t67 t68 t69 A c W):AsI w1 nl true true b7 b8 b9 b10 t12 t13 t67 t67 t68 t69 A c W:={ h with h61:=h.h67 }
theorem AsI.e0(h:AsI w1 nl b5 b6 false b8 b9 b10 t12 t13 t61 t67 t68 t69 A c W):AsI w1 nl b5 b6 true b8 b9 b10 t12 t13 t61 t67 (.slice A nl c) t69 A c W:={ h with h68:=fun _=>rfl }
theorem AsI.e1(h:AsI w1 nl b5 b6 b7 false b9 b10 t12 t13 t61 t67 t68 t69 A c W):AsI w1 nl b5 b6 b7 true b9 b10 t12 t13 t61 t67 t68 (.int .i64 0) A c W:={ h with h69:=fun _=>rfl }
theorem AsI.a0(h:AsI w1 nl b5 b6 true b8 false b10 t12 t13 t61 t67 t68 t69 A c W):AsI w1 nl b5 b6 true b8 true b10 t68 t13 t61 t67 t68 t69 A c W:={ h with h12:=fun _=>h.h68 rfl }
theorem AsI.a1(h:AsI w1 nl b5 b6 b7 true b9 false t12 t13 t61 t67 t68 t69 A c W):AsI w1 nl b5 b6 b7 true b9 true t12 t69 t61 t67 t68 t69 A c W:={ h with h13:=fun _=>h.h69 rfl }
end
structure SrI(w1:World)(b9 b10:Bool)(t112 t113:Value)(W:World):Prop where
 ext:Ext w1 W
 h112:b9=true→t112=.bool true
 h113:b10=true→t113=.bool false
section
variable {w1 W W':World} {b9 b10:Bool} {t112 t113:Value}
theorem SrI.start:SrI w1 false false t112 t113 w1.drew:=⟨(Ext.refl _).drew,nofun,nofun⟩
theorem SrI.call(h:SrI w1 false false t112 t113 W)(he:Ext W W'):SrI w1 true false (.bool true) t113 W':=⟨h.ext.trans he,fun _=>rfl,nofun⟩
theorem SrI.ng(h:SrI w1 true false t112 t113 W):SrI w1 true true t112 (.bool false) W:=⟨h.ext,h.h112,fun _=>rfl⟩
end
noncomputable def casRg:Code:=((Tryz.f7.body.bind (aK 11)).getD .skip)
inductive fh(w1:World)(nl:Nat)(Fz:Value→Value→Value→Value→Value→Value→ Act):Nat→Array Bool→Act→World→Prop
 | s0 {t12 t13 t61 t67 t68 t69:Value} {A:Option Addr} {c:Nat} {W:World} (h:AsI w1 nl false false false false false false t12 t13 t61 t67 t68 t69 A c W):fh w1 nl Fz 6 #[true,true,true,true,true,false,false,false,false,false,false] (Fz t12 t13 t61 t67 t68 t69) W
 | s1 {t12 t13 t61 t67 t68 t69:Value} {A:Option Addr} {c:Nat} {W:World} (h:AsI w1 nl true false false false false false t12 t13 t61 t67 t68 t69 A c W):fh w1 nl Fz 5 #[true,true,true,true,true,true,false,false,false,false,false] (Fz t12 t13 t61 t67 t68 t69) W
 | s2 {t12 t13 t61 t67 t68 t69:Value} {A:Option Addr} {c:Nat} {W:World} (h:AsI w1 nl true true false false false false t12 t13 t61 t67 t68 t69 A c W):fh w1 nl Fz 4 #[true,true,true,true,true,true,true,false,false,false,false] (Fz t12 t13 t61 t67 t68 t69) W
 | s3 {t12 t13 t61 t67 t68 t69:Value} {A:Option Addr} {c:Nat} {W:World} (h:AsI w1 nl true true true false false false t12 t13 t61 t67 t68 t69 A c W):fh w1 nl Fz 3 #[true,true,true,true,true,true,true,true,false,false,false] (Fz t12 t13 t61 t67 t68 t69) W
 | s4 {t12 t13 t61 t67 t68 t69:Value} {A:Option Addr} {c:Nat} {W:World} (h:AsI w1 nl true true false true false false t12 t13 t61 t67 t68 t69 A c W):fh w1 nl Fz 3 #[true,true,true,true,true,true,true,false,true,false,false] (Fz t12 t13 t61 t67 t68 t69) W
 | s5 {t12 t13 t61 t67 t68 t69:Value} {A:Option Addr} {c:Nat} {W:World} (h:AsI w1 nl true true true true false false t12 t13 t61 t67 t68 t69 A c W):fh w1 nl Fz 2 #[true,true,true,true,true,true,true,true,true,false,false] (Fz t12 t13 t61 t67 t68 t69) W
 | s6 {t12 t13 t61 t67 t68 t69:Value} {A:Option Addr} {c:Nat} {W:World} (h:AsI w1 nl true true true false true false t12 t13 t61 t67 t68 t69 A c W):fh w1 nl Fz 2 #[true,true,true,true,true,true,true,true,false,true,false] (Fz t12 t13 t61 t67 t68 t69) W
 | s7 {t12 t13 t61 t67 t68 t69:Value} {A:Option Addr} {c:Nat} {W:World} (h:AsI w1 nl true true true true true false t12 t13 t61 t67 t68 t69 A c W):fh w1 nl Fz 1 #[true,true,true,true,true,true,true,true,true,true,false] (Fz t12 t13 t61 t67 t68 t69) W
 | s8 {t12 t13 t61 t67 t68 t69:Value} {A:Option Addr} {c:Nat} {W:World} (h:AsI w1 nl true true true true true true t12 t13 t61 t67 t68 t69 A c W):fh w1 nl Fz 0 #[true,true,true,true,true,true,true,true,true,true,true] (Fz t12 t13 t61 t67 t68 t69) W
theorem cas_reg{K:Act→World→Prop}{Q:Exit→Act→World→Prop}{w1:World}{g5 g7 cb n1 d1 n2 e1 b nl:Nat}{ad:Addr}{A1 C1:Option Addr}{u0 u1 u2 u3 u4 u6 u8 u9 sO sP sQ sR sS sT sU sV sW sX sY sZ ta tc td te tf tg th tj u32 tn tp tq tt tu tw tz tA tB tC tD tE tF tG tH tI tJ tK tL tM tN tO tP tQ tR tS tT tU tW tX tY tZ ua ub uc ud ue uf ug uh ui uk um un uo uq ut uv uw ux uy uA uB uC uD uE uF uG sh si sj sp sq sr su sw sx sy sA sB sC sD sE sF sG sH sI sJ sK sL sM sN uJ uK uL uM uN uO uP z63 z64 uQ z66:Value}(b3:w1.cell? ⟨g5,3,none⟩=some (.slice (some ad) 1 cb))(f0:w1.cell? ad=some (.slice A1 n1 d1))(f1:w1.cell? ⟨ad.block,ad.off+1,none⟩=some (.slice C1 n2 e1))(d0:w1.cell? ⟨g7,0,none⟩=some (.map (some b)))(uI:Hid (∀V,Ext w1 V→Calls Tryz.prog 20 #[.agg #[.slice A1 n1 d1,.slice C1 n2 e1],.agg #[.map (some b)]] V (fun e W=>Ext V W∧∃A c,e=.returned (.tuple #[.slice A nl c,.int .i64 0]))))(hK:∀A c t61 t67 t68 t69 W,Ext w1 W→K ⟨#[u0,u1,u2,u3,u4,.pointer (some ⟨g5,0,none⟩),u6,.pointer (some ⟨g7,0,none⟩),u8,u9,sO,sP,.slice A nl c,.int .i64 0,sQ,sR,sS,sT,sU,sV,sW,sX,sY,sZ,ta,tc,td,te,tf,tg,th,tj,u32,tn,tp,tq,tt,tu,tw,tz,tA,tB,tC,tD,tE,tF,tG,tH,tI,tJ,tK,tL,tM,tN,tO,tP,tQ,tR,tS,tT,tU,t61,.pointer (some ⟨g5,3,none⟩),.slice (some ad) 1 cb,.pointer (some ad),.agg #[.slice A1 n1 d1,.slice C1 n2 e1],.agg #[.map (some b)],t67,t68,t69,tW,tX,tY,tZ,ua,ub,uc,ud,ue,uf,ug,uh,ui,uk,um,un,uo,uq,ut,uv,uw,ux,uy,uA,uB,uC,uD,uE,uF,uG,sh,si,sj,sp,sq,sr,su,sw,sx,sy,sA,sB,sC,sD,sE,sF,sG,sH,sI,sJ,sK,sL,sM,sN],[]⟩ W) :
  Code.wp Tryz.prog casRg (Exit.then K Q) ⟨#[u0,u1,u2,u3,u4,.pointer (some ⟨g5,0,none⟩),u6,.pointer (some ⟨g7,0,none⟩),u8,u9,sO,sP,uJ,uK,sQ,sR,sS,sT,sU,sV,sW,sX,sY,sZ,ta,tc,td,te,tf,tg,th,tj,u32,tn,tp,tq,tt,tu,tw,tz,tA,tB,tC,tD,tE,tF,tG,tH,tI,tJ,tK,tL,tM,tN,tO,tP,tQ,tR,tS,tT,tU,uL,uP,z63,z64,uQ,z66,uM,uN,uO,tW,tX,tY,tZ,ua,ub,uc,ud,ue,uf,ug,uh,ui,uk,um,un,uo,uq,ut,uv,uw,ux,uy,uA,uB,uC,uD,uE,uF,uG,sh,si,sj,sp,sq,sr,su,sw,sx,sy,sA,sB,sC,sD,sE,sF,sG,sH,sI,sJ,sK,sL,sM,sN],[]⟩ w1:=by
 have HK:=zN hK
 clear hK
 conv=>arg 2;whnf
 refine cR ?_
 refine wp_region_held_drew (S:=fun V=>Ext w1 V) (by kernel_rfl) (Ext.refl w1).drew (fun se=>?_)
 refine wpAnyH_take (i:=0) (oi:=?ox0) (v:=.pointer (some ⟨g5,3,none⟩)) ?hx0 (by kernel_rfl) (by kernel_rfl) (by kernel_rfl) (fun _ _ _ h=>h) (Or.inl ⟨?wx0,?yx0⟩) se ?rx0
 case hx0=>simp only[jd,jb,jc];rfl
 case wx0=>rfl
 case yx0 =>
  intro V sg

  simp[go_sem] <;> with_reducible rfl
 (try simp only[Act.put,jg,jh,ji])
 refine wpAnyH_take (i:=1) (oi:=?ox1) (v:=.slice (some ad) 1 cb) ?hx1 (by kernel_rfl) (by kernel_rfl) (by kernel_rfl) (fun _ _ _ h=>h) (Or.inl ⟨?wx1,?yx1⟩) se ?rx1
 case hx1=>simp only[jd,jb,jc];rfl
 case wx1=>rfl
 case yx1 =>
  intro V sg
  have q0:=Ext.cell sg b3
  simp[go_sem,q0] <;> with_reducible rfl
 (try simp only[Act.put,jg,jh,ji])
 refine wpAnyH_take (i:=2) (oi:=?ox2) (v:=.pointer (some ad)) ?hx2 (by kernel_rfl) (by kernel_rfl) (by kernel_rfl) (fun _ _ _ h=>h) (Or.inl ⟨?wx2,?yx2⟩) se ?rx2
 case hx2=>simp only[jd,jb,jc];rfl
 case wx2=>rfl
 case yx2 =>
  intro V sg

  simp[go_sem] <;> with_reducible rfl
 (try simp only[Act.put,jg,jh,ji])
 refine wpAnyH_take (i:=3) (oi:=?ox3) (v:=.agg #[.slice A1 n1 d1,.slice C1 n2 e1]) ?hx3 (by kernel_rfl) (by kernel_rfl) (by kernel_rfl) (fun _ _ _ h=>h) (Or.inl ⟨?wx3,?yx3⟩) se ?rx3
 case hx3=>simp only[jd,jb,jc];rfl
 case wx3=>rfl
 case yx3 =>
  intro V sg
  have q0:=Ext.cell sg f0
  have q1:=Ext.cell sg f1
  simp[go_sem,q0,q1] <;> with_reducible rfl
 (try simp only[Act.put,jg,jh,ji])
 refine wpAnyH_take (i:=4) (oi:=?ox4) (v:=.agg #[.map (some b)]) ?hx4 (by kernel_rfl) (by kernel_rfl) (by kernel_rfl) (fun _ _ _ h=>h) (Or.inl ⟨?wx4,?yx4⟩) se ?rx4
 case hx4=>simp only[jd,jb,jc];rfl
 case wx4=>rfl
 case yx4 =>
  intro V sg
  have q0:=Ext.cell sg d0
  simp[go_sem,q0] <;> with_reducible rfl
 (try simp only[Act.put,jg,jh,ji])
 clear b3 f0 f1 d0
 refine cD (I:=fh w1 nl (fun t12 t13 t61 t67 t68 t69=>⟨#[u0,u1,u2,u3,u4,.pointer (some ⟨g5,0,none⟩),u6,.pointer (some ⟨g7,0,none⟩),u8,u9,sO,sP,t12,t13,sQ,sR,sS,sT,sU,sV,sW,sX,sY,sZ,ta,tc,td,te,tf,tg,th,tj,u32,tn,tp,tq,tt,tu,tw,tz,tA,tB,tC,tD,tE,tF,tG,tH,tI,tJ,tK,tL,tM,tN,tO,tP,tQ,tR,tS,tT,tU,t61,.pointer (some ⟨g5,3,none⟩),.slice (some ad) 1 cb,.pointer (some ad),.agg #[.slice A1 n1 d1,.slice C1 n2 e1],.agg #[.map (some b)],t67,t68,t69,tW,tX,tY,tZ,ua,ub,uc,ud,ue,uf,ug,uh,ui,uk,um,un,uo,uq,ut,uv,uw,ux,uy,uA,uB,uC,uD,uE,uF,uG,sh,si,sj,sp,sq,sr,su,sw,sx,sy,sA,sB,sC,sD,sE,sF,sG,sH,sI,sJ,sK,sL,sM,sN],[]⟩)) ?hS ?h0 ?h1 _ _ _ _ ?st
 case hS =>
  intro n l uH W hI
  cases hI with
  | s0 h=>exact h.ext
  | s1 h=>exact h.ext
  | s2 h=>exact h.ext
  | s3 h=>exact h.ext
  | s4 h=>exact h.ext
  | s5 h=>exact h.ext
  | s6 h=>exact h.ext
  | s7 h=>exact h.ext
  | s8 h=>exact h.ext
 case st=>exact fh.s0 (AsI.start (A:=none) (c:=0))
 case h0 =>
  intro l uH W hI
  cases hI with
  | s8 h =>
   refine⟨by kernel_rfl,?_⟩
   have e1:=h.h12 rfl
   have e2:=h.h13 rfl
   subst e1 e2
   exact HK.out _ _ _ _ _ _ _ h.ext
 case h1 =>
  intro m l uH W hI
  cases hI with
  | s0 h =>
   refine ab (rs:=[5]) (by kernel_rfl) (by simp) ?_
   refine aa (o:=?a0_5) ?b0_5 (fun K hK=>?c0_5) ?d0_5
   case b0_5=>simp only[jd,jb,jc];rfl
   case c0_5 =>
    have hx:=h.ext
    go_simp
    go_at_call 20
    (with_reducible refine(uI.out _ hx).mono ?_)
    rintro e W2 ⟨he,A2,c2,rfl⟩
    (try simp only[Act.put,jg,jh,ji])
    exact hK.out _ _ (fh.s1 (h.call he))
   exact ah
  | s1 h =>
   refine ab (rs:=[6]) (by kernel_rfl) (by simp) ?_
   refine aa (o:=?a1_6) ?b1_6 (fun K hK=>?c1_6) ?d1_6
   case b1_6=>simp only[jd,jb,jc];rfl
   case c1_6 =>
    have e:=h.h67 rfl
    have h9:=h.mv
    subst e
    go_simp
    exact hK.out _ _ (fh.s2 (h9))
   exact ah
  | s2 h =>
   refine ab (rs:=[7,8]) (by kernel_rfl) (by simp) ?_
   refine aa (o:=?a2_7) ?b2_7 (fun K hK=>?c2_7) ?d2_7
   case b2_7=>simp only[jd,jb,jc];rfl
   case c2_7 =>
    have e:=h.h61 rfl
    have h9:=h.e0
    subst e
    go_simp
    exact hK.out _ _ (fh.s3 (h9))
   refine aa (o:=?a2_8) ?b2_8 (fun K hK=>?c2_8) ?d2_8
   case b2_8=>simp only[jd,jb,jc];rfl
   case c2_8 =>
    have e:=h.h61 rfl
    have h9:=h.e1
    subst e
    go_simp
    exact hK.out _ _ (fh.s4 (h9))
   exact ah
  | s3 h =>
   refine ab (rs:=[8,9]) (by kernel_rfl) (by simp) ?_
   refine aa (o:=?a3_8) ?b3_8 (fun K hK=>?c3_8) ?d3_8
   case b3_8=>simp only[jd,jb,jc];rfl
   case c3_8 =>
    have e:=h.h61 rfl
    have h9:=h.e1
    subst e
    go_simp
    exact hK.out _ _ (fh.s5 (h9))
   refine aa (o:=?a3_9) ?b3_9 (fun K hK=>?c3_9) ?d3_9
   case b3_9=>simp only[jd,jb,jc];rfl
   case c3_9 =>
    go_simp
    exact hK.out _ _ (fh.s6 (h.a0))
   exact ah
  | s4 h =>
   refine ab (rs:=[7]) (by kernel_rfl) (by simp) ?_
   refine aa (o:=?a4_7) ?b4_7 (fun K hK=>?c4_7) ?d4_7
   case b4_7=>simp only[jd,jb,jc];rfl
   case c4_7 =>
    have e:=h.h61 rfl
    have h9:=h.e0
    subst e
    go_simp
    exact hK.out _ _ (fh.s5 (h9))
   exact ah
  | s5 h =>
   refine ab (rs:=[9]) (by kernel_rfl) (by simp) ?_
   refine aa (o:=?a5_9) ?b5_9 (fun K hK=>?c5_9) ?d5_9
   case b5_9=>simp only[jd,jb,jc];rfl
   case c5_9 =>
    go_simp
    exact hK.out _ _ (fh.s7 (h.a0))
   exact ah
  | s6 h =>
   refine ab (rs:=[8]) (by kernel_rfl) (by simp) ?_
   refine aa (o:=?a6_8) ?b6_8 (fun K hK=>?c6_8) ?d6_8
   case b6_8=>simp only[jd,jb,jc];rfl
   case c6_8 =>
    have e:=h.h61 rfl
    have h9:=h.e1
    subst e
    go_simp
    exact hK.out _ _ (fh.s7 (h9))
   exact ah
  | s7 h =>
   refine ab (rs:=[10]) (by kernel_rfl) (by simp) ?_
   refine aa (o:=?a7_10) ?b7_10 (fun K hK=>?c7_10) ?d7_10
   case b7_10=>simp only[jd,jb,jc];rfl
   case c7_10 =>
    go_simp
    exact hK.out _ _ (fh.s8 (h.a1))
   exact ah
noncomputable def csrRg:Code:=((Tryz.f7.body.bind (aK 21)).getD .skip)
inductive csrJ(w1:World)(Fz:Value→Value→ Act):Nat→Array Bool→Act→World→Prop
 | s0 {t112 t113:Value} {W:World} (h:SrI w1 false false t112 t113 W):csrJ w1 Fz 2 #[true,true,true,true,true,true,true,true,true,false,false] (Fz t112 t113) W
 | s1 {t112 t113:Value} {W:World} (h:SrI w1 true false t112 t113 W):csrJ w1 Fz 1 #[true,true,true,true,true,true,true,true,true,true,false] (Fz t112 t113) W
 | s2 {t112 t113:Value} {W:World} (h:SrI w1 true true t112 t113 W):csrJ w1 Fz 0 #[true,true,true,true,true,true,true,true,true,true,true] (Fz t112 t113) W
theorem csr_reg{K:Act→World→Prop}{Q:Exit→Act→World→Prop}{w1:World}{n cp cq i m1 d1 m2 d2:Nat}{ad ae:Addr}{A1 A2:Option Addr}{u0 u1 u2 u3 u4 u5 u6 u7 u8 u9 sD sE sF sG sH sI sJ sK sL sM sN sO sP sQ sR sS sT sU sV u32 sW sX sY sZ ta tc td te tf tg th tj tn tp tq tt tu tw tz tA tB tC tD tE tF tG tH tI tJ tK tL u64 tM tN tO tP tQ tR tS tT tU tW tX tY tZ ua ub uc ud ue uf ug uh ui uk um un uo uq ut uv uw ux uy uA uB uC sh si sj sp sq sr su sw sx sy sA sB sC uD uE uF uG uH uI uJ uK uL uM uN:Value}(i1:(0:Int)≤(i:Int))(i2:(i:Int)<(n:Int))(c0:w1.cell? (ad.add (i*8))=some (.slice A1 m1 d1))(c1:w1.cell? (ae.add i)=some (.slice A2 m2 d2))(uP:Hid (∀V,Ext w1 V→Calls Tryz.prog 25 #[.slice A1 m1 d1,.slice A2 m2 d2] V (fun e W=>Ext V W∧e=.returned (.bool true))))(hK:∀t112 W,Ext w1 W→K ⟨#[u0,u1,u2,u3,u4,u5,u6,u7,u8,u9,.slice (some ad) n cp,sD,sE,sF,.slice (some ae) n cq,sG,sH,.int .i64 (i:Int),sI,sJ,sK,sL,sM,sN,sO,sP,sQ,sR,sS,sT,sU,sV,u32,sW,sX,sY,sZ,ta,tc,td,te,tf,tg,th,tj,tn,tp,tq,tt,tu,tw,tz,tA,tB,tC,tD,tE,tF,tG,tH,tI,tJ,tK,tL,u64,tM,tN,tO,tP,tQ,tR,tS,tT,tU,tW,tX,tY,tZ,ua,ub,uc,ud,ue,uf,ug,uh,ui,uk,um,un,uo,uq,ut,uv,uw,ux,uy,uA,uB,uC,sh,si,sj,.slice (some ad) n cp,.int .i64 (i:Int),.pointer (some (ad.add (i*8))),.pointer (some (ad.add (i*8))),.slice A1 m1 d1,.slice (some ae) n cq,.int .i64 (i:Int),.pointer (some (ae.add i)),.slice A2 m2 d2,t112,.bool false,sp,sq,sr,su,sw,sx,sy,sA,sB,sC],[]⟩ W) :
  Code.wp Tryz.prog csrRg (Exit.then K Q) ⟨#[u0,u1,u2,u3,u4,u5,u6,u7,u8,u9,.slice (some ad) n cp,sD,sE,sF,.slice (some ae) n cq,sG,sH,.int .i64 (i:Int),sI,sJ,sK,sL,sM,sN,sO,sP,sQ,sR,sS,sT,sU,sV,u32,sW,sX,sY,sZ,ta,tc,td,te,tf,tg,th,tj,tn,tp,tq,tt,tu,tw,tz,tA,tB,tC,tD,tE,tF,tG,tH,tI,tJ,tK,tL,u64,tM,tN,tO,tP,tQ,tR,tS,tT,tU,tW,tX,tY,tZ,ua,ub,uc,ud,ue,uf,ug,uh,ui,uk,um,un,uo,uq,ut,uv,uw,ux,uy,uA,uB,uC,sh,si,sj,uF,uG,uH,uI,uJ,uK,uL,uM,uN,uD,uE,sp,sq,sr,su,sw,sx,sy,sA,sB,sC],[]⟩ w1:=by
 have HK:=zN hK
 clear hK
 conv=>arg 2;whnf
 refine cR ?_
 refine wp_region_held_drew (S:=fun V=>Ext w1 V) (by kernel_rfl) (Ext.refl w1).drew (fun se=>?_)
 refine wpAnyH_take (i:=0) (oi:=?ox0) (v:=.slice (some ad) n cp) ?hx0 (by kernel_rfl) (by kernel_rfl) (by kernel_rfl) (fun _ _ _ h=>h) (Or.inl ⟨?wx0,?yx0⟩) se ?rx0
 case hx0=>simp only[jd,jb,jc];rfl
 case wx0=>rfl
 case yx0 =>
  intro V sg

  simp[go_sem] <;> with_reducible rfl
 (try simp only[Act.put,jg,jh,ji])
 refine wpAnyH_take (i:=1) (oi:=?ox1) (v:=.int .i64 (i:Int)) ?hx1 (by kernel_rfl) (by kernel_rfl) (by kernel_rfl) (fun _ _ _ h=>h) (Or.inl ⟨?wx1,?yx1⟩) se ?rx1
 case hx1=>simp only[jd,jb,jc];rfl
 case wx1=>rfl
 case yx1 =>
  intro V sg

  simp[go_sem] <;> with_reducible rfl
 (try simp only[Act.put,jg,jh,ji])
 refine wpAnyH_take (i:=2) (oi:=?ox2) (v:=.pointer (some (ad.add (i*8)))) ?hx2 (by kernel_rfl) (by kernel_rfl) (by kernel_rfl) (fun _ _ _ h=>h) (Or.inl ⟨?wx2,?yx2⟩) se ?rx2
 case hx2=>simp only[jd,jb,jc];rfl
 case wx2=>rfl
 case yx2 =>
  intro V sg

  simp[go_sem,i1,i2] <;> with_reducible rfl
 (try simp only[Act.put,jg,jh,ji])
 refine wpAnyH_take (i:=3) (oi:=?ox3) (v:=.pointer (some (ad.add (i*8)))) ?hx3 (by kernel_rfl) (by kernel_rfl) (by kernel_rfl) (fun _ _ _ h=>h) (Or.inl ⟨?wx3,?yx3⟩) se ?rx3
 case hx3=>simp only[jd,jb,jc];rfl
 case wx3=>rfl
 case yx3 =>
  intro V sg

  simp[go_sem] <;> with_reducible rfl
 (try simp only[Act.put,jg,jh,ji])
 refine wpAnyH_take (i:=4) (oi:=?ox4) (v:=.slice A1 m1 d1) ?hx4 (by kernel_rfl) (by kernel_rfl) (by kernel_rfl) (fun _ _ _ h=>h) (Or.inl ⟨?wx4,?yx4⟩) se ?rx4
 case hx4=>simp only[jd,jb,jc];rfl
 case wx4=>rfl
 case yx4 =>
  intro V sg
  have q0:=Ext.cell sg c0
  simp[go_sem,q0] <;> with_reducible rfl
 (try simp only[Act.put,jg,jh,ji])
 refine wpAnyH_take (i:=5) (oi:=?ox5) (v:=.slice (some ae) n cq) ?hx5 (by kernel_rfl) (by kernel_rfl) (by kernel_rfl) (fun _ _ _ h=>h) (Or.inl ⟨?wx5,?yx5⟩) se ?rx5
 case hx5=>simp only[jd,jb,jc];rfl
 case wx5=>rfl
 case yx5 =>
  intro V sg

  simp[go_sem] <;> with_reducible rfl
 (try simp only[Act.put,jg,jh,ji])
 refine wpAnyH_take (i:=6) (oi:=?ox6) (v:=.int .i64 (i:Int)) ?hx6 (by kernel_rfl) (by kernel_rfl) (by kernel_rfl) (fun _ _ _ h=>h) (Or.inl ⟨?wx6,?yx6⟩) se ?rx6
 case hx6=>simp only[jd,jb,jc];rfl
 case wx6=>rfl
 case yx6 =>
  intro V sg

  simp[go_sem] <;> with_reducible rfl
 (try simp only[Act.put,jg,jh,ji])
 refine wpAnyH_take (i:=7) (oi:=?ox7) (v:=.pointer (some (ae.add i))) ?hx7 (by kernel_rfl) (by kernel_rfl) (by kernel_rfl) (fun _ _ _ h=>h) (Or.inl ⟨?wx7,?yx7⟩) se ?rx7
 case hx7=>simp only[jd,jb,jc];rfl
 case wx7=>rfl
 case yx7 =>
  intro V sg

  simp[go_sem,i1,i2] <;> with_reducible rfl
 (try simp only[Act.put,jg,jh,ji])
 refine wpAnyH_take (i:=8) (oi:=?ox8) (v:=.slice A2 m2 d2) ?hx8 (by kernel_rfl) (by kernel_rfl) (by kernel_rfl) (fun _ _ _ h=>h) (Or.inl ⟨?wx8,?yx8⟩) se ?rx8
 case hx8=>simp only[jd,jb,jc];rfl
 case wx8=>rfl
 case yx8 =>
  intro V sg
  have q0:=Ext.cell sg c1
  simp[go_sem,q0] <;> with_reducible rfl
 (try simp only[Act.put,jg,jh,ji])
 clear c0 c1
 refine cD (I:=csrJ w1 (fun t112 t113=>⟨#[u0,u1,u2,u3,u4,u5,u6,u7,u8,u9,.slice (some ad) n cp,sD,sE,sF,.slice (some ae) n cq,sG,sH,.int .i64 (i:Int),sI,sJ,sK,sL,sM,sN,sO,sP,sQ,sR,sS,sT,sU,sV,u32,sW,sX,sY,sZ,ta,tc,td,te,tf,tg,th,tj,tn,tp,tq,tt,tu,tw,tz,tA,tB,tC,tD,tE,tF,tG,tH,tI,tJ,tK,tL,u64,tM,tN,tO,tP,tQ,tR,tS,tT,tU,tW,tX,tY,tZ,ua,ub,uc,ud,ue,uf,ug,uh,ui,uk,um,un,uo,uq,ut,uv,uw,ux,uy,uA,uB,uC,sh,si,sj,.slice (some ad) n cp,.int .i64 (i:Int),.pointer (some (ad.add (i*8))),.pointer (some (ad.add (i*8))),.slice A1 m1 d1,.slice (some ae) n cq,.int .i64 (i:Int),.pointer (some (ae.add i)),.slice A2 m2 d2,t112,t113,sp,sq,sr,su,sw,sx,sy,sA,sB,sC],[]⟩)) ?hS ?h0 ?h1 _ _ _ _ ?st
 case hS =>
  intro n l uO W hI
  cases hI with
  | s0 h=>exact h.ext
  | s1 h=>exact h.ext
  | s2 h=>exact h.ext
 case st=>exact csrJ.s0 SrI.start
 case h0 =>
  intro l uO W hI
  cases hI with
  | s2 h =>
   refine⟨by kernel_rfl,?_⟩
   have e1:=h.h113 rfl
   subst e1
   exact HK.out _ _ h.ext
 case h1 =>
  intro m l uO W hI
  cases hI with
  | s0 h =>
   refine ab (rs:=[9]) (by kernel_rfl) (by simp) ?_
   refine aa (o:=?a0_9) ?b0_9 (fun K hK=>?c0_9) ?d0_9
   case b0_9=>simp only[jd,jb,jc];rfl
   case c0_9 =>
    have hx:=h.ext
    go_simp
    go_at_call 25
    (with_reducible refine(uP.out _ hx).mono ?_)
    rintro e W2 ⟨he,rfl⟩
    (try simp only[Act.put,jg,jh,ji])
    exact hK.out _ _ (csrJ.s1 (h.call he))
   exact ah
  | s1 h =>
   refine ab (rs:=[10]) (by kernel_rfl) (by simp) ?_
   refine aa (o:=?a1_10) ?b1_10 (fun K hK=>?c1_10) ?d1_10
   case b1_10=>simp only[jd,jb,jc];rfl
   case c1_10 =>
    have e:=h.h112 rfl
    have h9:=h.ng
    subst e
    go_simp
    exact hK.out _ _ (csrJ.s2 (h9))
   exact ah
end Go.Proofs.YtplldnnnhgnbjaaGreatDoor
namespace Go.Proofs.YtplldnnnhgnbjaaGreatDoor
open Go.RowKit Go.Maps
open Go.ChangeShapes Go.WideShapes Go.ChangeAt Go.RowKit Go.Joins Go.Deep
theorem gTab:Tryz.prog.globalNamed "internal/strconv.uint64pow10" = some 1:=by kernel_rfl
theorem tab_of{W:World}(h:laidMetH Tryz.prog Rows.modelReordersRow.laid W):eG W:=by
 have h1:laidMet Tryz.prog [("internal/strconv.uint64pow10",Rows.laid_internal_strconv_uint64pow10)] W:=h.filter (fun x=>x.1 == "internal/strconv.uint64pow10")
 have e:(Rows.laid_internal_strconv_uint64pow10:DataW Unit)=Lib.tabData .u64 Lib.pow10Tab:=by kernel_rfl
 rw[e]at h1
 exact Lib.tabBelow_of_tabIs (Lib.tabIs_of_head (rest:=[]) gTab (by kernel_rfl) Tryz.underlying390 Tryz.underlying87 (by kernel_rfl) (by kernel_rfl) h1)
noncomputable def pY(cs:Array Value):Obj→Obj
 | .cells _ t frozen=>.cells cs t frozen
 | o=>o
noncomputable def lP(os:Os):World :=
 { World.holding Tryz.prog os ⟨#[],#[],[]⟩ with heap:=(((World.holding Tryz.prog os ⟨#[],#[],[]⟩).heap.modify 1 (pY #[.int .u64 1,.int .u64 10,.int .u64 100,.int .u64 1000,.int .u64 10000,.int .u64 100000,.int .u64 1000000,.int .u64 10000000,.int .u64 100000000,.int .u64 1000000000,.int .u64 10000000000,.int .u64 100000000000,.int .u64 1000000000000,.int .u64 10000000000000,.int .u64 100000000000000,.int .u64 1000000000000000,.int .u64 10000000000000000,.int .u64 100000000000000000,.int .u64 1000000000000000000,.int .u64 10000000000000000000])).modify 2 (pY #[.int .u8 0,.int .u8 1,.int .u8 28,.int .u8 2,.int .u8 29,.int .u8 14,.int .u8 24,.int .u8 3,.int .u8 30,.int .u8 22,.int .u8 20,.int .u8 15,.int .u8 25,.int .u8 17,.int .u8 4,.int .u8 8,.int .u8 31,.int .u8 27,.int .u8 13,.int .u8 23,.int .u8 21,.int .u8 19,.int .u8 16,.int .u8 7,.int .u8 26,.int .u8 12,.int .u8 18,.int .u8 6,.int .u8 11,.int .u8 5,.int .u8 10,.int .u8 9])).modify 3 (pY #[.int .u8 0,.int .u8 1,.int .u8 56,.int .u8 2,.int .u8 57,.int .u8 49,.int .u8 28,.int .u8 3,.int .u8 61,.int .u8 58,.int .u8 42,.int .u8 50,.int .u8 38,.int .u8 29,.int .u8 17,.int .u8 4,.int .u8 62,.int .u8 47,.int .u8 59,.int .u8 36,.int .u8 45,.int .u8 43,.int .u8 51,.int .u8 22,.int .u8 53,.int .u8 39,.int .u8 33,.int .u8 30,.int .u8 24,.int .u8 18,.int .u8 12,.int .u8 5,.int .u8 63,.int .u8 55,.int .u8 48,.int .u8 27,.int .u8 60,.int .u8 41,.int .u8 37,.int .u8 16,.int .u8 46,.int .u8 35,.int .u8 44,.int .u8 21,.int .u8 52,.int .u8 32,.int .u8 23,.int .u8 11,.int .u8 54,.int .u8 26,.int .u8 40,.int .u8 15,.int .u8 34,.int .u8 20,.int .u8 31,.int .u8 10,.int .u8 25,.int .u8 14,.int .u8 19,.int .u8 9,.int .u8 13,.int .u8 8,.int .u8 7,.int .u8 6]) }
def TrueE(w:World)(e:Ending)(w':World):Prop:=Ext w w'∧e=.returned (.bool true)
theorem iD{n:Nat}(h:n≤maxLen):n≤9223372036854775807:=by unfold maxLen at h;omega
section
variable {H:Type} {enc:TypeId×Value→H} {W:World} {base:Nat} {fuel:Nat} {cs:List Value} {v:Value} {x:DataW H×List MemPlace}
set_option maxRecDepth 20000
theorem open_atE3(h:DataW.trod enc Tryz.prog W 0 (fun _=>true) true fuel 49 cs=some x):∃a:At,rdAt.R U1 W cs a∧a.rel.size≤maxLen∧TmZ a.terms∧a.terms.length≤maxLen:=by
 obtain⟨xs,n,-,-,hl,sg,hf⟩:=DataW.trod_struct Tryz.underlying49 h
 have se:cs.length=3:=hl.trans (by kernel_rfl)
 match cs,se with
 | [c0,c1,c2],_ =>
  match xs,sg with
  | [y0,y1,y2],_ =>
   have h0:DataW.trod enc Tryz.prog W 0 (fun _=>true) true n 4 [c0]=some y0:=hf 0 _ rfl
   have h1:DataW.trod enc Tryz.prog W 0 (fun _=>true) true n 9 [c1]=some y1:=hf 1 _ rfl
   have h2:DataW.trod enc Tryz.prog W 0 (fun _=>true) true n 47 [c2]=some y2:=hf 2 _ rfl
   obtain⟨b,e0,-⟩:=DataW.trod_bool Tryz.underlying4 h0
   obtain⟨s,e1,-,hs⟩:=DataW.trod_string Tryz.underlying9 h1
   obtain⟨ts,k1,k9,k2⟩:=dD (d8 Tm.cells 4 (fun _=>rfl)) Tryz.underlying47 (by kernel_rfl) (fun t=>t.var.size≤maxLen∧t.str.size≤maxLen) open_tm h2
   injection e0 with e0;injection e1 with e1
   subst e0 e1
   exact⟨⟨b,s,ts⟩,⟨_,rfl,k1.ts⟩,hs,k2,k9⟩
theorem open_rlE3(h:DataW.trod enc Tryz.prog W 0 (fun _=>true) true fuel 46 cs=some x):∃r:Rl,rz.R U1 W cs r∧RlN r:=by
 obtain⟨xs,n,-,-,hl,sh,hf⟩:=DataW.trod_struct Tryz.underlying46 h
 have sg:cs.length=2:=hl.trans (by kernel_rfl)
 match cs,sg with
 | [c0,c1],_ =>
  match xs,sh with
  | [y0,y1],_ =>
   have h0:DataW.trod enc Tryz.prog W 0 (fun _=>true) true n 43 [c0]=some y0:=hf 0 _ rfl
   have h1:DataW.trod enc Tryz.prog W 0 (fun _=>true) true n 44 [c1]=some y1:=hf 1 _ rfl
   obtain⟨se,k1,k2,k3⟩:=dD rdAt Tryz.underlying43 (by kernel_rfl) (fun a=>a.rel.size≤maxLen∧TmZ a.terms∧a.terms.length≤maxLen) open_atE3 h0
   obtain⟨cds,m1,m2,m3⟩:=dD eL Tryz.underlying44 (by kernel_rfl) (fun c=>c.var.size≤maxLen∧c.str.size≤maxLen) open_cdE h1
   exact⟨⟨se,cds⟩,⟨_,_,rfl,k1.ats,m1⟩,⟨⟨fun a ha=>(k3 a ha).1,fun a ha=>(k3 a ha).2.1,fun c hc=>(m3 c hc).1,fun c hc=>(m3 c hc).2⟩,fun a ha=>iD (k3 a ha).2.2,iD m2,iD k2⟩⟩
theorem open_qy3{d:DataW H}{p:List MemPlace}(hv:∃cs:Array Value,v=.agg cs)(h:DataW.Trod enc Tryz.prog W 0 (fun _=>true) true 28 v d p):∃(A:Option Addr) (ca:Nat) (B:Option Addr) (cb:Nat) (O:Option Addr) (co:Nat) (q:Qy),v=.agg #[.slice A q.hd.length ca,.int .i64 q.ag,.string q.av,.slice B q.rs.length cb,.slice O q.od.length co]∧QyR U1 W A ca B cb O co q∧QyZ q∧(∀r∈q.rs,RlN r)∧q.rs.length≤maxLen:=by
 obtain⟨ca,rfl⟩:=hv
 obtain⟨fuel,hf⟩:=h
 obtain⟨xs,n,-,hx,hl,sq,hg⟩:=DataW.trod_struct Tryz.underlying28 hf
 have sg:ca.toList.length=5:=hl.trans (by kernel_rfl)
 obtain⟨cs,sh⟩:=sd ca.toList
 have sp:ca=cs.toArray:=by rw[sh]
 subst sp
 change (∀(i:Nat) (f:Field),_→DataW.trod enc Tryz.prog W 0 (fun _=>true) true n f.type ((cs.drop f.offset).take (Tryz.prog.cellsOf f.type))=xs[i]?) at hg
 have se:cs.length=5:=by rw[←sg]
 clear hf hl sg sh
 match cs,se with
 | [c0,c1,c2,c3,c4],_ =>
  match xs,sq with
  | [y0,y1,y2,y3,y4],_ =>
   have g0:DataW.trod enc Tryz.prog W 0 (fun _=>true) true n 24 [c0]=some y0:=hg 0 _ rfl
   have g1:DataW.trod enc Tryz.prog W 0 (fun _=>true) true n 3 [c1]=some y1:=hg 1 _ rfl
   have g2:DataW.trod enc Tryz.prog W 0 (fun _=>true) true n 9 [c2]=some y2:=hg 2 _ rfl
   have g3:DataW.trod enc Tryz.prog W 0 (fun _=>true) true n 25 [c3]=some y3:=hg 3 _ rfl
   have g4:DataW.trod enc Tryz.prog W 0 (fun _=>true) true n 26 [c4]=some y4:=hg 4 _ rfl
   obtain⟨hd,h1,-,h3⟩:=dD (d8 (fun s:ByteArray=>[Value.string s]) 1 (fun _=>rfl)) Tryz.underlying24 (by kernel_rfl) (fun s=>s.size≤maxLen) open_strE g0
   obtain⟨ag,e1,-,-⟩:=DataW.trod_int Tryz.underlying3 g1
   obtain⟨av,e2,-,sj⟩:=DataW.trod_string Tryz.underlying9 g2
   obtain⟨rs,k1,k9,k3⟩:=dD rz Tryz.underlying25 (by kernel_rfl) (fun r=>RlN r) open_rlE3 g3
   obtain⟨od,m1,-,m3⟩:=dD iO Tryz.underlying26 (by kernel_rfl) (fun k=>k.var.size≤maxLen) open_kyE g4
   injection e1 with e1;injection e2 with e2
   subst e1 e2
   obtain⟨A,si,f1⟩:=h1.sl
   obtain⟨B,cb,f2⟩:=k1.sl
   obtain⟨O,co,f3⟩:=m1.sl
   subst f1 f2 f3
   exact⟨A,si,B,cb,O,co,⟨hd,ag,av,rs,od⟩,rfl,⟨h1.strs,k1,m1⟩,⟨h3,sj,fun r hr=>(k3 r hr).z,m3⟩,k3,k9⟩
theorem open_law{d0 d1 d2:DataW H}{p0 p1 p2:List MemPlace}{v0 v1 v2:Value}(o0:Value.okWide Tryz.prog W .any base 22 v0)(o1:Value.okWide Tryz.prog W .any base 23 v1)(o2:∃cs:Array Value,v2=.agg cs)(h0:DataW.Trod enc Tryz.prog W 0 (fun _=>true) true 22 v0 d0 p0)(h1:DataW.Trod enc Tryz.prog W 0 (fun _=>true) true 23 v1 d1 p1)(h2:DataW.Trod enc Tryz.prog W 0 (fun _=>true) true 28 v2 d2 p2)(se:eG W) :
  ∃(S U A B O:Option Addr) (ns cs nu cu ca cb co:Nat) (ss:List Sc) (us:List Up) (q:Qy),v0=.slice S ns cs∧v1=.slice U nu cu∧v2=.agg #[.slice A q.hd.length ca,.int .i64 q.ag,.string q.av,.slice B q.rs.length cb,.slice O q.od.length co]∧gN U1 U1 U1 W S U A B O ns cs nu cu ca cb co ss us q:=by
 obtain⟨S,cs,ss,e0,r0,-,z0⟩:=open_scs2 o0 h0
 obtain⟨U,cu,us,e1,r1,l1,z1⟩:=open_ups o1 h1
 obtain⟨A,ca,B,cb,O,co,q,e2,r2,z2,n2,l2⟩:=open_qy3 o2 h2
 exact⟨S,U,A,B,O,_,cs,_,cu,ca,cb,co,ss,us,q,e0,e1,e2,⟨r0,r1,r2,n2,z2,iD l1,fun u hu=>iD (z1 u hu).2.1,iD l2,fun x hx=>(z0 x hx).1,fun x hx=>(z0 x hx).2,fun u hu=>⟨(z1 u hu).1,(z1 u hu).2.2⟩,se⟩⟩
end
end Go.Proofs.YtplldnnnhgnbjaaGreatDoor
namespace Go.Proofs.YtplldnnnhgnbjaaGreatDoor
open Go.RowKit Go.Maps
theorem Sl.take{α : Type}{r:Rdg α}{F:Nat→Prop}{w:World}{A:Option Addr}{n c i:Nat}{xs:List α}(h:Sl r F w (.slice A n c) xs)(hi:i≤n):Sl r F w (.slice A i c) (xs.take i):=by
 have hc:=h.cap
 obtain⟨A',c',e,h1,h2⟩:=h
 injection e with e1 e2 e3
 subst e1 e3
 refine⟨A,c,by rw[jt];congr 1;omega,by rw[jt];omega,fun k hk=>?_⟩
 rw[jt]at hk
 rw[zy]
 exact h2 k (by omega)
end Go.Proofs.YtplldnnnhgnbjaaGreatDoor
