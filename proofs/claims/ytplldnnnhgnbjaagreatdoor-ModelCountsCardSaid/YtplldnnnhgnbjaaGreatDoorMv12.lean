/- packed -/
import Derived.Test.YtplldnnnhgnbjaaGreatDoorMv11
namespace Go.Proofs.YtplldnnnhgnbjaaGreatDoor
open Go.RowKit Go.Maps
theorem ig{P:Program}(t e:TypeId)(z:Value)(b:Nat)(ht:P.underlying t=some (.slice e))(hi:(P.info? e).map (fun i=>(i.zero,i.size,i.bytes))=some (some z,1,b))(hz:z.cells=#[z])(n:Nat)(hb:b*n≤281474976710656)(hn:n≤281474976710656)(w:World) :
  (Instr.makeSlice t (.int .i64 (n:Int)) (.int .i64 (n:Int))).run P w=.ok (.slice (some ⟨w.heap.size,0,none⟩) n n) (w.alloc (.cells (List.replicate n z).toArray e)):=by
 obtain⟨i,hi,h1,h2,h3⟩:=info_parts hi
 have hr:=run_make (P:=P) w t e i z ht hi h1 .i64 .i64 n n (by omega) (by omega) (by rw[h3,←Int.natCast_mul];exact Int.ofNat_le.2 hb) (by omega)
 rw[hr,jL,h2,hz,Nat.mul_one]
 have:madeCells #[z] n=(List.replicate n z).toArray:=by
  unfold madeCells
  apply Array.ext
  ·simp
  ·intro j h1 h2
   simp[Nat.mod_one]
 rw[this]
theorem info_kmap:(Tryz.prog.info? 145).map (fun i=>(i.zero,i.size,i.bytes))=some (some (.map none),1,8):=by kernel_rfl
theorem info_var:(Tryz.prog.info? 151).map (fun i=>(i.zero,i.size,i.bytes))=some (some (.agg #[.string ⟨#[]⟩,.int .i64 0]),2,24):=by kernel_rfl
theorem info_vars:(Tryz.prog.info? 149).map (fun i=>(i.zero,i.size,i.bytes))=some (some (.slice none 0 0),1,24):=by kernel_rfl
def lE(x:Int)(w:World)(e:Ending)(w':World):Prop:=Ext w w'∧∃A n c B m d,e=.returned (.tuple #[.agg #[.slice A n c,.slice B m d],.int .i64 x])
structure KmI(w0 w:World)(g n:Nat)(bs:List Nat)(ms:List Km):Prop where
 bk:Bk w g 145 (bs.map (fun b=>Value.map (some b))++List.replicate (n-bs.length) (Value.map none))
 ge:w0.heap.size≤g
 len:ms.length=bs.length
 le:bs.length≤n
 at':∀i (h:i<bs.length) (h':i<ms.length),w0.heap.size≤bs[i]∧aI w bs[i] 1048576 (kmF ms[i])
theorem KmI.ext{w0 w w':World}{g n:Nat}{bs:List Nat}{ms:List Km}(h:KmI w0 w g n bs ms)(he:Ext w w'):KmI w0 w' g n bs ms:=⟨h.bk.ext he,h.ge,h.len,h.le,fun i hi h'=>⟨(h.at' i hi h').1,(h.at' i hi h').2.ext he⟩⟩
theorem KmI.add{w0 w w1:World}{g n b:Nat}{bs:List Nat}{ms:List Km}{m:Km}(h:KmI w0 w g n bs ms)(he:Ext w w1)(hb:w0.heap.size≤b)(hM:aI w1 b 1048576 (kmF m))(hn:bs.length<n):KmI w0 (w1.setCell ⟨g,bs.length,none⟩ (Value.map (some b))) g n (bs++[b]) (ms++[m]):=by
 have h1:=h.ext he
 have hf:Fr (fun k=>k=g) w1 (w1.setCell ⟨g,bs.length,none⟩ (Value.map (some b))):=(Fr.refl (fun k=>k=g) w1).setCell (p:=⟨g,bs.length,none⟩) (.inl rfl) _
 refine⟨?_,h.ge,by simp[h.len],by simp;omega,fun i hi h'=>?_⟩
 ·have h2:=h1.bk.set bs.length (Value.map (some b))
  have e:(bs.map (fun b=>Value.map (some b))++List.replicate (n-bs.length) (Value.map none)).set bs.length (Value.map (some b))=(bs++[b]).map (fun b=>Value.map (some b))++List.replicate (n-(bs++[b]).length) (Value.map none):=by
   have e1:n-bs.length=(n-(bs++[b]).length)+1:=by simp;omega
   rw[e1,List.replicate_succ,List.set_append_right _ _ (by simp),jH]
   simp
  rwa [e]at h2
 ·have se:∀k mk,aI w1 k 1048576 (kmF mk)→k≠g:=fun k mk hk e=>(hk.ne h1.bk) e.symm
  rcases jz i bs.length with hx|hx
  ·rw[jw hx,jw (by rw[h.len];exact hx)]
   obtain⟨k1,k2⟩:=h1.at' i hx (by rw[h.len];exact hx)
   exact⟨k1,k2.fr hf (se _ _ k2)⟩
  ·have e:i=bs.length:=by simp at hi;omega
   subst e
   rw[jv (jo _),jv (by rw[h.len];exact jo _)]
   simp only[h.len,zm,ja]
   exact⟨hb,hM.fr hf (se _ _ hM)⟩
theorem KmI.cell{w0 w:World}{g n:Nat}{bs:List Nat}{ms:List Km}(h:KmI w0 w g n bs ms){i:Nat}(hi:i<bs.length):w.cell? ⟨g,i,none⟩=some (.map (some bs[i])):=by
 have h1:=h.bk.cell (i:=i) (by simp;omega)
 rw[h1,jw (by simpa using hi)]
 simp
theorem kmOf_ok{ss:List Sc}{r:Rl}{m:Km}(h:aU ss r=.ok m):a8 ss r=m:=by unfold a8;rw[h]
theorem checkE_ast{ss:List Sc}{q:Qy}(h:eU q≠0):aZ ss q=eU q:=if_neg h
theorem checkE_inf{ss:List Sc}{q:Qy}(h:eU q=0)(h1:aA (fun r=>gY (aU ss r)) q.rs≠0):aZ ss q=aA (fun r=>gY (aU ss r)) q.rs:=(if_pos h).trans (if_neg h1)
theorem checkE_ver{ss:List Sc}{q:Qy}(h:eU q=0)(h1:aA (fun r=>gY (aU ss r)) q.rs=0)(h2:aA (fun r=>bh (a8 ss r) r) q.rs≠0):aZ ss q=aA (fun r=>bh (a8 ss r) r) q.rs:=(if_pos h).trans ((if_pos h1).trans (if_neg h2))
theorem oW{l:List Rl}{d:Rl}(h : 0<l.length):l.headD d=l[0]:=by
 cases l with
 | nil=>simp at h
 | cons a l=>rfl
theorem checkE_hd{ss:List Sc}{q:Qy}(h:eU q=0)(h1:aA (fun r=>gY (aU ss r)) q.rs=0)(h2:aA (fun r=>bh (a8 ss r) r) q.rs=0)(h3:¬q.rs.all (fun r=>q.hd.all (fun v=>decide ((a8 ss r v).getD 0=(a8 ss (q.rs.headD ⟨[],[]⟩) v).getD 0)))=true):aZ ss q=5:=(if_pos h).trans ((if_pos h1).trans ((if_pos h2).trans (if_neg h3)))
theorem checkE_sum{ss:List Sc}{q:Qy}(h:eU q=0)(h1:aA (fun r=>gY (aU ss r)) q.rs=0)(h2:aA (fun r=>bh (a8 ss r) r) q.rs=0)(h3:q.rs.all (fun r=>q.hd.all (fun v=>decide ((a8 ss r v).getD 0=(a8 ss (q.rs.headD ⟨[],[]⟩) v).getD 0)))=true)(h4:q.ag=2∧(a8 ss (q.rs.headD ⟨[],[]⟩) q.av).getD 0≠1):aZ ss q=5:=(if_pos h).trans ((if_pos h1).trans ((if_pos h2).trans ((if_pos h3).trans (if_pos h4))))
theorem qz{ss:List Sc}{q:Qy}(h:eU q=0)(h1:aA (fun r=>gY (aU ss r)) q.rs=0)(h2:aA (fun r=>bh (a8 ss r) r) q.rs=0)(h3:q.rs.all (fun r=>q.hd.all (fun v=>decide ((a8 ss r v).getD 0=(a8 ss (q.rs.headD ⟨[],[]⟩) v).getD 0)))=true)(h4:¬(q.ag=2∧(a8 ss (q.rs.headD ⟨[],[]⟩) q.av).getD 0≠1)):aZ ss q=0:=(if_pos h).trans ((if_pos h1).trans ((if_pos h2).trans ((if_pos h3).trans (if_neg h4))))
theorem ast_ok{q:Qy}(h:eU q=0):q.rs≠[]∧q.rs.length≤3∧(q.rs.length≤1∨q.ag=0)∧dr q.hd=0∧gD q.ag q.av=0∧(∀r∈q.rs,cn (dI q.hd q.av) r=0)∧dp q.hd q.od=0:=by
 unfold eU at h
 split at h
 ·cases h
 rename_i h0
 split at h
 ·rename_i h1
  split at h
  ·rename_i h2
   split at h
   ·rename_i h3
    split at h
    ·rename_i h4
     exact⟨h0,h1.1,h1.2,h2,h3,aF.1 h4,h⟩
    ·rename_i h4;exact absurd h h4
   ·rename_i h3;exact absurd h h3
  ·rename_i h2;exact absurd h h2
 ·cases h
theorem lr{nd:List ByteArray}{r:Rl}(h:cn nd r=0):bQ r=0∧(aj r).length≤8∧∀v∈nd++aj r,fS r v=true:=by
 unfold cn at h
 split at h
 ·rename_i h0
  split at h
  ·rename_i h1
   split at h
   ·rename_i h2
    exact⟨h0,h1,jA.1 h2⟩
   ·cases h
  ·cases h
 ·rename_i h0;exact absurd h h0
set_option maxRecDepth 100000 in
set_option maxHeartbeats 12800000 in
theorem oL{F G:Nat→Prop}{w:World}{A B O S:Option Addr}{ca cb co nS cs:Nat}{q:Qy}{ss:List Sc}(h:QyR F w A ca B cb O co q)(hS:Sl el G w (.slice S nS cs) ss)(hz:QyZ q)(wD:q.od.length≤1048576)(wE:ss.length≤maxLen) :
  Calls Tryz.prog 22 #[.agg #[.slice A q.hd.length ca,.int .i64 q.ag,.string q.av,.slice B q.rs.length cb,.slice O q.od.length co],.slice S nS cs] w (lE (aZ ss q) w):=by
 have HA:=zN (fun (V:World) (hV:Ext w V)=>pG (h.ext hV) hz wD)
 have HS:=zN hS;have xm:=zN wE;have HZ:=zN hz;have HR:=zN h.rs;have HH:=zN h.hd
 have wR:=zN (checkE_ast (ss:=ss) (q:=q));have wS:=zN (checkE_inf (ss:=ss) (q:=q));have wU:=zN (checkE_ver (ss:=ss) (q:=q))
 have wV:=zN (checkE_hd (ss:=ss) (q:=q));have wW:=zN (checkE_sum (ss:=ss) (q:=q));have wX:=zN (qz (ss:=ss) (q:=q))
 have xw:=zN (ast_ok (q:=q))
 obtain⟨k0,wy,sQ,sC,wO⟩:=info_parts info_var
 have ux:=zN (And.intro wy (And.intro sQ (And.intro sC wO)))
 obtain⟨l0,wB,wI,wJ,wK⟩:=info_parts info_vars
 have uy:=zN (And.intro wB (And.intro wI (And.intro wJ wK)))
 clear wy sQ sC wO wB wI wJ wK
 obtain⟨j0,wv,wL,wM,wN⟩:=info_parts qU
 have uw:=zN (And.intro wv (And.intro wL (And.intro wM wN)))
 clear wv wL wM wN
 have wC:eU q=0→q.rs.length≤3∧0<q.rs.length∧q.hd.length≤6:=fun h=>by
  obtain⟨h1,h2,-,h3,-⟩:=ast_ok h
  exact⟨h2,by rcases hq:q.rs with _|_;exact absurd hq h1;simp,ia h3⟩
 have wa:=zN wC
 obtain⟨nh,tQ⟩:=sd q.hd.length
 obtain⟨nr,tR⟩:=sd q.rs.length
 obtain⟨no,te⟩:=sd q.od.length
 obtain⟨ag,uD⟩:=sd q.ag
 obtain⟨av,uE⟩:=sd q.av
 rw[←tQ,←tR,←te,←uD,←uE]at HA
 rw[←tQ]at HH
 rw[←tR]at HR
 rw[←tQ,←tR]at wa
 rw[←tQ,←tR,←te,←uD,←uE]
 have vn:=zN tQ;have sU:=zN tR;have vT:=zN uD;have vU:=zN uE
 clear tQ tR te uD uE h hS hz wE wC wD
 go_enter Tryz.func22,Tryz.ntmps22
 go_wp2_with fail
 have hx:Ext w ((w.alloc (.cells #[.slice A nh ca,.int .i64 ag,.string av,.slice B nr cb,.slice O no co] 28)).alloc (.cells #[.slice none 0 0,.slice none 0 0] 66)):=((Ext.refl w).alloc _).alloc _
 have kb:=(Bk.new w 28 [.slice A nh ca,.int .i64 ag,.string av,.slice B nr cb,.slice O no co]).alloc (.cells #[.slice none 0 0,.slice none 0 0] 66)
 have kt:=Bk.new (w.alloc (.cells #[.slice A nh ca,.int .i64 ag,.string av,.slice B nr cb,.slice O no co] 28)) 66 [.slice none 0 0,.slice none 0 0]
 rw[show (w.alloc (.cells #[.slice A nh ca,.int .i64 ag,.string av,.slice B nr cb,.slice O no co] 28)).heap.size=w.heap.size+1 by simp]at kt
 change Bk ((w.alloc (.cells #[.slice A nh ca,.int .i64 ag,.string av,.slice B nr cb,.slice O no co] 28)).alloc (.cells #[.slice none 0 0,.slice none 0 0] 66)) _ _ _ at kb
 change Bk ((w.alloc (.cells #[.slice A nh ca,.int .i64 ag,.string av,.slice B nr cb,.slice O no co] 28)).alloc (.cells #[.slice none 0 0,.slice none 0 0] 66)) _ _ _ at kt
 generalize ((w.alloc (.cells #[.slice A nh ca,.int .i64 ag,.string av,.slice B nr cb,.slice O no co] 28)).alloc (.cells #[.slice none 0 0,.slice none 0 0] 66))=w1 at *
 refine(HA.out _ hx).mono ?_
 rintro e w2 ⟨y,rfl,he,rfl⟩
 have wh:=zN (hx.trans he);have vZ:=zN (kb.ext he);have tq:=zN (kt.ext he)
 have yr:w.heap.size+1<w2.heap.size:=tq.out.lt
 have xU:w.heap.size<w2.heap.size:=by omega
 clear kb kt hx he
 have b3:=vZ.out.c3
 have t0:=tq.out.c0;have t1:=tq.out.c1;have tT:=tq.out.free 0;have tU:=tq.out.free 1
 by_cases e1:¬eU q=0
 ·obtain⟨ev,uk⟩:=sd (eU q)
  have vW:=zN (wR.out e1)
  rw[←uk]at e1 vW ⊢
  have wG:(ev != 0)=true:=by rw[bne_iff_ne];exact e1
  clear uk e1 b3
  go_wp2_with fail
  have kz:Bk ((w2.setCell ⟨w.heap.size+1,0,none⟩ (.slice none 0 0)).setCell ⟨w.heap.size+1,1,none⟩ (.slice none 0 0)) (w.heap.size+1) 66 [.slice none 0 0,.slice none 0 0]:=((tq.out).set 0 _).set 1 _
  have sL:Ext w ((w2.setCell ⟨w.heap.size+1,0,none⟩ (.slice none 0 0)).setCell ⟨w.heap.size+1,1,none⟩ (.slice none 0 0)):=((wh.out).setCell (p:=⟨w.heap.size+1,0,none⟩) (jO _) _).setCell (p:=⟨w.heap.size+1,1,none⟩) (jO _) _
  generalize ((w2.setCell ⟨w.heap.size+1,0,none⟩ (.slice none 0 0)).setCell ⟨w.heap.size+1,1,none⟩ (.slice none 0 0))=wz at *
  have z0:=kz.c0;have z1:=kz.c1
  refine bodyPost_ret (v:=.tuple #[.agg #[.slice none 0 0,.slice none 0 0],.int .i64 ev]) (by simp[results,Tryz.results22,go_sem,z0,z1]) rfl ⟨sL,none,0,0,none,0,0,?_⟩
  rw[vW.out]
 rw[Decidable.not_not]at e1
 obtain⟨ym,yl,yh⟩:=wa.out e1
 have tw:=zN (xw.out e1);have H1:=zN e1
 rw[e1]
 clear e1 t0 t1 tT tU
 have xS:=ig 144 145 (.map none) 8 Tryz.underlying144 info_kmap rfl nr (by omega) (by omega)
 go_wp2_with fail
 have hx3:Ext w2 (w2.alloc (.cells (List.replicate nr (Value.map none)).toArray 145)):=(Ext.refl w2).alloc _
 have kk:=Bk.new w2 145 (List.replicate nr (Value.map none))
 have sy:KmI w (w2.alloc (.cells (List.replicate nr (Value.map none)).toArray 145)) w2.heap.size nr [] []:=⟨kk,by omega,rfl,jn _,fun i hi=>by simp at hi⟩
 rw[show (List.replicate nr (Value.map none)).toArray=Array.replicate nr (Value.map none) by simp]at hx3 sy
 obtain⟨gK,ws⟩:=sd w2.heap.size
 rw[←ws]at sy ⊢
 have xO:w.heap.size+1<gK:=by omega
 clear xS kk
 generalize (w2.alloc (.cells (Array.replicate nr (Value.map none)) 145))=w3 at *
 have xB:=zN (wh.out.trans hx3);have xh:=zN sy;have uX:=zN (vZ.out.ext hx3);have uZ:=zN (tq.out.ext hx3)
 clear sy ws hx3 b3
 go_loopw [38] (fun t wr=>∃(i:Nat) (bs:List Nat),i≤nr∧bs.length=i∧t=.int .i64 (i:Int)∧Hid (∀j (_:j<i) (_:j<q.rs.length),gY (aU ss q.rs[j])=0)∧KmI w wr gK nr bs ((q.rs.take i).map (a8 ss))∧Fr (fun b=>b=gK) w3 wr) (fun t _=>nr-(intOf t).toNat)
 case atStart=>exact⟨0,[],jn _,rfl,rfl,zN (fun j hj=>by omega),xh.out,Fr.refl _ _⟩
 case round =>
  obtain⟨i,bs,hi,wm,rfl,H,sy,sp⟩:=hrel
  obtain⟨W,rfl⟩:∃W:World,W=wr:=⟨_,rfl⟩
  have ut:Ext w W:=sp.new xB.out (fun b hb=>by omega)
  have HX:=zN ut;have tM:=zN sy;have uQ:=zN sp;have sX:=zN wm
  have tp:=zN (uX.out.fr sp (by omega));have tt:=zN (uZ.out.fr sp (by omega))
  have yg:gK<W.heap.size:=sy.bk.lt
  clear sy sp wm
  by_cases hlt:i<nr
  ·have i1:(0:Int)≤(i:Int):=by omega
   have i2:(i:Int)<(nr:Int):=by omega
   have sx:i<q.rs.length:=by have:=sU.out;omega
   obtain⟨ad,B1,d1,C1,e1,rfl,-,f0,f1,sY,sZ⟩:=HR.out.rl sx
   replace f0:=ut.cell f0;replace f1:=ut.cell f1
   have sC:=HZ.out.rs _ (jf sx)
   have sW:=lr (tw.out.2.2.2.2.2.1 _ (jf sx))
   obtain⟨tO,xJ⟩:=ie sW.1 sC
   have sF:=dQ (f:=fun r=>gY (aU ss r)) sx H.out
   have tI:=bT (f:=fun r=>gY (aU ss r)) sx H.out
   have vL:(q.rs.take (i+1)).map (a8 ss)=(q.rs.take i).map (a8 ss)++[a8 ss q.rs[i]]:=by rw[jj sx,jH];rfl
   have sM:=fun (V:World) (hV:Ext w V)=>infer_any (sY.ext hV) (sZ.ext hV) (HS.out.ext hV) sC (by have:=tO.al;omega) tO.tl xm.out
   obtain⟨r,hr⟩:=sd (q.rs[i])
   rw[←hr]at f0 f1 sF tI vL sM
   obtain⟨n1,td⟩:=sd r.ats.length
   obtain⟨m1,tc⟩:=sd r.cds.length
   rw[←td]at f0 sM
   rw[←tc]at f1 sM
   have tX:=zN sF;have vq:=zN tI;have xy:=zN vL;have uU:=zN sM
   clear hr td tc sY sZ sC sF tI vL sM sW tO xJ ut
   go_wp2_with fail
   refine(uU.out _ (HX.out.alloc _)).mono ?_
   rintro e w4 ⟨wn,um⟩
   have tL:=zN ((Ext.alloc (Ext.refl W) _).trans wn)
   have yt:W.heap.size≤w4.heap.size:=tL.out.size
   clear f0 f1 wn
   have sK:=(tM.out.ext tL.out).bk
   have xN:∃v,w4.cell? ⟨gK,i,none⟩=some v:=⟨_,sK.cell (i:=i) (by have:=sX.out;simp;omega)⟩
   obtain⟨vg,yq⟩:=xN
   have yp:w4.frozen? ⟨gK,i,none⟩=false:=sK.free i
   clear sK
   rcases um with ⟨km,bm,mm,sy,rfl,wl,wF,hM⟩|⟨x,hx5,hx0,rfl⟩
   ·have HG:=zN (tX.out (by simp only[sy,gY]))
    have xj:=zN (kmOf_ok sy)
    have tA:=(tM.out).add tL.out (by have:=HX.out.size;simp at wl;omega) (hM.mono wF) (by have:=sX.out;omega)
    rw[sX.out,←xj.out,←xy.out]at tA
    have uK:=zN tA
    have wZ:Hid (Fr (fun b=>b=gK) w3 (w4.setCell ⟨gK,i,none⟩ (Value.map (some bm)))):=zN ((uQ.out.ext tL.out).setCell (p:=⟨gK,i,none⟩) (.inl rfl) _)
    clear sy hM wF wl tA
    go_wp2_with fail
    go_roundw
    case rel=>exact⟨i+1,bs++[bm],by omega,by have:=sX.out;simp;omega,by go_num,HG,uK.out,wZ.out⟩
    case measure=>simp[intOf];omega
   ·have vC:gY (aU ss r)=x:=by rw[hx5];rfl
    have HQ:Hid (aZ ss q=x):=zN (by
     have h1:=vq.out (by simp only[vC];exact hx0)
     simp only[vC]at h1
     rw[wS.out H1.out (by rw[h1];exact hx0),h1])
    have wG:(x != 0)=true:=by rw[bne_iff_ne];exact hx0
    have sA:Bk (w4.setCell ⟨gK,i,none⟩ (Value.map none)) (w.heap.size+1) 66 [.slice none 0 0,.slice none 0 0]:=(tt.out.ext tL.out).fr ((Fr.refl (fun b=>b=gK) w4).setCell (p:=⟨gK,i,none⟩) (.inl rfl) _) (by omega)
    have hx4:Ext w (w4.setCell ⟨gK,i,none⟩ (Value.map none)):=(HX.out.trans tL.out).setCell (p:=⟨gK,i,none⟩) (by show _≤gK;omega) _
    have xC:=zN hx4;have vd:=zN sA
    have t0:=sA.c0;have t1:=sA.c1;have tT:=sA.free 0;have tU:=sA.free 1
    clear hx5 hx0 vC sA hx4
    go_wp2_with fail
    have kz:Bk (((w4.setCell ⟨gK,i,none⟩ (Value.map none)).setCell ⟨w.heap.size+1,0,none⟩ (.slice none 0 0)).setCell ⟨w.heap.size+1,1,none⟩ (.slice none 0 0)) (w.heap.size+1) 66 [.slice none 0 0,.slice none 0 0]:=((vd.out).set 0 _).set 1 _
    have sL:Ext w (((w4.setCell ⟨gK,i,none⟩ (Value.map none)).setCell ⟨w.heap.size+1,0,none⟩ (.slice none 0 0)).setCell ⟨w.heap.size+1,1,none⟩ (.slice none 0 0)):=((xC.out).setCell (p:=⟨w.heap.size+1,0,none⟩) (jO _) _).setCell (p:=⟨w.heap.size+1,1,none⟩) (jO _) _
    generalize (((w4.setCell ⟨gK,i,none⟩ (Value.map none)).setCell ⟨w.heap.size+1,0,none⟩ (.slice none 0 0)).setCell ⟨w.heap.size+1,1,none⟩ (.slice none 0 0))=wz at *
    have z0:=kz.c0;have z1:=kz.c1
    refine bodyPost_ret (v:=.tuple #[.agg #[.slice none 0 0,.slice none 0 0],.int .i64 x]) (by simp[results,Tryz.results22,go_sem,z0,z1]) rfl ⟨sL,none,0,0,none,0,0,?_⟩
    rw[HQ.out]
  ·obtain rfl:i=nr:=by omega
   have ya:¬(i:Int)<(i:Int):=by omega
   have H2:=zN (ce (f:=fun r=>gY (aU ss r)) (l:=q.rs) (fun j hj=>H.out j (by have:=sU.out;omega) hj))
   have et:q.rs.take i=q.rs:=by rw[sU.out];exact jT
   rw[et]at tM
   have b3:=tp.out.c3
   clear et ut
   go_wp2_with fail
   clear b3
   go_loopw [60] (fun t wr=>∃k:Nat,k≤i∧t=.int .i64 (k:Int)∧Hid (∀j (_:j<k) (_:j<q.rs.length),bh (a8 ss q.rs[j]) q.rs[j]=0)∧Ext W wr) (fun t _=>i-(intOf t).toNat)
   case atStart=>exact⟨0,jn _,rfl,zN (fun j hj=>by omega),Ext.refl _⟩
   case round =>
    obtain⟨k,hk,rfl,uW,uq⟩:=hrel
    obtain⟨V,rfl⟩:∃V:World,V=wr:=⟨_,rfl⟩
    have HY:=zN (HX.out.trans uq);have sV:=zN uq
    by_cases sy:k<i
    ·have j1:(0:Int)≤(k:Int):=by omega
     have j2:(k:Int)<(i:Int):=by omega
     have sx:k<q.rs.length:=by have:=sU.out;omega
     have wA:k<bs.length:=by have:=sX.out;omega
     obtain⟨ad,B1,d1,C1,e1,rfl,-,f0,f1,sY,sZ⟩:=HR.out.rl sx
     replace f0:=HY.out.cell f0;replace f1:=HY.out.cell f1
     have sC:=HZ.out.rs _ (jf sx)
     have sW:=lr (tw.out.2.2.2.2.2.1 _ (jf sx))
     obtain⟨-,xP,xQ,wu,-⟩:=nI sW.1
     have sF:=dQ (f:=fun r=>bh (a8 ss r) r) sx uW.out
     have tI:=bT (f:=fun r=>bh (a8 ss r) r) sx uW.out
     obtain⟨-,vy⟩:=tM.out.at' k wA (by rw[jk];exact sx)
     rw[jy]at vy
     have sT:=sV.out.cell (tM.out.cell wA)
     have sB:=fun (U:World) (hU:Ext W U)=>verify_any (sY.ext (HX.out.trans hU)) (sZ.ext (HX.out.trans hU)) (vy.ext hU) sC (fun a ha=>by have:=(pH (wu a ha)).2.1;omega) (by omega) (by omega)
     obtain⟨r,hr⟩:=sd (q.rs[k])
     rw[←hr]at f0 f1 sF tI sB
     obtain⟨n1,td⟩:=sd r.ats.length
     obtain⟨m1,tc⟩:=sd r.cds.length
     obtain⟨bk,sE⟩:=sd (bs[k])
     rw[←td]at f0 sB
     rw[←tc]at f1 sB
     rw[←sE]at sT sB
     have tX:=zN sF;have vq:=zN tI;have vt:=zN sB
     clear hr td tc sE sY sZ sC sF tI sB sW xP xQ wu vy uq
     go_upto_region 16 with fail
     have hx5:Ext V (V.alloc (.cells #[.slice B1 n1 d1,.slice C1 m1 e1] 46)):=(Ext.refl V).alloc _
     have k5:=Bk.new V 46 [.slice B1 n1 d1,.slice C1 m1 e1]
     change Bk (V.alloc (.cells #[.slice B1 n1 d1,.slice C1 m1 e1] 46)) _ _ _ at k5
     generalize (V.alloc (.cells #[.slice B1 n1 d1,.slice C1 m1 e1] 46))=w5 at *
     have g0:=k5.c0;have g1:=k5.c1
     replace sT:=hx5.cell sT
     have uB:=zN hx5
     clear f0 f1 k5 hx5
     go_region_held3 (fun U=>Ext w5 U∧U.cell? ⟨V.heap.size,0,none⟩=some (.slice B1 n1 d1)∧U.cell? ⟨V.heap.size,1,none⟩=some (.slice C1 m1 e1)∧U.cell? ⟨gK,k,none⟩=some (.map (some bk)))
      ((refine(fun he=>⟨he,Ext.cell he g0,Ext.cell he g1,Ext.cell he sT⟩) ?_;repeat (first|exact Ext.refl _|exact(Ext.refl _).drew|refine Ext.drew ?_|refine Ext.trans ?_ (by assumption))))
      (first
       | (go_at_call 65;(with_reducible refine(vt.out _ (sV.out.trans (uB.out.trans (And.left (by assumption))))).mono ?_);rintro e wi ⟨yv,rfl,yf,rfl⟩))
     have tj:=zN (And.left (b:=_∧_) (by assumption))
     clear g0 g1 sT
     by_cases sQ:bh (a8 ss r) r=0
     ·have HG:=zN (tX.out sQ)
      rw[sQ]
      clear sQ
      go_wp2_with fail
      go_roundw
      case rel=>exact⟨k+1,by omega,by go_num,HG,sV.out.trans (uB.out.trans tj.out)⟩
      case measure=>simp[intOf];omega
     ·have h1:=vq.out sQ
      have HQ:Hid (aZ ss q=bh (a8 ss r) r):=zN (by rw[wU.out H1.out H2.out (by rw[h1];exact sQ),h1])
      obtain⟨ev,uk⟩:=sd (bh (a8 ss r) r)
      rw[←uk]at sQ HQ ⊢
      have wG:(ev != 0)=true:=by rw[bne_iff_ne];exact sQ
      have ug:=HX.out.trans (sV.out.trans (uB.out.trans tj.out))
      have sg:=tt.out.ext (sV.out.trans (uB.out.trans tj.out))
      have t0:=sg.c0;have t1:=sg.c1;have tT:=sg.free 0;have tU:=sg.free 1
      have sS:=zN ug;have sj:=zN sg
      clear uk sQ h1 ug sg
      go_wp2_with fail
      have kz:Bk ((wi.setCell ⟨w.heap.size+1,0,none⟩ (.slice none 0 0)).setCell ⟨w.heap.size+1,1,none⟩ (.slice none 0 0)) (w.heap.size+1) 66 [.slice none 0 0,.slice none 0 0]:=((sj.out).set 0 _).set 1 _
      have sL:Ext w ((wi.setCell ⟨w.heap.size+1,0,none⟩ (.slice none 0 0)).setCell ⟨w.heap.size+1,1,none⟩ (.slice none 0 0)):=((sS.out).setCell (p:=⟨w.heap.size+1,0,none⟩) (jO _) _).setCell (p:=⟨w.heap.size+1,1,none⟩) (jO _) _
      generalize ((wi.setCell ⟨w.heap.size+1,0,none⟩ (.slice none 0 0)).setCell ⟨w.heap.size+1,1,none⟩ (.slice none 0 0))=wz at *
      have z0:=kz.c0;have z1:=kz.c1
      refine bodyPost_ret (v:=.tuple #[.agg #[.slice none 0 0,.slice none 0 0],.int .i64 ev]) (by simp[results,Tryz.results22,go_sem,z0,z1]) rfl ⟨sL,none,0,0,none,0,0,?_⟩
      rw[HQ.out]
    ·obtain rfl:k=i:=by omega
     have yc:¬(k:Int)<(k:Int):=by omega
     have H3:=zN (ce (f:=fun r=>bh (a8 ss r) r) (l:=q.rs) (fun j hj=>uW.out j (by have:=sU.out;omega) hj))
     have b3:=(tp.out.ext sV.out).c3
     have tu:=zN (tM.out.ext sV.out);have tY:=zN (tp.out.ext sV.out);have ub:=zN (tt.out.ext sV.out)
     clear uq
     go_wp2_with fail
     clear b3
     go_loopw [79] (fun t wr=>∃x:Nat,x≤k∧t=.int .i64 (x:Int)∧Hid (∀j (_:j<x) (_:j<q.rs.length),∀v∈q.hd,(a8 ss q.rs[j] v).getD 0=(a8 ss (q.rs.headD ⟨[],[]⟩) v).getD 0)∧Ext V wr) (fun t _=>k-(intOf t).toNat)
     case atStart=>exact⟨0,jn _,rfl,zN (fun j hj=>by omega),Ext.refl _⟩
     case round =>
      obtain⟨x,uq,rfl,vX,sw⟩:=hrel
      obtain⟨U,rfl⟩:∃U:World,U=wr:=⟨_,rfl⟩
      have HU:=zN (HY.out.trans sw);have wf:=zN sw
      by_cases hxl:x<k
      ·have b0:=(tY.out.ext sw).c0
       have x1:(0:Int)≤(x:Int):=by omega
       have x2:(x:Int)<(k:Int):=by omega
       have sh:x<q.rs.length:=by have:=sU.out;omega
       go_wp2_with fail
       clear b0
       have tE:x<bs.length:=by have:=sX.out;omega
       have sq : 0<bs.length:=by omega
       obtain⟨-,uC⟩:=(tu.out.ext sw).at' x tE (by rw[jk];exact sh)
       obtain⟨-,sD⟩:=(tu.out.ext sw).at' 0 sq (by rw[jk];omega)
       rw[jy]at uC sD
       have ui:=(tu.out.ext sw).cell tE
       have sJ:=(tu.out.ext sw).cell sq
       have wt:q.rs.headD ⟨[],[]⟩=q.rs[0]'(by omega):=by
        exact oW _
       rw[←wt]at sD
       obtain⟨rx,vK⟩:=sd (q.rs[x])
       obtain⟨r0,tf⟩:=sd (q.rs.headD ⟨[],[]⟩)
       obtain⟨bx,vz⟩:=sd (bs[x])
       obtain⟨b0,tB⟩:=sd (bs[0])
       rw[←vK,←vz]at uC
       rw[←tf,←tB]at sD
       rw[←vz]at ui
       rw[←tB]at sJ
       have xq:=zN uC;have vh:=zN sD;have we:=zN vK;have vo:=zN tf;have wY:=zN ui;have vV:=zN sJ
       clear uC sD ui sJ wt vK tf vz tB sw tE sq
       go_loopw [85] (fun t wr=>∃y:Nat,y≤nh∧t=.int .i64 (y:Int)∧Hid (∀j (_:j<y) (_:j<q.hd.length),(a8 ss rx q.hd[j]).getD 0=(a8 ss r0 q.hd[j]).getD 0)∧Ext U wr) (fun t _=>nh-(intOf t).toNat)
       case atStart=>exact⟨0,jn _,rfl,zN (fun j hj=>by omega),Ext.refl _⟩
       case round =>
        obtain⟨y,xX,rfl,vY,tK⟩:=hrel
        obtain⟨Y,rfl⟩:∃Y:World,Y=wr:=⟨_,rfl⟩
        have vw:=zN tK;have wj:=zN (HU.out.trans tK)
        by_cases hyl:y<nh
        ·have y1:(0:Int)≤(y:Int):=by omega
         have y2:(y:Int)<(nh:Int):=by omega
         have tS:y<q.hd.length:=by have:=vn.out;omega
         obtain⟨A',c',e,-,ta⟩:=HH.out
         injection e with e1 e2 e3
         subst e1
         obtain⟨xG,rfl,-,f0⟩:=ta.str tS
         replace f0:=wj.out.cell f0
         have sR:=HZ.out.hd _ (jf tS)
         have sF:(a8 ss rx q.hd[y]).getD 0=(a8 ss r0 q.hd[y]).getD 0→∀j (_:j<y+1) (_:j<q.hd.length),(a8 ss rx q.hd[j]).getD 0=(a8 ss r0 q.hd[j]).getD 0:=fun h j hj hl=>by
          rcases jz j y with h1|h1
          ·exact vY.out j h1 hl
          ·have:j=y:=by omega
           subst this;exact h
         have te:(a8 ss rx q.hd[y]).getD 0≠(a8 ss r0 q.hd[y]).getD 0→aZ ss q=5:=fun h=>wV.out H1.out H2.out H3.out (fun h2=>h (by
          rw[we.out,vo.out]
          exact of_decide_eq_true (jA.1 (jA.1 h2 _ (jf sh)) _ (jf tS))))
         obtain⟨v,hv⟩:=sd (q.hd[y])
         rw[←hv]at f0 sR sF te
         have l1:=fun n=>(xq.out.ext (tK.drewN n)).look (e:=3) Tryz.underlying145 (aO _) sR (dO _ v)
         have l0:=fun n=>(vh.out.ext (tK.drewN n)).look (e:=3) Tryz.underlying145 (aO _) sR (dO _ v)
         obtain⟨vx,vP⟩:=sd ((a8 ss rx v).getD 0)
         obtain⟨v0,vM⟩:=sd ((a8 ss r0 v).getD 0)
         simp only[←vP]at l1
         simp only[←vM]at l0
         rw[←vP,←vM]at sF te
         have ui:=tK.cell wY.out;have sJ:=tK.cell vV.out
         have tX:=zN sF;have xt:=zN te
         clear hv vP vM sF te ta e2 e3 tK
         by_cases hvv:vx=v0
         ·have HG:=zN (tX.out hvv)
          have hb:(vx != v0)=false:=by rw[hvv];simp
          clear hvv
          go_upto_region 26 with fail
          go_quiet (fail)
          go_wp2_with fail
          go_roundw
          case rel=>exact⟨y+1,by omega,by go_num,HG,vw.out.drewN _⟩
          case measure=>simp[intOf];omega
         ·have HQ:=zN (xt.out hvv)
          have hb:(vx != v0)=true:=by rw[bne_iff_ne];exact hvv
          clear hvv
          go_upto_region 26 with fail
          go_quiet (fail)
          have ug:∀n,Ext w (Y.drewN n):=fun n=>wj.out.drewN n
          have sg:∀n,Bk (Y.drewN n) (w.heap.size+1) 66 [.slice none 0 0,.slice none 0 0]:=fun n=>ub.out.ext (wf.out.trans (vw.out.drewN n))
          have sH:=ug nq
          have se:=sg nq
          obtain⟨wi,tg⟩:∃u:World,u=Y.drewN nq:=⟨_,rfl⟩
          rw[←tg]at sH se ⊢
          have t0:=se.c0;have t1:=se.c1;have tT:=se.free 0;have tU:=se.free 1
          have sS:=zN sH;have sj:=zN se
          clear tg ug sg sH se l1 l0 ui sJ f0
          go_wp2_with fail
          have kz:Bk ((wi.setCell ⟨w.heap.size+1,0,none⟩ (.slice none 0 0)).setCell ⟨w.heap.size+1,1,none⟩ (.slice none 0 0)) (w.heap.size+1) 66 [.slice none 0 0,.slice none 0 0]:=((sj.out).set 0 _).set 1 _
          have sL:Ext w ((wi.setCell ⟨w.heap.size+1,0,none⟩ (.slice none 0 0)).setCell ⟨w.heap.size+1,1,none⟩ (.slice none 0 0)):=((sS.out).setCell (p:=⟨w.heap.size+1,0,none⟩) (jO _) _).setCell (p:=⟨w.heap.size+1,1,none⟩) (jO _) _
          generalize ((wi.setCell ⟨w.heap.size+1,0,none⟩ (.slice none 0 0)).setCell ⟨w.heap.size+1,1,none⟩ (.slice none 0 0))=wz at *
          have z0:=kz.c0;have z1:=kz.c1
          refine bodyPost_ret (v:=.tuple #[.agg #[.slice none 0 0,.slice none 0 0],.int .i64 5]) (by simp[results,Tryz.results22,go_sem,z0,z1]) rfl ⟨sL,none,0,0,none,0,0,?_⟩
          rw[HQ.out]
        ·obtain rfl:y=nh:=by omega
         have xM:¬(y:Int)<(y:Int):=by omega
         have HG:Hid (∀j (_:j<x+1) (_:j<q.rs.length),∀v∈q.hd,(a8 ss q.rs[j] v).getD 0=(a8 ss (q.rs.headD ⟨[],[]⟩) v).getD 0):=zN (fun j hj hl v hv=>by
          rcases jz j x with h1|h1
          ·exact vX.out j h1 hl v hv
          ·have:j=x:=by omega
           subst this
           obtain⟨t,ht,rfl⟩:=jx hv
           rw[←we.out,←vo.out]
           exact vY.out t (by have:=vn.out;omega) ht)
         go_wp2_with fail
         go_roundw
         case rel=>exact⟨x+1,by omega,by go_num,HG,wf.out.trans vw.out⟩
         case measure=>simp[intOf];omega
      ·obtain rfl:x=k:=by omega
       have ye:¬(x:Int)<(x:Int):=by omega
       have uh:q.rs.all (fun r=>q.hd.all (fun v=>decide ((a8 ss r v).getD 0=(a8 ss (q.rs.headD ⟨[],[]⟩) v).getD 0)))=true:=jA.2 (fun r hr=>jA.2 (fun v hv=>by
        obtain⟨j,hj,rfl⟩:=jx hr
        exact decide_eq_true (vX.out j (by have:=sU.out;omega) hj v hv)))
       have H4:=zN uh
       have sq : 0<bs.length:=by have:=sX.out;omega
       have tH : 0<q.rs.length:=by have:=sU.out;omega
       obtain⟨-,sD⟩:=(tu.out.ext sw).at' 0 sq (by rw[jk];exact tH)
       rw[jy]at sD
       have sJ:=(tu.out.ext sw).cell sq
       rw[←oW (d:=⟨[],[]⟩) tH]at sD
       have xl:=zN (tu.out.ext sw);have tn:=zN (tY.out.ext sw);have ua:=zN (ub.out.ext sw)
       obtain⟨r0,tf⟩:=sd (q.rs.headD ⟨[],[]⟩)
       obtain⟨xH,tB⟩:=sd (bs[0])
       rw[←tf,←tB]at sD
       rw[←tB]at sJ
       have uN:=zN sJ
       have l0:=fun n=>(sD.ext ((Ext.refl U).drewN n)).look (e:=3) Tryz.underlying145 (aO _) HZ.out.av (dO _ q.av)
       rw[←vU.out]at l0
       obtain⟨va,vO⟩:=sd ((a8 ss r0 av).getD 0)
       simp only[←vO]at l0
       have wg:Hid ((a8 ss (q.rs.headD ⟨[],[]⟩) q.av).getD 0=va):=zN (by rw[←tf,←vU.out,vO])
       have vh:=zN sD;have vo:=zN tf;have vV:=zN sJ
       clear uh sq tH sD tf tB vO sw
       have q1:=tn.out.c1;have q2:=tn.out.c2
       by_cases hsum:ag=2∧va≠1
       ·have HQ:=zN (wW.out H1.out H2.out H3.out H4.out ⟨by rw[←vT.out];exact hsum.1,by rw[wg.out];exact hsum.2⟩)
        obtain⟨rfl,un⟩:=hsum
        have hb:(va != 1)=true:=by rw[bne_iff_ne];exact un
        clear un
        go_upto_region 30 with fail
        go_quiet (fail)
        have sH:Ext w (U.drewN nq):=HU.out.drewN nq
        have se:Bk (U.drewN nq) (w.heap.size+1) 66 [.slice none 0 0,.slice none 0 0]:=ua.out.ext ((Ext.refl U).drewN nq)
        obtain⟨wi,tg⟩:∃u:World,u=U.drewN nq:=⟨_,rfl⟩
        rw[←tg]at sH se ⊢
        have t0:=se.c0;have t1:=se.c1;have tT:=se.free 0;have tU:=se.free 1
        have sS:=zN sH;have sj:=zN se
        clear tg sH se l0 sJ q1 q2
        go_wp2_with fail
        have kz:Bk ((wi.setCell ⟨w.heap.size+1,0,none⟩ (.slice none 0 0)).setCell ⟨w.heap.size+1,1,none⟩ (.slice none 0 0)) (w.heap.size+1) 66 [.slice none 0 0,.slice none 0 0]:=((sj.out).set 0 _).set 1 _
        have sL:Ext w ((wi.setCell ⟨w.heap.size+1,0,none⟩ (.slice none 0 0)).setCell ⟨w.heap.size+1,1,none⟩ (.slice none 0 0)):=((sS.out).setCell (p:=⟨w.heap.size+1,0,none⟩) (jO _) _).setCell (p:=⟨w.heap.size+1,1,none⟩) (jO _) _
        generalize ((wi.setCell ⟨w.heap.size+1,0,none⟩ (.slice none 0 0)).setCell ⟨w.heap.size+1,1,none⟩ (.slice none 0 0))=wz at *
        have z0:=kz.c0;have z1:=kz.c1
        refine bodyPost_ret (v:=.tuple #[.agg #[.slice none 0 0,.slice none 0 0],.int .i64 5]) (by simp[results,Tryz.results22,go_sem,z0,z1]) rfl ⟨sL,none,0,0,none,0,0,?_⟩
        rw[HQ.out]
       have HQ:=zN (wX.out H1.out H2.out H3.out H4.out (fun h=>hsum ⟨by rw[vT.out];exact h.1,by rw[←wg.out];exact h.2⟩))
       by_cases hag2:ag=2
       case' pos =>
        have un:va=1:=Decidable.of_not_not (fun h=>hsum ⟨hag2,h⟩)
        have hb:(va != 1)=false:=by rw[un];rfl
        subst hag2
        clear hsum un
       case' neg =>
        have hb:(ag == 2)=false:=beq_false_of_ne hag2
        clear hsum hag2
       all_goals
        go_upto_region 30 with fail
        go_quiet (fail)
        have sH:Ext w (U.drewN nq):=HU.out.drewN nq
        have tF:=xl.out.ext ((Ext.refl U).drewN nq)
        have se:=ua.out.ext ((Ext.refl U).drewN nq)
        have sN:=tn.out.ext ((Ext.refl U).drewN nq)
        have vG:=vh.out.ext ((Ext.refl U).drewN nq)
        have vB:=((Ext.refl U).drewN nq).cell uN.out
        obtain⟨wi,tg⟩:∃u:World,u=U.drewN nq:=⟨_,rfl⟩
        rw[←tg]at sH se tF sN vG vB ⊢
        have uO:=zN vB
        have tN:=zN sH;have ve:=zN se;have tZ:=zN tF;have uY:=zN sN;have vm:=zN vG
        have b0:=sN.c0
        have yu:w.heap.size<wi.heap.size:=sN.lt
        clear tg sH se tF sN vG vB l0 sJ q1 q2
        go_wp2_with fail
        have uJ:=Bk.new wi 66 [.slice none 0 0,.slice none 0 0]
        change Bk (wi.alloc (.cells #[.slice none 0 0,.slice none 0 0] 66)) _ _ _ at uJ
        have hx6:Ext wi (wi.alloc (.cells #[.slice none 0 0,.slice none 0 0] 66)):=(Ext.refl wi).alloc _
        have yx:wi.heap.size<(wi.alloc (.cells #[.slice none 0 0,.slice none 0 0] 66)).heap.size:=uJ.lt
        generalize (wi.alloc (.cells #[.slice none 0 0,.slice none 0 0] 66))=w6 at *
        have uV:=zN uJ;have xD:=zN hx6
        clear uJ hx6 b0
        go_loopw [120] (fun t wr=>∃(y:Nat) (u:Value) (zs:List Int),y≤nh∧t=.int .i64 (y:Int)∧Bk wr wi.heap.size 66 [u,.slice none 0 0]∧wr.ownsRow w6.heap.size 3 1 u y (zs.map I64)∧Fr (fun b=>b=wi.heap.size) w6 wr) (fun t _=>nh-(intOf t).toNat)
        case atStart=>exact⟨0,_,[],jn _,rfl,uV.out,World.ownsRow_nil _ _ _ _,Fr.refl _ _⟩
        case round =>
         obtain⟨y,u,zs,xX,rfl,sE,sr,sp⟩:=hrel
         obtain⟨Au,cu,rfl⟩:=af sr
         have sh:Ext wi wr:=sp.new xD.out (fun b hb=>by omega)
         have uM:=zN sE;have tz:=zN sr;have uQ:=zN sp;have xF:=zN sh
         have xW:w6.heap.size≤wr.heap.size:=sp.size
         have x9:wi.heap.size<wr.heap.size:=sE.lt
         have g0:=sE.c0;have gf:=sE.free 0
         clear sE sr sp
         by_cases hyl:y<nh
         ·have y1:(0:Int)≤(y:Int):=by omega
          have y2:(y:Int)<(nh:Int):=by omega
          have tS:y<q.hd.length:=by have:=vn.out;omega
          obtain⟨A',c',e,-,ta⟩:=HH.out
          injection e with e1 e2 e3
          subst e1
          obtain⟨xG,rfl,-,f0⟩:=ta.str tS
          replace f0:=sh.cell (tN.out.cell f0)
          have sR:=HZ.out.hd _ (jf tS)
          obtain⟨v,hv⟩:=sd (q.hd[y])
          rw[←hv]at f0 sR
          have l0:=fun n=>(vm.out.ext (sh.drewN n)).look (e:=3) Tryz.underlying145 (aO _) sR (dO _ v)
          have l1:=(vm.out.ext sh).look (e:=3) Tryz.underlying145 (aO _) sR (dO _ v)
          have l2:=(vm.out.ext sh.drew).look (e:=3) Tryz.underlying145 (aO _) sR (dO _ v)
          obtain⟨uv,sO⟩:=sd ((a8 ss r0 v).getD 0)
          simp only[←sO]at l0 l1 l2
          have vA:wr.cell? ⟨gK,0,none⟩=some (.map (some xH)):=sh.cell uO.out
          clear hv sO ta e2 e3 sh
          go_upto_region 36 with fail
          go_region_law (first
           | (refine bO (by rfl) _ _ _ (by rfl) w6.heap.size 3 j0 (.int .i64 0) 1 8 Tryz.underlying63 uw.out.1 uw.out.2.1 uw.out.2.2.1 uw.out.2.2.2 rfl (by omega) (.slice Au y cu) y (zs.map I64) (by rfl) (by exact aD tz.out ((Ext.refl wr).alloc _).drew) ⟨wr.heap.size,0,none⟩ 1 1 [.int .i64 uv] (by rfl) (by rfl) (by exact aE wr _ _) (by simp[Value.oneCell']) (by simp only[maxLen];omega) (by omega) (by simp;omega) ?_;intro v9 w9 vJ vD xR;obtain⟨A9,c9,rfl⟩:=af vJ;have uG:Bk w9 wi.heap.size 66 [.slice Au y cu,.slice none 0 0]:=Bk.fr (uM.out.ext ((Ext.refl wr).alloc _).drew) (am vD) (fun e=>aQ tz.out uM.out (by decide) e rfl);have q9:=uG.c0;have f9:=uG.free 0;have wQ:=zN uG;have wc:=zN vJ;have xf:=zN vD;clear uG vJ vD xR))
          all_goals
           have uL:=zN (wQ.out.set 0 (.slice A9 (y+1) c9))
           have tC:Fr (fun b=>b=wi.heap.size) w9 (w9.setCell ⟨wi.heap.size,0,none⟩ (.slice A9 (y+1) c9)):=(Fr.refl (fun b=>b=wi.heap.size) w9).setCell (p:=⟨wi.heap.size,0,none⟩) (.inl rfl) _
           have uP:Hid (Fr (fun b=>b=wi.heap.size) w6 (w9.setCell ⟨wi.heap.size,0,none⟩ (.slice A9 (y+1) c9))):=zN (((uQ.out.ext ((Ext.refl wr).alloc _).drew).grown xf.out (fun b hb=>.inr (aw tz.out hb))).trans tC)
           have vp:=zN (bo wc.out tC (fun b hb e=>by have:=aw wc.out hb;omega))
           clear tC q9 f9 g0 gf l0 l1 l2 vA f0
           go_wp2_with fail
           go_roundw
           case rel=>exact⟨y+1,.slice A9 (y+1) c9,zs++[uv],by omega,by go_num,uL.out,by rw[jH];exact vp.out,uP.out⟩
           case measure=>simp[intOf];omega
         ·obtain rfl:y=nh:=by omega
          have xM:¬(y:Int)<(y:Int):=by omega
          have b3:=(uY.out.ext sh).c3
          obtain⟨w7,rfl⟩:∃W:World,W=wr:=⟨_,rfl⟩
          clear sh
          go_wp2_with fail
          clear g0 gf b3
          go_loopw [138] (fun t wr=>∃(j:Nat) (u:Value) (vs:List Value),j≤x∧t=.int .i64 (j:Int)∧Bk wr wi.heap.size 66 [.slice Au y cu,u]∧wr.ownsRow w7.heap.size 149 1 u j vs∧Fr (fun b=>b=wi.heap.size) w7 wr) (fun t _=>x-(intOf t).toNat)
          case atStart=>exact⟨0,_,[],jn _,rfl,uM.out,World.ownsRow_nil _ _ _ _,Fr.refl _ _⟩
          case round =>
           obtain⟨j,u,vs,yj,rfl,sE,sr,sp⟩:=hrel
           obtain⟨Ar,cr,rfl⟩:=af sr
           obtain⟨J,rfl⟩:∃J:World,J=wr:=⟨_,rfl⟩
           have sh:Ext wi J:=sp.new xF.out (fun b hb=>by omega)
           have th:=zN sE;have uc:=zN sr;have uR:=zN sp;have ue:=zN sh
           have xV:w7.heap.size≤J.heap.size:=sp.size
           have xK:wi.heap.size<J.heap.size:=sE.lt
           clear sE sr sp
           by_cases hjl:j<x
           ·have y1:(0:Int)≤(j:Int):=by omega
            have y2:(j:Int)<(x:Int):=by omega
            have uH:j<q.rs.length:=by have:=sU.out;omega
            have ww:j<bs.length:=by have:=sX.out;omega
            obtain⟨ad,B1,d1,C1,e1,rfl,-,f0,f1,sY,sZ⟩:=HR.out.rl uH
            replace f0:=sh.cell (tN.out.cell f0);replace f1:=sh.cell (tN.out.cell f1)
            have sC:=HZ.out.rs _ (jf uH)
            have sW:=lr (tw.out.2.2.2.2.2.1 _ (jf uH))
            obtain⟨tO,-⟩:=ie sW.1 sC
            have vQ:=lq sC
            have vN:=sW.2.1
            obtain⟨-,uf⟩:=tZ.out.at' j ww (by rw[jk];exact uH)
            rw[jy]at uf
            have sT:=tZ.out.cell ww
            have si:=fun (V:World) (hV:Ext wi V)=>fN (sY.ext (tN.out.trans hV)) (sZ.ext (tN.out.trans hV)) tO
            obtain⟨r,hr⟩:=sd (q.rs[j])
            rw[←hr]at f0 f1 vQ vN si uf
            obtain⟨n1,td⟩:=sd r.ats.length
            obtain⟨m1,tc⟩:=sd r.cds.length
            obtain⟨bj,wk⟩:=sd (bs[j])
            rw[←td]at f0 si
            rw[←tc]at f1 si
            rw[←wk]at sT uf
            have xA:=zN vQ;have xz:=zN vN;have ud:=zN si;have xo:=zN uf;have xg:=zN sT
            clear hr td tc wk sY sZ sC sW tO vQ vN uf sT si sh
            go_wp2_with fail
            refine(ud.out _ (ue.out.alloc _)).mono ?_
            rintro e w9 ⟨yv,rfl,wq,su⟩
            obtain⟨A9,c9,rfl⟩:=af su
            have hx9:=(Ext.alloc (Ext.refl J) (.cells #[.slice B1 n1 d1,.slice C1 m1 e1] 46)).trans wq
            have sS:=zN hx9
            obtain⟨nv,vH⟩:=sd ((aj r).length)
            rw[←vH]at su ⊢
            have xx:=zN (Strs.ofn su (Ext.refl w9));have xu:=zN vH
            have xT:nv≤8:=by have:=xz.out;omega
            clear wq hx9 su vH f0 f1
            go_wp2_with fail
            go_loopw [22,146] (fun p t wr=>∃(y:Nat) (zs:List Value),y≤nv∧t=.int .i64 (y:Int)∧wr.ownsRow w9.heap.size 151 2 p y zs∧Ext w9 wr) (fun _ t _=>nv-(intOf t).toNat)
            case atStart=>exact⟨0,[],jn _,rfl,World.ownsRow_nil _ _ _ _,Ext.refl _⟩
            case round =>
             obtain⟨p,xY,yo,rfl,uI,tJ⟩:=hrel
             obtain⟨Ap,cp,rfl⟩:=af uI
             have wd:=zN uI;have xE:=zN tJ
             have uo:=(ue.out.trans sS.out).trans tJ
             have xZ:=zN uo
             have yw:w9.heap.size≤wr.heap.size:=tJ.size
             by_cases hpl:p<nv
             ·have p1:(0:Int)≤(p:Int):=by omega
              have p2:(p:Int)<(nv:Int):=by omega
              have wH:p<(aj r).length:=by have:=xu.out;omega
              obtain⟨A',c',e,-,ta⟩:=xx.out
              injection e with e1 e2 e3
              subst e1
              obtain⟨x8,rfl,-,f0⟩:=ta.str wH
              replace f0:=tJ.cell f0
              have sR:=xA.out _ (jf wH)
              obtain⟨v,hv⟩:=sd ((aj r)[p])
              rw[←hv]at f0 sR
              have sT:=uo.cell xg.out
              have xp:=zN (xo.out.ext uo)
              have tD:=dO (a8 ss r) v
              obtain⟨uv,sO⟩:=sd ((a8 ss r v).getD 0)
              rw[←sO]at tD
              have uT:=zN tD
              clear hv sO tD ta e2 e3 tJ uo uI
              go_wp2_with (first
               | (refine ao rfl _ _ 145 3 rfl Tryz.underlying145 (.int .i64 0) (aO _) bj 1048576 _ rfl xp.out v rfl sR (.int .i64 uv) uT.out ?_)
               | (at_builtin;refine aq rfl _ _ 149 rfl w9.heap.size 151 k0 (.agg #[.string ⟨#[]⟩,.int .i64 0]) 2 24 Tryz.underlying149 ux.out.1 ux.out.2.1 ux.out.2.2.1 ux.out.2.2.2 rfl (by omega) (.slice Ap p cp) p xY rfl (wd.out.alloc _) ⟨wr.heap.size,0,none⟩ 1 1 [.string v,.int .i64 uv] rfl rfl (aE wr _ _) (by simp[Value.oneCell']) (by simp only[maxLen];omega) (by omega) (by simp;omega) ?_;intro v8 w8 tG tP vE;obtain⟨A8,c8,rfl⟩:=af tG;have uA:=zN tG;have vu:Hid (Ext w9 w8):=zN ((xE.out.alloc _).grown tP (fun q hq=>aw wd.out hq));clear tG tP vE))
              go_roundw
              case rel=>exact⟨p+1,_,by omega,by go_num,uA.out,vu.out⟩
              case measure=>simp[intOf];omega
             ·obtain rfl:p=nv:=by omega
              have yd:¬(p:Int)<(p:Int):=by omega
              have sP:=sS.out.trans tJ
              have sI:=th.out.ext sP
              have tW:=zN sI;have sG:=zN (aD uc.out sP);have uS:=zN (uR.out.ext sP)
              have g1:=sI.c1;have xI:=sI.free 1
              have xL:wi.heap.size<wr.heap.size:=sI.lt
              have vR:w7.heap.size≤wr.heap.size:=jr xV sP.size
              clear sP sI tJ uo uI
              go_wp2_with (first
               | (at_builtin;refine aq rfl _ _ 64 rfl w7.heap.size 149 l0 (.slice none 0 0) 1 24 Tryz.underlying64 uy.out.1 uy.out.2.1 uy.out.2.2.1 uy.out.2.2.2 rfl (by omega) (.slice Ar j cr) j vs rfl (sG.out.alloc _) ⟨wr.heap.size,0,none⟩ 1 1 [.slice Ap p cp] rfl rfl (aE wr _ _) (by simp[Value.oneCell']) (by simp only[maxLen];omega) (by omega) (jr vR ((Ext.refl wr).alloc _).size) ?_;intro v8 w8 tG tP vE;obtain⟨A8,c8,rfl⟩:=af tG;have uF:Bk w8 wi.heap.size 66 [.slice Au y cu,.slice Ar j cr]:=Bk.fr (tW.out.alloc _) (am tP) (fun e=>aQ sG.out tW.out (by decide) e rfl);have q8:=uF.c1;have f8:=uF.free 1;have wP:=zN uF;have uA:=zN tG;have xe:Hid (Fr (fun b=>b=wi.heap.size) w7 w8):=zN ((uS.out.alloc _).grown tP (fun b hb=>.inr (aw sG.out hb)));clear uF tG tP vE))
              have uL:=zN (wP.out.set 1 (.slice A8 (j+1) c8))
              have tC:Fr (fun b=>b=wi.heap.size) w8 (w8.setCell ⟨wi.heap.size,1,none⟩ (.slice A8 (j+1) c8)):=(Fr.refl (fun b=>b=wi.heap.size) w8).setCell (p:=⟨wi.heap.size,1,none⟩) (.inl rfl) _
              have uP:=zN (xe.out.trans tC)
              have vp:=zN (bo uA.out tC (fun b hb e=>by have:=aw uA.out hb;omega))
              clear tC q8 f8 g1 xI
              go_roundw
              case rel=>exact⟨j+1,.slice A8 (j+1) c8,_,by omega,by go_num,uL.out,vp.out,uP.out⟩
              case measure=>simp[intOf];omega
           ·obtain rfl:j=x:=by omega
            have yb:¬(j:Int)<(j:Int):=by omega
            have sg:=ve.out.ext sh
            have t0:=sg.c0;have t1:=sg.c1;have tT:=sg.free 0;have tU:=sg.free 1
            have g0:=th.out.c0;have g1:=th.out.c1
            have sS:=zN (tN.out.trans sh);have sj:=zN sg
            clear sg sh
            go_wp2_with fail
            have kz:Bk ((J.setCell ⟨w.heap.size+1,0,none⟩ (.slice Au y cu)).setCell ⟨w.heap.size+1,1,none⟩ (.slice Ar j cr)) (w.heap.size+1) 66 [.slice Au y cu,.slice Ar j cr]:=(sj.out.set 0 _).set 1 _
            have sL:Ext w ((J.setCell ⟨w.heap.size+1,0,none⟩ (.slice Au y cu)).setCell ⟨w.heap.size+1,1,none⟩ (.slice Ar j cr)):=(sS.out.setCell (p:=⟨w.heap.size+1,0,none⟩) (jO _) _).setCell (p:=⟨w.heap.size+1,1,none⟩) (jO _) _
            generalize ((J.setCell ⟨w.heap.size+1,0,none⟩ (.slice Au y cu)).setCell ⟨w.heap.size+1,1,none⟩ (.slice Ar j cr))=wz at *
            have z0:=kz.c0;have z1:=kz.c1
            refine bodyPost_ret (v:=.tuple #[.agg #[.slice Au y cu,.slice Ar j cr],.int .i64 0]) (by simp[results,Tryz.results22,go_sem,z0,z1]) rfl ⟨sL,Au,y,cu,Ar,j,cr,?_⟩
            rw[HQ.out]
