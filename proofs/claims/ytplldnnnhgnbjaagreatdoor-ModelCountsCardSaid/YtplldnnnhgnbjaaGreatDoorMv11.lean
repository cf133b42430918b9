/- packed -/
import Derived.Test.YtplldnnnhgnbjaaGreatDoorMv10
import Derived.Maps.RangeWalk
set_option maxRecDepth 20000
set_option maxHeartbeats 3200000
namespace Go.Proofs.YtplldnnnhgnbjaaGreatDoor
open Go.RowKit Go.Maps
theorem rf{key:Value}{kl:Lit}(h:keyOf Tryz.prog 9 key=some kl):∃s:ByteArray,key=.string s∧kl=.string s.data.toList:=by
 rw[keyOf_string Tryz.underlying9]at h
 cases key <;> simp[mapKey,Tryz.underlying9]at h
 obtain⟨-,rfl⟩:=h
 exact⟨_,rfl,rfl⟩
def RngV(w:World)(b r n:Nat)(f:ByteArray→Option Value)(sn:List ByteArray)(cnt:Nat):Prop :=
 ∃(D:DataW Value) (left:Lit→Bool),w.ranges Tryz.prog 9 Rv b r n D left cnt∧(∀s:ByteArray,∀zd,D.atKey (.string s.data.toList) zd=match f s with|some v=>.held v|none=>zd) ∧
  ∀s:ByteArray,left (.string s.data.toList)=((f s).isSome && !decide (s∈sn))
theorem om{w:World}{ops:Array Oper}{rest:List Oper}{o:Oper}{a:Act}{Q:Exit→Act→World→Prop}(hg:o.guard=none)(m:Operand)(t e:TypeId)(si:o.op=Op.range t m)(ht:Tryz.prog.underlying t=some (.map 9 e))(b n:Nat)(f:ByteArray→Option Value)(hm:a.eval m=.map (some b))(sg:aI w b n f)(hK:∀w' cnt,RngV w' b w.heap.size n f [] cnt→w.grownBy w' none→w'.heap.size=w.heap.size+1→wpList Tryz.prog ops Q rest (a.put o.dst (.pointer (some ⟨w.heap.size,0,none⟩))) w'):wpList Tryz.prog ops Q (o::rest) a w:=by
 obtain⟨D,hD,-,sh,se⟩:=sg
 refine wpList_range_own w hg m t si 9 e ek ht Rv b n D hm hD (fun w' h1 h2 h3=>hK w' _ ⟨D,_,h1,sh,fun s=>?_⟩ h2 h3)
 rw[se s]
 simp
theorem same_str(s x:ByteArray):(Lit.string s.data.toList).sameKey (.string x.data.toList)=decide (s=x):=by
 show (s.data.toList == x.data.toList)=_
 by_cases h:s=x
 ·subst h;simp
 ·rw[decide_eq_false h]
  have:s.data.toList≠x.data.toList:=fun e=>h (Go.WideShapes.bytes_inj e)
  simpa using this
theorem oC{w:World}{ops:Array Oper}{rest:List Oper}{o:Oper}{a:Act}{Q:Exit→Act→World→Prop}(hg:o.guard=none)(it:Operand)(sC:o.op=Op.next it false)(b r n:Nat)(f:ByteArray→Option Value)(sn:List ByteArray)(cnt:Nat)(sA:a.eval it=.pointer (some ⟨r,0,none⟩))(h:RngV w b r n f sn cnt)(sh:(∀s,(f s).isSome=true→s∈sn)→wpList Tryz.prog ops Q rest (a.put o.dst (.tuple #[.bool false])) w)(si:∀(s:ByteArray) (v:Value) (w':World) (sg:Nat),f s=some v→s ∉ sn→RngV w' b r n f (sn++[s]) sg→sg<cnt→w.grownBy w' (some r)→w'.heap.size=w.heap.size →
   (Instr.entry (.pointer (some ⟨r,0,none⟩))).run Tryz.prog w'=.ok (.tuple #[.string s,v]) w'→wpList Tryz.prog ops Q rest (a.put o.dst (.tuple #[.bool true,.string s,v])) w'):wpList Tryz.prog ops Q (o::rest) a w:=by
 obtain⟨D,left,sD,su,se⟩:=h
 refine wpList_next_ranges w hg it sC 9 ek Rv Value.string (fun v:Value=>v) (fun key kl hk=>let ⟨s,h1,_⟩:=rf hk;⟨s,h1⟩) (fun v y _=>⟨v,rfl⟩) b r n D left cnt sA sD ?_ ?_
 ·intro _ hl
  refine sh (fun s hs=>?_)
  have h1:=se s
  rw[hl,hs]at h1
  simpa using h1
 ·intro x c kl y w' sg sp sj hv sr sq sB sy sE sw
  obtain⟨s,e1,rfl⟩:=rf sp
  injection e1 with e1
  subst e1
  rw[se x]at sj
  simp only[Bool.and_eq_true,Bool.not_eq_true',decide_eq_false_iff_not]at sj
  have sx:f x=some c:=by
   have h1:=sr (.held (.bool false))
   rw[su x]at h1
   simp only[Rv,Option.some.injEq]at hv
   rw[←hv]at h1
   rcases hf:f x with _|u
   ·rw[hf]at sj;simp at sj
   ·rw[hf]at h1
    simp only[DataW.held.injEq]at h1
    rw[h1]
  refine si x c w' sg sx sj.2 ⟨D,_,sq,su,fun s=>?_⟩ sB sy sE sw
  rw[se s,same_str]
  by_cases h1:s=x
  ·subst h1;simp
  ·simp[h1]
end Go.Proofs.YtplldnnnhgnbjaaGreatDoor
namespace Go.Proofs.YtplldnnnhgnbjaaGreatDoor
open Go.RowKit Go.Maps
theorem qG{a b:At}:pS a b=true↔∀s,dK a.terms s=true→dK b.terms s=true:=by
 unfold pS
 rw[jA]
 constructor
 ·intro h s hs
  obtain⟨h1,t,ht,rfl⟩:=cU.1 hs
  have h2:=h t ht
  rw[Bool.or_eq_true,decide_eq_true_iff,jM]at h2
  rcases h2 with h2|⟨u,hu,h2⟩
  ·exact absurd h2 h1
  ·exact cU.2 ⟨h1,u,hu,of_decide_eq_true h2⟩
 ·intro h t ht
  rw[Bool.or_eq_true,decide_eq_true_iff,jM]
  by_cases hv:t.var=⟨#[]⟩
  ·exact .inl hv
  ·obtain⟨-,u,hu,e⟩:=cU.1 (h t.var (cU.2 ⟨hv,t,ht,rfl⟩))
   exact .inr ⟨u,hu,decide_eq_true e⟩
def gdB(a b:At):Bool:=!b.neg && pS a b
theorem guard_here{xs:List At}{a:At}{i:Nat}(hi:i<xs.length)(h0:∀j (_:j<i) (_:j<xs.length),gdB a xs[j]=false)(h1:gdB a xs[i]=true):fY xs a=some i:=by
 unfold fY
 rw[List.findIdx?_eq_some_iff_getElem]
 exact⟨hi,h1,fun j hj=>by have:=h0 j hj (by omega);unfold gdB at this;simp only[this];decide⟩
theorem guard_none{xs:List At}{a:At}(h0:∀j (_:j<xs.length),gdB a xs[j]=false):fY xs a=none:=by
 unfold fY
 rw[List.findIdx?_eq_none_iff]
 intro x hx
 obtain⟨j,hj,rfl⟩:=jx hx
 exact h0 j hj
def GuardPost(xs:List At)(a:At)(w:World)(e:Ending)(w':World):Prop :=
 Ext w w'∧((∃g:Nat,fY xs a=some g∧e=.returned (.tuple #[.int .i64 (g:Int),.int .i64 0]))∨(fY xs a=none∧e=.returned (.tuple #[.int .i64 0,.int .i64 23])))
theorem oU{l:List Tm}{s:ByteArray}:(ei l s).isSome=dK l s:=by
 unfold ei
 by_cases h:dK l s=true
 ·rw[if_pos h,h];rfl
 ·rw[if_neg h]
  rw[Bool.not_eq_true]at h
  rw[h];rfl
theorem hasV_size{l:List Tm}{s:ByteArray}(hz:TmZ l)(h:dK l s=true):s.size≤maxLen:=by
 obtain⟨-,t,ht,rfl⟩:=cU.1 h
 exact(hz t ht).1
theorem guard_any{F:Nat→Prop}{w:World}{A C:Option Addr}{n c nc cc:Nat}{xs:List At}{k:Nat}(hA:Ats F w (.slice A n c) xs)(hz:∀a∈xs,TmZ a.terms)(hl:∀a∈xs,a.terms.length≤1048576)(hk:k<xs.length)(sg:xs[k].neg=true)(hn:n≤1048576) :
  Calls Tryz.prog 141 #[.agg #[.slice A n c,.slice C nc cc],.int .i64 (k:Int)] w (GuardPost xs xs[k] w):=by
 have tj:n=xs.length:=by
  obtain⟨A',c',e⟩:=hA.sl
  injection e
 obtain⟨a,ha⟩:=sd (xs[k])
 obtain⟨ad,Bk0,sY,rfl,-,c0,c1,c2,sy⟩:=hA.at2 k hk
 rw[←ha]at sg c0 c1 c2 sy ⊢
 have sS:=hz _ (jf hk);have sO:=hl _ (jf hk)
 rw[←ha]at sS sO
 have HA:=zN hA.at2;have HZ:=zN hz;have HL:=zN hl;have HN:=zN tj;have sW:Hid (Ts F w (.slice Bk0 a.terms.length sY) a.terms):=zN ⟨Bk0,sY,rfl,sy.1,sy.2⟩
 have sX:=zN sS;have tz:=zN sO
 have k0:(0:Int)≤(k:Int):=by omega
 have k1:(k:Int)<(n:Int):=by omega
 have k2:¬(k:Int)<0:=by omega
 have k3:¬(n:Int)≤(k:Int):=by omega
 have kn:k<n:=by omega
 rw[sg]at c0
 obtain⟨tZ,su⟩:=sd a.terms.length
 rw[←su]at c2 sW
 have HV:=zN (fun (V:World) (hV:Ext w V)=>iV (a:=a) (sW.out.ext hV) sX.out tz.out)
 rw[sg]at HV
 obtain⟨ar,sZ⟩:=sd a.rel
 rw[←sZ]at c1 HV
 clear hA hz hl tj sy sS sO ha sg su sZ
 go_enter Tryz.func141,Tryz.ntmps141
 go_wp2_with fail
 have hx:Ext w (w.alloc (.cells #[.slice (some ad) n c,.slice C nc cc] 46)):=(Ext.refl w).alloc _
 have kb:=Bk.new w 46 [.slice (some ad) n c,.slice C nc cc]
 change Bk (w.alloc (.cells #[.slice (some ad) n c,.slice C nc cc] 46)) _ _ _ at kb
 generalize (w.alloc (.cells #[.slice (some ad) n c,.slice C nc cc] 46))=w1 at *
 have b0:=kb.c0
 replace c0:=hx.cell c0;replace c1:=hx.cell c1;replace c2:=hx.cell c2
 have sF:=zN hx
 clear kb hx
 go_step3
 go_wp2_with fail
 refine(HV.out _ sF.out).mono ?_
 rintro e w2 ⟨bn,mn,rfl,sK,ta,tQ,hM⟩
 replace b0:=sK.cell b0
 have tH:=zN (sF.out.trans sK);have HM:=zN hM
 have tL:w.heap.size≤bn:=jr sF.out.size ta
 have tK:bn<w2.heap.size:=hM.lt
 clear sK hM c0 c1 c2 tQ ta
 go_wp2_with fail
 go_step3
 go_wp2_with fail
 clear b0
 go_loopg [7,8,38] n (fun fu g e p wr=>∃i:Nat,i+fu=n∧g=.int .i64 0∧e=.int .i64 23∧p=.int .i64 (i:Int)∧Hid (∀j (_:j<i) (_:j<xs.length),gdB a xs[j]=false)∧Ext w2 wr)
 case atStart=>exact⟨0,by omega,rfl,rfl,rfl,zN (fun j hj=>by omega),Ext.refl _⟩
 case round =>
  obtain⟨i,tY,rfl,rfl,rfl,H,sC⟩:=hrel
  obtain⟨N,rfl⟩:=sd gk
  obtain⟨W,rfl⟩:∃W:World,W=wr:=⟨_,rfl⟩
  have HX:=zN (tH.out.trans sC);have sH:=zN sC
  have tW:w2.heap.size≤W.heap.size:=sC.size
  have hi:i≤n:=by omega
  by_cases hlt:i<n
  ·have i1:(0:Int)≤(i:Int):=by omega
   have i2:(i:Int)<(n:Int):=by omega
   have sB:i<xs.length:=by have:=HN.out;omega
   obtain⟨tU,B1,d1,e1,-,d0,sq,d2,hT⟩:=HA.out i sB
   injection e1 with e1
   subst e1
   replace d0:=HX.out.cell d0;replace sq:=HX.out.cell sq;replace d2:=HX.out.cell d2
   have sR:=HZ.out _ (jf sB);have sN:=HL.out _ (jf sB)
   have sM:gdB a xs[i]=false→∀j (_:j<i+1) (_:j<xs.length),gdB a xs[j]=false:=fun h j hj hl=>by
    rcases jz j i with h2|h2
    ·exact H.out j h2 hl
    ·have:j=i:=by omega
     subst this;exact h
   have se:=fun h=>guard_here (a:=a) sB H.out h
   obtain⟨b,hb⟩:=sd (xs[i])
   rw[←hb]at d0 sq d2 sR sN sM se hT
   have HT:Hid (Ts F w (.slice B1 b.terms.length d1) b.terms):=zN ⟨B1,d1,rfl,hT.1,hT.2⟩
   have sT:=zN sM;have HH:=zN se
   have sE:=zN (fun (V:World) (hV:Ext w V)=>iV (a:=b) (HT.out.ext hV) sR sN)
   obtain⟨ng,rl,ts⟩:=b
   simp only at d0 sq d2 HT sE
   obtain⟨nt,th⟩:=sd ts.length
   rw[←th]at d2 HT sE
   clear hb sR sN sM se hT th sC
   rcases ng with _|_
   ·go_wp2_with fail
    refine(sE.out _ (HX.out.alloc _)).mono ?_
    rintro e w4 ⟨bp,mp,rfl,td,tc,tR,sJ⟩
    have sG:=zN ((Ext.alloc (Ext.refl W) _).trans td);have tA:=zN sJ
    have tB:=zN (HM.out.ext (sH.out.trans sG.out))
    have tM:W.heap.size<bp:=by have:=(Ext.alloc (Ext.refl W) (.cells #[.bool false,.string rl,.slice B1 nt d1] 49)).size;simp at tc;omega
    have tN:bp<w4.heap.size:=sJ.lt
    clear td sJ d0 sq d2 tR tc
    go_wp2_with (first
     | (at_range;refine om rfl _ 121 4 rfl Tryz.underlying121 bn mn (ei a.terms) rfl tB.out ?_;intro w5 cnt tn tg tp))
    have te:Ext w4 w5:=(Ext.refl w4).grown tg (fun k e=>by cases e)
    have tD:=zN tn;have sD:=zN te
    have tS:w5.heap.size=w4.heap.size+1:=tp
    clear tn tg tp te
    go_frame
    go_loopg [12] cnt (fun fu (v:Value) wr=>∃(sn:List ByteArray),RngV wr bn w4.heap.size mn (ei a.terms) sn fu∧Hid (∀s∈sn,dK ts s=true)∧Fr (fun b=>b=w4.heap.size) w5 wr)
    case atStart=>exact⟨[],tD.out,zN (fun s hs=>by simp at hs),Fr.refl _ _⟩
    case round =>
     obtain⟨sn,sx,sV,sA⟩:=hrel
     have tF:=zN sx;have tw:=zN sA
     have tt:Ext w4 wr:=sA.new sD.out (fun b hb=>by omega)
     have tJ:=zN tt
     have tC:=zN ((tA.out.ext sD.out).fr sA (by omega))
     clear sx sA tt
     go_wp2_with (first
      | (at_next;refine oC rfl _ rfl bn w4.heap.size mn (ei a.terms) sn gk rfl tF.out ?_ ?_))
     ·intro sh
      have sr:gdB a ⟨false,rl,ts⟩=true:=by
       unfold gdB
       rw[Bool.and_eq_true]
       exact⟨rfl,qG.2 (fun s hs=>sV.out s (sh s (by rw[oU];exact hs)))⟩
      have HQ:=zN (HH.out sr)
      clear sh sr
      go_wp2_with fail
      go_ret2
      exact⟨HX.out.trans (sG.out.trans tJ.out),.inl ⟨i,HQ.out,rfl⟩⟩
     ·intro s v w6 sI tf tT sw tP sj sP tO
      have sQ:dK a.terms s=true:=by rw[←oU,tf];rfl
      have tq:=hasV_size sX.out sQ
      have tG:=zN sQ
      have sU:=zN (tC.out.fr (am sj) (fun e=>by injection e with e;omega))
      have tE:=zN sw
      have sL:Fr (fun b=>b=w4.heap.size) w5 w6:=tw.out.grown sj (fun k e=>.inl (by injection e with e;exact e.symm))
      have tu:=zN sL
      have tI:Hid (Ext w4 w6):=zN (sL.new sD.out (fun b hb=>by omega))
      have si:=qQ ts s
      obtain⟨b,hb⟩:=sd (dK ts s)
      rw[←hb]at si
      have sp:=zN si;have HB:=zN hb
      clear tf tT sw sj sP sL si hb sQ
      rcases b with _|_
      ·have HG:=zN (sT.out (by
        have h1:¬gdB a ⟨false,rl,ts⟩=true:=fun h=>by
         unfold gdB at h
         rw[Bool.and_eq_true]at h
         have h2:=qG.1 h.2 s tG.out
         have h3:=HB.out
         simp only at h2
         rw[h2]at h3
         cases h3
        simpa using h1))
       go_wp2_with (first|(refine ao rfl _ _ 121 4 rfl Tryz.underlying121 (.bool false) (bI _) bp mp _ rfl sU.out s rfl tq (.bool false) sp.out ?_))
       go_roundg (N-1)
       case measure=>omega
       case rel=>exact⟨i+1,by omega,rfl,rfl,by go_num,HG,sH.out.trans (sG.out.trans tI.out)⟩
      ·have HG:Hid (∀x∈sn++[s],dK ts x=true):=zN (fun x hx=>by
        rcases ju.1 hx with hx|hx
        ·exact sV.out x hx
        ·rw[jq.1 hx];exact HB.out.symm)
       go_wp2_with (first|(refine ao rfl _ _ 121 4 rfl Tryz.underlying121 (.bool false) (bI _) bp mp _ rfl sU.out s rfl tq (.bool true) sp.out ?_))
       go_roundg sI
       case measure=>omega
       case rel=>exact⟨sn++[s],tE.out,HG,tu.out⟩
   ·have HG:=zN (sT.out rfl)
    go_wp2_with fail
    go_roundg (N-1)
    case measure=>omega
    case rel=>exact⟨i+1,by omega,rfl,rfl,by go_num,HG,sH.out.alloc _⟩
  ·obtain rfl:i=n:=by omega
   have tX:¬(i:Int)<(i:Int):=by omega
   have HQ:=zN (guard_none (a:=a) (xs:=xs) (fun j hj=>H.out j (by have:=HN.out;omega) hj))
   go_wp2_with fail
   go_ret2
   exact⟨HX.out,.inr ⟨HQ.out,rfl⟩⟩
end Go.Proofs.YtplldnnnhgnbjaaGreatDoor
namespace Go.Proofs.YtplldnnnhgnbjaaGreatDoor
open Go.RowKit Go.Maps
theorem verify_any{F G:Nat→Prop}{w:World}{va vc:Value}{r:Rl}{b m:Nat}{km:Km}(hA:Ats F w va r.ats)(hC:Sl eL G w vc r.cds)(hM:aI w b m (kmF km))(hz:RlZ r)(hl:∀a∈r.ats,a.terms.length≤1048576)(sS:r.ats.length≤1048576)(sW:r.cds.length≤1048576) :
  Calls Tryz.prog 65 #[.agg #[va,vc],.map (some b)] w (Ret (fun x _=>x=.int .i64 (bh km r)) w):=by
 obtain⟨A,c,rfl⟩:=hA.sl
 obtain⟨C,d,rfl⟩:=hC.sl
 obtain⟨n,hn⟩:=sd r.ats.length
 obtain⟨nc,sG⟩:=sd r.cds.length
 rw[←hn]at hA sS ⊢
 rw[←sG]at hC sW ⊢
 have sT:=zN hA;have HA:=zN hA.at2;have HC:=zN hC;have HN:=zN hn;have sK:=zN sG;have HZ:=zN hz;have HM:=zN hM;have HL:=zN hl
 have sO:aA (fI km) r.cds=0→bh km r=aA (p7 r.ats) r.ats:=fun h=>if_pos h
 have sP:aA (fI km) r.cds≠0→bh km r=aA (fI km) r.cds:=fun h=>if_neg h
 have sU:=zN sO;have sV:=zN sP
 clear hn sG hA hC hz hM hl sO sP
 go_enter Tryz.func65,Tryz.ntmps65
 go_wp2_with fail
 have hx:Ext w (w.alloc (.cells #[.slice A n c,.slice C nc d] 46)):=(Ext.refl w).alloc _
 have kb:=Bk.new w 46 [.slice A n c,.slice C nc d]
 change Bk (w.alloc (.cells #[.slice A n c,.slice C nc d] 46)) _ _ _ at kb
 generalize (w.alloc (.cells #[.slice A n c,.slice C nc d] 46))=w1 at *
 have sI:=zN kb
 clear kb
 go_loopw [14] (fun t wr=>∃i:Nat,i≤nc∧t=.int .i64 (i:Int)∧Hid (∀j (_:j<i) (_:j<r.cds.length),fI km r.cds[j]=0)∧Ext w1 wr) (fun t _=>nc-(intOf t).toNat)
 case atStart=>exact⟨0,jn _,rfl,zN (fun j hj=>by omega),Ext.refl _⟩
 case round =>
  obtain⟨i,hi,rfl,H,sx⟩:=hrel
  obtain⟨W,rfl⟩:∃W:World,W=wr:=⟨_,rfl⟩
  have HX:=zN (hx.trans sx);have sL:=zN sx
  by_cases hlt:i<nc
  ·have i1:(0:Int)≤(i:Int):=by omega
   have i2:(i:Int)<(nc:Int):=by omega
   have se:i<r.cds.length:=by have:=sK.out;omega
   obtain⟨ad,rfl,-,d0,d1,d2,d3,d4⟩:=HC.out.cd se
   replace d0:=HX.out.cell d0;replace d1:=HX.out.cell d1;replace d2:=HX.out.cell d2;replace d3:=HX.out.cell d3;replace d4:=HX.out.cell d4
   have sh:=dQ (f:=fI km) se H.out
   have si:=bT (f:=fI km) se H.out
   have sy:=HZ.out.var _ (jf se)
   obtain⟨x,hx⟩:=sd (r.cds[i])
   rw[←hx]at d0 d1 d2 d3 d4 sh si sy
   obtain⟨xv,op,kd,it,st⟩:=x
   simp only at d0 d1 d2 d3 d4 sy
   have sr:=zN sh;have sB:=zN si
   have sg:=dO km xv
   obtain⟨kv,sF⟩:=sd ((km xv).getD 0)
   rw[←sF]at sg
   have sp:=zN sg
   have sR:fI km ⟨xv,op,kd,it,st⟩=if kd=kv then 0 else 5:=by rw[sF];rfl
   have sJ:=zN sR
   clear sh si hx sF sg sR sx
   by_cases hk:kd=kv
   ·have HG:=zN (sr.out (by rw[sJ.out,if_pos hk]))
    have hb:(kd != kv)=false:=by rw[hk];simp
    clear hk
    go_wp2_with (first|(refine ao rfl _ _ 145 3 rfl Tryz.underlying145 (.int .i64 0) (aO _) b m _ rfl (HM.out.ext (HX.out.alloc _)) xv rfl sy (.int .i64 kv) sp.out ?_))
    go_roundw
    case rel=>exact⟨i+1,by omega,by go_num,HG,sL.out.alloc _⟩
    case measure=>simp[intOf];omega
   ·have h5:fI km ⟨xv,op,kd,it,st⟩=5:=by rw[sJ.out,if_neg hk]
    have sD:=sB.out (by rw[h5];decide)
    have HQ:Hid (bh km r=5):=zN (by rw[sV.out (by rw[sD,h5];decide),sD,h5])
    have hb:(kd != kv)=true:=by rw[bne_iff_ne];exact hk
    clear hk h5 sD
    go_wp2_with (first|(refine ao rfl _ _ 145 3 rfl Tryz.underlying145 (.int .i64 0) (aO _) b m _ rfl (HM.out.ext (HX.out.alloc _)) xv rfl sy (.int .i64 kv) sp.out ?_))
    go_ret
    exact Ret.mk (HX.out.alloc _) (bJ HQ.out)
  ·obtain rfl:i=nc:=by omega
   have sX:¬(i:Int)<(i:Int):=by omega
   have HV:=zN (sU.out (ce (fun j hj=>H.out j (by have:=sK.out;omega) hj)))
   have b0:=(sI.out.ext sx).c0
   go_wp2_with fail
   have sA:=zN (sI.out.ext sL.out)
   clear b0
   go_loopw [30] (fun t wr=>∃i:Nat,i≤n∧t=.int .i64 (i:Int)∧Hid (∀j (_:j<i) (_:j<r.ats.length),p7 r.ats r.ats[j]=0)∧Ext W wr) (fun t _=>n-(intOf t).toNat)
   case atStart=>exact⟨0,jn _,rfl,zN (fun j hj=>by omega),Ext.refl _⟩
   case round =>
    obtain⟨k,hk,rfl,H2,sj⟩:=hrel
    have HY:=zN (HX.out.trans sj);have sN:=zN sj
    by_cases hkm:k<n
    ·have j1:(0:Int)≤(k:Int):=by omega
     have j2:(k:Int)<(n:Int):=by omega
     have se:k<r.ats.length:=by have:=HN.out;omega
     have b0:=(sA.out.ext sj).c0;have b1:=(sA.out.ext sj).c1
     have sZ:w.heap.size<wr.heap.size:=(sA.out.ext sj).lt
     obtain⟨ad,Bt,dt,rfl,-,d0,d1,d2,-⟩:=HA.out k se
     replace d0:=HY.out.cell d0;replace d1:=HY.out.cell d1;replace d2:=HY.out.cell d2
     have sh:=dQ (f:=p7 r.ats) se H2.out
     have si:=bT (f:=p7 r.ats) se H2.out
     have sE:=fun (V:World) (hV:Ext w V) (sw:r.ats[k].neg=true)=>guard_any (C:=C) (nc:=i) (cc:=d) (k:=k) (sT.out.ext hV) HZ.out.tms HL.out se sw sS
     obtain⟨x,hx⟩:=sd (r.ats[k])
     rw[←hx]at d0 d1 d2 sh si sE
     have sr:=zN sh;have sB:=zN si
     have sH:=zN sE
     have su:Hid (p7 r.ats x=if x.neg=true then (if (fY r.ats x).isSome=true then 0 else 23) else 0):=zN rfl
     obtain⟨ng,sw⟩:=sd x.neg
     rw[←sw]at d0 su sH
     clear hx sh si sE sj sw
     rcases ng with _|_
     ·have HG:=zN (sr.out (by rw[su.out];rfl))
      go_wp2_with fail
      go_roundw
      case rel=>exact⟨k+1,by omega,by go_num,HG,sN.out.alloc _⟩
      case measure=>simp[intOf];omega
     ·go_wp2_with fail
      refine(sH.out _ (HY.out.alloc _) (by trivial)).mono ?_
      rintro e w5 ⟨sQ,sq⟩
      have sM:=zN sQ
      clear sQ d0 d1 d2 b0 b1
      rcases sq with ⟨g,hg,rfl⟩|⟨hg,rfl⟩
      ·have HG:=zN (sr.out (by rw[su.out,if_pos (by trivial),hg];rfl))
       clear hg
       go_wp2_with fail
       go_roundw
       case rel=>exact⟨k+1,by omega,by go_num,HG,(sN.out.alloc _).trans sM.out⟩
       case measure=>simp[intOf];omega
      ·have sC:p7 r.ats x=23:=by rw[su.out,if_pos (by trivial),hg];rfl
       have HQ:Hid (bh km r=23):=zN (by rw[HV.out,sB.out (by rw[sC];decide),sC])
       clear hg sC
       go_wp2_with fail
       go_ret
       exact Ret.mk ((HY.out.alloc _).trans sM.out) (bJ HQ.out)
    ·obtain rfl:k=n:=by omega
     have sY:¬(k:Int)<(k:Int):=by omega
     have HQ:Hid (bh km r=0):=zN (by rw[HV.out];exact ce (fun j hj=>H2.out j (by have:=HN.out;omega) hj))
     go_wp2_with fail
     go_ret
     exact Ret.mk HY.out (bJ HQ.out)
end Go.Proofs.YtplldnnnhgnbjaaGreatDoor
namespace Go.Proofs.YtplldnnnhgnbjaaGreatDoor
open Go.RowKit Go.Maps
def aP(hd:List ByteArray)(od:List Ky):List Ky:=od++(hd.filter (fun v=>!decide (v∈od.map Ky.var))).map (fun v=>⟨v,false⟩)
def cL(l:List Ky):List Value:=l.flatMap Ky.cells
theorem kG(l:List Ky):(cL l).length=l.length*2:=by
 induction l with
 | nil=>rfl
 | cons a l ih=>simp[cL,Ky.cells]at ih ⊢;omega
theorem kcells_one(l:List Ky):∀u∈cL l,u.oneCell'=true:=by
 intro u hu
 obtain⟨k,-,h⟩:=List.mem_flatMap.1 hu
 simp only[Ky.cells,jB,zJ,or_false]at h
 rcases h with rfl|rfl <;> rfl
theorem fZ:∀{l:List Ky} {i:Nat} (hi:i<l.length) (j:Nat),j<2→(cL l)[i*2+j]?=(l[i].cells)[j]?
 | t::ts,0,_,j,hj=>by
  simp only[cL,jS,Nat.zero_mul,jY,ja]
  rw[zi (by simpa [Ky.cells] using hj)]
 | t::ts,i+1,hi,j,hj=>by
  have ih:=fZ (l:=ts) (i:=i) (by simpa using hi) j hj
  simp only[cL,jS,je]at ih ⊢
  rw[zg (by simp[Ky.cells];omega),←ih]
  congr 1
  simp[Ky.cells];omega
theorem Sl.kcl{F:Nat→Prop}{w:World}{A:Option Addr}{n c:Nat}{l:List Ky}(h:Sl iO F w (.slice A n c) l):Cl F w A (cL l):=by
 rcases l with _|⟨k,l⟩
 ·exact .inl rfl
 ·have h0:=h
  obtain⟨A',c',e,-,hh⟩:=h
  injection e with e1
  subst e1
  obtain⟨ad,cs,rfl,hF,-⟩:=hh 0 (by simp)
  refine .inr ⟨ad,rfl,hF,fun j hj=>?_⟩
  rw[kG]at hj
  obtain⟨sg,se,e,-,hr,hc⟩:=hh (j / 2) (by omega)
  injection e with e
  subst e
  have e2:se=((k::l)[j / 2]'(by omega)).cells:=hr
  subst e2
  have h1:=hc (j % 2) (by simp[Ky.cells];omega)
  have h2:=fZ (l:=k::l) (i:=j / 2) (by omega) (j % 2) (by omega)
  rw[show iO.sz=2 from rfl,show j / 2*2+j % 2=j by omega]at h1
  rw[show j / 2*2+j % 2=j by omega]at h2
  exact(h1.trans (jl _).symm).trans (h2.symm.trans (jl _))
theorem pg{F:Nat→Prop}{w:World}{A B O:Option Addr}{ca cb co nb:Nat}{ag:Int}{av:ByteArray}{hd:List ByteArray}{od:List Ky}(hH:Strs F w (.slice A hd.length ca) hd)(hO:Sl iO F w (.slice O od.length co) od)(sZ:∀s∈hd,s.size≤maxLen)(td:∀k∈od,k.var.size≤maxLen)(tI:hd.length≤500000)(tJ:od.length≤500000) :
  Calls Tryz.prog 124 #[.agg #[.slice A hd.length ca,.int .i64 ag,.string av,.slice B nb cb,.slice O od.length co]] w (Ret (fun x w'=>w'.ownsRow w.heap.size 208 2 x (aP hd od).length (cL (aP hd od))) w):=by
 have sT:=zN (fun (V:World) (hV:Ext w V)=>clone_keys (c:=co) (hO.kcl.ext hV) (kG od) (kcells_one od) (by omega))
 obtain⟨nh,sC⟩:=sd hd.length
 obtain⟨no,sD⟩:=sd od.length
 rw[←sC]at hH tI
 rw[←sD]at hO tJ sT
 rw[←sC,←sD]
 obtain⟨ns,sO⟩:=sd (od.map Ky.var)
 have su:∀i,aP hd od=od++((hd.take i).filter (fun v=>!decide (v∈ns))).map (fun v=>⟨v,false⟩)++((hd.drop i).filter (fun v=>!decide (v∈ns))).map (fun v=>⟨v,false⟩):=fun i=>by
  unfold aP
  rw[zh,←jH,←jK,jX,sO]
 have sJ:=zN su;have sI:=zN sO;have sU:=zN sC;have sV:=zN sD;have HH:=zN hH;have HO:=zN hO;have tj:=zN sZ;have tu:=zN td
 obtain⟨i0,ta,te,tf,tg⟩:=info_parts qV
 have sw:=zN (And.intro ta (And.intro te (And.intro tf tg)));clear ta te tf tg
 have tL:=@run_makeMap Tryz.prog
 clear su sO sC sD hH hO sZ td
 go_enter Tryz.func124,Tryz.ntmps124
 go_wp2_with fail
 have hx:Ext w (w.alloc (.cells #[.slice A nh ca,.int .i64 ag,.string av,.slice B nb cb,.slice O no co] 28)):=(Ext.refl w).alloc _
 have kb:=Bk.new w 28 [.slice A nh ca,.int .i64 ag,.string av,.slice B nb cb,.slice O no co]
 change Bk (w.alloc (.cells #[.slice A nh ca,.int .i64 ag,.string av,.slice B nb cb,.slice O no co] 28)) _ _ _ at kb
 generalize (w.alloc (.cells #[.slice A nh ca,.int .i64 ag,.string av,.slice B nb cb,.slice O no co] 28))=w1 at *
 refine(sT.out _ hx).mono ?_
 rintro e w2 ⟨v2,rfl,he,sj⟩
 obtain⟨A2,c2,rfl⟩:=af sj
 have sy:=kb.ext he
 have b4:=sy.c4
 have tA:=zN (hx.trans he);have sK:=zN sj;have tn:=zN sy
 have sP:w.heap.size≤w1.heap.size:=hx.size
 have tQ:w.heap.size<w2.heap.size:=sy.lt
 clear sj he hx kb sy
 go_wp2_with fail
 have sB:=aI.made w2
 rw[←inF_nil]at sB
 have hx3:Ext w2 (w2.alloc (.map #[] 0)):=(Ext.refl w2).alloc _
 obtain⟨bm,sW⟩:=sd w2.heap.size
 rw[←sW]at sB ⊢
 have tF:w.heap.size<bm:=by omega
 have tG:w2.heap.size≤bm:=by omega
 generalize (w2.alloc (.map #[] 0))=w3 at *
 have tp:=zN sB;have tB:=zN hx3
 clear sB hx3 sW tL b4
 go_loopw [16] (fun t wr=>∃i m:Nat,i≤no∧m≤i∧t=.int .i64 (i:Int)∧aI wr bm m (inF (ns.take i))∧Ext w2 wr) (fun t _=>no-(intOf t).toNat)
 case atStart=>exact⟨0,0,jn _,jo _,rfl,tp.out,tB.out⟩
 case round =>
  obtain⟨i,m,hi,tK,rfl,hM,sq⟩:=hrel
  obtain⟨W,rfl⟩:∃W:World,W=wr:=⟨_,rfl⟩
  have HX:=zN (tA.out.trans sq);have tD:=zN sq;have sH:=zN hM
  clear hM
  by_cases hlt:i<no
  ·have i1:(0:Int)≤(i:Int):=by omega
   have i2:(i:Int)<(no:Int):=by omega
   have sN:i<od.length:=by have:=sV.out;omega
   have sg:i<ns.length:=by rw[sI.out,jk];exact sN
   obtain⟨ad,rfl,-,d0,d1⟩:=HO.out.ky sN
   replace d0:=HX.out.cell d0;replace d1:=HX.out.cell d1
   have sR:=tu.out _ (jf sN)
   have sh:ns.take (i+1)=ns.take i++[od[i].var]:=by rw[jj sg];simp[sI.out]
   obtain⟨⟨xv,xd⟩,hx⟩:=sd (od[i])
   rw[←hx]at d0 d1 sR sh
   simp only at d0 d1 sR sh
   have sx:=zN sh
   clear hx sh sq
   go_wp2_with (first
    | (refine aN rfl _ _ _ 121 4 rfl Tryz.underlying121 bm m (inF (ns.take i)) rfl (sH.out.ext ((Ext.refl W).alloc _)) (by simp only[maxLen];omega) xv (.bool true) rfl sR rfl ?_;intro w5 tc sY;have tq:=zN tc;have th:=zN sY;clear tc sY))
   go_roundw
   case rel=>exact⟨i+1,m+1,by omega,by omega,by go_num,by rw[sx.out,←inF_add];exact tq.out,(tD.out.alloc _).grown th.out (fun k e=>by injection e with e;omega)⟩
   case measure=>simp[intOf];omega
  ·obtain rfl:i=no:=by omega
   have tN:¬(i:Int)<(i:Int):=by omega
   have et:ns.take i=ns:=jp (by rw[sI.out,jk];have:=sV.out;omega)
   rw[et]at sH
   have b0:=(tn.out.ext sq).c0
   have tw:Hid (W.ownsRow w.heap.size 208 2 (.slice A2 i c2) i (cL od)):=zN (by
    have h:=aD sK.out sq
    exact⟨h.1,h.2.imp id (fun ⟨g,cap,tE,e1,e2,e3⟩=>⟨g,cap,tE,e1,jr sP e2,e3⟩)⟩)
   clear et sq
   go_wp2_with fail
   clear b0
   go_loopw [3,27] (fun p t wr=>∃(y k:Nat) (ks:List Ky),y≤nh∧t=.int .i64 (y:Int)∧Hid (ks=od++((hd.take y).filter (fun v=>!decide (v∈ns))).map (fun v=>⟨v,false⟩))∧k≤i+y∧wr.ownsRow w.heap.size 208 2 p k (cL ks)∧Ext w wr∧aI wr bm i (inF ns)) (fun _ t _=>nh-(intOf t).toNat)
   case atStart=>exact⟨0,i,od,jn _,rfl,zN (by simp),by omega,tw.out,HX.out,sH.out.mono tK⟩
   case round =>
    obtain⟨y,k,ks,tS,rfl,sG,tP,sp,sF,hm⟩:=hrel
    obtain⟨Ap,cp,rfl⟩:=af sp
    have se:=zN sp;have sL:=zN sF;have sr:=zN hm
    have tR:w.heap.size≤wr.heap.size:=sF.size
    clear sp hm
    by_cases hyl:y<nh
    ·have y1:(0:Int)≤(y:Int):=by omega
     have y2:(y:Int)<(nh:Int):=by omega
     have sQ:y<hd.length:=by have:=sU.out;omega
     obtain⟨A',c',e,-,sX⟩:=HH.out
     injection e with e1 e2 e3
     subst e1
     obtain⟨tM,rfl,-,f0⟩:=sX.str sQ
     replace f0:=sF.cell f0
     have sS:=tj.out _ (jf sQ)
     have sh:hd.take (y+1)=hd.take y++[hd[y]]:=jj sQ
     obtain⟨v,hv⟩:=sd (hd[y])
     rw[←hv]at f0 sS sh
     have sx:=zN sh
     clear hv sh sX e2 e3 sF
     by_cases sg:v∈ns
     ·have si:Hid ((inF ns v).getD (.bool false)=.bool true):=zN (by rw[mJ,decide_eq_true sg])
      have HG:Hid (ks=od++((hd.take (y+1)).filter (fun v=>!decide (v∈ns))).map (fun v=>⟨v,false⟩)):=zN (by rw[sx.out,jK];simp[sg,sG.out])
      clear sg
      go_wp2_with (first|(refine ao rfl _ _ 121 4 rfl Tryz.underlying121 (.bool false) (bI _) bm i _ rfl sr.out v rfl sS (.bool true) si.out ?_))
      go_roundw
      case rel=>exact⟨y+1,k,ks,by omega,by go_num,HG,by omega,se.out,sL.out,sr.out⟩
      case measure=>simp[intOf];omega
     ·have si:Hid ((inF ns v).getD (.bool false)=.bool false):=zN (by rw[mJ,decide_eq_false sg])
      have HG:Hid (ks++[⟨v,false⟩]=od++((hd.take (y+1)).filter (fun v=>!decide (v∈ns))).map (fun v=>⟨v,false⟩)):=zN (by rw[sx.out,jK];simp[sg,sG.out])
      clear sg
      go_wp2_with (first
       | (refine ao rfl _ _ 121 4 rfl Tryz.underlying121 (.bool false) (bI _) bm i _ rfl sr.out v rfl sS (.bool false) si.out ?_)
       | (at_builtin;refine aq rfl _ _ 26 rfl w.heap.size 208 i0 (.agg #[.string ⟨#[]⟩,.bool false]) 2 24 Tryz.underlying26 sw.out.1 sw.out.2.1 sw.out.2.2.1 sw.out.2.2.2 rfl (by omega) (.slice Ap k cp) k (cL ks) rfl (se.out.alloc _) ⟨wr.heap.size,0,none⟩ 1 1 [.string v,.bool false] rfl rfl (aE wr _ _) (by simp[Value.oneCell']) (by simp only[maxLen];omega) (by omega) (by simp;omega) ?_;intro v8 w8 sE sM tH;obtain⟨A8,c8,rfl⟩:=af sE;have tz:Hid (w8.ownsRow w.heap.size 208 2 (.slice A8 (k+1) c8) (k+1) (cL (ks++[⟨v,false⟩]))):=zN (by unfold cL at sE ⊢;rw[zz];exact sE);have tC:Hid (Ext w w8):=zN ((sL.out.alloc _).grown sM (fun q hq=>aw se.out hq));have tt:Hid (aI w8 bm i (inF ns)):=zN ((sr.out.ext ((Ext.refl wr).alloc _)).fr (am sM) (fun e=>sr.out.ne_own se.out e rfl));clear sE sM tH))
      go_roundw
      case rel=>exact⟨y+1,k+1,ks++[⟨v,false⟩],by omega,by go_num,HG,by omega,tz.out,tC.out,tt.out⟩
      case measure=>simp[intOf];omega
    ·obtain rfl:y=nh:=by omega
     have tO:¬(y:Int)<(y:Int):=by omega
     have sA:ks=aP hd od:=by
      rw[sG.out,sJ.out y,zb (by have:=sU.out;omega)]
      simp
     have hk:k=(aP hd od).length:=by
      have h1:=se.out.1
      rw[kG,sA]at h1
      omega
     have HQ:Hid (wr.ownsRow w.heap.size 208 2 (.slice Ap k cp) (aP hd od).length (cL (aP hd od))):=zN (by rw[←sA,←show k=ks.length by rw[sA];exact hk];exact se.out)
     clear sA hk
     go_wp2_with fail
     go_ret
     exact Ret.mk sL.out HQ.out
end Go.Proofs.YtplldnnnhgnbjaaGreatDoor
