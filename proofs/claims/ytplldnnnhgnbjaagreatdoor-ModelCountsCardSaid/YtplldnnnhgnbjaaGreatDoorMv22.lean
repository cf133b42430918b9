/- packed -/
import Derived.Test.YtplldnnnhgnbjaaGreatDoorMv15
import Derived.Test.YtplldnnnhgnbjaaGreatDoorMv01
import Derived.Lib.AppendStr
import Derived.Laws.BytesString
import Derived.Lib.ItoaLen
import Derived.Test.YtplldnnnhgnbjaaGreatDoorMv21
namespace Go.Proofs.YtplldnnnhgnbjaaGreatDoor
open Go.RowKit Go.Maps
theorem info_u8:(Tryz.prog.info? 5).map (fun i=>(i.zero,i.size,i.bytes))=some (some (.int .u8 0),1,1):=by kernel_rfl
theorem lB{w:World}{ops:Array Oper}{rest:List Oper}{o:Oper}{a:Act}{Q:Exit→Act→World→Prop}(sj:o.guard=none)(s y:Operand)(ho:o.op=.call { callee:=.builtin .append,args:=#[s,y],argTypes:=#[230,9] })(base:Nat)(v:Value)(n:Nat)(xs:List Value)(hs:a.eval s=v)(sh:w.ownsRow base 5 1 v n xs)(x:ByteArray)(hx:a.eval y=.string x)(si:n+x.size≤maxLen)(se:n+x.size≤140737488355328)(sg:base≤w.heap.size)(h:∀v' w',w'.ownsRow base 5 1 v' (n+x.size) (xs++Lib.strCells x)→w.grownBy w' v.ownBlock→wpList Tryz.prog ops Q rest (a.put o.dst v') w'):wpList Tryz.prog ops Q (o::rest) a w :=
 wpList_plain sj fun K hK=>by
  obtain⟨i0,sp,sq,sr,su⟩:=info_parts info_u8
  obtain⟨v',w',hr,h2,h3,_⟩:=Lib.run_append_own_string (P:=Tryz.prog) w base 230 9 o.type 5 i0 Tryz.underlying230 Tryz.underlying9 sp sq sr su v n xs sh x si se sg
  unfold Oper.wp execOp
  simp only[ho,resolve,invoke,builtin,Sem.run_bind,Sem.run_pure,Result.andThen_ok,List.map_toArray,jU,List.map_nil,hs,hx,hr]
  exact hK _ _ (h v' w' h2 h3)
def eG(w:World):Prop:=Lib.TabBelow Tryz.prog w.heap.size w "internal/strconv.uint64pow10" .u64 Lib.pow10Tab
theorem eG.fore{w w':World}(h:eG w)(he:Ext w w'):eG w':=fun sg se=>h sg (he.trans se)
theorem lG(a b:List UInt8):Lib.byteCells (a++b)=Lib.byteCells a++Lib.byteCells b:=by simp[Lib.byteCells]
theorem pn:∀(l:List UInt8) (r:ByteArray),(l.map (fun b=>(b.toNat:Int))).foldl (fun r n=>r.push (UInt8.ofNat n.toNat)) r=⟨r.data++l.toArray⟩
 | [],r=>by simp
 | b::l,r=>by
  simp only[jU,zr]
  rw[pn l]
  simp[ByteArray.push]
theorem conv_bytes{w:World}{base c m:Nat}{A:Option Addr}{bs:List UInt8}(h:w.ownsRow base 5 1 (.slice A m c) bs.length (Lib.byteCells bs)) :
  (convert 230 9 (.slice A m c)).run Tryz.prog w=.ok (.string ⟨bs.toArray⟩) w:=by
 rw[run_convert_bytes_string _ _ _ 5 _ _ _ Tryz.underlying230 Tryz.underlying5 Tryz.underlying9]
 rcases h.2 with ⟨e,e2⟩|⟨g,cap,sg,e,-,hc,-⟩
 ·injection e with e1 e3 e4
  subst e1
  have:bs=[]:=jZ e2
  subst this
  rfl
 ·injection e with e1 e2 e3
  subst e1 e2 e3
  have se:=h.cells (g:=g) rfl
  have hb:Lib.byteCells bs=(bs.map (fun b=>(b.toNat:Int))).map (Value.int .u8):=by simp[Lib.byteCells]
  rw[hb]at se
  have hl:=run_loadCells_list (P:=Tryz.prog) w ⟨g,0,none⟩ ((bs.map (fun b=>(b.toNat:Int))).map (Value.int .u8)) se
  rw[jk,jk]at hl
  rw[run_bytesToString _ _ _ _ (bs.map (fun b=>(b.toNat:Int))) hl,pn]
  simp
structure KO(w wr:World)(v:Value)(bs:List UInt8):Prop where
 row:wr.ownsRow w.heap.size 5 1 v bs.length (Lib.byteCells bs)
 ext:Ext w wr
theorem KO.len{w X:World}{m c:Nat}{A:Option Addr}{bs:List UInt8}(h:KO w X (.slice A m c) bs):m=bs.length:=by
 obtain⟨A',c',e⟩:=af h.row
 injection e
theorem KO.num{w wr:World}{A:Option Addr}{m c:Nat}{bs:List UInt8}{i:Int}(h:KO w wr (.slice A m c) bs)(se:eG w)(hl:m≤1000000000000)(h0 : -9223372036854775808≤i)(h1:i≤9223372036854775807) :
  Calls Tryz.prog 121 #[.slice A m c,.int .i64 i,.int .i64 10] wr (fun e w'=>∃A' m' c',e=.returned (.slice A' m' c')∧m'≤m+21∧KO w w' (.slice A' m' c') (bs++Lib.itoa i)):=by
 have hm:=h.len
 have si:=Lib.itoa_length_le i h0 h1
 refine(Tryz.strconv_AppendInt_10 w.heap.size m i h0 h1 (.slice A m c) (Lib.byteCells bs) wr (by rw[hm];rw[hm]at h;exact h.row) h.ext.size (by omega) (se.on h.ext)).mono ?_
 rintro e w1 ⟨v1,rfl,sg,sh,sj⟩
 obtain⟨A1,c1,rfl⟩:=af sg
 refine⟨A1,_,c1,rfl,by omega,?_,Below.trans h.ext sh⟩
 rw[lG,jm,←hm];exact sg
theorem KO.chr{w X w2:World}{m c c2 m2:Nat}{A A2:Option Addr}{bs:List UInt8}(ch:UInt8)(h:KO w X (.slice A m c) bs)(o:Obj)(hr:w2.ownsRow w.heap.size 5 1 (.slice A2 m2 c2) (m+1) (Lib.byteCells bs++[.int .u8 (ch.toNat:Int)]))(se:(X.alloc o).grownBy w2 (Value.slice A m c).ownBlock) :
  KO w w2 (.slice A2 m2 c2) (bs++[ch]):=by
 have sg:=h.len
 refine⟨?_,(h.ext.alloc o).grown se (fun k hk=>(h.row.lt k hk).1)⟩
 rw[lG,jm,←sg]
 exact hr
theorem KO.str{w X w2:World}{m c c2 m2:Nat}{A A2:Option Addr}{bs:List UInt8}(s:ByteArray)(h:KO w X (.slice A m c) bs)(hr:w2.ownsRow w.heap.size 5 1 (.slice A2 m2 c2) (m+s.size) (Lib.byteCells bs++Lib.strCells s))(se:X.grownBy w2 (Value.slice A m c).ownBlock) :
  KO w w2 (.slice A2 m2 c2) (bs++s.data.toList):=by
 have sg:=h.len
 refine⟨?_,h.ext.grown se (fun k hk=>(h.row.lt k hk).1)⟩
 rw[lG,jm,←sg,Array.length_toList]
 exact hr
theorem KO.row'{w X:World}{m c:Nat}{A:Option Addr}{bs:List UInt8}(h:KO w X (.slice A m c) bs):X.ownsRow w.heap.size 5 1 (.slice A m c) m (Lib.byteCells bs):=by
 have h1:=h.len
 have h2:=h.row
 rw[←h1]at h2
 exact h2
def nJ(v:Vl):List UInt8:=Lib.itoa v.kind++[32]++Lib.itoa v.int++[32]++Lib.itoa (v.str.size:Int)++[32]++v.str.data.toList
def eJ(xs:List Vl):List UInt8:=xs.flatMap nJ
structure VOk(v:Vl):Prop where
 str:v.str.size≤1048576
 k0 : -9223372036854775808≤v.kind
 k1:v.kind≤9223372036854775807
 i0 : -9223372036854775808≤v.int
 i1:v.int≤9223372036854775807
set_option maxRecDepth 20000 in
set_option maxHeartbeats 3200000 in
theorem eM{F:Nat→Prop}{w:World}{B:Option Addr}{n d:Nat}{xs:List Vl}(hB:Sl aM F w (.slice B n d) xs)(hn:n≤100000)(hx:∀v∈xs,VOk v)(sH:eG w) :
  Calls Tryz.prog 52 #[.slice B n d] w (Ret (fun x _=>x=.string ⟨(eJ xs).toArray⟩) w):=by
 have tB:=hB.cap.1
 have HB:=zN hB;have ta:=zN tB;have HX:=zN hx;have sq:=zN sH
 clear hB tB hx sH
 obtain⟨i0,sF,tC,tD,tE⟩:=info_parts info_u8
 have sg:=zN (And.intro sF (And.intro tC (And.intro tD tE)));clear sF tC tD tE
 go_enter Tryz.func52,Tryz.ntmps52
 go_wp2_with fail
 go_loopw [3,7] (fun v q wr=>∃(j:Nat) (A:Option Addr) (m c:Nat),j≤n∧q=.int .i64 (j:Int)∧v=.slice A m c∧m≤j*2000000∧Hid (KO w wr (.slice A m c) (eJ (xs.take j)))) (fun _ q _=>n-(intOf q).toNat)
 case atStart=>exact⟨0,none,0,0,jn _,rfl,rfl,by omega,zN ⟨by simpa [eJ,Lib.byteCells] using World.ownsRow_nil _ _ _ _,Ext.refl w⟩⟩
 case round =>
  obtain⟨j,A0,m0,c0,hj,rfl,rfl,tU,sI⟩:=hrel
  obtain⟨X0,rfl⟩:∃W:World,W=wr:=⟨_,rfl⟩
  by_cases hlt:j<n
  ·have j1:(0:Int)≤(j:Int):=by omega
   have j2:(j:Int)<(n:Int):=by omega
   have sG:j<xs.length:=by have:=ta.out;omega
   have sB:=HX.out _ (jf sG)
   have sL:eJ (xs.take (j+1))=eJ (xs.take j)++nJ xs[j]:=by unfold eJ;rw[jj sG,zz];simp
   obtain⟨x,hx⟩:=sd (xs[j])
   have sp:=zN (fun (V:World) (hV:Ext w V)=>(HB.out.ext hV).vl sG)
   obtain⟨ad,rfl,-,-⟩:=HB.out.vl sG
   have se:Hid (∀V:World,Ext w V→V.cell? (ad.add (j*3))=some (.int .i64 x.kind)∧V.cell? ⟨(ad.add (j*3)).block,(ad.add (j*3)).off+1,none⟩=some (.int .i64 x.int)∧V.cell? ⟨(ad.add (j*3)).block,(ad.add (j*3)).off+2,none⟩=some (.string x.str)):=zN (fun V hV=>by
    obtain⟨tS,e,-,h⟩:=sp.out V hV
    injection e with e
    subst e
    rw[hx]
    exact h)
   rw[←hx]at sB sL
   obtain⟨b0,tf⟩:=sd (eJ (xs.take j))
   rw[←tf]at sI sL
   obtain⟨xk,xi,sD⟩:=x
   have sE:=zN sL
   have hs:=sB.str;have tt:=sB.k0;have tu:=sB.k1;have sF:=sB.i0;have tq:=sB.i1
   simp only at hs tt tu sF tq se
   have tR:m0≤200000000000:=by omega
   clear sL hx tf sB sp sG
   have q0:=(se.out X0 sI.out.ext).1
   go_wp2_with fail
   refine(sI.out.num (i:=xk) sq.out (by omega) tt tu).mono ?_
   rintro e X1 ⟨A1,m1,c1,rfl,tW,sh⟩
   have sW:=zN sh
   have tH:w.heap.size≤X1.heap.size:=sh.ext.size
   have tc:=zN sh.row'
   clear sh q0
   obtain⟨b1,sr⟩:=sd (b0++Lib.itoa xk)
   rw[←sr]at sW tc
   have sM:=zN sr
   clear sr
   go_upto_region 7 with (first|(at_builtin;refine aq rfl _ _ 230 rfl w.heap.size 5 i0 (.int .u8 0) 1 1 Tryz.underlying230 sg.out.1 sg.out.2.1 sg.out.2.2.1 sg.out.2.2.2 rfl (by omega) _ m1 (Lib.byteCells b1) rfl (tc.out.alloc _) ⟨X1.heap.size,0,none⟩ 1 1 [.int .u8 32] rfl rfl (aE X1 _ _) (by simp[Value.oneCell']) (by simp only[maxLen];omega) (by omega) (by simp;omega) ?_;intro v2 X2 sS th tL;obtain⟨A2,c2,rfl⟩:=af sS;have sJ:=zN (KO.chr 32 sW.out _ sS th);clear sS th tL))
   obtain⟨m2,tw⟩:=sd (m1+1)
   rw[←tw]at sJ ⊢
   obtain⟨b2,su⟩:=sd (b1++[32])
   rw[←su]at sJ
   have sN:=zN su
   have tO:m2≤m1+1:=by omega
   clear su tH tw
   have q2:=(se.out X2 sJ.out.ext).2.1
   go_wp2_with fail
   refine(sJ.out.num (i:=xi) sq.out (by omega) sF tq).mono ?_
   rintro e X3 ⟨A3,m3,c3,rfl,tX,si⟩
   have sX:=zN si
   have tI:w.heap.size≤X3.heap.size:=si.ext.size
   have td:=zN si.row'
   clear si q2
   obtain⟨b3,sw⟩:=sd (b2++Lib.itoa xi)
   rw[←sw]at sX td
   have sO:=zN sw
   clear sw
   go_upto_region 9 with (first|(at_builtin;refine aq rfl _ _ 230 rfl w.heap.size 5 i0 (.int .u8 0) 1 1 Tryz.underlying230 sg.out.1 sg.out.2.1 sg.out.2.2.1 sg.out.2.2.2 rfl (by omega) _ m3 (Lib.byteCells b3) rfl (td.out.alloc _) ⟨X3.heap.size,0,none⟩ 1 1 [.int .u8 32] rfl rfl (aE X3 _ _) (by simp[Value.oneCell']) (by simp only[maxLen];omega) (by omega) (by simp;omega) ?_;intro v4 X4 sT tj tM;obtain⟨A4,c4,rfl⟩:=af sT;have sK:=zN (KO.chr 32 sX.out _ sT tj);clear sT tj tM))
   obtain⟨m4,tz⟩:=sd (m3+1)
   rw[←tz]at sK ⊢
   obtain⟨b4,sx⟩:=sd (b3++[32])
   rw[←sx]at sK
   have sP:=zN sx
   have tP:m4≤m3+1:=by omega
   clear sx tI tz
   have q4:=(se.out X4 sK.out.ext).2.2
   go_wp2_with fail
   refine(sK.out.num (i:=(sD.size:Int)) sq.out (by omega) (by omega) (by omega)).mono ?_
   rintro e X5 ⟨A5,m5,c5,rfl,tY,sj⟩
   have sY:=zN sj
   have tJ:w.heap.size≤X5.heap.size:=sj.ext.size
   have te:=zN sj.row'
   clear sj q4
   obtain⟨b5,sy⟩:=sd (b4++Lib.itoa (sD.size:Int))
   rw[←sy]at sY te
   have sQ:=zN sy
   clear sy
   go_upto_region 11 with (first|(at_builtin;refine aq rfl _ _ 230 rfl w.heap.size 5 i0 (.int .u8 0) 1 1 Tryz.underlying230 sg.out.1 sg.out.2.1 sg.out.2.2.1 sg.out.2.2.2 rfl (by omega) _ m5 (Lib.byteCells b5) rfl (te.out.alloc _) ⟨X5.heap.size,0,none⟩ 1 1 [.int .u8 32] rfl rfl (aE X5 _ _) (by simp[Value.oneCell']) (by simp only[maxLen];omega) (by omega) (by simp;omega) ?_;intro v6 X6 sU tn tN;obtain⟨A6,c6,rfl⟩:=af sU;have sC:=zN (KO.chr 32 sY.out _ sU tn);clear sU tn tN))
   obtain⟨m6,tA⟩:=sd (m5+1)
   rw[←tA]at sC ⊢
   obtain⟨b6,sA⟩:=sd (b5++[32])
   rw[←sA]at sC
   have sR:=zN sA
   have tQ:m6≤m5+1:=by omega
   clear sA tJ tA
   have q6:=(se.out X6 sC.out.ext).2.2
   have tK:w.heap.size≤X6.heap.size:=sC.out.ext.size
   have tG:=zN sC.out.row'
   go_wp2_with (first|(at_builtin;refine lB rfl _ _ rfl w.heap.size _ m6 (Lib.byteCells b6) rfl tG.out sD rfl (by simp only[maxLen];omega) (by omega) tK ?_;intro v7 X7 sV tp;obtain⟨A7,c7,rfl⟩:=af sV;have tF:=zN (KO.str sD sC.out sV tp);clear sV tp))
   go_roundw
   case rel=>exact⟨j+1,A7,_,c7,by omega,by go_num,rfl,by omega,by
    rw[sE.out]
    have e:b6++sD.data.toList=b0++nJ ⟨xk,xi,sD⟩:=by
     rw[sR.out,sQ.out,sP.out,sO.out,sN.out,sM.out,nJ]
     simp only[zh]
    rw[←e]
    exact tF⟩
   case measure=>simp[intOf];omega
  ·obtain rfl:j=n:=by omega
   have tT:¬(j:Int)<(j:Int):=by omega
   have sZ:Hid (KO w X0 (.slice A0 m0 c0) (eJ xs)):=zN (by have h:=sI.out;rw[jp (by have:=ta.out;omega)]at h;exact h)
   have tg:=conv_bytes sZ.out.row
   go_wp2_with fail
   go_ret
   exact Ret.mk sZ.out.ext rfl
end Go.Proofs.YtplldnnnhgnbjaaGreatDoor
namespace Go.Proofs.YtplldnnnhgnbjaaGreatDoor
open Go.RowKit
theorem rO{α : Type}{c : α}:∀{l1 l2 x y:List α},c ∉ l1→c ∉ l2→l1++c::x=l2++c::y→l1=l2∧x=y
 | [],[],_,_,_,_,h=>by simp at h;exact⟨rfl,h⟩
 | [],b::l2,_,_,_,h2,h=>by simp at h;simp[h.1]at h2
 | a::l1,[],_,_,h1,_,h=>by simp at h;simp[h.1]at h1
 | a::l1,b::l2,x,y,h1,h2,h=>by
  simp only[zw,List.cons.injEq]at h
  simp only[jB,not_or]at h1 h2
  obtain⟨e,h3⟩:=rO h1.2 h2.2 h.2
  exact⟨by rw[h.1,e],h3⟩
def digVal(l:List UInt8):Nat:=l.foldl (fun a d=>10*a+(d.toNat-48)) 0
theorem nD(u:Nat):digVal (Lib.decDigits u)=u:=by
 induction u using Nat.strongRecOn with
 | _ u ih =>
  by_cases h:u<10
  ·rw[Lib.decDigits,dif_pos h]
   simp only[digVal,zr,List.foldl_nil,UInt8.toNat_ofNat']
   omega
  ·rw[Lib.decDigits,dif_neg h]
   have h1:=ih (u / 10) (by omega)
   unfold digVal at h1 ⊢
   rw[zD,h1]
   simp only[zr,List.foldl_nil,UInt8.toNat_ofNat']
   omega
theorem dec_inj{a b:Nat}(h:Lib.decDigits a=Lib.decDigits b):a=b:=by rw[←nD a,h,nD]
theorem pT(u:Nat):∀d∈Lib.decDigits u,48≤d.toNat∧d.toNat≤57:=by
 induction u using Nat.strongRecOn with
 | _ u ih =>
  intro d hd
  by_cases h:u<10
  ·rw[Lib.decDigits,dif_pos h]at hd
   rw[jq.1 hd]
   simp only[UInt8.toNat_ofNat']
   omega
  ·rw[Lib.decDigits,dif_neg h]at hd
   rcases ju.1 hd with hd|hd
   ·exact ih (u / 10) (by omega) d hd
   ·rw[jq.1 hd]
    simp only[UInt8.toNat_ofNat']
    omega
theorem itoa_mem(n:Int):∀d∈Lib.itoa n,d.toNat=45∨(48≤d.toNat∧d.toNat≤57):=by
 intro d hd
 unfold Lib.itoa at hd
 split at hd
 ·rcases jB.1 hd with hd|hd
  ·exact .inl (by rw[hd];rfl)
  ·exact .inr (pT _ d hd)
 ·exact .inr (pT _ d hd)
theorem itoa_no{n:Int}{c:UInt8}(h:c.toNat≠45)(h2 : 57<c.toNat∨c.toNat<48):c ∉ Lib.itoa n:=fun hc=>by
 rcases itoa_mem n c hc with e|e <;> omega
theorem itoa_inj{a b:Int}(h:Lib.itoa a=Lib.itoa b):a=b:=by
 have hd:∀(u:Nat) (l:List UInt8),45::l≠Lib.decDigits u:=fun u l e=>by
  have:=pT u 45 (by rw[←e];simp)
  have se:(45:UInt8).toNat=45:=rfl
  omega
 unfold Lib.itoa at h
 split at h <;> split at h
 ·injection h with _ h
  have:=dec_inj h;omega
 ·exact absurd h (hd _ _)
 ·exact absurd h.symm (hd _ _)
 ·have:=dec_inj h;omega
theorem kD{a b:Int}{c:UInt8}{x y:List UInt8}(h1:c.toNat≠45)(h2 : 57<c.toNat∨c.toNat<48)(h:Lib.itoa a++c::x=Lib.itoa b++c::y):a=b∧x=y:=by
 obtain⟨e,h3⟩:=rO (itoa_no h1 h2) (itoa_no h1 h2) h
 exact⟨itoa_inj e,h3⟩
theorem lI(s:ByteArray):s.data.toList.length=s.size:=by rw[Array.length_toList];rfl
theorem keyV_inj{v v':Vl}{x y:List UInt8}(h:nJ v++x=nJ v'++y):v=v'∧x=y:=by
 unfold nJ at h
 simp only[zh,zw,ze]at h
 obtain⟨e1,h⟩:=kD (c:=32) (by decide) (by decide) h
 obtain⟨e2,h⟩:=kD (c:=32) (by decide) (by decide) h
 obtain⟨e3,h⟩:=kD (c:=32) (by decide) (by decide) h
 have e3:v.str.size=v'.str.size:=by omega
 obtain⟨h3,h4⟩:=List.append_inj h (by rw[lI,lI,e3])
 refine⟨?_,h4⟩
 obtain⟨k,i,s⟩:=v;obtain⟨k',i',s'⟩:=v'
 simp only at e1 e2 h3
 subst e1 e2
 congr 1
 cases s;cases s'
 congr 1
 exact Array.toList_inj.1 h3
theorem re(v:Vl)(x:List UInt8):nJ v++x≠[]:=by
 unfold nJ
 intro h
 simp at h
theorem qZ:∀{l m:List Vl},eJ l=eJ m→l=m
 | [],[],_=>rfl
 | [],t::m,h=>by unfold eJ at h;rw[jS]at h;exact absurd h.symm (re _ _)
 | t::l,[],h=>by unfold eJ at h;rw[jS]at h;exact absurd h (re _ _)
 | t::l,u::m,h=>by
  unfold eJ at h
  rw[jS,jS]at h
  obtain⟨e,h⟩:=keyV_inj h
  rw[e,qZ h]
theorem keyS_inj{l m:List Vl}(h:(⟨(eJ l).toArray⟩:ByteArray)=⟨(eJ m).toArray⟩):l=m:=by
 injection h with h
 exact qZ (by simpa using congrArg Array.toList h)
end Go.Proofs.YtplldnnnhgnbjaaGreatDoor
namespace Go.Proofs.YtplldnnnhgnbjaaGreatDoor
open Go.RowKit Go.Maps
def Dsj(u v:Value):Prop:=∀k,u.ownBlock=some k→v.ownBlock≠some k
theorem Dsj.symm{u v:Value}(h:Dsj u v):Dsj v u:=fun k h1 h2=>h k h2 h1
theorem Dsj.nil_left(v:Value)(n c:Nat):Dsj (.slice none n c) v:=fun k h=>by simp[Value.ownBlock]at h
theorem Dsj.push{u v v9:Value}{wb:World}(h:Dsj v u)(hu:∀k,u.ownBlock=some k→k<wb.heap.size)(hl:df wb v v9):Dsj v9 u:=fun k h1 h2=>by
 rcases hl with e|e
 ·exact h k (e ▸ h1) h2
 ·rw[e]at h1
  injection h1 with h1
  have:=hu k h2
  omega
theorem aV{w:World}{b s n k:Nat}{e:TypeId}{v:Value}{xs:List Value}(h:w.ownsRow b e s v n xs)(hk:v.ownBlock=some k):k<w.heap.size:=by
 rcases h.2 with ⟨rfl,rfl⟩|⟨g,cap,se,rfl,hb,hc,-⟩
 ·simp[Value.ownBlock]at hk
 ·simp[Value.ownBlock]at hk
  subst hk
  exact(jR.1 hc).1
theorem bw{w wb w9:World}{b s n:Nat}{e:TypeId}{u v:Value}{xs:List Value}(h:w.ownsRow b e s u n xs)(he:Ext w wb)(hd:Dsj v u)(hg:wb.grownBy w9 v.ownBlock):w9.ownsRow b e s u n xs:=bo (aD h he) (am hg) (fun k hk e=>hd k e hk)
abbrev aB:Value:=.slice none 0 0
structure gM(F:Nat→Prop)(w:World)(base:Nat)(f:ByteArray→Option Value)(g:ByteArray→List (List Vl)):Prop where
 at':∀s,∃us,OwR F w base ((f s).getD aB) us.length us (g s)
 dj:∀s t,s≠t→Dsj ((f s).getD aB) ((f t).getD aB)
theorem gM.nil(F:Nat→Prop)(w:World)(base:Nat):gM F w base (fun _=>none) (fun _=>[]):=⟨fun s=>⟨[],OwR.nil F w base⟩,fun _ _ _=>Dsj.nil_left _ _ _⟩
theorem gM.fr{F S:Nat→Prop}{w w':World}{base:Nat}{f:ByteArray→Option Value}{g:ByteArray→List (List Vl)}(h:gM F w base f g)(hf:Fr S w w')(h1:∀s k,((f s).getD aB).ownBlock=some k→¬S k)(h2:∀k,F k→¬S k):gM F w' base f g :=
 ⟨fun s=>let ⟨us,ho⟩:=h.at' s;⟨us,ho.fr hf (h1 s) h2⟩,h.dj⟩
theorem gM.ext{F:Nat→Prop}{w w':World}{base:Nat}{f:ByteArray→Option Value}{g:ByteArray→List (List Vl)}(h:gM F w base f g)(he:Ext w w'):gM F w' base f g:=h.fr (he.fr (fun _=>False)) (fun _ _ _ h=>h) (fun _ _ h=>h)
def addG(g:ByteArray→List (List Vl))(s0:ByteArray)(x:List Vl):ByteArray→List (List Vl):=fun s=>if s=s0 then g s++[x] else g s
theorem gM.push{F:Nat→Prop}{w wb w9 sr:World}{base b n:Nat}{f:ByteArray→Option Value}{g:ByteArray→List (List Vl)}{s0:ByteArray}{us:List Value}{u v9:Value}{x:List Vl}(h:gM F w base f g)(ho:OwR F w base ((f s0).getD aB) us.length us (g s0))(he:Ext w wb)(hx:Sl aM F wb u x)(hF:∀k,F k→k<base)(hr:w9.ownsRow base 74 1 v9 (us.length+1) (us++[u]))(hg:wb.grownBy w9 ((f s0).getD aB).ownBlock)(hl:df wb ((f s0).getD aB) v9)(hm:aI w9 b n f)(sw:w9.grownBy sr (some b))(su:¬F b):gM F sr base (cI f s0 (some v9)) (addG g s0 x):=by
 have sp:=am sw
 have se:∀k,F k→¬some b=some k:=fun k hk e=>by injection e with e;exact su (e ▸ hk)
 have sq:∀t k,((f t).getD aB).ownBlock=some k→k<wb.heap.size:=fun t k hk=>by
  obtain⟨sg,sh⟩:=h.at' t
  have:=aV sh.own hk
  have:=he.size
  omega
 have sj:∀t,(cI f s0 (some v9) t).getD aB=if t=s0 then v9 else (f t).getD aB:=fun t=>by
  unfold cI
  split <;> rfl
 refine⟨fun t=>?_,fun s t si=>?_⟩
 ·rw[sj]
  unfold addG
  by_cases ht:t=s0
  ·subst ht
   rw[if_pos rfl,if_pos rfl]
   have h9:=ho.more he hx hF hr hg
   refine⟨us++[u],?_⟩
   rw[jm]
   exact h9.fr sp (fun k hk e=>by injection e with e;exact absurd e.symm (hm.ne_own hr hk)) se
  ·rw[if_neg ht,if_neg ht]
   obtain⟨sg,sh⟩:=h.at' t
   have hd:=h.dj s0 t (fun e=>ht e.symm)
   have h9:OwR F w9 base ((f t).getD aB) sg.length sg (g t):=(sh.ext he).fr (am hg) (fun k hk e=>hd k e hk) (fun k hk e=>by
    have h1:=aw ho.own e
    have h2:=hF k hk
    omega)
   exact⟨sg,h9.fr sp (fun k hk e=>by injection e with e;exact absurd e.symm (hm.ne_own h9.own hk)) se⟩
 ·rw[sj,sj]
  by_cases h1:s=s0
  ·subst h1
   rw[if_pos rfl,if_neg (fun e=>si e.symm)]
   exact(h.dj s t si).push (sq t) hl
  ·rw[if_neg h1]
   by_cases h2:t=s0
   ·subst h2
    rw[if_pos rfl]
    exact((h.dj t s (fun e=>h1 e.symm)).push (sq s) hl).symm
   ·rw[if_neg h2]
    exact h.dj s t si
def ot(F:Nat→Prop)(w:World)(b:Nat)(g:ByteArray→List (List Vl)):Prop:=∃n f,aI w b n f∧∀s,Sl aG F w ((f s).getD aB) (g s)
theorem ot.fr{F S:Nat→Prop}{w w':World}{b:Nat}{g:ByteArray→List (List Vl)}(h:ot F w b g)(hf:Fr S w w')(hb:¬S b)(hs:∀k,F k→¬S k):ot F w' b g:=let ⟨n,f,h1,h2⟩:=h;⟨n,f,h1.fr hf hb,fun s=>(h2 s).fr hf hs⟩
theorem ot.mono{F G:Nat→Prop}{w:World}{b:Nat}{g:ByteArray→List (List Vl)}(h:ot F w b g)(hs:∀k,k<w.heap.size→F k→G k):ot G w b g:=let ⟨n,f,h1,h2⟩:=h;⟨n,f,h1,fun s=>(h2 s).mono (by decide) hs⟩
theorem gM.read{F G:Nat→Prop}{w:World}{base b n:Nat}{f:ByteArray→Option Value}{g:ByteArray→List (List Vl)}(h:gM F w base f g)(hm:aI w b n f)(hF:∀k,F k→G k)(hG:∀k,base≤k→G k):ot G w b g:=⟨n,f,hm,fun s=>let ⟨_,ho⟩:=h.at' s;ho.sl (fun k hk=>hG k (aw ho.own hk)) hF⟩
structure Ng where
 ar:Int
 rows:List (List Vl)
 vars:List Int
 cs:List Vl
def lV:Rdg Ng where
 sz:=4
 R:=fun F w cs x=>∃u v y,cs=[.int .i64 x.ar,u,v,y]∧Sl aG F w u x.rows∧Ins F w v x.vars∧Sl aM F w y x.cs
 len:=fun ⟨_,_,_,e,_⟩=>by rw[e];rfl
 fr:=fun ⟨u,v,y,e,h1,h2,h3⟩ hf hs=>⟨u,v,y,e,h1.fr hf hs,h2.fr hf hs,h3.fr hf hs⟩
 mono:=fun ⟨u,v,y,e,h1,h2,h3⟩ hs=>⟨u,v,y,e,h1.mono (by decide) hs,h2.mono hs,h3.mono (by decide) hs⟩
theorem Sl.ng{F:Nat→Prop}{w:World}{A:Option Addr}{n c:Nat}{xs:List Ng}(h:Sl lV F w (.slice A n c) xs){i:Nat}(hi:i<xs.length):∃ad R cr C cc K ck,A=some ad∧w.cell? (ad.add (i*4))=some (.int .i64 xs[i].ar)∧w.cell? ⟨(ad.add (i*4)).block,(ad.add (i*4)).off+1,none⟩=some (.slice R xs[i].rows.length cr)∧w.cell? ⟨(ad.add (i*4)).block,(ad.add (i*4)).off+2,none⟩=some (.slice C xs[i].vars.length cc)∧w.cell? ⟨(ad.add (i*4)).block,(ad.add (i*4)).off+3,none⟩=some (.slice K xs[i].cs.length ck)∧Sl aG F w (.slice R xs[i].rows.length cr) xs[i].rows∧Ins F w (.slice C xs[i].vars.length cc) xs[i].vars∧Sl aM F w (.slice K xs[i].cs.length ck) xs[i].cs:=by
 obtain⟨ad,cs,h1,-,⟨u,v,y,rfl,h3,h4,h5⟩,h6,h7⟩:=h.at hi
 obtain⟨R,cr,rfl⟩:=h3.sl
 obtain⟨C,cc,e,h8⟩:=h4
 subst e
 obtain⟨K,ck,rfl⟩:=h5.sl
 exact⟨ad,R,cr,C,cc,K,ck,h1,h6 (by simp),h7 0 (by simp),h7 1 (by simp),h7 2 (by simp),h3,⟨C,cc,rfl,h8⟩,h5⟩
def di(x:List Vl):ByteArray:=⟨(eJ x).toArray⟩
def lh(rows:List (List Vl))(key:List Nat)(s:ByteArray):List (List Vl):=rows.filter (fun c=>decide (di (aJ c key)=s))
structure Sm where
 rows:List (List Vl)
 key:List Nat
 bound:List Nat
 fresh:List Nat
 frm:List Nat
 nots:List Ng
def fo:Rdg Sm where
 sz:=5
 R:=fun F w cs s=>∃b u1 u2 u3 u4,cs=[.map (some b),u1,u2,u3,u4]∧F b∧ot F w b (lh s.rows s.key)∧Ins F w u1 (dw s.bound)∧Ins F w u2 (dw s.fresh)∧Ins F w u3 (dw s.frm)∧Sl lV F w u4 s.nots
 len:=fun ⟨_,_,_,_,_,e,_⟩=>by rw[e];rfl
 fr:=fun ⟨b,u1,u2,u3,u4,e,hb,h0,h1,h2,h3,h4⟩ hf hs=>⟨b,u1,u2,u3,u4,e,hb,h0.fr hf (hs _ hb) hs,h1.fr hf hs,h2.fr hf hs,h3.fr hf hs,h4.fr hf hs⟩
 mono:=fun ⟨b,u1,u2,u3,u4,e,hb,h0,h1,h2,h3,h4⟩ hs=>⟨b,u1,u2,u3,u4,e,hs _ (let ⟨_,_,hm,_⟩:=h0;hm.lt) hb,h0.mono hs,h1.mono hs,h2.mono hs,h3.mono hs,h4.mono (by decide) hs⟩
theorem pW{x y:List Vl}:di x=di y↔x=y:=⟨fun h=>keyS_inj h,fun h=>by rw[h]⟩
theorem grp_cands(s:Stp)(y:List Vl):lh s.rows s.key (di (aJ y s.bound))=fT s y:=by
 unfold lh fT
 congr 1
 funext c
 rw[decide_eq_decide,pW]
theorem grpL_add{rows:List (List Vl)}{key:List Nat}{x:List Vl}:lh (rows++[x]) key=addG (lh rows key) (di (aJ x key)) x:=by
 funext s
 unfold lh addG
 rw[jK]
 by_cases h:s=di (aJ x key)
 ·rw[if_pos h]
  simp[h]
 ·rw[if_neg h]
  have:decide (di (aJ x key)=s)=false:=decide_eq_false (fun e=>h e.symm)
  simp[this]
theorem upd_run_t{t e:TypeId}(ht:Tryz.prog.underlying t=some (.map 9 e)){w:World}{b n:Nat}{f:ByteArray→Option Value}(sg:aI w b n f)(hn:n<maxLen){s:ByteArray}(hs:s.size≤maxLen)(u:Value):∃w',(Instr.mapUpdate t (.map (some b)) (.string s) u).run Tryz.prog w=.ok () w'∧aI w' b (n+1) (cI f s (some u))∧w.grownBy w' (some b):=by
 obtain⟨D,hD,sj,si,se⟩:=sg
 obtain⟨p1,p2,p3⟩:=lp sj si se s u
 obtain⟨w',sh,r1,r2⟩:=hD.update ek ht hn (keyOf_str s hs) (val:=u) (d:=.held u) (ps:=[]) rfl
 exact⟨w',sh,⟨_,r1,p1,p2,p3⟩,r2⟩
theorem pm(x:List Vl)(l:List Nat):be (dw l) x=aJ x l:=by
 unfold be dw aJ
 rw[List.map_map]
 rfl
end Go.Proofs.YtplldnnnhgnbjaaGreatDoor
