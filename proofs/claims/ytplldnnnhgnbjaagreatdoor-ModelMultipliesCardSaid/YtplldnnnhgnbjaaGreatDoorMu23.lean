/- packed -/
import Derived.Test.YtplldnnnhgnbjaaGreatDoorMu15
import Derived.Test.YtplldnnnhgnbjaaGreatDoorMu01
import Derived.Lib.AppendStr
import Derived.Laws.BytesString
import Derived.Lib.ItoaLen
import Derived.Test.YtplldnnnhgnbjaaGreatDoorMu22
namespace Go.Proofs.YtplldnnnhgnbjaaGreatDoor
open Go.RowKit Go.Maps
theorem info_u8:(Tryz.prog.info? 5).map (fun i=>(i.zero,i.size,i.bytes))=some (some (.int .u8 0),1,1):=by kernel_rfl
theorem wpList_append_str{w:World}{ops:Array Oper}{rest:List Oper}{o:Oper}{a:Act}{Q:Exit→Act→World→Prop}(hgd:o.guard=none)(s y:Operand)(ho:o.op=.call { callee:=.builtin .append,args:=#[s,y],argTypes:=#[230,9] })(base:Nat)(v:Value)(n:Nat)(xs:List Value)(hs:a.eval s=v)(hown:w.ownsRow base 5 1 v n xs)(x:ByteArray)(hx:a.eval y=.string x)(h63:n+x.size≤maxLen)(hbytes:n+x.size≤140737488355328)(hbase:base≤w.heap.size)(h:∀v' w',w'.ownsRow base 5 1 v' (n+x.size) (xs++Lib.strCells x)→w.grownBy w' v.ownBlock→wpList Tryz.prog ops Q rest (a.put o.dst v') w'):wpList Tryz.prog ops Q (o::rest) a w :=
 wpList_plain hgd fun K hK=>by
  obtain⟨i0,hi0,hz0,hz1,hz2⟩:=info_parts info_u8
  obtain⟨v',w',hr,h2,h3,_⟩:=Lib.run_append_own_string (P:=Tryz.prog) w base 230 9 o.type 5 i0 Tryz.underlying230 Tryz.underlying9 hi0 hz0 hz1 hz2 v n xs hown x h63 hbytes hbase
  unfold Oper.wp execOp
  simp only[ho,resolve,invoke,builtin,Sem.run_bind,Sem.run_pure,Result.andThen_ok,List.map_toArray,zf,List.map_nil,hs,hx,hr]
  exact hK _ _ (h v' w' h2 h3)
def TabE(w:World):Prop:=Lib.TabBelow Tryz.prog w.heap.size w "internal/strconv.uint64pow10" .u64 Lib.pow10Tab
theorem TabE.fore{w w':World}(h:TabE w)(he:Ext w w'):TabE w':=fun w'' h''=>h w'' (he.trans h'')
theorem bytes_app(a b:List UInt8):Lib.byteCells (a++b)=Lib.byteCells a++Lib.byteCells b:=by simp[Lib.byteCells]
theorem push_fold:∀(l:List UInt8) (r:ByteArray),(l.map (fun b=>(b.toNat:Int))).foldl (fun r n=>r.push (UInt8.ofNat n.toNat)) r=⟨r.data++l.toArray⟩
 | [],r=>by simp
 | b::l,r=>by
  simp only[zf,zm]
  rw[push_fold l]
  simp[ByteArray.push]
theorem conv_bytes{w:World}{base c m:Nat}{A:Option Addr}{bs:List UInt8}(h:w.ownsRow base 5 1 (.slice A m c) bs.length (Lib.byteCells bs)) :
  (convert 230 9 (.slice A m c)).run Tryz.prog w=.ok (.string ⟨bs.toArray⟩) w:=by
 rw[run_convert_bytes_string _ _ _ 5 _ _ _ Tryz.underlying230 Tryz.underlying5 Tryz.underlying9]
 rcases h.2 with ⟨e,e2⟩|⟨g,cap,cur,e,-,hc,-⟩
 ·injection e with e1 e3 e4
  subst e1
  have:bs=[]:=jS e2
  subst this
  rfl
 ·injection e with e1 e2 e3
  subst e1 e2 e3
  have hcells:=h.cells (g:=g) rfl
  have hb:Lib.byteCells bs=(bs.map (fun b=>(b.toNat:Int))).map (Value.int .u8):=by simp[Lib.byteCells]
  rw[hb]at hcells
  have hl:=run_loadCells_list (P:=Tryz.prog) w ⟨g,0,none⟩ ((bs.map (fun b=>(b.toNat:Int))).map (Value.int .u8)) hcells
  rw[jm,jm]at hl
  rw[run_bytesToString _ _ _ _ (bs.map (fun b=>(b.toNat:Int))) hl,push_fold]
  simp
structure KO(w wr:World)(v:Value)(bs:List UInt8):Prop where
 row:wr.ownsRow w.heap.size 5 1 v bs.length (Lib.byteCells bs)
 ext:Ext w wr
theorem KO.len{w X:World}{m c:Nat}{A:Option Addr}{bs:List UInt8}(h:KO w X (.slice A m c) bs):m=bs.length:=by
 obtain⟨A',c',e⟩:=own_slice h.row
 injection e
theorem KO.num{w wr:World}{A:Option Addr}{m c:Nat}{bs:List UInt8}{i:Int}(h:KO w wr (.slice A m c) bs)(htab:TabE w)(hl:m≤1000000000000)(h0 : -9223372036854775808≤i)(h1:i≤9223372036854775807) :
  Calls Tryz.prog 121 #[.slice A m c,.int .i64 i,.int .i64 10] wr (fun e w'=>∃A' m' c',e=.returned (.slice A' m' c')∧m'≤m+21∧KO w w' (.slice A' m' c') (bs++Lib.itoa i)):=by
 have hm:=h.len
 have hil:=Lib.itoa_length_le i h0 h1
 refine(Tryz.strconv_AppendInt_10 w.heap.size m i h0 h1 (.slice A m c) (Lib.byteCells bs) wr (by rw[hm];rw[hm]at h;exact h.row) h.ext.size (by omega) (htab.on h.ext)).mono ?_
 rintro e w1 ⟨v1,rfl,hr1,hb1,ho1⟩
 obtain⟨A1,c1,rfl⟩:=own_slice hr1
 refine⟨A1,_,c1,rfl,by omega,?_,Below.trans h.ext hb1⟩
 rw[bytes_app,jl,←hm];exact hr1
theorem KO.chr{w X w2:World}{m c c2 m2:Nat}{A A2:Option Addr}{bs:List UInt8}(ch:UInt8)(h:KO w X (.slice A m c) bs)(o:Obj)(hr:w2.ownsRow w.heap.size 5 1 (.slice A2 m2 c2) (m+1) (Lib.byteCells bs++[.int .u8 (ch.toNat:Int)]))(hgr:(X.alloc o).grownBy w2 (Value.slice A m c).ownBlock) :
  KO w w2 (.slice A2 m2 c2) (bs++[ch]):=by
 have hmb:=h.len
 refine⟨?_,(h.ext.alloc o).grown hgr (fun k hk=>(h.row.lt k hk).1)⟩
 rw[bytes_app,jl,←hmb]
 exact hr
theorem KO.str{w X w2:World}{m c c2 m2:Nat}{A A2:Option Addr}{bs:List UInt8}(s:ByteArray)(h:KO w X (.slice A m c) bs)(hr:w2.ownsRow w.heap.size 5 1 (.slice A2 m2 c2) (m+s.size) (Lib.byteCells bs++Lib.strCells s))(hgr:X.grownBy w2 (Value.slice A m c).ownBlock) :
  KO w w2 (.slice A2 m2 c2) (bs++s.data.toList):=by
 have hmb:=h.len
 refine⟨?_,h.ext.grown hgr (fun k hk=>(h.row.lt k hk).1)⟩
 rw[bytes_app,jl,←hmb,Array.length_toList]
 exact hr
theorem KO.row'{w X:World}{m c:Nat}{A:Option Addr}{bs:List UInt8}(h:KO w X (.slice A m c) bs):X.ownsRow w.heap.size 5 1 (.slice A m c) m (Lib.byteCells bs):=by
 have h1:=h.len
 have h2:=h.row
 rw[←h1]at h2
 exact h2
def keyV(v:Vl):List UInt8:=Lib.itoa v.kind++[32]++Lib.itoa v.int++[32]++Lib.itoa (v.str.size:Int)++[32]++v.str.data.toList
def keyR(xs:List Vl):List UInt8:=xs.flatMap keyV
structure VOk(v:Vl):Prop where
 str:v.str.size≤1048576
 k0 : -9223372036854775808≤v.kind
 k1:v.kind≤9223372036854775807
 i0 : -9223372036854775808≤v.int
 i1:v.int≤9223372036854775807
set_option maxRecDepth 20000 in
set_option maxHeartbeats 3200000 in
theorem rowkey_any{F:Nat→Prop}{w:World}{B:Option Addr}{n d:Nat}{xs:List Vl}(hB:Sl rdVl F w (.slice B n d) xs)(hn:n≤100000)(hx:∀v∈xs,VOk v)(htab:TabE w) :
  Calls Tryz.prog 52 #[.slice B n d] w (Ret (fun x _=>x=.string ⟨(keyR xs).toArray⟩) w):=by
 have hnl:=hB.cap.1
 have HB:=zO hB;have HNL:=zO hnl;have HX:=zO hx;have HTAB:=zO htab
 clear hB hnl hx htab
 obtain⟨i0,hi0,hz0,hz1,hz2⟩:=info_parts info_u8
 have HI0:=zO (And.intro hi0 (And.intro hz0 (And.intro hz1 hz2)));clear hi0 hz0 hz1 hz2
 go_enter Tryz.func52,Tryz.ntmps52
 go_wp2_with fail
 go_loopw [3,7] (fun v q wr=>∃(j:Nat) (A:Option Addr) (m c:Nat),j≤n∧q=.int .i64 (j:Int)∧v=.slice A m c∧m≤j*2000000∧Hid (KO w wr (.slice A m c) (keyR (xs.take j)))) (fun _ q _=>n-(intOf q).toNat)
 case atStart=>exact⟨0,none,0,0,jn _,rfl,rfl,by omega,zO ⟨by simpa [keyR,Lib.byteCells] using World.ownsRow_nil _ _ _ _,Ext.refl w⟩⟩
 case round =>
  obtain⟨j,A0,m0,c0,hj,rfl,rfl,hm0,HK0⟩:=hrel
  obtain⟨X0,rfl⟩:∃W:World,W=wr:=⟨_,rfl⟩
  by_cases hlt:j<n
  ·have j1:(0:Int)≤(j:Int):=by omega
   have j2:(j:Int)<(n:Int):=by omega
   have hjx:j<xs.length:=by have:=HNL.out;omega
   have hvo:=HX.out _ (jg hjx)
   have etk:keyR (xs.take (j+1))=keyR (xs.take j)++keyV xs[j]:=by unfold keyR;rw[jj hjx,zx];simp
   obtain⟨x,hx⟩:∃x,x=xs[j]:=⟨_,rfl⟩
   have HCELL:=zO (fun (V:World) (hV:Ext w V)=>(HB.out.ext hV).vl hjx)
   obtain⟨ad,rfl,-,-⟩:=HB.out.vl hjx
   have HCELL2:Hid (∀V:World,Ext w V→V.cell? (ad.add (j*3))=some (.int .i64 x.kind)∧V.cell? ⟨(ad.add (j*3)).block,(ad.add (j*3)).off+1,none⟩=some (.int .i64 x.int)∧V.cell? ⟨(ad.add (j*3)).block,(ad.add (j*3)).off+2,none⟩=some (.string x.str)):=zO (fun V hV=>by
    obtain⟨ad',e,-,h⟩:=HCELL.out V hV
    injection e with e
    subst e
    rw[hx]
    exact h)
   rw[←hx]at hvo etk
   obtain⟨b0,hb0⟩:∃b,b=keyR (xs.take j):=⟨_,rfl⟩
   rw[←hb0]at HK0 etk
   obtain⟨xk,xi,xs'⟩:=x
   have HNEXT:=zO etk
   have hs:=hvo.str;have hk0:=hvo.k0;have hk1:=hvo.k1;have hi0:=hvo.i0;have hi1:=hvo.i1
   simp only at hs hk0 hk1 hi0 hi1 HCELL2
   have hml0:m0≤200000000000:=by omega
   clear etk hx hb0 hvo HCELL hjx
   have q0:=(HCELL2.out X0 HK0.out.ext).1
   go_wp2_with fail
   refine(HK0.out.num (i:=xk) HTAB.out (by omega) hk0 hk1).mono ?_
   rintro e X1 ⟨A1,m1,c1,rfl,hm1,hk1'⟩
   have HK1:=zO hk1'
   have hb1:w.heap.size≤X1.heap.size:=hk1'.ext.size
   have HR1:=zO hk1'.row'
   clear hk1' q0
   obtain⟨b1,hbb1⟩:∃b,b=b0++Lib.itoa xk:=⟨_,rfl⟩
   rw[←hbb1]at HK1 HR1
   have HBB1:=zO hbb1
   clear hbb1
   go_upto_region 7 with (first|(at_builtin;refine wpList_append_at rfl _ _ 230 rfl w.heap.size 5 i0 (.int .u8 0) 1 1 Tryz.underlying230 HI0.out.1 HI0.out.2.1 HI0.out.2.2.1 HI0.out.2.2.2 rfl (by omega) _ m1 (Lib.byteCells b1) rfl (HR1.out.alloc _) ⟨X1.heap.size,0,none⟩ 1 1 [.int .u8 32] rfl rfl (laid_news X1 _ _) (by simp[Value.oneCell']) (by simp only[maxLen];omega) (by omega) (by simp;omega) ?_;intro v2 X2 hr2 hg2 hl2;obtain⟨A2,c2,rfl⟩:=own_slice hr2;have HK2:=zO (KO.chr 32 HK1.out _ hr2 hg2);clear hr2 hg2 hl2))
   obtain⟨m2,hm2⟩:∃m,m=m1+1:=⟨_,rfl⟩
   rw[←hm2]at HK2 ⊢
   obtain⟨b2,hbb2⟩:∃b,b=b1++[32]:=⟨_,rfl⟩
   rw[←hbb2]at HK2
   have HBB2:=zO hbb2
   have hmb2:m2≤m1+1:=by omega
   clear hbb2 hb1 hm2
   have q2:=(HCELL2.out X2 HK2.out.ext).2.1
   go_wp2_with fail
   refine(HK2.out.num (i:=xi) HTAB.out (by omega) hi0 hi1).mono ?_
   rintro e X3 ⟨A3,m3,c3,rfl,hm3,hk3'⟩
   have HK3:=zO hk3'
   have hb3:w.heap.size≤X3.heap.size:=hk3'.ext.size
   have HR3:=zO hk3'.row'
   clear hk3' q2
   obtain⟨b3,hbb3⟩:∃b,b=b2++Lib.itoa xi:=⟨_,rfl⟩
   rw[←hbb3]at HK3 HR3
   have HBB3:=zO hbb3
   clear hbb3
   go_upto_region 9 with (first|(at_builtin;refine wpList_append_at rfl _ _ 230 rfl w.heap.size 5 i0 (.int .u8 0) 1 1 Tryz.underlying230 HI0.out.1 HI0.out.2.1 HI0.out.2.2.1 HI0.out.2.2.2 rfl (by omega) _ m3 (Lib.byteCells b3) rfl (HR3.out.alloc _) ⟨X3.heap.size,0,none⟩ 1 1 [.int .u8 32] rfl rfl (laid_news X3 _ _) (by simp[Value.oneCell']) (by simp only[maxLen];omega) (by omega) (by simp;omega) ?_;intro v4 X4 hr4 hg4 hl4;obtain⟨A4,c4,rfl⟩:=own_slice hr4;have HK4:=zO (KO.chr 32 HK3.out _ hr4 hg4);clear hr4 hg4 hl4))
   obtain⟨m4,hm4⟩:∃m,m=m3+1:=⟨_,rfl⟩
   rw[←hm4]at HK4 ⊢
   obtain⟨b4,hbb4⟩:∃b,b=b3++[32]:=⟨_,rfl⟩
   rw[←hbb4]at HK4
   have HBB4:=zO hbb4
   have hmb4:m4≤m3+1:=by omega
   clear hbb4 hb3 hm4
   have q4:=(HCELL2.out X4 HK4.out.ext).2.2
   go_wp2_with fail
   refine(HK4.out.num (i:=(xs'.size:Int)) HTAB.out (by omega) (by omega) (by omega)).mono ?_
   rintro e X5 ⟨A5,m5,c5,rfl,hm5,hk5'⟩
   have HK5:=zO hk5'
   have hb5:w.heap.size≤X5.heap.size:=hk5'.ext.size
   have HR5:=zO hk5'.row'
   clear hk5' q4
   obtain⟨b5,hbb5⟩:∃b,b=b4++Lib.itoa (xs'.size:Int):=⟨_,rfl⟩
   rw[←hbb5]at HK5 HR5
   have HBB5:=zO hbb5
   clear hbb5
   go_upto_region 11 with (first|(at_builtin;refine wpList_append_at rfl _ _ 230 rfl w.heap.size 5 i0 (.int .u8 0) 1 1 Tryz.underlying230 HI0.out.1 HI0.out.2.1 HI0.out.2.2.1 HI0.out.2.2.2 rfl (by omega) _ m5 (Lib.byteCells b5) rfl (HR5.out.alloc _) ⟨X5.heap.size,0,none⟩ 1 1 [.int .u8 32] rfl rfl (laid_news X5 _ _) (by simp[Value.oneCell']) (by simp only[maxLen];omega) (by omega) (by simp;omega) ?_;intro v6 X6 hr6 hg6 hl6;obtain⟨A6,c6,rfl⟩:=own_slice hr6;have HK6:=zO (KO.chr 32 HK5.out _ hr6 hg6);clear hr6 hg6 hl6))
   obtain⟨m6,hm6⟩:∃m,m=m5+1:=⟨_,rfl⟩
   rw[←hm6]at HK6 ⊢
   obtain⟨b6,hbb6⟩:∃b,b=b5++[32]:=⟨_,rfl⟩
   rw[←hbb6]at HK6
   have HBB6:=zO hbb6
   have hmb6:m6≤m5+1:=by omega
   clear hbb6 hb5 hm6
   have q6:=(HCELL2.out X6 HK6.out.ext).2.2
   have hb6:w.heap.size≤X6.heap.size:=HK6.out.ext.size
   have HR6:=zO HK6.out.row'
   go_wp2_with (first|(at_builtin;refine wpList_append_str rfl _ _ rfl w.heap.size _ m6 (Lib.byteCells b6) rfl HR6.out xs' rfl (by simp only[maxLen];omega) (by omega) hb6 ?_;intro v7 X7 hr7 hg7;obtain⟨A7,c7,rfl⟩:=own_slice hr7;have HK7:=zO (KO.str xs' HK6.out hr7 hg7);clear hr7 hg7))
   go_roundw
   case rel=>exact⟨j+1,A7,_,c7,by omega,by go_num,rfl,by omega,by
    rw[HNEXT.out]
    have e:b6++xs'.data.toList=b0++keyV ⟨xk,xi,xs'⟩:=by
     rw[HBB6.out,HBB5.out,HBB4.out,HBB3.out,HBB2.out,HBB1.out,keyV]
     simp only[zq]
    rw[←e]
    exact HK7⟩
   case measure=>simp[intOf];omega
  ·obtain rfl:j=n:=by omega
   have hdj:¬(j:Int)<(j:Int):=by omega
   have HKE:Hid (KO w X0 (.slice A0 m0 c0) (keyR xs)):=zO (by have h:=HK0.out;rw[jo (by have:=HNL.out;omega)]at h;exact h)
   have hconv:=conv_bytes HKE.out.row
   go_wp2_with fail
   go_ret
   exact Ret.mk HKE.out.ext rfl
end Go.Proofs.YtplldnnnhgnbjaaGreatDoor
namespace Go.Proofs.YtplldnnnhgnbjaaGreatDoor
open Go.RowKit
theorem split_at{α : Type}{c : α}:∀{l1 l2 x y:List α},c ∉ l1→c ∉ l2→l1++c::x=l2++c::y→l1=l2∧x=y
 | [],[],_,_,_,_,h=>by simp at h;exact⟨rfl,h⟩
 | [],b::l2,_,_,_,h2,h=>by simp at h;simp[h.1]at h2
 | a::l1,[],_,_,h1,_,h=>by simp at h;simp[h.1]at h1
 | a::l1,b::l2,x,y,h1,h2,h=>by
  simp only[zw,List.cons.injEq]at h
  simp only[jC,not_or]at h1 h2
  obtain⟨e,h3⟩:=split_at h1.2 h2.2 h.2
  exact⟨by rw[h.1,e],h3⟩
def digVal(l:List UInt8):Nat:=l.foldl (fun a d=>10*a+(d.toNat-48)) 0
theorem digVal_dec(u:Nat):digVal (Lib.decDigits u)=u:=by
 induction u using Nat.strongRecOn with
 | _ u ih =>
  by_cases h:u<10
  ·rw[Lib.decDigits,dif_pos h]
   simp only[digVal,zm,List.foldl_nil,UInt8.toNat_ofNat']
   omega
  ·rw[Lib.decDigits,dif_neg h]
   have h1:=ih (u / 10) (by omega)
   unfold digVal at h1 ⊢
   rw[zD,h1]
   simp only[zm,List.foldl_nil,UInt8.toNat_ofNat']
   omega
theorem dec_inj{a b:Nat}(h:Lib.decDigits a=Lib.decDigits b):a=b:=by rw[←digVal_dec a,h,digVal_dec]
theorem dec_mem(u:Nat):∀d∈Lib.decDigits u,48≤d.toNat∧d.toNat≤57:=by
 induction u using Nat.strongRecOn with
 | _ u ih =>
  intro d hd
  by_cases h:u<10
  ·rw[Lib.decDigits,dif_pos h]at hd
   rw[jt.1 hd]
   simp only[UInt8.toNat_ofNat']
   omega
  ·rw[Lib.decDigits,dif_neg h]at hd
   rcases jp.1 hd with hd|hd
   ·exact ih (u / 10) (by omega) d hd
   ·rw[jt.1 hd]
    simp only[UInt8.toNat_ofNat']
    omega
theorem itoa_mem(n:Int):∀d∈Lib.itoa n,d.toNat=45∨(48≤d.toNat∧d.toNat≤57):=by
 intro d hd
 unfold Lib.itoa at hd
 split at hd
 ·rcases jC.1 hd with hd|hd
  ·exact .inl (by rw[hd];rfl)
  ·exact .inr (dec_mem _ d hd)
 ·exact .inr (dec_mem _ d hd)
theorem itoa_no{n:Int}{c:UInt8}(h:c.toNat≠45)(h2 : 57<c.toNat∨c.toNat<48):c ∉ Lib.itoa n:=fun hc=>by
 rcases itoa_mem n c hc with e|e <;> omega
theorem itoa_inj{a b:Int}(h:Lib.itoa a=Lib.itoa b):a=b:=by
 have hd:∀(u:Nat) (l:List UInt8),45::l≠Lib.decDigits u:=fun u l e=>by
  have:=dec_mem u 45 (by rw[←e];simp)
  have h45:(45:UInt8).toNat=45:=rfl
  omega
 unfold Lib.itoa at h
 split at h <;> split at h
 ·injection h with _ h
  have:=dec_inj h;omega
 ·exact absurd h (hd _ _)
 ·exact absurd h.symm (hd _ _)
 ·have:=dec_inj h;omega
theorem itoa_split{a b:Int}{c:UInt8}{x y:List UInt8}(h1:c.toNat≠45)(h2 : 57<c.toNat∨c.toNat<48)(h:Lib.itoa a++c::x=Lib.itoa b++c::y):a=b∧x=y:=by
 obtain⟨e,h3⟩:=split_at (itoa_no h1 h2) (itoa_no h1 h2) h
 exact⟨itoa_inj e,h3⟩
theorem data_len'(s:ByteArray):s.data.toList.length=s.size:=by rw[Array.length_toList];rfl
theorem keyV_inj{v v':Vl}{x y:List UInt8}(h:keyV v++x=keyV v'++y):v=v'∧x=y:=by
 unfold keyV at h
 simp only[zq,zw,jX]at h
 obtain⟨e1,h⟩:=itoa_split (c:=32) (by decide) (by decide) h
 obtain⟨e2,h⟩:=itoa_split (c:=32) (by decide) (by decide) h
 obtain⟨e3,h⟩:=itoa_split (c:=32) (by decide) (by decide) h
 have e3:v.str.size=v'.str.size:=by omega
 obtain⟨h3,h4⟩:=List.append_inj h (by rw[data_len',data_len',e3])
 refine⟨?_,h4⟩
 obtain⟨k,i,s⟩:=v;obtain⟨k',i',s'⟩:=v'
 simp only at e1 e2 h3
 subst e1 e2
 congr 1
 cases s;cases s'
 congr 1
 exact Array.toList_inj.1 h3
theorem keyV_pos(v:Vl)(x:List UInt8):keyV v++x≠[]:=by
 unfold keyV
 intro h
 simp at h
theorem keyR_inj:∀{l m:List Vl},keyR l=keyR m→l=m
 | [],[],_=>rfl
 | [],t::m,h=>by unfold keyR at h;rw[jQ]at h;exact absurd h.symm (keyV_pos _ _)
 | t::l,[],h=>by unfold keyR at h;rw[jQ]at h;exact absurd h (keyV_pos _ _)
 | t::l,u::m,h=>by
  unfold keyR at h
  rw[jQ,jQ]at h
  obtain⟨e,h⟩:=keyV_inj h
  rw[e,keyR_inj h]
theorem keyS_inj{l m:List Vl}(h:(⟨(keyR l).toArray⟩:ByteArray)=⟨(keyR m).toArray⟩):l=m:=by
 injection h with h
 exact keyR_inj (by simpa using congrArg Array.toList h)
end Go.Proofs.YtplldnnnhgnbjaaGreatDoor
namespace Go.Proofs.YtplldnnnhgnbjaaGreatDoor
open Go.RowKit Go.Maps
def Dsj(u v:Value):Prop:=∀k,u.ownBlock=some k→v.ownBlock≠some k
theorem Dsj.symm{u v:Value}(h:Dsj u v):Dsj v u:=fun k h1 h2=>h k h2 h1
theorem Dsj.nil_left(v:Value)(n c:Nat):Dsj (.slice none n c) v:=fun k h=>by simp[Value.ownBlock]at h
theorem Dsj.push{u v v9:Value}{wb:World}(h:Dsj v u)(hu:∀k,u.ownBlock=some k→k<wb.heap.size)(hl:Lands wb v v9):Dsj v9 u:=fun k h1 h2=>by
 rcases hl with e|e
 ·exact h k (e ▸ h1) h2
 ·rw[e]at h1
  injection h1 with h1
  have:=hu k h2
  omega
theorem own_lt{w:World}{b s n k:Nat}{e:TypeId}{v:Value}{xs:List Value}(h:w.ownsRow b e s v n xs)(hk:v.ownBlock=some k):k<w.heap.size:=by
 rcases h.2 with ⟨rfl,rfl⟩|⟨g,cap,cur,rfl,hb,hc,-⟩
 ·simp[Value.ownBlock]at hk
 ·simp[Value.ownBlock]at hk
  subst hk
  exact(jT.1 hc).1
theorem own_beside{w wb w9:World}{b s n:Nat}{e:TypeId}{u v:Value}{xs:List Value}(h:w.ownsRow b e s u n xs)(he:Ext w wb)(hd:Dsj v u)(hg:wb.grownBy w9 v.ownBlock):w9.ownsRow b e s u n xs:=own_fr (own_ext' h he) (grown_fr hg) (fun k hk e=>hd k e hk)
abbrev nilS:Value:=.slice none 0 0
structure GrpB(F:Nat→Prop)(w:World)(base:Nat)(f:ByteArray→Option Value)(g:ByteArray→List (List Vl)):Prop where
 at':∀s,∃us,OwR F w base ((f s).getD nilS) us.length us (g s)
 dj:∀s t,s≠t→Dsj ((f s).getD nilS) ((f t).getD nilS)
theorem GrpB.nil(F:Nat→Prop)(w:World)(base:Nat):GrpB F w base (fun _=>none) (fun _=>[]):=⟨fun s=>⟨[],OwR.nil F w base⟩,fun _ _ _=>Dsj.nil_left _ _ _⟩
theorem GrpB.fr{F S:Nat→Prop}{w w':World}{base:Nat}{f:ByteArray→Option Value}{g:ByteArray→List (List Vl)}(h:GrpB F w base f g)(hf:Fr S w w')(h1:∀s k,((f s).getD nilS).ownBlock=some k→¬S k)(h2:∀k,F k→¬S k):GrpB F w' base f g :=
 ⟨fun s=>let ⟨us,ho⟩:=h.at' s;⟨us,ho.fr hf (h1 s) h2⟩,h.dj⟩
theorem GrpB.ext{F:Nat→Prop}{w w':World}{base:Nat}{f:ByteArray→Option Value}{g:ByteArray→List (List Vl)}(h:GrpB F w base f g)(he:Ext w w'):GrpB F w' base f g:=h.fr (he.fr (fun _=>False)) (fun _ _ _ h=>h) (fun _ _ h=>h)
def addG(g:ByteArray→List (List Vl))(s0:ByteArray)(x:List Vl):ByteArray→List (List Vl):=fun s=>if s=s0 then g s++[x] else g s
theorem GrpB.push{F:Nat→Prop}{w wb w9 w10:World}{base b n:Nat}{f:ByteArray→Option Value}{g:ByteArray→List (List Vl)}{s0:ByteArray}{us:List Value}{u v9:Value}{x:List Vl}(h:GrpB F w base f g)(ho:OwR F w base ((f s0).getD nilS) us.length us (g s0))(he:Ext w wb)(hx:Sl rdVl F wb u x)(hF:∀k,F k→k<base)(hr:w9.ownsRow base 74 1 v9 (us.length+1) (us++[u]))(hg:wb.grownBy w9 ((f s0).getD nilS).ownBlock)(hl:Lands wb ((f s0).getD nilS) v9)(hm:MapV w9 b n f)(hg2:w9.grownBy w10 (some b))(hFb:¬F b):GrpB F w10 base (updV f s0 (some v9)) (addG g s0 x):=by
 have hfr:=grown_fr hg2
 have hFb2:∀k,F k→¬some b=some k:=fun k hk e=>by injection e with e;exact hFb (e ▸ hk)
 have hlt:∀t k,((f t).getD nilS).ownBlock=some k→k<wb.heap.size:=fun t k hk=>by
  obtain⟨us',ho'⟩:=h.at' t
  have:=own_lt ho'.own hk
  have:=he.size
  omega
 have hup:∀t,(updV f s0 (some v9) t).getD nilS=if t=s0 then v9 else (f t).getD nilS:=fun t=>by
  unfold updV
  split <;> rfl
 refine⟨fun t=>?_,fun s t hst=>?_⟩
 ·rw[hup]
  unfold addG
  by_cases ht:t=s0
  ·subst ht
   rw[if_pos rfl,if_pos rfl]
   have h9:=ho.more he hx hF hr hg
   refine⟨us++[u],?_⟩
   rw[jl]
   exact h9.fr hfr (fun k hk e=>by injection e with e;exact absurd e.symm (hm.ne_own hr hk)) hFb2
  ·rw[if_neg ht,if_neg ht]
   obtain⟨us',ho'⟩:=h.at' t
   have hd:=h.dj s0 t (fun e=>ht e.symm)
   have h9:OwR F w9 base ((f t).getD nilS) us'.length us' (g t):=(ho'.ext he).fr (grown_fr hg) (fun k hk e=>hd k e hk) (fun k hk e=>by
    have h1:=own_ge ho.own e
    have h2:=hF k hk
    omega)
   exact⟨us',h9.fr hfr (fun k hk e=>by injection e with e;exact absurd e.symm (hm.ne_own h9.own hk)) hFb2⟩
 ·rw[hup,hup]
  by_cases h1:s=s0
  ·subst h1
   rw[if_pos rfl,if_neg (fun e=>hst e.symm)]
   exact(h.dj s t hst).push (hlt t) hl
  ·rw[if_neg h1]
   by_cases h2:t=s0
   ·subst h2
    rw[if_pos rfl]
    exact((h.dj t s (fun e=>h1 e.symm)).push (hlt s) hl).symm
   ·rw[if_neg h2]
    exact h.dj s t hst
def GrpR(F:Nat→Prop)(w:World)(b:Nat)(g:ByteArray→List (List Vl)):Prop:=∃n f,MapV w b n f∧∀s,Sl rdRow F w ((f s).getD nilS) (g s)
theorem GrpR.fr{F S:Nat→Prop}{w w':World}{b:Nat}{g:ByteArray→List (List Vl)}(h:GrpR F w b g)(hf:Fr S w w')(hb:¬S b)(hs:∀k,F k→¬S k):GrpR F w' b g:=let ⟨n,f,h1,h2⟩:=h;⟨n,f,h1.fr hf hb,fun s=>(h2 s).fr hf hs⟩
theorem GrpR.mono{F G:Nat→Prop}{w:World}{b:Nat}{g:ByteArray→List (List Vl)}(h:GrpR F w b g)(hs:∀k,k<w.heap.size→F k→G k):GrpR G w b g:=let ⟨n,f,h1,h2⟩:=h;⟨n,f,h1,fun s=>(h2 s).mono (by decide) hs⟩
theorem GrpB.read{F G:Nat→Prop}{w:World}{base b n:Nat}{f:ByteArray→Option Value}{g:ByteArray→List (List Vl)}(h:GrpB F w base f g)(hm:MapV w b n f)(hF:∀k,F k→G k)(hG:∀k,base≤k→G k):GrpR G w b g:=⟨n,f,hm,fun s=>let ⟨_,ho⟩:=h.at' s;ho.sl (fun k hk=>hG k (own_ge ho.own hk)) hF⟩
structure Ng where
 ar:Int
 rows:List (List Vl)
 vars:List Int
 cs:List Vl
def rdNg:Rdg Ng where
 sz:=4
 R:=fun F w cs x=>∃u v y,cs=[.int .i64 x.ar,u,v,y]∧Sl rdRow F w u x.rows∧Ins F w v x.vars∧Sl rdVl F w y x.cs
 len:=fun ⟨_,_,_,e,_⟩=>by rw[e];rfl
 fr:=fun ⟨u,v,y,e,h1,h2,h3⟩ hf hs=>⟨u,v,y,e,h1.fr hf hs,h2.fr hf hs,h3.fr hf hs⟩
 mono:=fun ⟨u,v,y,e,h1,h2,h3⟩ hs=>⟨u,v,y,e,h1.mono (by decide) hs,h2.mono hs,h3.mono (by decide) hs⟩
theorem Sl.ng{F:Nat→Prop}{w:World}{A:Option Addr}{n c:Nat}{xs:List Ng}(h:Sl rdNg F w (.slice A n c) xs){i:Nat}(hi:i<xs.length):∃ad R cr C cc K ck,A=some ad∧w.cell? (ad.add (i*4))=some (.int .i64 xs[i].ar)∧w.cell? ⟨(ad.add (i*4)).block,(ad.add (i*4)).off+1,none⟩=some (.slice R xs[i].rows.length cr)∧w.cell? ⟨(ad.add (i*4)).block,(ad.add (i*4)).off+2,none⟩=some (.slice C xs[i].vars.length cc)∧w.cell? ⟨(ad.add (i*4)).block,(ad.add (i*4)).off+3,none⟩=some (.slice K xs[i].cs.length ck)∧Sl rdRow F w (.slice R xs[i].rows.length cr) xs[i].rows∧Ins F w (.slice C xs[i].vars.length cc) xs[i].vars∧Sl rdVl F w (.slice K xs[i].cs.length ck) xs[i].cs:=by
 obtain⟨ad,cs,h1,-,⟨u,v,y,rfl,h3,h4,h5⟩,h6,h7⟩:=h.at hi
 obtain⟨R,cr,rfl⟩:=h3.sl
 obtain⟨C,cc,e,h8⟩:=h4
 subst e
 obtain⟨K,ck,rfl⟩:=h5.sl
 exact⟨ad,R,cr,C,cc,K,ck,h1,h6 (by simp),h7 0 (by simp),h7 1 (by simp),h7 2 (by simp),h3,⟨C,cc,rfl,h8⟩,h5⟩
def keyS(x:List Vl):ByteArray:=⟨(keyR x).toArray⟩
def grpL(rows:List (List Vl))(key:List Nat)(s:ByteArray):List (List Vl):=rows.filter (fun c=>decide (keyS (pickN c key)=s))
structure Sm where
 rows:List (List Vl)
 key:List Nat
 bound:List Nat
 fresh:List Nat
 frm:List Nat
 nots:List Ng
def rdSm:Rdg Sm where
 sz:=5
 R:=fun F w cs s=>∃b u1 u2 u3 u4,cs=[.map (some b),u1,u2,u3,u4]∧F b∧GrpR F w b (grpL s.rows s.key)∧Ins F w u1 (natI s.bound)∧Ins F w u2 (natI s.fresh)∧Ins F w u3 (natI s.frm)∧Sl rdNg F w u4 s.nots
 len:=fun ⟨_,_,_,_,_,e,_⟩=>by rw[e];rfl
 fr:=fun ⟨b,u1,u2,u3,u4,e,hb,h0,h1,h2,h3,h4⟩ hf hs=>⟨b,u1,u2,u3,u4,e,hb,h0.fr hf (hs _ hb) hs,h1.fr hf hs,h2.fr hf hs,h3.fr hf hs,h4.fr hf hs⟩
 mono:=fun ⟨b,u1,u2,u3,u4,e,hb,h0,h1,h2,h3,h4⟩ hs=>⟨b,u1,u2,u3,u4,e,hs _ (let ⟨_,_,hm,_⟩:=h0;hm.lt) hb,h0.mono hs,h1.mono hs,h2.mono hs,h3.mono hs,h4.mono (by decide) hs⟩
theorem keyS_eq{x y:List Vl}:keyS x=keyS y↔x=y:=⟨fun h=>keyS_inj h,fun h=>by rw[h]⟩
theorem grp_cands(s:Stp)(y:List Vl):grpL s.rows s.key (keyS (pickN y s.bound))=candsP s y:=by
 unfold grpL candsP
 congr 1
 funext c
 rw[decide_eq_decide,keyS_eq]
theorem grpL_add{rows:List (List Vl)}{key:List Nat}{x:List Vl}:grpL (rows++[x]) key=addG (grpL rows key) (keyS (pickN x key)) x:=by
 funext s
 unfold grpL addG
 rw[jK]
 by_cases h:s=keyS (pickN x key)
 ·rw[if_pos h]
  simp[h]
 ·rw[if_neg h]
  have:decide (keyS (pickN x key)=s)=false:=decide_eq_false (fun e=>h e.symm)
  simp[this]
theorem upd_run_t{t e:TypeId}(ht:Tryz.prog.underlying t=some (.map 9 e)){w:World}{b n:Nat}{f:ByteArray→Option Value}(hown:MapV w b n f)(hn:n<maxLen){s:ByteArray}(hs:s.size≤maxLen)(u:Value):∃w',(Instr.mapUpdate t (.map (some b)) (.string s) u).run Tryz.prog w=.ok () w'∧MapV w' b (n+1) (updV f s (some u))∧w.grownBy w' (some b):=by
 obtain⟨D,hD,hti,hat,hhas⟩:=hown
 obtain⟨p1,p2,p3⟩:=put_view hti hat hhas s u
 obtain⟨w',hrun,r1,r2⟩:=hD.update law_str ht hn (keyOf_str s hs) (val:=u) (d:=.held u) (ps:=[]) rfl
 exact⟨w',hrun,⟨_,r1,p1,p2,p3⟩,r2⟩
theorem proj_pick(x:List Vl)(l:List Nat):projR (natI l) x=pickN x l:=by
 unfold projR natI pickN
 rw[List.map_map]
 rfl
end Go.Proofs.YtplldnnnhgnbjaaGreatDoor
