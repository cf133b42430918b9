/- packed -/
import Derived.Shelf.SlSorted.Search
import Derived.Ground.SlsoProg
import Derived.Shelf.SlSortCmp.Whole1
import Derived.Ground.SlsfProg
import Derived.Shelf.SlGeneric
import Derived.Test.YtplldnnnhgnbjaaGreatDoorProg
import Derived.Test.YtplldnnnhgnbjaaGreatDoorMu14
namespace Go.Proofs
open Go.Shelf
def Tryz.laySearch_ren:Go.Shelf.Ren:=⟨fun|16=>260|n=>n,fun|3=>3|35=>197|4=>4|38=>166|n=>n,fun|n=>n⟩
theorem Tryz.laySearch:Go.Proofs.SlLaysO.n16 Tryz.prog Tryz.laySearch_ren:={
 mixed:=by kernel_rfl
 f16:=Tryz.func260.trans (congrArg some (by kernel_rfl))
 t3:=Tryz.underlying3
 a3:=Tryz.isAgg3
 z3:=Tryz.sizeOf3
 v3:=Tryz.zeroValue3
 t4:=Tryz.underlying4
 a4:=Tryz.isAgg4
 z4:=Tryz.sizeOf4
 v4:=Tryz.zeroValue4
 t35:=Tryz.underlying197
 a35:=Tryz.isAgg197
 z35:=Tryz.sizeOf197
 v35:=Tryz.zeroValue197
 t38:=Tryz.underlying166
 a38:=Tryz.isAgg166
 z38:=Tryz.sizeOf166
 v38:=Tryz.zeroValue166 }
def Tryz.laySortRow_ren:Go.Shelf.Ren:=⟨fun|6=>53|15=>123|14=>122|28=>196|29=>197|20=>188|21=>189|22=>190|23=>191|24=>192|25=>193|26=>194|27=>195|46=>241|47=>242|48=>243|49=>244|50=>245|57=>275|n=>n,fun|22=>38|24=>74|25=>128|3=>3|39=>166|0=>0|53=>165|55=>87|4=>4|46=>296|45=>295|50=>245|5=>5|9=>9|66=>341|70=>345|76=>373|77=>374|n=>n,fun|n=>n⟩
theorem Tryz.laySortRow:Go.Proofs.SlLaysF.n6 Tryz.prog Tryz.laySortRow_ren:={
 mixed:=by kernel_rfl
 f6:=⟨Tryz.f53.name,by decide,Tryz.func53.trans (congrArg some (by kernel_rfl))⟩
 f14:=⟨Tryz.f122.name,by decide,Tryz.func122.trans (congrArg some (by kernel_rfl))⟩
 f15:=Tryz.func123.trans (congrArg some (by kernel_rfl))
 f20:=⟨Tryz.f188.name,by decide,Tryz.func188.trans (congrArg some (by kernel_rfl))⟩
 f21:=⟨Tryz.f189.name,by decide,Tryz.func189.trans (congrArg some (by kernel_rfl))⟩
 f22:=⟨Tryz.f190.name,by decide,Tryz.func190.trans (congrArg some (by kernel_rfl))⟩
 f23:=⟨Tryz.f191.name,by decide,Tryz.func191.trans (congrArg some (by kernel_rfl))⟩
 f24:=⟨Tryz.f192.name,by decide,Tryz.func192.trans (congrArg some (by kernel_rfl))⟩
 f25:=⟨Tryz.f193.name,by decide,Tryz.func193.trans (congrArg some (by kernel_rfl))⟩
 f26:=⟨Tryz.f194.name,by decide,Tryz.func194.trans (congrArg some (by kernel_rfl))⟩
 f27:=⟨Tryz.f195.name,by decide,Tryz.func195.trans (congrArg some (by kernel_rfl))⟩
 f28:=Tryz.func196.trans (congrArg some (by kernel_rfl))
 f29:=Tryz.func197.trans (congrArg some (by kernel_rfl))
 f46:=⟨Tryz.f241.name,by decide,Tryz.func241.trans (congrArg some (by kernel_rfl))⟩
 f47:=Tryz.func242.trans (congrArg some (by kernel_rfl))
 f48:=Tryz.func243.trans (congrArg some (by kernel_rfl))
 f49:=⟨Tryz.f244.name,by decide,Tryz.func244.trans (congrArg some (by kernel_rfl))⟩
 f50:=⟨Tryz.f245.name,by decide,Tryz.func245.trans (congrArg some (by kernel_rfl))⟩
 f57:=⟨Tryz.f275.name,by decide,Tryz.func275.trans (congrArg some (by kernel_rfl))⟩
 t0:=Tryz.underlying0
 a0:=Tryz.isAgg0
 z0:=Tryz.sizeOf0
 v0:=Tryz.zeroValue0
 t3:=Tryz.underlying3
 a3:=Tryz.isAgg3
 z3:=Tryz.sizeOf3
 v3:=Tryz.zeroValue3
 t4:=Tryz.underlying4
 a4:=Tryz.isAgg4
 z4:=Tryz.sizeOf4
 v4:=Tryz.zeroValue4
 t5:=Tryz.underlying5
 a5:=Tryz.isAgg5
 z5:=Tryz.sizeOf5
 v5:=Tryz.zeroValue5
 t9:=Tryz.underlying9
 a9:=Tryz.isAgg9
 z9:=Tryz.sizeOf9
 v9:=Tryz.zeroValue9
 t22:=Tryz.underlying38
 a22:=Tryz.isAgg38
 z22:=Tryz.sizeOf38
 v22:=Tryz.zeroValue38
 a24:=Tryz.isAgg74
 z24:=Tryz.sizeOf74
 t25:=Tryz.underlying128
 a25:=Tryz.isAgg128
 z25:=Tryz.sizeOf128
 v25:=Tryz.zeroValue128
 t39:=Tryz.underlying166
 a39:=Tryz.isAgg166
 z39:=Tryz.sizeOf166
 v39:=Tryz.zeroValue166
 t45:=Tryz.underlying295
 a45:=Tryz.isAgg295
 z45:=Tryz.sizeOf295
 v45:=Tryz.zeroValue295
 t46:=Tryz.underlying296
 a46:=Tryz.isAgg296
 z46:=Tryz.sizeOf296
 v46:=Tryz.zeroValue296
 t50:=Tryz.underlying245
 a50:=Tryz.isAgg245
 z50:=Tryz.sizeOf245
 v50:=Tryz.zeroValue245
 t53:=Tryz.underlying165
 a53:=Tryz.isAgg165
 z53:=Tryz.sizeOf165
 v53:=Tryz.zeroValue165
 t55:=Tryz.underlying87
 a55:=Tryz.isAgg87
 z55:=Tryz.sizeOf87
 v55:=Tryz.zeroValue87
 t66:=Tryz.underlying341
 a66:=Tryz.isAgg341
 z66:=Tryz.sizeOf341
 v66:=Tryz.zeroValue341
 t70:=Tryz.underlying345
 a70:=Tryz.isAgg345
 z70:=Tryz.sizeOf345
 v70:=Tryz.zeroValue345
 t76:=Tryz.underlying373
 a76:=Tryz.isAgg373
 z76:=Tryz.sizeOf373
 v76:=Tryz.zeroValue373
 t77:=Tryz.underlying374
 a77:=Tryz.isAgg374
 z77:=Tryz.sizeOf374
 v77:=Tryz.zeroValue374 }
end Go.Proofs
namespace Go.Proofs.YtplldnnnhgnbjaaGreatDoor
open Go.RowKit Go.Maps
theorem three_blk(w:World)(t u v:TypeId)(cs ds es:List Value):Bk (((w.alloc (.cells cs.toArray t)).alloc (.cells ds.toArray u)).alloc (.cells es.toArray v)) w.heap.size t cs∧Bk (((w.alloc (.cells cs.toArray t)).alloc (.cells ds.toArray u)).alloc (.cells es.toArray v)) (w.heap.size+1) u ds∧Bk (((w.alloc (.cells cs.toArray t)).alloc (.cells ds.toArray u)).alloc (.cells es.toArray v)) (w.heap.size+1+1) v es:=by
 obtain⟨h1,h2⟩:=two_blk w t u cs ds
 refine⟨h1.alloc _,h2.alloc _,?_⟩
 have h:=Bk.new ((w.alloc (.cells cs.toArray t)).alloc (.cells ds.toArray u)) v es
 have e:((w.alloc (.cells cs.toArray t)).alloc (.cells ds.toArray u)).heap.size=w.heap.size+1+1:=by simp
 rw[e]at h
 exact h
theorem info_row:(Tryz.prog.info? 74).map (fun i=>(i.zero,i.size,i.bytes))=some (some (.slice none 0 0),1,24):=by kernel_rfl
theorem own_cellS{w:World}{base n g cap sz:Nat}{E:TypeId}{us:List Value}(h:w.ownsRow base E sz (.slice (some ⟨g,0,none⟩) n cap) n us){i:Nat}(hi:i<n*sz):(∃u,w.cell? ⟨g,i,none⟩=some u)∧w.frozen? ⟨g,i,none⟩=false:=by
 obtain⟨hl,h⟩:=h
 rcases h with ⟨h0,-⟩|⟨g',cap',cur,e,hb,hc,h1,h2,h3,h4⟩
 ·cases h0
 injection e with e1 e2 e3
 injection e1 with e1
 injection e1 with e1
 subst e1 e3
 have hcs:i<cur.size:=by
  rw[h3]
  exact jM hi (zg _ h1)
 exact⟨⟨cur[i],by simp[World.cell?,hc,hcs]⟩,by simp[World.frozen?,hc]⟩
theorem own_setc{w:World}{base n g cap sz:Nat}{E:TypeId}{us:List Value}(h:w.ownsRow base E sz (.slice (some ⟨g,0,none⟩) n cap) n us){i:Nat}(hi:i<n*sz)(u:Value):(w.setCell ⟨g,i,none⟩ u).ownsRow base E sz (.slice (some ⟨g,0,none⟩) n cap) n (us.set i u):=by
 obtain⟨hl,h⟩:=h
 refine⟨by simpa using hl,?_⟩
 rcases h with ⟨h0,-⟩|⟨g',cap',cur,e,hb,hc,h1,h2,h3,h4⟩
 ·cases h0
 injection e with e1 e2 e3
 injection e1 with e1
 injection e1 with e1
 subst e1 e3
 refine .inr ⟨g,cap,cur.setIfInBounds i u,rfl,hb,?_,h1,h2,by simpa using h3,?_⟩
 ·simp[World.setCell,Array.getElem?_modify,hc]
 ·rw[Array.toList_setIfInBounds,List.take_set,h4]
set_option maxRecDepth 20000 in
set_option maxHeartbeats 1600000 in
theorem clone_vls{F:Nat→Prop}{w:World}{A:Option Addr}{n c:Nat}{xs:List Value}(hcl:Cl F w A xs)(hl:xs.length=n*3)(h1:∀u∈xs,u.oneCell'=true)(hn:n≤1048576) :
  Calls Tryz.prog 57 #[.slice A n c] w (Ret (fun x w'=>w'.ownsRow w.heap.size 51 3 x n xs) w):=by
 obtain⟨i0,hi0,hz0,hz1,hz2⟩:=info_parts info_val
 have HI0:=zO (And.intro hi0 (And.intro hz0 (And.intro hz1 hz2)));clear hi0 hz0 hz1 hz2
 have HCL:=zO hcl;have HL:=zO hl;have HO:=zO h1
 clear hl h1
 rcases A with _|ad
 ·have HX:Hid (n=0∧xs=[]):=zO (by
   rcases hcl with rfl|⟨ad,e,-⟩
   ·have:=HL.out;simp at this;exact⟨by omega,rfl⟩
   ·cases e)
  clear hcl
  have q22:∀(w:World) (n c n' c':Nat),(binOp .eql 74 (.slice none n c) (.slice none n' c')).run Tryz.prog w=.ok (.bool true) w:=fun w n c n' c'=>Lib.run_eql_slice_nil w _ _ none n c n' c' Tryz.underlying74
  go_enter Tryz.func57,Tryz.ntmps57
  go_wp2_with fail
  go_ret
  exact Ret.mk (Ext.refl _) (by rw[HX.out.1,HX.out.2];exact World.ownsRow_nil _ _ _ _)
 ·have q22:∀(w:World) (a:Addr) (n c n' c':Nat),(binOp .eql 74 (.slice (some a) n c) (.slice none n' c')).run Tryz.prog w=.ok (.bool false) w:=fun w a n c n' c'=>Lib.run_eql_slice_nil w _ _ (some a) n c n' c' Tryz.underlying74
  clear hcl
  go_enter Tryz.func57,Tryz.ntmps57
  go_wp2_with (first|(at_builtin;refine wpList_append_opt rfl _ _ 74 rfl w.heap.size 51 i0 (.agg #[.int .i64 0,.int .i64 0,.string ⟨#[]⟩]) 3 32 Tryz.underlying74 HI0.out.1 HI0.out.2.1 HI0.out.2.2.1 HI0.out.2.2.2 rfl (by omega) (.slice (some ⟨w.heap.size,0,none⟩) 0 0) 0 [] rfl (World.ownsRow_made w #[] 0 (jq _) (jn _) rfl) (some ad) n c xs rfl HL.out ((HCL.out.ext ((Ext.refl w).alloc _)).news) HO.out (by simp only[maxLen];omega) (by omega) (by simp) ?_;intro v9 w9 hr9 hg9 hl9;rw[jW,jX]at hr9;obtain⟨A9,c9,rfl⟩:=own_slice hr9;have HR9:=zO hr9;have HE9:Hid (Ext w w9):=zO (((Ext.refl w).alloc _).grown hg9 (fun q hq=>by simp[Value.ownBlock]at hq;omega));clear hr9 hg9 hl9))
  go_ret
  exact Ret.mk HE9.out HR9.out
theorem vls_one(xs:List Vl):∀u∈vcells xs,u.oneCell'=true:=by
 intro u hu
 unfold vcells at hu
 rw[zB]at hu
 obtain⟨x,-,hx⟩:=hu
 simp only[Vl.cells,jC,zz,or_false]at hx
 rcases hx with rfl|rfl|rfl <;> rfl
theorem vls_len(xs:List Vl):(vcells xs).length=xs.length*3:=by
 unfold vcells
 induction xs with
 | nil=>rfl
 | cons a l ih=>rw[jQ,jl,ih];simp[Vl.cells];omega
theorem Sl.cls{F:Nat→Prop}{w:World}{A:Option Addr}{n c:Nat}{xs:List Vl}(h:Sl rdVl F w (.slice A n c) xs):Cl F w A (vcells xs):=by
 rcases xs with _|⟨x,l⟩
 ·exact .inl rfl
 ·have h0:=h
  obtain⟨A',c',e,-,hh⟩:=h
  injection e with e1
  subst e1
  obtain⟨ad,cs,rfl,hF,-⟩:=hh 0 (by simp)
  refine .inr ⟨ad,rfl,hF,fun j hj=>?_⟩
  rw[vls_len]at hj
  have hall:∀cs∈(x::l).map Vl.cells,cs.length=3:=fun cs hcs=>by obtain⟨y,_,rfl⟩:=jE.1 hcs;rfl
  have hq:j / 3<(x::l).length:=by omega
  obtain⟨ad',cs',e,-,hr,hc⟩:=hh (j / 3) hq
  injection e with e
  subst e
  have e2:cs'=Vl.cells ((x::l)[j / 3]):=hr
  subst e2
  have hm:j % 3<3:=Nat.mod_lt _ (by decide)
  have h1:=hc (j % 3) hm
  have h2:=flat_get (css:=(x::l).map Vl.cells) (i:=j / 3) hall (by simpa using hq) hm
  have ej:j / 3*3+j % 3=j:=Nat.div_add_mod' j 3
  rw[←List.flatMap_def,jy,ej]at h2
  have hjf:j<(vcells (x::l)).length:=by rw[vls_len];exact hj
  have hlc:j % 3<(Vl.cells ((x::l)[j / 3])).length:=hm
  have h1':w.cell? (ad.add (j / 3*3+j % 3))=some ((Vl.cells ((x::l)[j / 3]))[j % 3]'hlc):=h1
  rw[ej]at h1'
  rw[h1',←jk hlc,←h2]
  exact jk hjf
theorem own_vls{w:World}{base n:Nat}{v:Value}{xs:List Vl}(h:w.ownsRow base 51 3 v n (vcells xs)):Sl rdVl (fun k=>base≤k) w v xs:=(Rw.of_flat (cells:=Vl.cells) (sz:=3) (hl:=fun _=>rfl) h).sl (by decide)
theorem clone_row{F:Nat→Prop}{w:World}{A:Option Addr}{n c:Nat}{xs:List Vl}(h:Sl rdVl F w (.slice A n c) xs)(hn:n≤1048576) :
  Calls Tryz.prog 57 #[.slice A n c] w (Ret (fun x w'=>∃A' c',x=.slice A' n c'∧Sl rdVl (fun k=>w.heap.size≤k) w' x xs) w):=by
 refine(clone_vls h.cls (by rw[vls_len,←h.cap.1]) (vls_one _) hn).mono ?_
 rintro e w' ⟨x,rfl,he,ho⟩
 obtain⟨A',c',rfl⟩:=own_slice ho
 exact⟨_,rfl,he,_,_,rfl,own_vls ho⟩
def valR(r:List Vl):Bool:=r.all (fun v=>valB v.kind v.int v.str)
set_option maxRecDepth 20000 in
set_option maxHeartbeats 1600000 in
theorem rvalid_any{F:Nat→Prop}{w:World}{A:Option Addr}{n c:Nat}{xs:List Vl}(h:Sl rdVl F w (.slice A n c) xs)(hn:n≤1048576)(hz:∀v∈xs,v.str.size≤maxLen) :
  Calls Tryz.prog 162 #[.slice A n c] w (Ret (fun x _=>x=.bool (valR xs)) w):=by
 have hxn:=h.cap.1
 have HA:=zO h;have HXN:=zO hxn;have HZ:=zO hz
 obtain⟨z,hz'⟩:∃z,z=valR xs:=⟨_,rfl⟩
 rw[←hz']
 have HV:=zO hz'
 clear h hxn hz hz'
 go_enter Tryz.func162,Tryz.ntmps162
 go_wp2_with fail
 go_loopw [6] (fun t wr=>∃i:Nat,i≤n∧t=.int .i64 (i:Int)∧Hid ((xs.take i).all (fun v=>valB v.kind v.int v.str)=true)∧Ext w wr) (fun t _=>n-(intOf t).toNat)
 case atStart=>exact⟨0,jn _,rfl,zO (by simp),Ext.refl _⟩
 case round =>
  obtain⟨i,hi,rfl,HE,hx⟩:=hrel
  obtain⟨W,rfl⟩:∃W:World,W=wr:=⟨_,rfl⟩
  have HX:=zO hx
  by_cases hlt:i<n
  ·have i1:(0:Int)≤(i:Int):=by omega
   have i2:(i:Int)<(n:Int):=by omega
   have hix:i<xs.length:=by have:=HXN.out;omega
   obtain⟨ad,rfl,-,a0,a1,a2⟩:=HA.out.vl hix
   replace a0:=hx.cell a0;replace a1:=hx.cell a1;replace a2:=hx.cell a2
   have hmem:=jg hix
   have hzs:=HZ.out _ hmem
   have hgo:valB xs[i].kind xs[i].int xs[i].str=true→(xs.take (i+1)).all (fun v=>valB v.kind v.int v.str)=true:=fun h=>by
    rw[jj hix,List.all_append,HE.out]
    simp[h]
   have hno:valB xs[i].kind xs[i].int xs[i].str=false→z=false:=fun h=>by
    rw[HV.out]
    unfold valR
    rw[List.all_eq_false]
    exact⟨_,hmem,by simp[h]⟩
   obtain⟨x,hx⟩:∃x,x=xs[i]:=⟨_,rfl⟩
   rw[←hx]at a0 a1 a2 hgo hno hzs
   obtain⟨xk,xn,xs'⟩:=x
   simp only at a0 a1 a2 hgo hno hzs
   have HGO:=zO hgo;have HNO:=zO hno
   have HC:=zO (fun (V:World)=>vvalid_any xk xn xs' V hzs)
   clear hx hmem hgo hno
   go_wp2_with fail
   refine(HC.out _).mono ?_
   rintro e w2 ⟨y,rfl,he2,rfl⟩
   have HX2:=zO (HX.out.trans he2)
   clear he2 a0 a1 a2
   rcases hb:valB xk xn xs' with _|_
   ·have HF:=zO (HNO.out hb)
    clear hb
    go_wp2_with fail
    go_ret
    exact Ret.mk HX2.out (by rw[HF.out];rfl)
   ·have HT:=zO (HGO.out hb)
    clear hb
    go_wp2_with fail
    go_roundw
    case rel=>exact⟨i+1,by omega,by go_num,HT,HX2.out⟩
    case measure=>simp[intOf];omega
  ·obtain rfl:i=n:=by omega
   have hdi:¬(i:Int)<(i:Int):=by omega
   have HT:Hid (z=true):=zO (by
    have h:=HE.out
    rw[jo (by have:=HXN.out;omega)]at h
    rw[HV.out]
    exact h)
   clear hx
   go_wp2_with fail
   go_ret
   exact Ret.mk HX.out (by rw[HT.out];rfl)
theorem Sl.row{F:Nat→Prop}{w:World}{A:Option Addr}{n c:Nat}{xs:List (List Vl)}(h:Sl rdRow F w (.slice A n c) xs){i:Nat}(hi:i<xs.length):∃ad B d,A=some ad∧F ad.block∧w.cell? (ad.add i)=some (.slice B xs[i].length d)∧Sl rdVl F w (.slice B xs[i].length d) xs[i]:=by
 obtain⟨A',c',e,hc,hh⟩:=h
 injection e with e1 e2 e3
 subst e1
 obtain⟨ad,cs,rfl,hF,⟨u,rfl,hu⟩,h4⟩:=hh i hi
 obtain⟨B,d,rfl⟩:=hu.sl
 have h5:=h4 0 (by simp)
 have e:i*rdRow.sz+0=i:=by show i*1+0=i;omega
 rw[e]at h5
 exact⟨ad,B,d,rfl,hF,h5,hu⟩
def SoR(l:List (List Vl)):Prop:=l.Pairwise (fun a b=>cmpR a b<0)
def lowR(l:List (List Vl))(r:List Vl):Nat:=l.countP (fun x=>decide (cmpR x r<0))
def hasR(l:List (List Vl))(r:List Vl):Bool:=l.any (fun x=>cmpR x r == 0)
theorem hasR_iff{l:List (List Vl)}{r:List Vl}:hasR l r=true↔r∈l:=by
 unfold hasR
 rw[jL]
 constructor
 ·rintro⟨x,hx,h⟩
  rw[beq_iff_eq,cmp_row.eq]at h
  exact h ▸ hx
 ·exact fun h=>⟨r,h,by rw[beq_iff_eq,cmp_row.eq]⟩
theorem count_range{α : Type}(q : α→Bool)(d : α)(l:List α):l.countP q=(List.range l.length).countP (fun i=>q (l.getD i d)):=by
 have e:l=(List.range l.length).map (fun i=>l.getD i d):=by
  apply jY
  ·simp
  ·intro i h1 h2
   simp[jk h1]
 conv=>lhs;rw[e]
 rw[List.countP_map]
 rfl
theorem SoR.lt{l:List (List Vl)}(h:SoR l){i j:Nat}(hij:i<j)(hj:j<l.length):cmpR l[i] l[j]<0:=zk.1 h i j (by omega) hj hij
theorem lowR_le(l:List (List Vl))(r:List Vl):lowR l r≤l.length:=List.countP_le_length
theorem lowR_cons(a:List Vl)(l:List (List Vl))(r:List Vl):lowR (a::l) r=lowR l r+if cmpR a r<0 then 1 else 0:=by
 unfold lowR
 rw[List.countP_cons]
 simp
theorem low_split:∀{l:List (List Vl)} {r:List Vl},SoR l→(∀x∈l.take (lowR l r),cmpR x r<0)∧∀x∈l.drop (lowR l r),¬cmpR x r<0
 | [],r,_=>by simp
 | a::l,r,h=>by
  have h1:SoR l:=(zJ.1 h).2
  have h2:∀b∈l,cmpR a b<0:=(zJ.1 h).1
  rw[lowR_cons]
  by_cases h0:cmpR a r<0
  ·rw[if_pos h0,List.take_succ_cons,List.drop_succ_cons]
   obtain⟨i1,i2⟩:=low_split (r:=r) h1
   exact⟨fun x hx=>by
    rcases jC.1 hx with rfl|hx
    ·exact h0
    ·exact i1 x hx,i2⟩
  ·have h3:lowR l r=0:=by
    unfold lowR
    rw[List.countP_eq_zero]
    intro b hb
    have:=h2 b hb
    simp only[decide_eq_true_eq]
    intro h4
    exact h0 (cmp_row.trans _ _ _ this h4)
   rw[if_neg h0,h3]
   exact⟨fun x hx=>by simp at hx,fun x hx=>by
    simp at hx
    rcases hx with rfl|hx
    ·exact h0
    ·intro h4
     exact h0 (cmp_row.trans _ _ _ (h2 x hx) h4)⟩
theorem low_at{l:List (List Vl)}{r:List Vl}(h:SoR l){i:Nat}(hi:i<l.length):cmpR l[i] r<0↔i<lowR l r:=by
 obtain⟨h1,h2⟩:=low_split (r:=r) h
 constructor
 ·intro h3
  rcases jB i (lowR l r) with h4|h4
  ·exact h4
  ·exact absurd h3 (h2 _ (List.mem_drop_iff_getElem.2 ⟨i-lowR l r,by omega,by congr 1;omega⟩))
 ·exact fun h3=>h1 _ (zy.2 ⟨i,by omega,rfl⟩)
theorem has_low{l:List (List Vl)}{r:List Vl}(h:SoR l):hasR l r=true↔∃hl:lowR l r<l.length,cmpR l[lowR l r] r=0:=by
 rw[hasR_iff]
 constructor
 ·intro hm
  obtain⟨i,hi,rfl⟩:=jv hm
  have h1:¬i<lowR l l[i]:=fun h2=>by
   have h3:=(low_at h hi).2 h2
   rw[cmp_row.self]at h3
   omega
  have h2:¬lowR l l[i]<i:=fun h2=>by
   have h3:=h.lt h2 hi
   have h4:=(low_at (r:=l[i]) h (by omega)).1 h3
   omega
  have h3:lowR l l[i]=i:=by omega
  refine⟨by omega,?_⟩
  simp only[h3]
  exact cmp_row.self _
 ·rintro⟨hl,he⟩
  rw[cmp_row.eq]at he
  rw[←he]
  exact jg hl
set_option maxRecDepth 20000 in
set_option maxHeartbeats 1600000 in
theorem searchf_any{F G:Nat→Prop}{w:World}{A B:Option Addr}{n c m d g0 g1 g2:Nat}{rows:List (List Vl)}{r:List Vl}(k0:Bk w g0 38 [.slice A n c])(k1:Bk w g1 74 [.slice B m d])(k2:Bk w g2 236 [.slice none 0 0])(hA:Sl rdRow F w (.slice A n c) rows)(hB:Sl rdVl G w (.slice B m d) r)(hm:m≤1048576)(hr:∀x∈rows,x.length≤1048576){i:Nat}(hi:i<n)(hn:n≤1048576) :
  Calls Tryz.prog 261 #[.int .i64 (i:Int),.pointer (some ⟨g0,0,none⟩),.pointer (some ⟨g1,0,none⟩),.pointer (some ⟨g2,0,none⟩)] w (fun e w'=>e=.returned (.bool (decide (0≤cmpR (rows.getD i []) r)))∧Gr w w'):=by
 have hnl:=hA.cap.1
 have hix:i<rows.length:=by omega
 have i1:(0:Int)≤(i:Int):=by omega
 have i2:(i:Int)<(n:Int):=by omega
 obtain⟨ad,C,dc,rfl,-,a0,hrow⟩:=hA.row hix
 have hrl:=hr _ (jg hix)
 have hgd:rows.getD i []=rows[i]:=by simp[jk hix]
 rw[hgd]
 obtain⟨x,hx⟩:∃x,x=rows[i]:=⟨_,rfl⟩
 rw[←hx]at a0 hrow hrl ⊢
 have HC:=zO (fun (V:World) (hV:Gr w V)=>rcompby_any (w:=V) (hrow.ext hV.ext) (hB.ext hV.ext) hrl hm)
 obtain⟨z,hz⟩:∃z,z=cmpR x r:=⟨_,rfl⟩
 rw[←hz]at HC ⊢
 obtain⟨nx,hnx⟩:∃z,z=x.length:=⟨_,rfl⟩
 rw[←hnx]at a0 HC
 have b0:=k0.cell (i:=0) (by simp);have b1:=k1.cell (i:=0) (by simp);have b2:=k2.cell (i:=0) (by simp)
 simp only[ja]at b0 b1 b2
 clear k0 k1 k2 hA hB hr hnl hix hrl hgd hx hrow hz hnx
 go_enter Tryz.func261,Tryz.ntmps261
 go_upto_region 1 with fail
 go_region_held3 (fun V=>Gr w V∧V.cell? ⟨g0,0,none⟩=some (.slice (some ad) n c)∧V.cell? ⟨g1,0,none⟩=some (.slice B m d)∧V.cell? ⟨g2,0,none⟩=some (.slice none 0 0)∧V.cell? (ad.add i)=some (.slice C nx dc))
  ((refine(fun he=>⟨he,Gr.cell he b0,Gr.cell he b1,Gr.cell he b2,Gr.cell he a0⟩) ?_;repeat (first|exact Gr.refl _|exact(Gr.refl _).drew|refine Gr.drew ?_|refine Gr.trans ?_ (by assumption))))
  (first
   | (go_at_call 131;(with_reducible refine(HC.out _ (And.left (by assumption))).mono ?_);rintro e wi ⟨rfl,hei⟩))
 have hfin:=And.left (b:=_∧_) (by assumption)
 have HX:=zO hfin
 clear hfin hei b0 b1 b2 a0
 go_wp2_with fail
 go_ret
 exact⟨rfl,HX.out⟩
def SrPost(l:List (List Vl))(r:List Vl)(w:World)(e:Ending)(w':World):Prop:=Ext w w'∧e=.returned (.tuple #[.int .i64 (lowR l r:Int),.bool (hasR l r)])
theorem searchn_any{F G:Nat→Prop}{w:World}{A B:Option Addr}{n c m d g0 g1 g2:Nat}{rows:List (List Vl)}{r:List Vl}(hS:SoR rows)(k0:Bk w g0 38 [.slice A n c])(k1:Bk w g1 74 [.slice B m d])(k2:Bk w g2 236 [.slice none 0 0])(hA:Sl rdRow F w (.slice A n c) rows)(hB:Sl rdVl G w (.slice B m d) r)(hm:m≤1048576)(hr:∀x∈rows,x.length≤1048576)(hn:n≤1048576) :
  Calls Tryz.prog 260 #[.int .i64 (n:Int),.func (.func 261) #[] #[.pointer (some ⟨g0,0,none⟩),.pointer (some ⟨g1,0,none⟩),.pointer (some ⟨g2,0,none⟩)]] w (fun e w'=>e=.returned (.int .i64 (lowR rows r:Int))∧Gr w w'):=by
 have hnl:=hA.cap.1
 have hc:=Any.sort_Search Tryz.laySearch 261 #[.pointer (some ⟨g0,0,none⟩),.pointer (some ⟨g1,0,none⟩),.pointer (some ⟨g2,0,none⟩)] n (fun i=>decide (0≤cmpR (rows.getD i []) r)) w (enters_of Tryz.func261 (by kernel_rfl) rfl) (by omega)
  (fun q os i hi=>searchf_any (w:=Go.Sort.grow (w.drewN q) os) (k0.ext (Gr.ext ⟨q,os,rfl⟩)) (k1.ext (Gr.ext ⟨q,os,rfl⟩)) (k2.ext (Gr.ext ⟨q,os,rfl⟩)) (hA.ext (Gr.ext ⟨q,os,rfl⟩)) (hB.ext (Gr.ext ⟨q,os,rfl⟩)) hm hr hi hn)
  (fun a b hab hb hp=>by
   have ha:a<rows.length:=by omega
   have hb':b<rows.length:=by omega
   have e1:rows.getD a []=rows[a]:=by simp[jk ha]
   have e2:rows.getD b []=rows[b]:=by simp[jk hb']
   simp only[e1,e2,decide_eq_true_eq]at hp ⊢
   have h1:=low_at (r:=r) hS ha
   have h2:=low_at (r:=r) hS hb'
   omega)
 change Calls Tryz.prog 260 _ _ _ at hc
 refine hc.mono ?_
 rintro e w' ⟨rfl,hg⟩
 refine⟨?_,hg⟩
 congr 2
 unfold lowR
 rw[count_range _ [] rows,←hnl]
 congr 2
 funext i
 by_cases h:cmpR (rows.getD i []) r<0
 ·rw[decide_eq_false (show ¬0≤cmpR (rows.getD i []) r by omega),decide_eq_true h];rfl
 ·rw[decide_eq_true (show 0≤cmpR (rows.getD i []) r by omega),decide_eq_false h];rfl
set_option maxRecDepth 20000 in
set_option maxHeartbeats 1600000 in
theorem rsearch_any{F G:Nat→Prop}{w:World}{A B:Option Addr}{n c m d:Nat}{rows:List (List Vl)}{r:List Vl}(hS:SoR rows)(hA:Sl rdRow F w (.slice A n c) rows)(hB:Sl rdVl G w (.slice B m d) r)(hm:m≤1048576)(hr:∀x∈rows,x.length≤1048576)(hn:n≤1048576) :
  Calls Tryz.prog 225 #[.slice A n c,.slice B m d,.slice none 0 0] w (SrPost rows r w):=by
 have hnl:=hA.cap.1
 have k3:=three_blk w 38 74 236 [.slice A n c] [.slice B m d] [.slice none 0 0]
 have hx:Ext w (((w.alloc (.cells #[.slice A n c] 38)).alloc (.cells #[.slice B m d] 74)).alloc (.cells #[.slice none 0 0] 236)):=(((Ext.refl w).alloc _).alloc _).alloc _
 have HA:=zO hA;have HB:=zO hB;have HR:=zO hr;have HS:=zO hS;have HNL:=zO hnl
 have hlow:=lowR_le rows r
 rw[←hnl]at hlow
 clear hA hB hr hS hnl
 go_enter Tryz.func225,Tryz.ntmps225
 go_upto_region 1 with fail
 change Bk (((w.alloc (.cells #[.slice A n c] 38)).alloc (.cells #[.slice B m d] 74)).alloc (.cells #[.slice none 0 0] 236)) _ _ _∧Bk (((w.alloc (.cells #[.slice A n c] 38)).alloc (.cells #[.slice B m d] 74)).alloc (.cells #[.slice none 0 0] 236)) _ _ _∧Bk (((w.alloc (.cells #[.slice A n c] 38)).alloc (.cells #[.slice B m d] 74)).alloc (.cells #[.slice none 0 0] 236)) _ _ _ at k3
 generalize (((w.alloc (.cells #[.slice A n c] 38)).alloc (.cells #[.slice B m d] 74)).alloc (.cells #[.slice none 0 0] 236))=w1 at *
 obtain⟨ka,kb,kc⟩:=k3
 have HC:=zO (searchn_any HS.out ka kb kc (HA.out.ext hx) (HB.out.ext hx) hm HR.out hn)
 have a0:=ka.cell (i:=0) (by simp);have b0:=kb.cell (i:=0) (by simp)
 simp only[ja]at a0 b0
 have HX:=zO hx
 clear ka kb kc hx
 go_wp2_with fail
 refine HC.out.mono ?_
 rintro e w2 ⟨rfl,hg⟩
 replace a0:=hg.cell a0;replace b0:=hg.cell b0
 have HX2:=zO (HX.out.trans hg.ext)
 obtain⟨q,hq⟩:∃q,q=lowR rows r:=⟨_,rfl⟩
 have HQ:=zO hq
 rw[←hq]at hlow ⊢
 clear hg hq
 by_cases hlt:q<n
 ·have hix:q<rows.length:=by have:=HNL.out;omega
  have i1:(0:Int)≤(q:Int):=by omega
  have i2:(q:Int)<(n:Int):=by omega
  obtain⟨ad,C,dc,rfl,-,c0,hrow⟩:=HA.out.row hix
  have hrl:=HR.out _ (jg hix)
  have HAS:Hid (hasR rows r=(cmpR rows[q] r == 0)):=zO (by
   have h1:=has_low (r:=r) HS.out
   have e:=HQ.out
   subst e
   apply bool_iff
   rw[h1,beq_iff_eq]
   exact⟨fun ⟨_,h⟩=>h,fun h=>⟨hix,h⟩⟩)
  obtain⟨x,hx⟩:∃x,x=rows[q]:=⟨_,rfl⟩
  rw[←hx]at c0 hrow hrl HAS
  obtain⟨nx,hnx⟩:∃z,z=x.length:=⟨_,rfl⟩
  have HE:=zO (fun (V:World) (hV:Ext w2 V)=>requal_any (w:=V) (hrow.ext (HX2.out.trans hV)) (HB.out.ext (HX2.out.trans hV)) hrl hm)
  rw[←hnx]at c0 HE
  replace c0:=HX2.out.cell c0
  obtain⟨z,hz⟩:∃z,z=(cmpR x r == 0):=⟨_,rfl⟩
  rw[←hz]at HE HAS
  clear hx hrow hrl hnx hz
  go_upto_region 2 with fail
  go_region_held3 (fun V=>Ext w2 V∧V.cell? ⟨w.heap.size,0,none⟩=some (.slice (some ad) n c)∧V.cell? ⟨w.heap.size+1,0,none⟩=some (.slice B m d)∧V.cell? (ad.add q)=some (.slice C nx dc))
   ((refine(fun he=>⟨he,Ext.cell he a0,Ext.cell he b0,Ext.cell he c0⟩) ?_;repeat (first|exact Ext.refl _|exact(Ext.refl _).drew|refine Ext.drew ?_|refine Ext.trans ?_ (by assumption))))
   (first
    | (go_at_call 262;(with_reducible refine(HE.out _ (And.left (by assumption))).mono ?_);rintro e wi ⟨rfl,hgi⟩;have hei:=Gr.ext hgi))
  have hfin:=And.left (b:=_∧_) (by assumption)
  have HXF:=zO (HX2.out.trans hfin)
  clear hfin hei hgi a0 b0 c0
  go_wp2_with fail
  go_ret2
  exact⟨HXF.out,by rw[HAS.out,←HQ.out];rfl⟩
 ·have i2:¬(q:Int)<(n:Int):=by omega
  have HAS:Hid (hasR rows r=false):=zO (by
   cases h:hasR rows r with
   | false=>rfl
   | true =>
    obtain⟨hl,-⟩:=(has_low HS.out).1 h
    have:=HQ.out;have:=HNL.out
    omega)
  go_upto_region 2 with fail
  go_quiet (fail)
  have HXQ:=zO (HX2.out.drewN nq)
  generalize (w2.drewN nq)=Y at *
  clear a0 b0
  go_wp2_with fail
  go_ret2
  exact⟨HXQ.out,by rw[HAS.out,←HQ.out];rfl⟩
structure OwR(F:Nat→Prop)(w:World)(base:Nat)(v:Value)(n:Nat)(us:List Value)(rows:List (List Vl)):Prop where
 own:w.ownsRow base 74 1 v n us
 len:us.length=rows.length
 rd:∀i (h:i<rows.length) (h':i<us.length),Sl rdVl (fun k=>F k∧v.ownBlock≠some k) w us[i] rows[i]
theorem OwR.num{F:Nat→Prop}{w:World}{base n:Nat}{v:Value}{us:List Value}{rows:List (List Vl)}(h:OwR F w base v n us rows):n=us.length:=by
 have:=h.own.1
 omega
theorem OwR.ext{F:Nat→Prop}{w w':World}{base n:Nat}{v:Value}{us:List Value}{rows:List (List Vl)}(h:OwR F w base v n us rows)(he:Ext w w'):OwR F w' base v n us rows:=⟨own_ext' h.own he,h.len,fun i hi h'=>(h.rd i hi h').ext he⟩
theorem OwR.fr{F S:Nat→Prop}{w w':World}{base n:Nat}{v:Value}{us:List Value}{rows:List (List Vl)}(h:OwR F w base v n us rows)(hf:Fr S w w')(h1:∀k,v.ownBlock=some k→¬S k)(h2:∀k,F k→¬S k):OwR F w' base v n us rows:=⟨own_fr h.own hf h1,h.len,fun i hi h'=>(h.rd i hi h').fr hf (fun k hk=>h2 k hk.1)⟩
theorem OwR.sl{F G:Nat→Prop}{w:World}{base n:Nat}{v:Value}{us:List Value}{rows:List (List Vl)}(h:OwR F w base v n us rows)(hg:∀k,v.ownBlock=some k→G k)(hF:∀k,F k→G k):Sl rdRow G w v rows:=by
 have hn:=h.num
 have hl:=h.len
 obtain⟨A,c,rfl,hc,hcl⟩:=Cl.of_own h.own
 refine⟨A,c,by rw[hn,hl],by omega,fun i hi=>?_⟩
 have hi':i<us.length:=by omega
 obtain⟨ad,rfl,hk,hcell⟩:=hcl.at' (j:=i) (jk hi')
 refine⟨ad,[us[i]],rfl,hg _ hk.1,⟨us[i],rfl,(h.rd i hi hi').mono (by decide) (fun k _ hk=>hF k hk.1)⟩,fun j hj=>?_⟩
 obtain rfl:j=0:=by simp at hj;omega
 have e:i*rdRow.sz+0=i:=by show i*1+0=i;omega
 rw[e]
 exact hcell
theorem OwR.more{F:Nat→Prop}{w wb w9:World}{base n:Nat}{v v9 u:Value}{us:List Value}{rows:List (List Vl)}{x:List Vl}(h:OwR F w base v n us rows)(he:Ext w wb)(hx:Sl rdVl F wb u x)(hF:∀k,F k→k<base)(hr:w9.ownsRow base 74 1 v9 (n+1) (us++[u]))(hg:wb.grownBy w9 v.ownBlock):OwR F w9 base v9 (n+1) (us++[u]) (rows++[x]):=by
 have h9:∀k,F k→v9.ownBlock≠some k:=fun k hk e=>by
  have h1:=own_ge hr e
  have h2:=hF k hk
  omega
 have h0:∀k,F k→v.ownBlock≠some k:=fun k hk e=>by
  have h1:=own_ge h.own e
  have h2:=hF k hk
  omega
 have hl:=h.len
 refine⟨hr,by simp[hl],fun i hi hi'=>?_⟩
 rcases jB i rows.length with hx'|hx'
 ·rw[jx hx',jx (by omega)]
  exact((((h.rd i hx' (by omega)).ext he).fr (grown_fr hg) (fun k hk e=>h0 k hk.1 e))).mono (by decide) (fun k _ hk=>⟨hk.1,h9 k hk.1⟩)
 ·have e:i=rows.length:=by simp at hi;omega
  subst e
  rw[jw (jq _),jw (by omega)]
  simp only[hl,zC,ja]
  exact(hx.fr (grown_fr hg) (fun k hk e=>h0 k hk e)).mono (by decide) (fun k _ hk=>⟨hk,h9 k hk⟩)
theorem OwR.nil(F:Nat→Prop)(w:World)(base:Nat):OwR F w base (.slice none 0 0) 0 [] []:=⟨World.ownsRow_nil _ _ _ _,rfl,fun i h=>by simp at h⟩
abbrev zv:Vl:=⟨0,0,⟨#[]⟩⟩
end Go.Proofs.YtplldnnnhgnbjaaGreatDoor
namespace Go.Proofs.YtplldnnnhgnbjaaGreatDoor
open Go.RowKit Go.Maps
structure Stp where
 rows:List (List Vl)
 key:List Nat
 bound:List Nat
 fresh:List Nat
 frm:List Nat
 bad:List Vl→Bool
def pickN(y:List Vl)(l:List Nat):List Vl:=l.map (fun i=>y.getD i zv)
def candsP(s:Stp)(y:List Vl):List (List Vl):=s.rows.filter (fun c=>decide (pickN c s.key=pickN y s.bound))
def setF(y:List Vl)(c:List Vl):List (Nat×Nat)→List Vl
 | []=>y
 | p::l=>setF (y.set p.1 (c.getD p.2 zv)) c l
def candL(s:Stp)(f:List Vl→List (List Vl)×List Vl):List (List Vl)→List (List Vl)×List Vl→List (List Vl)×List Vl
 | [],acc=>acc
 | c::l,acc=>candL s f l (if s.bad (setF acc.2 c (s.fresh.zip s.frm))=true then (acc.1,setF acc.2 c (s.fresh.zip s.frm)) else (acc.1++(f (setF acc.2 c (s.fresh.zip s.frm))).1,(f (setF acc.2 c (s.fresh.zip s.frm))).2))
def visS:List Stp→List Vl→List (List Vl)×List Vl
 | [],y=>([y],y)
 | s::rest,y=>candL s (visS rest) (candsP s y) ([],y)
def agr(B:List Nat)(y z:List Vl):Prop:=∀i∈B,y.getD i zv=z.getD i zv
theorem agr.refl(B:List Nat)(y:List Vl):agr B y y:=fun _ _=>rfl
theorem agr.trans{B:List Nat}{x y z:List Vl}(h:agr B x y)(k:agr B y z):agr B x z:=fun i hi=>(h i hi).trans (k i hi)
theorem agr.sub{B C:List Nat}{x y:List Vl}(h:agr B x y)(hs:∀i∈C,i∈B):agr C x y:=fun i hi=>h i (hs i hi)
theorem setF_len(c:List Vl):∀(l:List (Nat×Nat)) (y:List Vl),(setF y c l).length=y.length
 | [],y=>rfl
 | p::l,y=>by rw[setF,setF_len c l,zc]
theorem getD_set(y:List Vl)(i j:Nat)(v:Vl)(hj:j<y.length):(y.set i v).getD j zv=if i=j then v else y.getD j zv:=by
 rw[jF,jF,List.getElem?_set]
 by_cases h:i=j
 ·subst h
  rw[if_pos rfl,if_pos hj,if_pos rfl]
  rfl
 ·rw[if_neg h,if_neg h]
theorem setF_out(c:List Vl):∀(l:List (Nat×Nat)) (y:List Vl) (j:Nat),j<y.length→(∀p∈l,p.1≠j)→(setF y c l).getD j zv=y.getD j zv
 | [],y,j,_,_=>rfl
 | p::l,y,j,hj,h=>by
  rw[setF,setF_out c l _ j (by rw[zc];exact hj) (fun q hq=>h q (jr _ hq)),getD_set _ _ _ _ hj,if_neg (h p (by simp))]
theorem setF_at(c:List Vl):∀(l:List (Nat×Nat)) (y:List Vl) (p:Nat×Nat),p∈l→p.1<y.length→(l.map Prod.fst).Nodup→(setF y c l).getD p.1 zv=c.getD p.2 zv
 | [],_,p,hp,_,_=>by simp at hp
 | q::l,y,p,hp,hl,hn=>by
  rw[zf,zM]at hn
  rw[setF]
  rcases jC.1 hp with rfl|hp
  ·rw[setF_out c l _ _ (by rw[zc];exact hl) (fun r hr e=>hn.1 (jE.2 ⟨r,hr,e⟩)),getD_set _ _ _ _ hl,if_pos rfl]
  ·exact setF_at c l _ p hp (by rw[zc];exact hl) hn.2
theorem zip_fst:∀(l m:List Nat),l.length=m.length→(l.zip m).map Prod.fst=l
 | [],[],_=>rfl
 | a::l,b::m,h=>by rw[List.zip_cons_cons,zf,zip_fst l m (by simpa using h)]
 | [],b::m,h=>by simp at h
 | a::l,[],h=>by simp at h
structure StOk(n:Nat)(B:List Nat)(s:Stp):Prop where
 len:s.fresh.length=s.frm.length
 nd:s.fresh.Nodup
 new:∀i∈s.fresh,i ∉ B∧i<n
 bd:∀i∈s.bound,i∈B
 rows:s.rows.Nodup
 det:∀c∈s.rows,∀d∈s.rows,pickN c s.key=pickN d s.key→pickN c s.frm=pickN d s.frm→c=d
 bad:∀y z,agr (B++s.fresh) y z→s.bad y=s.bad z
def stSat(s:Stp)(z:List Vl):Prop:=(∃c∈s.rows,pickN c s.key=pickN z s.bound∧pickN z s.fresh=pickN c s.frm)∧s.bad z=false
theorem pickN_agr{B l:List Nat}{y z:List Vl}(h:agr B y z)(hl:∀i∈l,i∈B):pickN y l=pickN z l:=jU (fun i hi=>h i (hl i hi))
theorem setF_fresh{n:Nat}{B:List Nat}{s:Stp}(ho:StOk n B s){y c:List Vl}(hy:y.length=n):pickN (setF y c (s.fresh.zip s.frm)) s.fresh=pickN c s.frm:=by
 refine jY (by simp[pickN,ho.len]) (fun k h1 h2=>?_)
 have hk:k<s.fresh.length:=by simpa [pickN] using h1
 have hk2:k<s.frm.length:=by rw[←ho.len];exact hk
 simp only[pickN,jy]
 have hm:(s.fresh[k],s.frm[k])∈s.fresh.zip s.frm:=by
  have:=jg (l:=s.fresh.zip s.frm) (n:=k) (by rw[zr];omega)
  rwa [zA]at this
 exact setF_at c _ y (s.fresh[k],s.frm[k]) hm (by rw[hy];exact(ho.new _ (jg hk)).2) (by rw[zip_fst _ _ ho.len];exact ho.nd)
theorem setF_keep{n:Nat}{B:List Nat}{s:Stp}(ho:StOk n B s){y c:List Vl}(hy:y.length=n)(hB:∀i∈B,i<n):agr B (setF y c (s.fresh.zip s.frm)) y:=fun i hi=>by
 refine setF_out c _ y i (by rw[hy];exact hB i hi) (fun p hp e=>?_)
 have h1:=(List.of_mem_zip hp).1
 rw[e]at h1
 exact(ho.new i h1).1 hi
def StsOk(n:Nat):List Nat→List Stp→Prop
 | B,[]=>∀i,i<n→i∈B
 | B,s::l=>StOk n B s∧StsOk n (B++s.fresh) l
theorem visS_all{n:Nat}:∀(l:List Stp) (B:List Nat) (y:List Vl),StsOk n B l→(∀i∈B,i<n)→y.length=n →
  ((visS l y).2.length=n∧agr B (visS l y).2 y)∧(visS l y).1.Nodup∧∀z,z∈(visS l y).1↔z.length=n∧agr B z y∧∀s∈l,stSat s z
 | [],B,y,ho,_,hy=>by
  refine⟨⟨hy,agr.refl _ _⟩,by simp[visS],fun z=>?_⟩
  simp only[visS,jt,zz,false_imp_iff,implies_true,and_true]
  constructor
  ·rintro rfl
   exact⟨hy,agr.refl _ _⟩
  ·rintro⟨h1,h2⟩
   refine jY (by omega) (fun k hk hk'=>?_)
   have h3:=h2 k (ho k (by omega))
   rw[jF,jk hk,jF,jk hk']at h3
   exact h3
 | s::l,B,y,ho,hB,hy=>by
  obtain⟨hs,hl⟩:=ho
  have hB2:∀i∈B++s.fresh,i<n:=fun i hi=>by
   rcases jp.1 hi with h|h
   ·exact hB i h
   ·exact(hs.new i h).2
  have ih:=fun (x:List Vl) (hx:x.length=n)=>visS_all l (B++s.fresh) x hl hB2 hx
  -- the loop over candidates
  have key:∀(cs:List (List Vl)) (acc:List (List Vl)×List Vl),cs.Nodup→(∀c∈cs,c∈s.rows∧pickN c s.key=pickN y s.bound)→acc.2.length=n→agr B acc.2 y→acc.1.Nodup→(∀z∈acc.1,∀c∈cs,pickN z s.fresh≠pickN c s.frm) →
    ((candL s (visS l) cs acc).2.length=n∧agr B (candL s (visS l) cs acc).2 y)∧(candL s (visS l) cs acc).1.Nodup∧∀z,z∈(candL s (visS l) cs acc).1↔z∈acc.1∨∃c∈cs,z.length=n∧agr B z y∧pickN z s.fresh=pickN c s.frm∧s.bad z=false∧∀t∈l,stSat t z:=by
   intro cs
   induction cs with
   | nil =>
    intro acc _ _ h1 h2 h3 _
    exact⟨⟨h1,h2⟩,h3,fun z=>by simp[candL]⟩
   | cons c cs ihc =>
    intro acc hn hc h1 h2 h3 h4
    rw[zM]at hn
    obtain⟨hc1,hc2⟩:=hc c (by simp)
    have hset:(setF acc.2 c (s.fresh.zip s.frm)).length=n:=by rw[setF_len];exact h1
    have hkeep:agr B (setF acc.2 c (s.fresh.zip s.frm)) y:=(setF_keep hs h1 hB).trans h2
    have hfr:=setF_fresh hs (y:=acc.2) (c:=c) h1
    have hdist:∀d∈cs,pickN c s.frm≠pickN d s.frm:=fun d hd e=>by
     obtain⟨hd1,hd2⟩:=hc d (jr _ hd)
     exact hn.1 (by rw[hs.det c hc1 d hd1 (hc2.trans hd2.symm) e];exact hd)
    have hone:∀z,(z.length=n∧agr (B++s.fresh) z (setF acc.2 c (s.fresh.zip s.frm)))↔(z.length=n∧agr B z y∧pickN z s.fresh=pickN c s.frm):=fun z=>by
     constructor
     ·rintro⟨k1,k2⟩
      exact⟨k1,(k2.sub (fun i hi=>jJ _ hi)).trans hkeep,by rw[pickN_agr k2 (fun i hi=>jR _ hi),hfr]⟩
     ·rintro⟨k1,k2,k3⟩
      refine⟨k1,fun i hi=>?_⟩
      rcases jp.1 hi with h|h
      ·exact(k2 i h).trans (hkeep i h).symm
      ·rw[←hfr]at k3
       unfold pickN at k3
       exact List.map_inj_left.1 k3 i h
    rw[candL]
    by_cases hb:s.bad (setF acc.2 c (s.fresh.zip s.frm))=true
    ·rw[if_pos hb]
     obtain⟨i1,i2,i3⟩:=ihc (acc.1,setF acc.2 c (s.fresh.zip s.frm)) hn.2 (fun d hd=>hc d (jr _ hd)) hset hkeep h3 (fun z hz d hd=>h4 z hz d (jr _ hd))
     refine⟨i1,i2,fun z=>?_⟩
     rw[i3 z]
     constructor
     ·rintro(h|⟨d,hd,h⟩)
      ·exact .inl h
      ·exact .inr ⟨d,jr _ hd,h⟩
     ·rintro(h|⟨d,hd,k1,k2,k3,k4,k5⟩)
      ·exact .inl h
      ·rcases jC.1 hd with rfl|hd
       ·have h6:=(hone z).2 ⟨k1,k2,k3⟩
        rw[hs.bad _ _ h6.2,hb]at k4
        cases k4
       ·exact .inr ⟨d,hd,k1,k2,k3,k4,k5⟩
    ·rw[if_neg hb]
     obtain⟨⟨j1,j2⟩,j3,j4⟩:=ih _ hset
     have hnew:∀z∈(visS l (setF acc.2 c (s.fresh.zip s.frm))).1,pickN z s.fresh=pickN c s.frm:=fun z hz=>by
      obtain⟨k1,k2,-⟩:=(j4 z).1 hz
      exact((hone z).1 ⟨k1,k2⟩).2.2
     obtain⟨i1,i2,i3⟩:=ihc (acc.1++(visS l (setF acc.2 c (s.fresh.zip s.frm))).1,(visS l (setF acc.2 c (s.fresh.zip s.frm))).2) hn.2 (fun d hd=>hc d (jr _ hd)) j1 ((j2.sub (fun i hi=>jJ _ hi)).trans hkeep)
      (by
       rw[List.nodup_append]
       refine⟨h3,j3,fun a ha b hb2 e=>?_⟩
       subst e
       exact h4 a ha c (by simp) (hnew a hb2))
      (fun z hz d hd=>by
       rcases jp.1 hz with h|h
       ·exact h4 z h d (jr _ hd)
       ·rw[hnew z h]
        exact hdist d hd)
     refine⟨i1,i2,fun z=>?_⟩
     rw[i3 z,jp,j4 z]
     have hbz:agr (B++s.fresh) z (setF acc.2 c (s.fresh.zip s.frm))→s.bad z=false:=fun h=>by
      rw[hs.bad _ _ h]
      simpa using hb
     constructor
     ·rintro((h|⟨k1,k2,k3⟩)|⟨d,hd,h⟩)
      ·exact .inl h
      ·have h6:=(hone z).1 ⟨k1,k2⟩
       exact .inr ⟨c,by simp,h6.1,h6.2.1,h6.2.2,hbz k2,k3⟩
      ·exact .inr ⟨d,jr _ hd,h⟩
     ·rintro(h|⟨d,hd,k1,k2,k3,k4,k5⟩)
      ·exact .inl (.inl h)
      ·rcases jC.1 hd with rfl|hd
       ·have h6:=(hone z).2 ⟨k1,k2,k3⟩
        exact .inl (.inr ⟨h6.1,h6.2,k5⟩)
       ·exact .inr ⟨d,hd,k1,k2,k3,k4,k5⟩
  obtain⟨i1,i2,i3⟩:=key (candsP s y) ([],y) (hs.rows.sublist List.filter_sublist) (fun c hc=>by
   obtain⟨k1,k2⟩:=jA.1 hc
   exact⟨k1,of_decide_eq_true k2⟩) hy (agr.refl _ _) List.nodup_nil (fun z hz=>by simp at hz)
  refine⟨i1,i2,fun z=>?_⟩
  rw[show visS (s::l) y=candL s (visS l) (candsP s y) ([],y) from rfl,i3 z]
  simp only[zz,false_or,List.forall_mem_cons]
  constructor
  ·rintro⟨c,hc,k1,k2,k3,k4,k5⟩
   obtain⟨m1,m2⟩:=jA.1 hc
   refine⟨k1,k2,⟨⟨c,m1,?_,k3⟩,k4⟩,k5⟩
   rw[of_decide_eq_true m2]
   exact(pickN_agr k2 hs.bd).symm
  ·rintro⟨k1,k2,⟨⟨c,m1,m2,m3⟩,k4⟩,k5⟩
   refine⟨c,jA.2 ⟨m1,decide_eq_true ?_⟩,k1,k2,m3,k4,k5⟩
   rw[m2]
   exact pickN_agr k2 hs.bd
end Go.Proofs.YtplldnnnhgnbjaaGreatDoor
namespace Go.Proofs.YtplldnnnhgnbjaaGreatDoor
open Go.RowKit Go.Maps
def holdI(op c:Int):Bool:=if op=0 then c == 0 else if op=1 then c != 0 else if op=2 then decide (c<0) else if op=3 then decide (c≤0) else if op=4 then decide (0<c) else decide (0≤c)
def okV(a:Vl):Bool:=valB a.kind a.int a.str
def HoldsPost(a:Vl)(op:Int)(b:Vl)(w:World)(e:Ending)(w':World):Prop :=
 Ext w w'∧((0≤op∧op≤5∧okV a=true∧okV b=true∧e=.returned (.tuple #[.bool (holdI op (cmpV a b)),.int .i64 0]))∨(∃c,c≠0∧(op<0∨5<op∨okV a=false∨okV b=false)∧e=.returned (.tuple #[.bool false,.int .i64 c])))
abbrev vagg (a:Vl):Value:=.agg #[.int .i64 a.kind,.int .i64 a.int,.string a.str]
set_option maxRecDepth 20000 in
set_option maxHeartbeats 3200000 in
theorem holds_any{w:World}{a b:Vl}{op:Int}(ha:a.str.size≤maxLen)(hb:b.str.size≤maxLen) :
  Calls Tryz.prog 270 #[vagg a,.int .i64 op,vagg b] w (HoldsPost a op b w):=by
 have HV:=zO (fun (V:World)=>vcomp_any a b V)
 have HA:=zO (fun (V:World)=>vvalid_any a.kind a.int a.str V ha)
 have HB:=zO (fun (V:World)=>vvalid_any b.kind b.int b.str V hb)
 obtain⟨z,hz⟩:∃z,z=cmpV a b:=⟨_,rfl⟩
 obtain⟨oa,hoa⟩:∃z,z=okV a:=⟨_,rfl⟩
 obtain⟨ob,hob⟩:∃z,z=okV b:=⟨_,rfl⟩
 have hoa':oa=valB a.kind a.int a.str:=hoa
 have hob':ob=valB b.kind b.int b.str:=hob
 have HQ:=zO (fun (V:World) (e:Ending) (h:Ext w V∧((0≤op∧op≤5∧oa=true∧ob=true∧e=.returned (.tuple #[.bool (holdI op z),.int .i64 0]))∨(∃c,c≠0∧(op<0∨5<op∨oa=false∨ob=false)∧e=.returned (.tuple #[.bool false,.int .i64 c]))))=>(show HoldsPost a op b w e V by
  unfold HoldsPost
  rw[←hz,←hoa,←hob]
  exact h))
 rw[←hz]at HV
 rw[←hoa']at HA
 rw[←hob']at HB
 clear hz hoa hob hoa' hob' ha hb
 obtain⟨ak,ai,as'⟩:=a
 obtain⟨bk,bi,bs⟩:=b
 unfold vagg
 simp only at HV HA HB ⊢
 have k2:=two_blk w 51 51 [.int .i64 ak,.int .i64 ai,.string as'] [.int .i64 bk,.int .i64 bi,.string bs]
 have hx:Ext w ((w.alloc (.cells #[.int .i64 ak,.int .i64 ai,.string as'] 51)).alloc (.cells #[.int .i64 bk,.int .i64 bi,.string bs] 51)):=((Ext.refl w).alloc _).alloc _
 go_enter Tryz.func270,Tryz.ntmps270
 go_upto_region 1 with fail
 change Bk ((w.alloc (.cells #[.int .i64 ak,.int .i64 ai,.string as'] 51)).alloc (.cells #[.int .i64 bk,.int .i64 bi,.string bs] 51)) _ _ _∧Bk ((w.alloc (.cells #[.int .i64 ak,.int .i64 ai,.string as'] 51)).alloc (.cells #[.int .i64 bk,.int .i64 bi,.string bs] 51)) _ _ _ at k2
 generalize ((w.alloc (.cells #[.int .i64 ak,.int .i64 ai,.string as'] 51)).alloc (.cells #[.int .i64 bk,.int .i64 bi,.string bs] 51))=w1 at *
 obtain⟨ka,kb⟩:=k2
 have a0:=ka.cell (i:=0) (by simp);have a1:=ka.cell (i:=1) (by simp);have a2:=ka.cell (i:=2) (by simp)
 have b0:=kb.cell (i:=0) (by simp);have b1:=kb.cell (i:=1) (by simp);have b2:=kb.cell (i:=2) (by simp)
 simp only[ja,je]at a0 a1 a2 b0 b1 b2
 have HX:=zO hx
 clear ka kb hx
 by_cases h0:op<0
 ·clear a0 a1 a2 b0 b1 b2
  go_wp2_with fail
  go_ret2
  exact HQ.out _ _ ⟨HX.out,.inr ⟨2,by decide,.inl h0,rfl⟩⟩
 by_cases h5 : 5<op
 ·clear a0 a1 a2 b0 b1 b2
  go_wp2_with fail
  go_ret2
  exact HQ.out _ _ ⟨HX.out,.inr ⟨2,by decide,.inr (.inl h5),rfl⟩⟩
 go_wp2_with fail
 refine(HA.out _).mono ?_
 rintro e w2 ⟨y,rfl,he2,rfl⟩
 replace a0:=he2.cell a0;replace a1:=he2.cell a1;replace a2:=he2.cell a2;replace b0:=he2.cell b0;replace b1:=he2.cell b1;replace b2:=he2.cell b2
 have HX2:=zO (HX.out.trans he2)
 clear he2
 rcases oa with _|_
 ·clear a0 a1 a2 b0 b1 b2
  go_wp2_with fail
  go_ret2
  exact HQ.out _ _ ⟨HX2.out,.inr ⟨4,by decide,.inr (.inr (.inl (by trivial))),rfl⟩⟩
 go_wp2_with fail
 refine(HB.out _).mono ?_
 rintro e w3 ⟨y,rfl,he3,rfl⟩
 replace a0:=he3.cell a0;replace a1:=he3.cell a1;replace a2:=he3.cell a2;replace b0:=he3.cell b0;replace b1:=he3.cell b1;replace b2:=he3.cell b2
 have HX3:=zO (HX2.out.trans he3)
 clear he3
 rcases ob with _|_
 ·clear a0 a1 a2 b0 b1 b2
  go_wp2_with fail
  go_ret2
  exact HQ.out _ _ ⟨HX3.out,.inr ⟨4,by decide,.inr (.inr (.inr (by trivial))),rfl⟩⟩
 go_wp2_with fail
 refine(HV.out _).mono ?_
 rintro e w4 ⟨rfl,hg⟩
 have HX4:=zO (HX3.out.trans hg.ext)
 clear hg a0 a1 a2 b0 b1 b2
 have hop:op=0∨op=1∨op=2∨op=3∨op=4∨op=5:=by omega
 clear h0 h5
 rcases hop with rfl|rfl|rfl|rfl|rfl|rfl
 all_goals
  go_wp2_with fail
  go_ret2
  exact HQ.out _ _ ⟨HX4.out,.inl ⟨by decide,by decide,by trivial,by trivial,rfl⟩⟩
end Go.Proofs.YtplldnnnhgnbjaaGreatDoor
