/- packed -/
import Derived.Test.YtplldnnnhgnbjaaGreatDoorMv15
import Derived.Test.YtplldnnnhgnbjaaGreatDoorMv17
import Derived.Test.YtplldnnnhgnbjaaGreatDoorMv16
set_option maxRecDepth 20000
set_option maxHeartbeats 3200000
namespace Go.Proofs.YtplldnnnhgnbjaaGreatDoor
open Go.RowKit Go.Maps
theorem iu(a b:List Vl):au (a++b)=au a++au b:=by unfold au;rw[zz]
def be(cols:List Int)(xs:List Vl):List Vl:=cols.map (fun c=>xs.getD c.toNat zv)
def qk(ys:List Vl)(w:World)(e:Ending)(w':World):Prop:=Ext w w'∧∃A c,e=.returned (.slice A ys.length c)∧Sl aM (fun k=>w.heap.size≤k) w' (.slice A ys.length c) ys
theorem ll{F G:Nat→Prop}{w:World}{B C:Option Addr}{m d n c:Nat}{xs:List Vl}{cols:List Int}(hB:Sl aM F w (.slice B m d) xs)(hC:Ins G w (.slice C n c) cols)(hc:∀x∈cols,0≤x∧x<(m:Int))(hn:n≤1048576) :
  Calls Tryz.prog 51 #[.slice B m d,.slice C n c] w (qk (be cols xs) w):=by
 have sM:=hB.cap.1
 obtain⟨C',c',e,-,sJ⟩:=hC
 injection e with e1 e2 e3
 subst e1
 have HB:=zN hB;have sV:=zN sM;have sS:=zN sJ;have HN:=zN e2;have HC:=zN hc
 obtain⟨i0,sL,sP,sQ,sR⟩:=info_parts ic
 obtain⟨w2,sD,su,sh⟩:=run_make_full (P:=Tryz.prog) w w.heap.size 74 51 i0 (.agg #[.int .i64 0,.int .i64 0,.string ⟨#[]⟩]) 3 Tryz.underlying74 sL sP sQ .i64 .i64 n (by rw[sR];omega) (by simp only[maxLen];omega) (jo _)
 have se:=zN su;have sF:=zN sh
 clear hB sM sJ e2 e3 hc sL sP sQ sR su sh
 go_enter Tryz.func51,Tryz.ntmps51
 go_upto_region 2 with fail
 clear sD
 obtain⟨g,hg⟩:=sd w.heap.size
 have te:w.heap.size≤g:=by omega
 have td:g<w2.heap.size:=by
  rcases se.out.2 with ⟨h0,-⟩|⟨g',ta,sp,e,hb,hc,-⟩
  ·cases h0
  ·injection e with e1
   injection e1 with e1
   injection e1 with e1
   have:=(jR.1 hc).1
   omega
 rw[←hg]at se
 have sI:Ext w w2:=(Ext.refl w).grown sF.out (fun k hk=>by cases hk)
 have sY:=zN sI
 have sT:Hid (au (be (cols.take 0) xs)=[]):=zN (by simp[be,au])
 have sg:Hid (w2.ownsRow g 51 3 (.slice (some ⟨g,0,none⟩) n n) n (madeCells (Value.cells (.agg #[.int .i64 0,.int .i64 0,.string ⟨#[]⟩])) (n*3)).toList):=se
 rw[←hg]
 clear sI se sF hg
 generalize (madeCells (Value.cells (.agg #[.int .i64 0,.int .i64 0,.string ⟨#[]⟩])) (n*3)).toList=cur0 at sg
 go_wp2_with fail
 go_loopw [13] (fun t wr=>∃(j:Nat) (sp:List Value),j≤n∧t=.int .i64 (j:Int)∧Hid (wr.ownsRow g 51 3 (.slice (some ⟨g,0,none⟩) n n) n sp)∧Hid (sp.take (j*3)=au (be (cols.take j) xs))∧Fr (fun b=>b=g) w2 wr) (fun t _=>n-(intOf t).toNat)
 case atStart=>exact⟨0,cur0,jn _,rfl,sg,zN (by rw[sT.out];simp),Fr.refl _ _⟩
 case round =>
  obtain⟨j,sp,hj,rfl,si,sH,sq⟩:=hrel
  obtain⟨W,rfl⟩:∃W:World,W=wr:=⟨_,rfl⟩
  have HF:=zN sq
  have sj:Ext w W:=sq.new sY.out (fun b hb=>by omega)
  have sZ:=zN sj
  by_cases hlt:j<n
  ·have i1:(0:Int)≤(j:Int):=by omega
   have i2:(j:Int)<(n:Int):=by omega
   have sw:j<cols.length:=by have:=HN.out;omega
   obtain⟨ad,rfl,-,c0⟩:=sS.out.int sw
   replace c0:=sj.cell c0
   have sr:=HC.out _ (jf sw)
   have sE:cols.take (j+1)=cols.take j++[cols[j]]:=jj sw
   obtain⟨x,hx⟩:=sd (cols[j])
   rw[←hx]at c0 sr sE
   obtain⟨q,rfl⟩:∃q:Nat,x=(q:Int):=⟨x.toNat,by have:=sr.1;omega⟩
   have sC:q<xs.length:=by have:=sV.out;have:=sr.2;omega
   have q1:(0:Int)≤(q:Int):=by omega
   have q2:(q:Int)<(m:Int):=sr.2
   obtain⟨bd,rfl,-,b0,b1,b2⟩:=HB.out.vl sC
   replace b0:=sj.cell b0;replace b1:=sj.cell b1;replace b2:=sj.cell b2
   have sB:xs.getD q zv=xs[q]:=by simp[jl sC]
   obtain⟨v,hv⟩:=sd (xs[q])
   rw[←hv]at b0 b1 b2 sB
   obtain⟨vk,vi,vs⟩:=v
   simp only at b0 b1 b2
   have sX:Hid (au (be (cols.take (j+1)) xs)=au (be (cols.take j) xs)++[.int .i64 vk,.int .i64 vi,.string vs]):=zN (by
    rw[sE]
    unfold be
    rw[jH,iu]
    simp only[jU,List.map_nil,jL,sB]
    rfl)
   obtain⟨⟨o0,p0⟩,f0⟩:=bt si.out (i:=j*3) (by omega)
   obtain⟨⟨o1,p1⟩,f1⟩:=bt si.out (i:=j*3+1) (by omega)
   obtain⟨⟨o2,p2⟩,f2⟩:=bt si.out (i:=j*3+2) (by omega)
   have tf:g<W.heap.size:=by have:=sq.size;omega
   have sN:=bZ si.out (i:=j*3) (by omega) (.int .i64 vk)
   have ho2:=bZ sN (i:=j*3+1) (by omega) (.int .i64 vi)
   have sO:=bZ ho2 (i:=j*3+2) (by omega) (.string vs)
   have sK:=((sq.setCell (p:=⟨g,j*3,none⟩) (.inl rfl) (.int .i64 vk)).setCell (p:=⟨g,j*3+1,none⟩) (.inl rfl) (.int .i64 vi)).setCell (p:=⟨g,j*3+2,none⟩) (.inl rfl) (.string vs)
   have sW:=zN sO;have sU:=zN sK
   have sx:Hid (sp.length=n*3):=zN si.out.1
   have sA:Hid ((((sp.set (j*3) (.int .i64 vk)).set (j*3+1) (.int .i64 vi)).set (j*3+2) (.string vs)).take ((j+1)*3)=au (be (cols.take (j+1)) xs)):=zN (by
    rw[sX.out,←sH.out]
    apply List.ext_getElem?
    intro q
    have hl:=sx.out
    rcases jz q ((j+1)*3) with h1|h1
    ·rw[zn h1]
     rcases jz q (j*3) with h2|h2
     ·rw[zi (by rw[jt];omega),zn h2,jJ (by omega),jJ (by omega),jJ (by omega)]
     ·rw[zg (by rw[jt];omega),jt,Nat.min_eq_left (by omega)]
      rcases(show q=j*3∨q=j*3+1∨q=j*3+2 by omega) with rfl|rfl|rfl
      ·rw[jJ (by omega),jJ (by omega),zl (by omega),zm]
       rfl
      ·rw[jJ (by omega),zl (by rw[zc];omega),show j*3+1-j*3=1 by omega]
       rfl
      ·rw[zl (by rw[zc,zc];omega),show j*3+2-j*3=2 by omega]
       rfl
    ·rw[List.getElem?_take_eq_none h1,zo]
     rw[jm,jt]
     simp only[jD,jQ]
     omega)
   clear hx sr sE sw sC sB hv sq sj sN ho2 sO sK
   go_wp2_with fail
   go_roundw
   case rel=>exact⟨j+1,_,by omega,by go_num,sW,sA,sU.out⟩
   case measure=>simp[intOf];omega
  ·obtain rfl:j=n:=by omega
   have tc:¬(j:Int)<(j:Int):=by omega
   have sy:Hid (Sl aM (fun k=>w.heap.size≤k) W (.slice (some ⟨g,0,none⟩) j j) (be cols xs)):=zN (by
    have h1:=sH.out
    rw[jp (by have:=si.out.1;omega),jp (by have:=HN.out;omega)]at h1
    have h2:=si.out
    rw[h1]at h2
    exact(mM h2).mono (by decide) (fun k _ hk=>by omega))
   have sG:Hid (j=(be cols xs).length):=zN (by unfold be;rw[jk];exact HN.out)
   have HQ:Hid (qk (be cols xs) w (.returned (.slice (some ⟨g,0,none⟩) j j)) W):=zN ⟨sZ.out,_,j,by rw[←sG.out],by rw[←sG.out];exact sy.out⟩
   clear sq sj
   go_wp2_with fail
   go_ret
   exact HQ.out
end Go.Proofs.YtplldnnnhgnbjaaGreatDoor
namespace Go.Proofs.YtplldnnnhgnbjaaGreatDoor
open Go.RowKit Go.Maps
def fj(cols:List Int)(cs xs:List Vl):List Vl:=List.zipWith (fun c v=>if 0≤c then xs.getD c.toNat zv else v) cols cs
theorem pu{se X:List Value}{i j:Nat}(hl:se.length=i*3)(hj:j<i)(ht:se.take (j*3)=X)(a b c:Value):(((se.set (j*3) a).set (j*3+1) b).set (j*3+2) c).take ((j+1)*3)=X++[a,b,c]:=by
 rw[←ht]
 apply List.ext_getElem?
 intro q
 rcases jz q ((j+1)*3) with h1|h1
 ·rw[zn h1]
  rcases jz q (j*3) with h2|h2
  ·rw[zi (by rw[jt];omega),zn h2,jJ (by omega),jJ (by omega),jJ (by omega)]
  ·rw[zg (by rw[jt];omega),jt,Nat.min_eq_left (by omega)]
   rcases(show q=j*3∨q=j*3+1∨q=j*3+2 by omega) with rfl|rfl|rfl
   ·rw[jJ (by omega),jJ (by omega),zl (by omega),zm]
    rfl
   ·rw[jJ (by omega),zl (by rw[zc];omega),show j*3+1-j*3=1 by omega]
    rfl
   ·rw[zl (by rw[zc,zc];omega),show j*3+2-j*3=2 by omega]
    rfl
 ·rw[List.getElem?_take_eq_none h1,zo]
  rw[jm,jt]
  simp only[jD,jQ]
  omega
theorem iq{se X:List Value}{k j:Nat}(ht:se.take k=X)(h:k≤j)(a:Value):(se.set j a).take k=X:=by
 rw[←ht,List.take_set_of_le h]
theorem pR{F G H J:Nat→Prop}{w:World}{R C K B:Option Addr}{nr cr n c e d m:Nat}{a:Int}{rows:List (List Vl)}{cols:List Int}{cs xs:List Vl}(hS:SoR rows)(hR:Sl aG F w (.slice R nr cr) rows)(hC:Ins G w (.slice C n c) cols)(hK:Sl aM H w (.slice K n e) cs)(hB:Sl aM J w (.slice B m d) xs)(hb:∀x∈cols,x<(m:Int))(hn:n≤1048576)(hm:m≤1048576)(hr:∀x∈rows,x.length≤1048576)(tD:nr≤1048576) :
  Calls Tryz.prog 116 #[.agg #[.int .i64 a,.slice R nr cr,.slice C n c,.slice K n e],.slice B m d] w (Ret (fun y _=>y=.bool (da rows (fj cols cs xs))) w):=by
 have sZ:=hB.cap.1;have sY:=hK.cap.1
 obtain⟨C',c',e',-,sq⟩:=hC
 injection e' with e1 e2 e3
 subst e1
 have HB:=zN hB;have tj:=zN sZ;have tf:=zN sq;have HN:=zN e2;have te:=zN hb;have HK:=zN hK;have sQ:=zN sY
 have kb:=Bk.new w 220 [.int .i64 a,.slice R nr cr,.slice C n c,.slice K n e]
 change Bk (w.alloc (.cells #[.int .i64 a,.slice R nr cr,.slice C n c,.slice K n e] 220)) _ _ _ at kb
 have hx:Ext w (w.alloc (.cells #[.int .i64 a,.slice R nr cr,.slice C n c,.slice K n e] 220)):=(Ext.refl w).alloc _
 have tp:=zN (fun (V:World) (hV:Ext w V) (P:Option Addr) (k:Nat) (Q:Nat→Prop) (l:List Vl) (hl:Sl aM Q V (.slice P n k) l)=>dP (a:=a) hS (hR.ext hV) hl hn hr tD)
 obtain⟨i0,sW,ta,tc,td⟩:=info_parts ic
 obtain⟨z,hz⟩:=sd (da rows (fj cols cs xs))
 rw[←hz]
 have HZ:=zN hz
 clear hz hB sZ sq e2 e3 hb hK sY hS hR hr
 go_enter Tryz.func116,Tryz.ntmps116
 go_upto_region 1 with fail
 generalize (w.alloc (.cells #[.int .i64 a,.slice R nr cr,.slice C n c,.slice K n e] 220))=w1 at *
 obtain⟨w2,sO,sy,sj⟩:=run_make_full (P:=Tryz.prog) w1 w1.heap.size 74 51 i0 (.agg #[.int .i64 0,.int .i64 0,.string ⟨#[]⟩]) 3 Tryz.underlying74 sW ta tc .i64 .i64 n (by rw[td];omega) (by simp only[maxLen];omega) (jo _)
 have sg:=zN sy;have sP:=zN sj
 have tE:=kb.lt
 have k2:=kb.c2
 have HX:=zN hx;have th:=zN kb
 have tI:=hx.size
 clear sW ta tc td sy sj kb hx
 go_upto_region 2 with fail
 obtain⟨g,hg⟩:=sd w1.heap.size
 have tG:g<w2.heap.size:=by
  rcases sg.out.2 with ⟨h0,-⟩|⟨g',tB,si,e,hb,hc,-⟩
  ·cases h0
  ·injection e with e1
   injection e1 with e1
   injection e1 with e1
   have:=(jR.1 hc).1
   omega
 rw[←hg]at sg
 have sB:Ext w1 w2:=(Ext.refl w1).grown sP.out (fun k hk=>by cases hk)
 have tw:=zN (HX.out.trans sB);have sG:=zN (th.out.ext sB)
 have sh:Hid (w2.ownsRow g 51 3 (.slice (some ⟨g,0,none⟩) n n) n (madeCells (Value.cells (.agg #[.int .i64 0,.int .i64 0,.string ⟨#[]⟩])) (n*3)).toList):=sg
 rw[←hg]
 have tH:w.heap.size<g:=by omega
 replace k2:=sB.cell k2
 clear sB sg sP hg sO
 generalize (madeCells (Value.cells (.agg #[.int .i64 0,.int .i64 0,.string ⟨#[]⟩])) (n*3)).toList=cur0 at sh
 go_wp2_with fail
 clear k2
 go_loopw [17] (fun t wr=>∃(j:Nat) (si:List Value),j≤n∧t=.int .i64 (j:Int)∧Hid (wr.ownsRow g 51 3 (.slice (some ⟨g,0,none⟩) n n) n si)∧Hid (si.take (j*3)=au ((fj cols cs xs).take j))∧Hid (Fr (fun b=>b=g) w2 wr)) (fun t _=>n-(intOf t).toNat)
 case atStart=>exact⟨0,cur0,jn _,rfl,sh,zN (by simp[au]),zN (Fr.refl _ _)⟩
 case round =>
  obtain⟨j,si,hj,rfl,sp,sK,sA⟩:=hrel
  obtain⟨W,rfl⟩:∃W:World,W=wr:=⟨_,rfl⟩
  have se:Ext w W:=sA.out.new tw.out (fun b hb=>by omega)
  have tA:=zN se
  have sH:=zN (sG.out.fr sA.out (by omega))
  by_cases hlt:j<n
  ·have i1:(0:Int)≤(j:Int):=by omega
   have i2:(j:Int)<(n:Int):=by omega
   have sM:j<cols.length:=by have:=HN.out;omega
   have sX:j<cs.length:=by have:=sQ.out;omega
   obtain⟨ad,rfl,-,c0⟩:=tf.out.int sM
   obtain⟨kd,rfl,-,v0,v1,v2⟩:=HK.out.vl sX
   replace c0:=se.cell c0;replace v0:=se.cell v0;replace v1:=se.cell v1;replace v2:=se.cell v2
   have sE:(fj cols cs xs).take (j+1)=(fj cols cs xs).take j++[if 0≤cols[j] then xs.getD cols[j].toNat zv else cs[j]]:=by
    rw[jj (by simp only[fj,List.length_zipWith];omega)]
    simp only[fj,List.getElem_zipWith]
   have sS:=te.out _ (jf sM)
   obtain⟨x,hx⟩:=sd (cols[j])
   obtain⟨v,hv⟩:=sd (cs[j])
   rw[←hx]at c0 sE sS
   rw[←hv]at v0 v1 v2 sE
   obtain⟨vk,vi,vs⟩:=v
   simp only at v0 v1 v2
   have k3:=sH.out.c3
   obtain⟨⟨o0,p0⟩,f0⟩:=bt sp.out (i:=j*3) (by omega)
   obtain⟨⟨o1,p1⟩,f1⟩:=bt sp.out (i:=j*3+1) (by omega)
   obtain⟨⟨o2,p2⟩,f2⟩:=bt sp.out (i:=j*3+2) (by omega)
   have sw:=bZ sp.out (i:=j*3) (by omega) (.int .i64 vk)
   have ho2:=bZ sw (i:=j*3+1) (by omega) (.int .i64 vi)
   have sx:=bZ ho2 (i:=j*3+2) (by omega) (.string vs)
   have sU:Fr (fun b=>b=g) W (((W.setCell ⟨g,j*3,none⟩ (.int .i64 vk)).setCell ⟨g,j*3+1,none⟩ (.int .i64 vi)).setCell ⟨g,j*3+2,none⟩ (.string vs)):=(((Fr.refl (fun b=>b=g) W).setCell (p:=⟨g,j*3,none⟩) (.inl rfl) (.int .i64 vk)).setCell (p:=⟨g,j*3+1,none⟩) (.inl rfl) (.int .i64 vi)).setCell (p:=⟨g,j*3+2,none⟩) (.inl rfl) (.string vs)
   have su:=zN sx;have sr:=zN sU
   have sq:si.length=n*3:=sp.out.1
   have tt:=zN (pu sq hlt sK.out (.int .i64 vk) (.int .i64 vi) (.string vs))
   have tu:Hid ((((si.set (j*3) (.int .i64 vk)).set (j*3+1) (.int .i64 vi)).set (j*3+2) (.string vs)).take (j*3)=au ((fj cols cs xs).take j)):=zN (iq (iq (iq sK.out (jo _) _) (by omega) _) (by omega) _)
   have sF:Hid ((((si.set (j*3) (.int .i64 vk)).set (j*3+1) (.int .i64 vi)).set (j*3+2) (.string vs)).length=n*3):=zN (by simp only[zc];exact sq)
   have sR:=zN sE
   clear hx hv sw ho2 sx sU sq sE sM sX
   generalize ((si.set (j*3) (.int .i64 vk)).set (j*3+1) (.int .i64 vi)).set (j*3+2) (.string vs)=cur3 at *
   go_upto_region 6 with fail
   clear c0 v0 v1 v2 k3 o0 p0 f0 o1 p1 f1 o2 p2 f2
   generalize (((W.setCell ⟨g,j*3,none⟩ (.int .i64 vk)).setCell ⟨g,j*3+1,none⟩ (.int .i64 vi)).setCell ⟨g,j*3+2,none⟩ (.string vs))=W3 at *
   by_cases hx0:x<0
   ·have g1:decide ((0:Int)≤x)=false:=decide_eq_false (by omega)
    have sJ:Hid (cur3.take ((j+1)*3)=au ((fj cols cs xs).take (j+1))):=zN (by
     rw[tt.out,sR.out,if_neg (by omega),iu];rfl)
    clear hx0 se
    go_wp2_with fail
    go_roundw
    case rel=>exact⟨j+1,cur3,by omega,by go_num,su,sJ,zN (sA.out.trans sr.out)⟩
    case measure=>simp[intOf];omega
   ·obtain⟨q,rfl⟩:∃q:Nat,x=(q:Int):=⟨x.toNat,by omega⟩
    have g1:decide ((0:Int)≤(q:Int))=true:=decide_eq_true (by omega)
    have q1:(0:Int)≤(q:Int):=by omega
    have q2:(q:Int)<(m:Int):=by omega
    have sN:q<xs.length:=by have:=tj.out;omega
    obtain⟨bd,rfl,-,b0,b1,b2⟩:=HB.out.vl sN
    have sC:(bd.add (q*3)).block≠g:=by
     have h1:(bd.add (q*3)).block<w.heap.size:=eh b0
     omega
    replace b0:=sr.out.cell (se.cell b0) sC;replace b1:=sr.out.cell (se.cell b1) sC;replace b2:=sr.out.cell (se.cell b2) sC
    have sL:xs.getD q zv=xs[q]:=by simp[jl sN]
    obtain⟨y,hy⟩:=sd (xs[q])
    rw[←hy]at b0 b1 b2 sL
    obtain⟨yk,yi,ys⟩:=y
    simp only at b0 b1 b2
    obtain⟨⟨o0,p0⟩,f0⟩:=bt su.out (i:=j*3) (by omega)
    obtain⟨⟨o1,p1⟩,f1⟩:=bt su.out (i:=j*3+1) (by omega)
    obtain⟨⟨o2,p2⟩,f2⟩:=bt su.out (i:=j*3+2) (by omega)
    have sw:=bZ su.out (i:=j*3) (by omega) (.int .i64 yk)
    have ho2:=bZ sw (i:=j*3+1) (by omega) (.int .i64 yi)
    have sx:=bZ ho2 (i:=j*3+2) (by omega) (.string ys)
    have sV:Fr (fun b=>b=g) W3 (((W3.setCell ⟨g,j*3,none⟩ (.int .i64 yk)).setCell ⟨g,j*3+1,none⟩ (.int .i64 yi)).setCell ⟨g,j*3+2,none⟩ (.string ys)):=(((Fr.refl (fun b=>b=g) W3).setCell (p:=⟨g,j*3,none⟩) (.inl rfl) (.int .i64 yk)).setCell (p:=⟨g,j*3+1,none⟩) (.inl rfl) (.int .i64 yi)).setCell (p:=⟨g,j*3+2,none⟩) (.inl rfl) (.string ys)
    have tn:=zN sx;have tg:=zN (sA.out.trans (sr.out.trans sV))
    have sJ:Hid ((((cur3.set (j*3) (.int .i64 yk)).set (j*3+1) (.int .i64 yi)).set (j*3+2) (.string ys)).take ((j+1)*3)=au ((fj cols cs xs).take (j+1))):=zN (by
     rw[pu sF.out hlt tu.out,sR.out,if_pos q1,iu,jL,sL];rfl)
    clear hx0 se sS sN sL hy sw ho2 sx sV sC
    go_wp2_with fail
    go_roundw
    case rel=>exact⟨j+1,_,by omega,by go_num,tn,sJ,tg⟩
    case measure=>simp[intOf];omega
  ·obtain rfl:j=n:=by omega
   have tF:¬(j:Int)<(j:Int):=by omega
   have tC:(fj cols cs xs).length=j:=by
    have h1:=HN.out;have h2:=sQ.out
    simp only[fj,List.length_zipWith];omega
   have sI:Hid (Sl aM (fun k=>w.heap.size≤k) W (.slice (some ⟨g,0,none⟩) j j) (fj cols cs xs)):=zN (by
    have h1:=sK.out
    rw[jp (by have:=sp.out.1;omega),jp (by omega)]at h1
    have h2:=sp.out
    rw[h1]at h2
    exact(mM h2).mono (by decide) (fun k _ hk=>by omega))
   have sD:=tp.out W se _ _ _ _ sI.out
   unfold SrPost at sD
   rw[←HZ.out]at sD
   have tq:=zN sD
   have k0:=sH.out.c0;have k1:=sH.out.c1
   clear tC sD se
   go_wp2_with fail
   refine tq.out.mono ?_
   rintro e w3 ⟨sT,rfl⟩
   have tz:=zN (tA.out.trans sT)
   clear k0 k1 sT
   go_wp2_with fail
   go_ret
   exact Ret.mk tz.out rfl
end Go.Proofs.YtplldnnnhgnbjaaGreatDoor
namespace Go.Proofs.YtplldnnnhgnbjaaGreatDoor
open Go.RowKit Go.Maps
def dl(vars:List ByteArray)(s:ByteArray):Int:=if s=⟨#[]⟩ then -1 else if s∈vars then (posN vars s:Int) else 0
structure NsT where
 bound:List Nat
 key:List Nat
 fresh:List Nat
 frm:List Nat
def dC(B:List Nat)(s:NsT)(v:Int)(j:Nat):NsT :=
 if v<0 then s else if v.toNat∈B then ⟨s.bound++[v.toNat],s.key++[j],s.fresh,s.frm⟩ else if v.toNat∈s.fresh then s else ⟨s.bound,s.key,s.fresh++[v.toNat],s.frm++[j]⟩
def gG(B:List Nat)(nv:List Int):Nat→NsT
 | 0=>⟨[],[],[],[]⟩
 | j+1=>dC B (gG B nv j) (nv.getD j (-1)) j
def bg(vars:List ByteArray)(ts:List Tm):List Int:=ts.map (fun t=>dl vars t.var)
def aR(vars:List ByteArray)(B:List Nat)(ts:List Tm):NsT:=gG B (bg vars ts) ts.length
structure NsOk(B:List Nat)(nv:List Int)(j:Nat)(s:NsT):Prop where
 l1:s.bound.length=s.key.length
 l2:s.fresh.length=s.frm.length
 nd:s.fresh.Nodup
 bd:∀v i,(v,i)∈s.bound.zip s.key↔i<j∧nv[i]?=some (v:Int)∧v∈B
 fr:∀v c,(v,c)∈s.fresh.zip s.frm↔c<j∧nv[c]?=some (v:Int)∧v ∉ B∧∀i<c,nv[i]?≠some (v:Int)
theorem bY:∀{l m:List Nat} {v:Nat},l.length=m.length→v∈l→∃c,(v,c)∈l.zip m
 | a::l,b::m,v,hl,hv=>by
  rcases jB.1 hv with rfl|hv
  ·exact⟨b,by simp⟩
  ·obtain⟨c,hc⟩:=bY (l:=l) (m:=m) (by simpa using hl) hv
   exact⟨c,by rw[List.zip_cons_cons];exact js _ hc⟩
 | a::l,[],v,hl,hv=>by simp at hl
theorem NsOk.mem{B:List Nat}{nv:List Int}{j:Nat}{s:NsT}(h:NsOk B nv j s){v:Nat}:v∈s.fresh↔v ∉ B∧∃c,c<j∧nv[c]?=some (v:Int):=by
 constructor
 ·intro hv
  obtain⟨c,hc⟩:=bY h.l2 hv
  obtain⟨h1,h2,h3,-⟩:=(h.fr v c).1 hc
  exact⟨h3,c,h1,h2⟩
 ·rintro⟨h1,c,h2,h3⟩
  have key:∀c,c<j→nv[c]?=some (v:Int)→v∈s.fresh:=by
   intro c
   induction c using Nat.strongRecOn with
   | ind c ih =>
    intro k1 k2
    by_cases he:∃i,i<c∧nv[i]?=some (v:Int)
    ·obtain⟨i,i1,i2⟩:=he
     exact ih i i1 (by omega) i2
    ·exact(List.of_mem_zip ((h.fr v c).2 ⟨k1,k2,h1,fun i hi e=>he ⟨i,hi,e⟩⟩)).1
  exact key c h2 h3
theorem zip_app{l m:List Nat}{a b:Nat}(h:l.length=m.length):(l++[a]).zip (m++[b])=l.zip m++[(a,b)]:=by rw[List.zip_append h];rfl
theorem nsAt_ok(B:List Nat)(nv:List Int):∀j,j≤nv.length→NsOk B nv j (gG B nv j)
 | 0,_=>⟨rfl,rfl,zC,fun v i=>by simp[gG],fun v c=>by simp[gG]⟩
 | j+1,hj=>by
  have ih:=nsAt_ok B nv j (by omega)
  have si:j<nv.length:=by omega
  have hg:nv.getD j (-1)=nv[j]:=by rw[jI,jl si];rfl
  have hq:nv[j]?=some nv[j]:=jl si
  show NsOk B nv (j+1) (dC B (gG B nv j) (nv.getD j (-1)) j)
  rw[hg]
  generalize gG B nv j=s at ih
  generalize nv[j]=x at hq
  unfold dC
  have sg:∀i,i<j+1↔i<j∨i=j:=fun i=>by omega
  by_cases h0:x<0
  ·rw[if_pos h0]
   have sj:∀v:Nat,nv[j]?≠some (v:Int):=fun v e=>by
    rw[hq]at e
    injection e with e
    omega
   refine⟨ih.l1,ih.l2,ih.nd,fun v i=>?_,fun v c=>?_⟩
   ·rw[ih.bd,sg]
    constructor
    ·rintro⟨h1,h2⟩;exact⟨.inl h1,h2⟩
    ·rintro⟨h1|rfl,h2⟩
     ·exact⟨h1,h2⟩
     ·exact absurd h2.1 (sj v)
   ·rw[ih.fr,sg]
    constructor
    ·rintro⟨h1,h2⟩;exact⟨.inl h1,h2⟩
    ·rintro⟨h1|rfl,h2⟩
     ·exact⟨h1,h2⟩
     ·exact absurd h2.1 (sj v)
  ·rw[if_neg h0]
   obtain⟨u,rfl⟩:∃u:Nat,x=(u:Int):=⟨x.toNat,by omega⟩
   rw[jL]
   have se:∀v:Nat,nv[j]?=some (v:Int)↔v=u:=fun v=>by
    rw[hq]
    constructor
    ·intro e;injection e with e;omega
    ·rintro rfl;rfl
   by_cases h1:u∈B
   ·rw[if_pos h1]
    refine⟨by simp[ih.l1],ih.l2,ih.nd,fun v i=>?_,fun v c=>?_⟩
    ·show (v,i)∈(s.bound++[u]).zip (s.key++[j])↔_
     rw[zip_app ih.l1,ju,ih.bd,sg,jq,Prod.mk.injEq]
     constructor
     ·rintro(⟨k1,k2⟩|⟨rfl,rfl⟩)
      ·exact⟨.inl k1,k2⟩
      ·exact⟨.inr rfl,(se v).2 rfl,h1⟩
     ·rintro⟨k1|rfl,k2⟩
      ·exact .inl ⟨k1,k2⟩
      ·exact .inr ⟨(se v).1 k2.1,rfl⟩
    ·show (v,c)∈s.fresh.zip s.frm↔_
     rw[ih.fr,sg]
     constructor
     ·rintro⟨k1,k2⟩;exact⟨.inl k1,k2⟩
     ·rintro⟨k1|rfl,k2⟩
      ·exact⟨k1,k2⟩
      ·rw[(se v).1 k2.1]at k2
       exact absurd h1 k2.2.1
   ·rw[if_neg h1]
    by_cases h2:u∈s.fresh
    ·rw[if_pos h2]
     obtain⟨-,c0,sp,sq⟩:=ih.mem.1 h2
     refine⟨ih.l1,ih.l2,ih.nd,fun v i=>?_,fun v c=>?_⟩
     ·rw[ih.bd,sg]
      constructor
      ·rintro⟨k1,k2⟩;exact⟨.inl k1,k2⟩
      ·rintro⟨k1|rfl,k2⟩
       ·exact⟨k1,k2⟩
       ·rw[(se v).1 k2.1]at k2
        exact absurd k2.2 h1
     ·rw[ih.fr,sg]
      constructor
      ·rintro⟨k1,k2⟩;exact⟨.inl k1,k2⟩
      ·rintro⟨k1|rfl,k2⟩
       ·exact⟨k1,k2⟩
       ·rw[(se v).1 k2.1]at k2
        exact absurd sq (k2.2.2 c0 sp)
    ·rw[if_neg h2]
     have sh:∀i,i<j→nv[i]?≠some (u:Int):=fun i hi e=>h2 (ih.mem.2 ⟨h1,i,hi,e⟩)
     refine⟨ih.l1,by simp[ih.l2],?_,fun v i=>?_,fun v c=>?_⟩
     ·rw[zF]
      exact⟨ih.nd,by simp,fun a ha b hb e=>by
       rw[jq]at hb
       subst hb
       subst e
       exact h2 ha⟩
     ·show (v,i)∈s.bound.zip s.key↔_
      rw[ih.bd,sg]
      constructor
      ·rintro⟨k1,k2⟩;exact⟨.inl k1,k2⟩
      ·rintro⟨k1|rfl,k2⟩
       ·exact⟨k1,k2⟩
       ·rw[(se v).1 k2.1]at k2
        exact absurd k2.2 h1
     ·show (v,c)∈(s.fresh++[u]).zip (s.frm++[j])↔_
      rw[zip_app ih.l2,ju,ih.fr,sg,jq,Prod.mk.injEq]
      constructor
      ·rintro(⟨k1,k2⟩|⟨rfl,rfl⟩)
       ·exact⟨.inl k1,k2⟩
       ·exact⟨.inr rfl,(se v).2 rfl,h1,sh⟩
      ·rintro⟨k1|rfl,k2⟩
       ·exact .inl ⟨k1,k2⟩
       ·exact .inr ⟨(se v).1 k2.1,rfl⟩
theorem cA(vars:List ByteArray)(B:List Nat)(ts:List Tm):NsOk B (bg vars ts) ts.length (aR vars B ts):=nsAt_ok B _ _ (by simp[bg])
def my(s:NsT)(v:Nat):Option Nat:=((s.fresh.zip s.frm).find? (fun p=>decide (p.1=v))).map Prod.snd
theorem nd_zip:∀{l m:List Nat},l.Nodup→∀{v c d:Nat},(v,c)∈l.zip m→(v,d)∈l.zip m→c=d
 | [],_,_,_,_,_,h,_=>by simp at h
 | _::_,[],_,_,_,_,h,_=>by simp at h
 | a::l,b::m,hn,v,c,d,h1,h2=>by
  rw[List.nodup_cons]at hn
  rw[List.zip_cons_cons]at h1 h2
  rcases jB.1 h1 with e1|e1 <;> rcases jB.1 h2 with e2|e2
  ·injection e1 with _ e1;injection e2 with _ e2;omega
  ·injection e1 with e1 _;exact absurd (List.of_mem_zip e2).1 (e1 ▸ hn.1)
  ·injection e2 with e2 _;exact absurd (List.of_mem_zip e1).1 (e2 ▸ hn.1)
  ·exact nd_zip hn.2 e1 e2
theorem fX{s:NsT}(hn:s.fresh.Nodup){v c:Nat}:my s v=some c↔(v,c)∈s.fresh.zip s.frm:=by
 unfold my
 rw[Option.map_eq_some_iff]
 constructor
 ·rintro⟨⟨a,b⟩,h1,rfl⟩
  have h2:=List.find?_some h1
  simp only[decide_eq_true_eq]at h2
  subst h2
  exact List.mem_of_find?_eq_some h1
 ·intro h
  cases hf:(s.fresh.zip s.frm).find? (fun p=>decide (p.1=v)) with
  | none=>exact absurd (decide_eq_true rfl) (List.find?_eq_none.1 hf (v,c) h)
  | some p =>
   have h2:=List.find?_some hf
   simp only[decide_eq_true_eq]at h2
   have h3:=List.mem_of_find?_eq_some hf
   obtain⟨a,b⟩:=p
   simp only at h2
   subst h2
   exact⟨(a,b),rfl,nd_zip hn h3 h⟩
theorem frmOf_none{s:NsT}(hl:s.fresh.length=s.frm.length){v:Nat}:my s v=none↔v ∉ s.fresh:=by
 unfold my
 rw[Option.map_eq_none_iff,List.find?_eq_none]
 constructor
 ·intro h hv
  obtain⟨c,hc⟩:=bY hl hv
  exact absurd (decide_eq_true rfl) (h (v,c) hc)
 ·intro h p hp
  simp only[decide_eq_true_eq]
  rintro rfl
  exact h (List.of_mem_zip (a:=p.1) (b:=p.2) hp).1
def mtC(vars:List ByteArray)(s:NsT)(x:List Vl)(t:Tm)(j:Nat):Bool:=if t.var=⟨#[]⟩ then decide (x.getD j zv=t.vl) else match my s (dl vars t.var).toNat with|none=>true|some c=>decide (x.getD j zv=x.getD c zv)
def d9(v:Vl)(c:Cd):Bool:=qR c.op (cT v ⟨c.kind,c.int,c.str⟩)
def bK(vars:List ByteArray)(cds:List Cd)(v:Nat):List Cd:=cds.filter (fun c=>decide (dl vars c.var=(v:Int)))
abbrev zt:Tm:=⟨⟨#[]⟩,0,0,⟨#[]⟩⟩
def mtB(vars:List ByteArray)(ts:List Tm)(cds:List Cd)(s:NsT)(x:List Vl):Bool :=
 (List.range ts.length).all (fun j=>mtC vars s x (ts.getD j zt) j) && (s.fresh.zip s.frm).all (fun p=>(bK vars cds p.1).all (d9 (x.getD p.2 zv)))
def aS(M:Dm)(s:ByteArray):List (List Vl):=((M s).map (fun x=>x.rel.rows)).getD []
def mA(vars:List ByteArray)(M:Dm)(cds:List Cd)(B:List Nat)(a:At)(bad:List Vl→Bool):Stp :=
 ⟨(aS M a.rel).filter (mtB vars a.terms cds (aR vars B a.terms)),(aR vars B a.terms).key,(aR vars B a.terms).bound,(aR vars B a.terms).fresh,(aR vars B a.terms).frm,bad⟩
def cP(vars:List ByteArray)(y:List Vl)(ts:List Tm):List Vl:=ts.map (fun t=>if t.var=⟨#[]⟩ then t.vl else y.getD (posN vars t.var) zv)
theorem ij{c z:List Vl}:∀{k b:List Nat},b.length=k.length→(aJ c k=aJ z b↔∀v i,(v,i)∈b.zip k→c.getD i zv=z.getD v zv)
 | [],[],_=>by simp[aJ]
 | [],_::_,h=>by simp at h
 | _::_,[],h=>by simp at h
 | i::k,v::b,h=>by
  have ih:=ij (c:=c) (z:=z) (k:=k) (b:=b) (by simpa using h)
  unfold aJ at ih ⊢
  rw[jU,jU,List.cons.injEq,ih,List.zip_cons_cons]
  constructor
  ·rintro⟨h1,h2⟩ v' i' hm
   rcases jB.1 hm with e|hm
   ·injection e with e1 e2;subst e1;subst e2;exact h1
   ·exact h2 v' i' hm
  ·intro h1
   exact⟨h1 v i (by simp),fun v' i' hm=>h1 v' i' (js _ hm)⟩
theorem lQ{α : Type}{l:List α}(h:l.Nodup){i j:Nat}(hi:i<l.length)(hj:j<l.length)(e:l[i]=l[j]):i=j:=by
 have hp:=zk.1 (show l.Pairwise (·≠·) from h)
 rcases Nat.lt_trichotomy i j with h1|h1|h1
 ·exact absurd e (hp i j hi hj h1)
 ·exact h1
 ·exact absurd e.symm (hp j i hj hi h1)
theorem iG{vars:List ByteArray}{ts:List Tm}{j:Nat}(hj:j<ts.length):(bg vars ts)[j]?=some (dl vars ts[j].var):=by unfold bg;rw[List.getElem?_map,jl hj];rfl
theorem rowOf_len{vars:List ByteArray}{y:List Vl}{ts:List Tm}:(cP vars y ts).length=ts.length:=by simp[cP]
theorem fK{vars:List ByteArray}{y:List Vl}{ts:List Tm}{k:Nat}(hk:k<ts.length):(cP vars y ts).getD k zv=if ts[k].var=⟨#[]⟩ then ts[k].vl else y.getD (posN vars ts[k].var) zv:=by
 unfold cP
 rw[jI,List.getElem?_map,jl hk]
 rfl
theorem bA{α : Type}{l:List α}{d : α}{k:Nat}(hk:k<l.length):l.getD k d=l[k]:=by rw[jI,jl hk];rfl
theorem cE{vars:List ByteArray}{s:ByteArray}(h0:s≠⟨#[]⟩)(h1:s∈vars):dl vars s=(posN vars s:Int):=by unfold dl;rw[if_neg h0,if_pos h1]
theorem mL{vars:List ByteArray}{s:ByteArray}{v:Nat}(hc:s≠⟨#[]⟩→s∈vars)(h:dl vars s=(v:Int)):s≠⟨#[]⟩∧s∈vars∧posN vars s=v:=by
 by_cases h0:s=⟨#[]⟩
 ·unfold dl at h
  rw[if_pos h0]at h
  omega
 ·rw[cE h0 (hc h0)]at h
  exact⟨h0,hc h0,by omega⟩
section
variable {vars:List ByteArray} {B:List Nat} {ts:List Tm} {cds:List Cd} {x z:List Vl}
theorem qy(hc:∀t∈ts,t.var≠⟨#[]⟩→t.var∈vars){v i:Nat}:(v,i)∈(aR vars B ts).bound.zip (aR vars B ts).key↔v∈B∧∃hi:i<ts.length,ts[i].var≠⟨#[]⟩∧posN vars ts[i].var=v:=by
 rw[(cA vars B ts).bd]
 constructor
 ·rintro⟨h1,h2,h3⟩
  rw[iG h1]at h2
  injection h2 with h2
  obtain⟨k1,-,k3⟩:=mL (hc _ (jf h1)) h2
  exact⟨h3,h1,k1,k3⟩
 ·rintro⟨h3,h1,k1,rfl⟩
  exact⟨h1,by rw[iG h1,cE k1 (hc _ (jf h1) k1)],h3⟩
theorem fr_at(hc:∀t∈ts,t.var≠⟨#[]⟩→t.var∈vars){v i:Nat}(h:(v,i)∈(aR vars B ts).fresh.zip (aR vars B ts).frm):v ∉ B∧∃hi:i<ts.length,ts[i].var≠⟨#[]⟩∧posN vars ts[i].var=v:=by
 obtain⟨h1,h2,h3,-⟩:=((cA vars B ts).fr v i).1 h
 rw[iG h1]at h2
 injection h2 with h2
 obtain⟨k1,-,k3⟩:=mL (hc _ (jf h1)) h2
 exact⟨h3,h1,k1,k3⟩
theorem dJ(hc:∀t∈ts,t.var≠⟨#[]⟩→t.var∈vars){v:Nat}:v∈(aR vars B ts).fresh↔v ∉ B∧∃t∈ts,t.var≠⟨#[]⟩∧posN vars t.var=v:=by
 rw[(cA vars B ts).mem]
 constructor
 ·rintro⟨h3,i,h1,h2⟩
  rw[iG h1]at h2
  injection h2 with h2
  obtain⟨k1,-,k3⟩:=mL (hc _ (jf h1)) h2
  exact⟨h3,_,jf h1,k1,k3⟩
 ·rintro⟨h3,t,ht,k1,rfl⟩
  obtain⟨i,hi,rfl⟩:=jx ht
  exact⟨h3,i,hi,by rw[iG hi,cE k1 (hc _ (jf hi) k1)]⟩
theorem row_eq(hc:∀t∈ts,t.var≠⟨#[]⟩→t.var∈vars)(hl:x.length=ts.length)(hm:(List.range ts.length).all (fun j=>mtC vars (aR vars B ts) x (ts.getD j zt) j)=true)(h1:∀v i,(v,i)∈(aR vars B ts).bound.zip (aR vars B ts).key→x.getD i zv=z.getD v zv)(h2:∀v i,(v,i)∈(aR vars B ts).fresh.zip (aR vars B ts).frm→x.getD i zv=z.getD v zv):x=cP vars z ts:=by
 refine zf (by rw[rowOf_len,hl]) (fun k hk si=>?_)
 have se:k<ts.length:=by omega
 rw[←bA (d:=zv) hk,←bA (d:=zv) si,fK se]
 have h3:=jA.1 hm k (by simpa using se)
 simp only[bA se]at h3
 unfold mtC at h3
 by_cases h0:ts[k].var=⟨#[]⟩
 ·rw[if_pos h0]at h3 ⊢
  simpa using h3
 ·rw[if_neg h0]at h3 ⊢
  have sg:=hc _ (jf se) h0
  rw[cE h0 sg,jL]at h3
  by_cases hB:posN vars ts[k].var∈B
  ·exact h1 _ k ((qy hc).2 ⟨hB,se,h0,rfl⟩)
  ·have hf:posN vars ts[k].var∈(aR vars B ts).fresh:=(dJ hc).2 ⟨hB,_,jf se,h0,rfl⟩
   obtain⟨c,sh⟩:=bY (cA vars B ts).l2 hf
   rw[(fX (cA vars B ts).nd).2 sh]at h3
   simp only[decide_eq_true_eq]at h3
   rw[h3]
   exact h2 _ _ sh
theorem row_two{y:List Vl}(hc:∀t∈ts,t.var≠⟨#[]⟩→t.var∈vars)(hx:x.length=ts.length)(hy:y.length=ts.length)(hm:(List.range ts.length).all (fun j=>mtC vars (aR vars B ts) x (ts.getD j zt) j)=true)(hn:(List.range ts.length).all (fun j=>mtC vars (aR vars B ts) y (ts.getD j zt) j)=true)(h1:∀i∈(aR vars B ts).key,x.getD i zv=y.getD i zv)(h2:∀i∈(aR vars B ts).frm,x.getD i zv=y.getD i zv):x=y:=by
 refine zf (by omega) (fun k hk si=>?_)
 have se:k<ts.length:=by omega
 rw[←bA (d:=zv) hk,←bA (d:=zv) si]
 have h3:=jA.1 hm k (by simpa using se)
 have h4:=jA.1 hn k (by simpa using se)
 simp only[bA se]at h3 h4
 unfold mtC at h3 h4
 by_cases h0:ts[k].var=⟨#[]⟩
 ·rw[if_pos h0]at h3 h4
  simp only[decide_eq_true_eq]at h3 h4
  rw[h3,h4]
 ·rw[if_neg h0]at h3 h4
  have sg:=hc _ (jf se) h0
  rw[cE h0 sg,jL]at h3 h4
  by_cases hB:posN vars ts[k].var∈B
  ·exact h1 k (List.of_mem_zip ((qy (B:=B) hc).2 ⟨hB,se,h0,rfl⟩)).2
  ·have hf:posN vars ts[k].var∈(aR vars B ts).fresh:=(dJ hc).2 ⟨hB,_,jf se,h0,rfl⟩
   obtain⟨c,sh⟩:=bY (cA vars B ts).l2 hf
   rw[(fX (cA vars B ts).nd).2 sh]at h3 h4
   simp only[decide_eq_true_eq]at h3 h4
   rw[h3,h4]
   exact h2 c (List.of_mem_zip sh).2
theorem stp_sat{M:Dm}{a:At}{bad:List Vl→Bool}(hc:∀t∈a.terms,t.var≠⟨#[]⟩→t.var∈vars)(hr:∀x∈aS M a.rel,x.length=a.terms.length) :
  pr (mA vars M cds B a bad) z↔cP vars z a.terms∈aS M a.rel∧(∀v∈(aR vars B a.terms).fresh,∀c∈bK vars cds v,d9 (z.getD v zv) c=true)∧bad z=false:=by
 unfold pr mA
 have ho:=cA vars B a.terms
 simp only
 constructor
 ·rintro⟨⟨c,sh,h1,h2⟩,h3⟩
  obtain⟨m1,m2⟩:=jC.1 sh
  unfold mtB at m2
  rw[Bool.and_eq_true]at m2
  have k1:=(ij (b:=(aR vars B a.terms).bound) (k:=(aR vars B a.terms).key) ho.l1).1 h1
  have k2:=(ij (b:=(aR vars B a.terms).fresh) (k:=(aR vars B a.terms).frm) ho.l2).1 h2.symm
  have he:=row_eq (z:=z) hc (hr c m1) m2.1 k1 k2
  refine⟨he ▸ m1,fun v hv d hd=>?_,h3⟩
  obtain⟨i,hi⟩:=bY ho.l2 hv
  have h4:=jA.1 m2.2 (v,i) hi
  have h5:=jA.1 h4 d hd
  rw[←k2 v i hi]
  exact h5
 ·rintro⟨h1,h2,h3⟩
  have k1:∀v i,(v,i)∈(aR vars B a.terms).bound.zip (aR vars B a.terms).key→(cP vars z a.terms).getD i zv=z.getD v zv:=fun v i hi=>by
   obtain⟨-,sg,h0,rfl⟩:=(qy hc).1 hi
   rw[fK sg,if_neg h0]
  have k2:∀v i,(v,i)∈(aR vars B a.terms).fresh.zip (aR vars B a.terms).frm→(cP vars z a.terms).getD i zv=z.getD v zv:=fun v i hi=>by
   obtain⟨-,sg,h0,rfl⟩:=fr_at hc hi
   rw[fK sg,if_neg h0]
  refine⟨⟨cP vars z a.terms,jC.2 ⟨h1,?_⟩,(ij ho.l1).2 k1,((ij ho.l2).2 k2).symm⟩,h3⟩
  unfold mtB
  rw[Bool.and_eq_true]
  refine⟨jA.2 (fun j hj=>?_),jA.2 (fun p hp=>jA.2 (fun d hd=>?_))⟩
  ·have se:j<a.terms.length:=by simpa using hj
   simp only[bA se]
   unfold mtC
   by_cases h0:a.terms[j].var=⟨#[]⟩
   ·rw[if_pos h0,fK se,if_pos h0]
    simp
   ·rw[if_neg h0,cE h0 (hc _ (jf se) h0),jL]
    cases hf:my (aR vars B a.terms) (posN vars a.terms[j].var) with
    | none=>rfl
    | some c =>
     have si:=(fX ho.nd).1 hf
     simp only[decide_eq_true_eq]
     rw[k2 _ _ si,fK se,if_neg h0]
  ·obtain⟨v,i⟩:=p
   simp only at hd ⊢
   rw[k2 v i hp]
   exact h2 v (List.of_mem_zip hp).1 d hd
theorem stp_ok{M:Dm}{a:At}{bad:List Vl→Bool}(hc:∀t∈a.terms,t.var≠⟨#[]⟩→t.var∈vars)(hr:∀x∈aS M a.rel,x.length=a.terms.length)(si:(aS M a.rel).Nodup)(hb:∀y z,agr (B++(aR vars B a.terms).fresh) y z→bad y=bad z):StOk vars.length B (mA vars M cds B a bad) where
 len:=(cA vars B a.terms).l2
 nd:=(cA vars B a.terms).nd
 new:=fun i hi=>by
  obtain⟨h1,t,ht,h2,rfl⟩:=(dJ hc).1 hi
  exact⟨h1,bR (hc t ht h2)⟩
 bd:=fun i hi=>by
  obtain⟨c,sg⟩:=bY (cA vars B a.terms).l1 hi
  exact((qy hc).1 sg).1
 rows:=si.sublist List.filter_sublist
 det:=fun c se d sh h1 h2=>by
  have ho:=cA vars B a.terms
  obtain⟨c1,c2⟩:=jC.1 se
  obtain⟨d1,d2⟩:=jC.1 sh
  unfold mtB at c2 d2
  rw[Bool.and_eq_true]at c2 d2
  unfold aJ at h1 h2
  exact row_two hc (hr c c1) (hr d d1) c2.1 d2.1 (fun i hi=>List.map_inj_left.1 h1 i hi) (fun i hi=>List.map_inj_left.1 h2 i hi)
 bad:=hb
end
def gu(vars:List ByteArray)(M:Dm)(cds:List Cd)(bad:Nat→List Vl→Bool):List At→List Nat→Nat→List Stp
 | [],_,_=>[]
 | a::l,B,k=>mA vars M cds B a (bad (k+1))::gu vars M cds bad l (B++(aR vars B a.terms).fresh) (k+1)
def ee(vars:List ByteArray):List At→List Nat→List Nat
 | [],B=>B
 | a::l,B=>ee vars l (B++(aR vars B a.terms).fresh)
def bdL(vars:List ByteArray):List At→List Nat→Nat→(Nat→Nat)→Nat→Nat
 | [],_,_,bd=>bd
 | a::l,B,k,bd=>bdL vars l (B++(aR vars B a.terms).fresh) (k+1) (fun v=>if v∈(aR vars B a.terms).fresh then k+1 else bd v)
def dH(bd:Nat→Nat):List Int→Nat→Nat
 | [],m=>m
 | v::l,m=>dH bd l (if v<0 then m else max m (bd v.toNat))
theorem rk(bd:Nat→Nat):∀(l:List Int) (m:Nat),m≤dH bd l m∧∀v∈l,0≤v→bd v.toNat≤dH bd l m
 | [],m=>⟨jo _,by simp⟩
 | v::l,m=>by
  unfold dH
  obtain⟨h1,h2⟩:=rk bd l (if v<0 then m else max m (bd v.toNat))
  have h0:m≤(if v<0 then m else max m (bd v.toNat)):=by split <;> omega
  refine⟨jr h0 h1,fun x hx h3=>?_⟩
  rcases jB.1 hx with rfl|hx
  ·refine jr ?_ h1
   rw[if_neg (by omega)]
   omega
  ·exact h2 x hx h3
theorem rj(bd:Nat→Nat):∀(l:List Int) (m:Nat),dH bd l m=m∨∃v∈l,0≤v∧dH bd l m=bd v.toNat
 | [],m=>.inl rfl
 | v::l,m=>by
  unfold dH
  rcases rj bd l (if v<0 then m else max m (bd v.toNat)) with h|⟨x,hx,h1,h2⟩
  ·rw[h]
   by_cases h0:v<0
   ·rw[if_pos h0];exact .inl rfl
   ·rw[if_neg h0]
    rcases Nat.le_total m (bd v.toNat) with h3|h3
    ·exact .inr ⟨v,by simp,by omega,by omega⟩
    ·exact .inl (by omega)
  ·exact .inr ⟨x,js _ hx,h1,h2⟩
def qj(B:List Nat)(k:Nat)(bd:Nat→Nat):Prop:=∀v,(v∈B↔0<bd v)∧bd v≤k
theorem qj.more{B fresh:List Nat}{k:Nat}{bd:Nat→Nat}(h:qj B k bd):qj (B++fresh) (k+1) (fun v=>if v∈fresh then k+1 else bd v):=fun v=>by
 obtain⟨h1,h2⟩:=h v
 rw[ju,h1]
 by_cases hv:v∈fresh
 ·simp[hv]
 ·simp only[hv,or_false,if_false]
  exact⟨trivial,by omega⟩
theorem pI{vars:List ByteArray}:∀(l:List At) (B:List Nat) (k:Nat) (bd:Nat→Nat),qj B k bd→qj (ee vars l B) (k+l.length) (bdL vars l B k bd)∧∀v,(0<bd v→bdL vars l B k bd v=bd v)∧(bd v=0→bdL vars l B k bd v=0∨k<bdL vars l B k bd v)
 | [],B,k,bd,h=>⟨h,fun v=>⟨fun _=>rfl,fun e=>.inl e⟩⟩
 | a::l,B,k,bd,h=>by
  have h2:=h.more (fresh:=(aR vars B a.terms).fresh)
  obtain⟨i1,i2⟩:=pI (vars:=vars) l _ _ _ h2
  refine⟨by rw[jD,show k+(l.length+1)=k+1+l.length by omega];exact i1,fun v=>?_⟩
  obtain⟨j1,j2⟩:=i2 v
  have se:v∈(aR vars B a.terms).fresh→bd v=0:=fun hv=>by
   have h3:=((cA vars B a.terms).mem.1 hv).1
   rw[(h v).1]at h3
   omega
  constructor
  ·intro h3
   have hv:v ∉ (aR vars B a.terms).fresh:=fun hv=>by have:=se hv;omega
   have:=j1 (by rw[if_neg hv];exact h3)
   rw[if_neg hv]at this
   exact this
  ·intro h3
   by_cases hv:v∈(aR vars B a.terms).fresh
   ·have:=j1 (by rw[if_pos hv];omega)
    rw[if_pos hv]at this
    right
    show k<bdL vars l _ _ _ v
    omega
   ·rcases j2 (by rw[if_neg hv];exact h3) with h4|h4
    ·exact .inl h4
    ·right
     show k<bdL vars l _ _ _ v
     omega
theorem rR{vars:List ByteArray}{M:Dm}{cds:List Cd}{bad:Nat→List Vl→Bool}{se:Nat→Nat}(hF:∀v,v<vars.length→0<se v)(sg:∀k y z,(∀v,v<vars.length→se v≤k→y.getD v zv=z.getD v zv)→bad k y=bad k z) :
  ∀(l:List At) (B:List Nat) (k:Nat) (bd:Nat→Nat),qj B k bd→bdL vars l B k bd=se→(∀a∈l,∀t∈a.terms,t.var≠⟨#[]⟩→t.var∈vars)→(∀a∈l,∀x∈aS M a.rel,x.length=a.terms.length)→(∀a∈l,(aS M a.rel).Nodup) →
   StsOk vars.length B (gu vars M cds bad l B k)
 | [],B,k,bd,h,he,_,_,_=>fun i hi=>by
  have h1:bd=se:=he
  rw[(h i).1,h1]
  exact hF i hi
 | a::l,B,k,bd,h,he,hc,hr,hn=>by
  have h2:=h.more (fresh:=(aR vars B a.terms).fresh)
  refine⟨stp_ok (hc a (by simp)) (hr a (by simp)) (hn a (by simp)) (fun y z sh=>sg (k+1) y z (fun v hv hk=>sh v ?_)),rR hF sg l _ (k+1) _ h2 he (fun b hb=>hc b (js _ hb)) (fun b hb=>hr b (js _ hb)) (fun b hb=>hn b (js _ hb))⟩
  rw[(h2 v).1]
  have h3:=(pI (vars:=vars) l _ _ _ h2).2 v
  have h4:bdL vars l (B++(aR vars B a.terms).fresh) (k+1) (fun v=>if v∈(aR vars B a.terms).fresh then k+1 else bd v)=se:=he
  rw[h4]at h3
  have h5:=hF v hv
  rcases Nat.eq_zero_or_pos (if v∈(aR vars B a.terms).fresh then k+1 else bd v) with h6|h6
  ·have:=h3.2 h6
   omega
  ·exact h6
theorem pt{vars:List ByteArray}{M:Dm}{cds:List Cd}{bad:Nat→List Vl→Bool}{z:List Vl} :
  ∀(l:List At) (B:List Nat) (k:Nat),(∀a∈l,∀t∈a.terms,t.var≠⟨#[]⟩→t.var∈vars)→(∀a∈l,∀x∈aS M a.rel,x.length=a.terms.length) →
   ((∀s∈gu vars M cds bad l B k,pr s z)↔(∀a∈l,cP vars z a.terms∈aS M a.rel)∧(∀v∈ee vars l B,v ∉ B→∀c∈bK vars cds v,d9 (z.getD v zv) c=true)∧∀j,k<j→j≤k+l.length→bad j z=false)
 | [],B,k,_,_=>by
  simp only[gu,ee,zJ,false_imp_iff,implies_true,jQ,true_and,true_iff]
  exact⟨fun v h1 h2=>absurd h1 h2,fun j h1 h2=>by omega⟩
 | a::l,B,k,hc,hr=>by
  have ih:=pt (vars:=vars) (M:=M) (cds:=cds) (bad:=bad) (z:=z) l (B++(aR vars B a.terms).fresh) (k+1) (fun b hb=>hc b (js _ hb)) (fun b hb=>hr b (js _ hb))
  have se:∀v,v∈(aR vars B a.terms).fresh→v ∉ B:=fun v hv=>((cA vars B a.terms).mem.1 hv).1
  have sg:∀(l:List At) (B:List Nat) (v:Nat),v∈B→v∈ee vars l B:=by
   intro l
   induction l with
   | nil=>exact fun B v h=>h
   | cons a l ih=>exact fun B v h=>ih _ v (jP _ h)
  show (∀s∈mA vars M cds B a (bad (k+1))::gu vars M cds bad l (B++(aR vars B a.terms).fresh) (k+1),pr s z)↔(∀b∈a::l,_)∧(∀v∈ee vars l (B++(aR vars B a.terms).fresh),_)∧∀j,k<j→j≤k+(l.length+1)→_
  rw[List.forall_mem_cons,List.forall_mem_cons,ih,stp_sat (hc a (by simp)) (hr a (by simp))]
  constructor
  ·rintro⟨⟨h1,h2,h3⟩,h4,h5,h6⟩
   refine⟨⟨h1,h4⟩,fun v hv sj=>?_,fun j sh si=>?_⟩
   ·by_cases hf:v∈(aR vars B a.terms).fresh
    ·exact h2 v hf
    ·exact h5 v hv (fun hm=>by
      rcases ju.1 hm with hm|hm
      ·exact sj hm
      ·exact hf hm)
   ·rcases Nat.eq_or_lt_of_le (show k+1≤j by omega) with rfl|hj
    ·exact h3
    ·exact h6 j hj (by omega)
  ·rintro⟨⟨h1,h4⟩,h5,h6⟩
   exact⟨⟨h1,fun v hv=>h5 v (sg l _ v (zq _ hv)) (se v hv),h6 (k+1) (by omega) (by omega)⟩,h4,fun v hv hn=>h5 v hv (fun hm=>hn (jP _ hm)),fun j sh si=>h6 j (by omega) (by omega)⟩
def eO(M:Dm)(vars:List ByteArray)(r:Rl)(y:List Vl):Prop :=
 (∀a∈r.ats,da (aS M a.rel) (cP vars y a.terms) = !a.neg)∧∀c∈r.cds,c.var≠⟨#[]⟩∧d9 (y.getD (posN vars c.var) zv) c=true
def bL(r:Rl):List At:=r.ats.filter (fun a=>!a.neg)
def negL(r:Rl):List At:=r.ats.filter (fun a=>a.neg)
def bdR(vars:List ByteArray)(r:Rl):Nat→Nat:=bdL vars (bL r) [] 0 (fun _=>0)
def eZ(vars:List ByteArray)(r:Rl)(a:At):Nat:=dH (bdR vars r) (bg vars a.terms) 0
def iM(vars:List ByteArray)(r:Rl)(k:Nat):List At:=(negL r).filter (fun a=>decide (eZ vars r a=k))
def iK(M:Dm)(vars:List ByteArray)(r:Rl)(k:Nat)(y:List Vl):Bool:=(iM vars r k).any (fun a=>da (aS M a.rel) (cP vars y a.terms))
def nP(M:Dm)(vars:List ByteArray)(r:Rl):List Stp:=gu vars M r.cds (iK M vars r) (bL r) [] 0
def fW(M:Dm)(vars:List ByteArray)(r:Rl)(y:List Vl):Bool:=iK M vars r 0 y || r.cds.any (fun c=>decide (c.var=⟨#[]⟩))
structure eF(vars:List ByteArray)(r:Rl):Prop where
 at':∀a∈r.ats,∀t∈a.terms,t.var≠⟨#[]⟩→t.var∈vars
 cd:∀c∈r.cds,c.var≠⟨#[]⟩→c.var∈vars
 ne:⟨#[]⟩ ∉ vars
 nd:vars.Nodup
 bd:∀s∈vars,∃a∈bL r,∃t∈a.terms,t.var=s
theorem pJ{vars:List ByteArray}:∀(l:List At) (B:List Nat),(∀a∈l,∀t∈a.terms,t.var≠⟨#[]⟩→t.var∈vars)→∀v,v∈ee vars l B↔v∈B∨∃a∈l,∃t∈a.terms,t.var≠⟨#[]⟩∧posN vars t.var=v
 | [],B,_,v=>by simp[ee]
 | a::l,B,hc,v=>by
  show v∈ee vars l _↔_
  rw[pJ l _ (fun b hb=>hc b (js _ hb)),ju,dJ (hc a (by simp))]
  constructor
  ·rintro((h|⟨-,t,ht,h⟩)|⟨b,hb,h⟩)
   ·exact .inl h
   ·exact .inr ⟨a,by simp,t,ht,h⟩
   ·exact .inr ⟨b,js _ hb,h⟩
  ·rintro(h|⟨b,hb,t,ht,h⟩)
   ·exact .inl (.inl h)
   ·by_cases hB:v∈B
    ·exact .inl (.inl hB)
    ·rcases jB.1 hb with rfl|hb
     ·exact .inl (.inr ⟨hB,t,ht,h⟩)
     ·exact .inr ⟨b,hb,t,ht,h⟩
theorem rowOf_agr{vars:List ByteArray}{ts:List Tm}{y z:List Vl}(h:∀t∈ts,t.var≠⟨#[]⟩→y.getD (posN vars t.var) zv=z.getD (posN vars t.var) zv):cP vars y ts=cP vars z ts:=by
 unfold cP
 refine zH (fun t ht=>?_)
 by_cases h0:t.var=⟨#[]⟩
 ·rw[if_pos h0,if_pos h0]
 ·rw[if_neg h0,if_neg h0,h t ht h0]
section
variable {M:Dm} {vars:List ByteArray} {r:Rl}
theorem lm{a:At}(h:a∈bL r):a∈r.ats∧a.neg=false:=by
 obtain⟨h1,h2⟩:=jC.1 h
 exact⟨h1,by simpa using h2⟩
theorem kW(hs:eF vars r):∀v,v<vars.length→0<bdR vars r v∧bdR vars r v≤(bL r).length:=fun v hv=>by
 have h0:qj ([]:List Nat) 0 (fun _=>0):=fun v=>by simp
 have h:=(pI (vars:=vars) (bL r) [] 0 (fun _=>0) h0).1 v
 obtain⟨a,ha,t,ht,e⟩:=hs.bd _ (jf hv)
 have se:t.var≠⟨#[]⟩:=fun e2=>hs.ne (by rw[←e2,e];exact jf hv)
 refine⟨h.1.1 ((pJ _ _ (fun b hb=>hs.at' b (lm hb).1) v).2 (.inr ⟨a,ha,t,ht,se,?_⟩)),by have h2:=h.2;rw[jY]at h2;exact h2⟩
 have hm:vars[v]∈vars:=jf hv
 rw[e]
 exact lQ hs.nd (bR hm) hv (lT hm)
theorem lastA_var(hs:eF vars r){a:At}(ha:a∈r.ats){t:Tm}(ht:t∈a.terms)(h0:t.var≠⟨#[]⟩) : 0<bdR vars r (posN vars t.var)∧bdR vars r (posN vars t.var)≤eZ vars r a:=by
 have hm:=hs.at' a ha t ht h0
 refine⟨(kW hs _ (bR hm)).1,?_⟩
 have h1:=(rk (bdR vars r) (bg vars a.terms) 0).2 (dl vars t.var) (jG.2 ⟨t,ht,rfl⟩) (by rw[cE h0 hm];omega)
 rw[cE h0 hm,jL]at h1
 exact h1
theorem ri(hs:eF vars r){a:At}(ha:a∈r.ats):eZ vars r a≤(bL r).length:=by
 unfold eZ
 rcases rj (bdR vars r) (bg vars a.terms) 0 with h|⟨v,hv,h1,h2⟩
 ·rw[h];omega
 ·rw[h2]
  obtain⟨t,ht,rfl⟩:=jG.1 hv
  have h0:t.var≠⟨#[]⟩:=fun e=>by
   unfold dl at h1
   rw[if_pos e]at h1
   omega
  rw[cE h0 (hs.at' a ha t ht h0),jL]
  exact(kW hs _ (bR (hs.at' a ha t ht h0))).2
theorem m8(hs:eF vars r)(k:Nat)(y z:List Vl)(h:∀v,v<vars.length→bdR vars r v≤k→y.getD v zv=z.getD v zv):iK M vars r k y=iK M vars r k z:=by
 unfold iK
 rw[Bool.eq_iff_iff,jM,jM]
 have key:∀a∈iM vars r k,cP vars y a.terms=cP vars z a.terms:=fun a ha=>by
  obtain⟨h1,h2⟩:=jC.1 ha
  have h3:=(jC.1 h1).1
  simp only[decide_eq_true_eq]at h2
  exact rowOf_agr (fun t ht h0=>h _ (bR (hs.at' a h3 t ht h0)) (by rw[←h2];exact(lastA_var hs h3 ht h0).2))
 exact⟨fun ⟨a,ha,h1⟩=>⟨a,ha,by rw[←key a ha];exact h1⟩,fun ⟨a,ha,h1⟩=>⟨a,ha,by rw[key a ha];exact h1⟩⟩
theorem rt(hs:eF vars r)(hr:∀a∈r.ats,∀x∈aS M a.rel,x.length=a.terms.length)(hn:∀a∈r.ats,(aS M a.rel).Nodup){y:List Vl}(hy:y.length=vars.length)(hf:fW M vars r y=false) :
  (cC (nP M vars r) y).1.Nodup∧∀z,z∈(cC (nP M vars r) y).1↔z.length=vars.length∧eO M vars r z:=by
 have h0:qj ([]:List Nat) 0 (fun _=>0):=fun v=>by simp
 have se:∀a∈bL r,a∈r.ats:=fun a ha=>(lm ha).1
 have sr:=rR (M:=M) (cds:=r.cds) (bad:=iK M vars r) (fun v hv=>(kW hs v hv).1) (fun k y z h=>m8 hs k y z h) (bL r) [] 0 (fun _=>0) h0 rfl (fun a ha=>hs.at' a (se a ha)) (fun a ha=>hr a (se a ha)) (fun a ha=>hn a (se a ha))
 obtain⟨-,h2,h3⟩:=sa (n:=vars.length) (nP M vars r) [] y sr (by simp) hy
 refine⟨h2,fun z=>?_⟩
 rw[h3 z]
 unfold nP
 rw[pt (bL r) [] 0 (fun a ha=>hs.at' a (se a ha)) (fun a ha=>hr a (se a ha))]
 have sq:iK M vars r 0 z=iK M vars r 0 y:=m8 hs 0 z y (fun v hv hk=>by have:=(kW hs v hv).1;omega)
 unfold fW at hf
 rw[Bool.or_eq_false_iff]at hf
 have sh:∀c∈r.cds,c.var≠⟨#[]⟩:=fun c hc e=>by
  have:=List.any_eq_false.1 hf.2 c hc
  simp[e]at this
 have sj:(∀j,0<j→j≤0+(bL r).length→iK M vars r j z=false)↔∀a∈r.ats,a.neg=true→da (aS M a.rel) (cP vars z a.terms)=false:=by
  constructor
  ·intro h a ha sg
   have sp:a∈iM vars r (eZ vars r a):=jC.2 ⟨jC.2 ⟨ha,sg⟩,by simp⟩
   have si:iK M vars r (eZ vars r a) z=false:=by
    rcases Nat.eq_zero_or_pos (eZ vars r a) with e|e
    ·rw[e,sq];exact hf.1
    ·exact h _ e (by have:=ri hs ha;omega)
   have:=List.any_eq_false.1 si a sp
   simpa using this
  ·intro h j _ _
   unfold iK
   rw[List.any_eq_false]
   intro a ha
   obtain⟨h1,-⟩:=jC.1 ha
   obtain⟨h4,h5⟩:=jC.1 h1
   rw[h a h4 h5]
   simp
 rw[sj]
 unfold eO
 constructor
 ·rintro⟨k1,-,k2,k3,k4⟩
  refine⟨k1,fun a ha=>?_,fun c hc=>⟨sh c hc,?_⟩⟩
  ·rcases sg:a.neg with _|_
   ·exact fA.2 (k2 a (jC.2 ⟨ha,by simp[sg]⟩))
   ·exact k4 a ha sg
  ·have hm:=hs.cd c hc (sh c hc)
   obtain⟨a,ha,t,ht,e⟩:=hs.bd _ hm
   exact k3 (posN vars c.var) ((pJ _ _ (fun b hb=>hs.at' b (se b hb)) _).2 (.inr ⟨a,ha,t,ht,by rw[e];exact sh c hc,by rw[e]⟩)) (by simp) c (jC.2 ⟨hc,by simp[cE (sh c hc) hm]⟩)
 ·rintro⟨k1,k2,k3⟩
  refine⟨k1,fun i hi=>by simp at hi,fun a ha=>?_,fun v _ _ c hc=>?_,fun a ha sg=>?_⟩
  ·have:=k2 a (se a ha)
   rw[(lm ha).2]at this
   exact fA.1 this
  ·obtain⟨h1,h2⟩:=jC.1 hc
   simp only[decide_eq_true_eq]at h2
   obtain⟨-,-,e⟩:=mL (fun h=>hs.cd c h1 h) h2
   have:=(k3 c h1).2
   rw[e]at this
   exact this
  ·rw[k2 a ha,sg]
   rfl
theorem nG(hs:eF vars r){y:List Vl}(hf:fW M vars r y=true)(z:List Vl):¬eO M vars r z:=by
 rintro⟨k1,k2⟩
 unfold fW at hf
 rw[Bool.or_eq_true]at hf
 rcases hf with hf|hf
 ·rw[m8 hs 0 y z (fun v hv hk=>by have:=(kW hs v hv).1;omega)]at hf
  obtain⟨a,ha,h1⟩:=jM.1 hf
  obtain⟨h2,-⟩:=jC.1 ha
  obtain⟨h3,h4⟩:=jC.1 h2
  have:=k1 a h3
  rw[h1,h4]at this
  cases this
 ·obtain⟨c,hc,h1⟩:=jM.1 hf
  exact(k2 c hc).1 (by simpa using h1)
end
end Go.Proofs.YtplldnnnhgnbjaaGreatDoor
