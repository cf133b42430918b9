/- packed -/
import Derived.Test.YtplldnnnhgnbjaaGreatDoorMv18
import Derived.Test.YtplldnnnhgnbjaaGreatDoorMv07
import Derived.Test.YtplldnnnhgnbjaaGreatDoorMv14
import Derived.Test.YtplldnnnhgnbjaaGreatDoorMv10
set_option maxRecDepth 20000
set_option maxHeartbeats 3200000
namespace Go.Proofs.YtplldnnnhgnbjaaGreatDoor
open Go.RowKit Go.Maps
def bW(l:List ByteArray)(s:ByteArray):Int:=if s∈l then ((l.findIdx (fun x=>decide (x=s)):Nat):Int) else -1
theorem li{l:List ByteArray}{s:ByteArray}{i:Nat}(hi:i<l.length)(he:l[i]=s)(se:∀j (h:j<l.length),j<i→l[j]≠s):bW l s=(i:Int):=by
 have hm:s∈l:=by rw[←he];exact jf hi
 rw[bW,if_pos hm,(List.findIdx_eq hi).2 ⟨by simpa using he,fun j hj=>by simpa using se j (by omega) hj⟩]
def oH(l:List ByteArray)(s:ByteArray)(w:World)(e:Ending)(w':World):Prop:=e=.returned (.int .i64 (bW l s))∧w=w'
theorem qS{F:Nat→Prop}{w:World}{v:Value}{l:List ByteArray}{s:ByteArray}(h:Strs F w v l)(hl:l.length≤maxLen) :
    Calls Tryz.prog 59 #[v,.string s] w (oH l s w):=by
  unfold maxLen at hl
  obtain⟨A,c,rfl,hc,sg⟩:=h
  obtain⟨n,hn⟩:=sd l.length
  rw[←hn]at hc hl ⊢
  have HN:=zN hn;have sp:=zN sg
  clear hn sg
  go_enter Tryz.func59,Tryz.ntmps59
  go_wp2_with fail
  go_loopw [8] (fun q wr=>∃i:Nat,i≤n∧q=.int .i64 (i:Int)∧(∀j (h:j<l.length),j<i→l[j]≠s)∧wr=w) (fun q _=>n-(intOf q).toNat)
  case atStart=>exact⟨0,jn _,rfl,fun _ _ h=>absurd h (by omega),rfl⟩
  case round =>
    obtain⟨i,hi,rfl,sh,rfl⟩:=hrel
    have se:=zN sh
    clear sh
    by_cases hlt:i<n
    · have i1:(0:Int)≤(i:Int):=by omega
      have i2:(i:Int)<(n:Int):=by omega
      have si:i<l.length:=by have:=HN.out;omega
      obtain⟨ad,rfl,-,c0⟩:=sp.out.str si
      by_cases he:l[i]=s
      · have HR:Hid ((i:Int)=bW l s):=zN (li si he (fun j h hj=>se.out j h hj)).symm
        rw[he]at c0
        clear he
        go_wp2_with fail
        go_ret
        exact(show oH l s wr (.returned (.int .i64 (i:Int))) wr from ⟨by rw[←HR.out],rfl⟩)
      · have sj:¬s.toList=l[i].toList:=fun e=>he (dX e).symm
        obtain⟨x,hx⟩:=sd (l[i])
        rw[←hx]at c0 sj
        have sq:(s.toList == x.toList)=false:=by simp[sj]
        have HE:=zN he
        clear he hx
        go_wp2_with fail
        all_goals first
          | contradiction
          | (go_roundw
             case rel =>
               refine⟨i+1,by omega,by go_num,fun j hj su=>?_,trivial⟩
               rcases jz j i with h|h
               · exact se.out j hj h
               · obtain rfl:j=i:=by omega
                 exact HE.out
             case measure=>simp[intOf];omega)
    · obtain rfl:i=n:=by omega
      have sr:¬(i:Int)<(i:Int):=by omega
      have HR:Hid (s ∉ l):=zN (fun hm=>by
        obtain⟨j,hj,e⟩:=jx hm
        exact se.out j hj (by have:=HN.out;omega) e)
      go_wp2_with fail
      go_ret
      exact(show oH l s wr (.returned (.int .i64 (-1))) wr from ⟨by rw[bW,if_neg HR.out],rfl⟩)
def aC(vars head:List ByteArray):List Int:=head.map (bW vars)
theorem ib:(Tryz.prog.info? 3).map (fun i=>(i.zero,i.size,i.bytes))=some (some (.int .i64 0),1,8):=by kernel_rfl
theorem mr{F G:Nat→Prop}{w:World}{A B:Option Addr}{n c m d:Nat}{vars head:List ByteArray}(hV:Strs F w (.slice A n c) vars)(hH:Strs G w (.slice B m d) head)(hn:vars.length≤1000000)(hm:m≤1000000) :
  Calls Tryz.prog 47 #[.slice A n c,.slice B m d] w (Ret (fun x w'=>w'.ownsRow w.heap.size 3 1 x m ((aC vars head).map I64)) w):=by
 have HV:=zN (fun (V:World) (hX:Ext w V) (s:ByteArray)=>qS (s:=s) (hV.ext hX) (by unfold maxLen;omega))
 obtain⟨B',d',e,-,sq⟩:=hH
 injection e with e1 e2 e3
 subst e1
 have sA:=zN sq;have HM:=zN e2
 clear hV sq e2 e3
 obtain⟨i0,su,sw,sx,sy⟩:=info_parts ib
 have se:=zN (And.intro su (And.intro sw (And.intro sx sy)));clear su sw sx sy
 go_enter Tryz.func47,Tryz.ntmps47
 go_wp2_with fail
 go_loopw [5,10] (fun v q wr=>∃(j:Nat) (P:Option Addr) (cp:Nat),j≤m∧q=.int .i64 (j:Int)∧v=.slice P j cp∧Hid (wr.ownsRow w.heap.size 3 1 (.slice P j cp) j ((aC vars (head.take j)).map I64))∧Hid (Ext w wr)) (fun _ q _=>m-(intOf q).toNat)
 case atStart=>exact⟨0,none,0,jn _,rfl,rfl,zN (by simpa [aC] using World.ownsRow_nil _ _ _ _),zN (Ext.refl w)⟩
 case round =>
  obtain⟨j,P,cp,hj,rfl,rfl,si,HX⟩:=hrel
  obtain⟨W,rfl⟩:∃W:World,W=wr:=⟨_,rfl⟩
  by_cases hlt:j<m
  ·have i1:(0:Int)≤(j:Int):=by omega
   have i2:(j:Int)<(m:Int):=by omega
   have sj:j<head.length:=by have:=HM.out;omega
   obtain⟨ad,rfl,-,c0⟩:=sA.out.str sj
   replace c0:=HX.out.cell c0
   have sg:(aC vars (head.take (j+1))).map I64=(aC vars (head.take j)).map I64++[.int .i64 (bW vars head[j])]:=by
    unfold aC
    rw[jj sj,jH,jH]
    rfl
   obtain⟨s,hs⟩:=sd (head[j])
   rw[←hs]at c0 sg
   obtain⟨r,hr⟩:=sd (bW vars s)
   have sh:=zN (HV.out W HX.out s)
   unfold oH at sh
   rw[←hr]at sh sg
   have sC:=zN sg
   have sF:w.heap.size≤W.heap.size:=HX.out.size
   clear hs hr sg sj
   go_wp2_with fail
   refine sh.out.mono ?_
   rintro e w2 ⟨rfl,rfl⟩
   clear c0
   go_wp2_with (first|(at_builtin;refine aq rfl _ _ 63 rfl w.heap.size 3 i0 (.int .i64 0) 1 8 Tryz.underlying63 se.out.1 se.out.2.1 se.out.2.2.1 se.out.2.2.2 rfl (by omega) (.slice P j cp) j ((aC vars (head.take j)).map I64) rfl (si.out.alloc _) ⟨W.heap.size,0,none⟩ 1 1 [.int .i64 r] rfl rfl (aE W _ _) (by simp[Value.oneCell']) (by simp only[maxLen];omega) (by omega) (by simp;omega) ?_;intro v3 w3 sp sr sE;obtain⟨P3,c3,rfl⟩:=af sp;have sB:=zN sp;have sD:=zN ((HX.out.alloc _).grown sr (fun k hk=>(si.out.lt k hk).1));clear sp sr sE))
   go_roundw
   case rel=>exact⟨j+1,P3,c3,by omega,by go_num,rfl,zN (by rw[sC.out];exact sB.out),sD⟩
   case measure=>simp[intOf];omega
  ·obtain rfl:j=m:=by omega
   have sG:¬(j:Int)<(j:Int):=by omega
   have HQ:Hid (W.ownsRow w.heap.size 3 1 (.slice P j cp) j ((aC vars head).map I64)):=zN (by have h:=si.out;rw[jp (by have:=HM.out;omega)]at h;exact h)
   go_wp2_with fail
   go_ret
   exact Ret.mk HX.out HQ.out
end Go.Proofs.YtplldnnnhgnbjaaGreatDoor
namespace Go.Proofs.YtplldnnnhgnbjaaGreatDoor
open Go.RowKit Go.Maps
theorem rp{w:World}{b b' size n:Nat}{e:TypeId}{v:Value}{xs:List Value}(h:w.ownsRow b e size v n xs)(hb:b'≤b):w.ownsRow b' e size v n xs:=by
 obtain⟨h1,h2⟩:=h
 refine⟨h1,?_⟩
 rcases h2 with h2|⟨g,cap,se,h3,h4,h5⟩
 ·exact .inl h2
 ·exact .inr ⟨g,cap,se,h3,jr hb h4,h5⟩
def NegPost(F:Nat→Prop)(x:En)(zs:List Int)(ts:List Tm)(w:World)(e:Ending)(w':World):Prop :=
 Ext w w'∧∃A c u v,e=.returned (.agg #[.int .i64 x.rel.ar,.slice A x.rel.rows.length c,u,v])∧Sl aG F w' (.slice A x.rel.rows.length c) x.rel.rows∧w'.ownsRow w.heap.size 3 1 u ts.length (zs.map I64)∧w'.ownsRow w.heap.size 51 3 v ts.length (au (ts.map Tm.vl))
theorem newneg_any{F G:Nat→Prop}{w:World}{b n b2 n2 d:Nat}{m:Dm}{ng:Bool}{rl:ByteArray}{B:Option Addr}{ts:List Tm}{x:En}{f:ByteArray→Option Value}{num:ByteArray→Int}(hD:DbB F w b n m)(hm:m rl=some x)(tW:rl.size≤maxLen)(tD:Cl G w B (dM ts))(hl:ts.length≤1000)(hN:aI w b2 n2 f)(hf:∀t∈ts,t.var.size≤maxLen∧(f t.var).getD (.int .i64 0)=.int .i64 (num t.var)) :
  Calls Tryz.prog 184 #[.agg #[.bool ng,.string rl,.slice B ts.length d],.agg #[.map (some b)],.map (some b2)] w (NegPost F x (ts.map (fun t=>num t.var)) ts w):=by
 obtain⟨nt,sQ⟩:=sd ts.length
 obtain⟨ra,tf⟩:=sd x.rel.ar
 obtain⟨nr,tc⟩:=sd x.rel.rows.length
 have sV:=zN (fun (V:World) (hV:Ext w V)=>(gp (s:=rl) ((hD.mono (G:=fun k=>F k∧k<w.heap.size) (fun k h1 h2=>⟨h2,h1⟩)).ext hV) tW).mono (R':=fun e w'=>Ext V w'∧∃A c,e=.returned (.tuple #[.agg #[.int .i64 ra,.slice A nr c],.bool true])∧Sl aG (fun k=>F k∧k<w.heap.size) w' (.slice A nr c) x.rel.rows) (by
  rintro e w' ⟨he,⟨h0,-⟩|⟨y,A,c,h0,rfl,tR⟩⟩
  ·rw[hm]at h0
   cases h0
  ·rw[hm]at h0
   injection h0 with h0
   subst h0
   rw[tf,tc]
   exact⟨he,A,c,rfl,tR⟩))
 have HQ:=zN (fun (V:World) (A:Option Addr) (c:Nat) (u v:Value) (h0:Ext w V) (h1:Sl aG F V (.slice A nr c) x.rel.rows) (h2:V.ownsRow w.heap.size 3 1 u nt ((ts.map (fun t=>num t.var)).map I64)) (h3:V.ownsRow w.heap.size 51 3 v nt (au (ts.map Tm.vl)))=>(show NegPost F x (ts.map (fun t=>num t.var)) ts w (.returned (.agg #[.int .i64 ra,.slice A nr c,u,v])) V by
  subst tf tc sQ
  exact⟨h0,A,c,u,v,rfl,h1,h2,h3⟩))
 rw[←sQ]at hl ⊢
 have tq:=zN sQ;have tI:=zN tD;have HN:=zN hN;have HF:=zN hf
 have hx:=((((Ext.refl w).alloc (.cells #[.bool ng,.string rl,.slice B nt d] 49)).alloc (.cells #[.map (some b)] 33)).alloc (.cells #[.int .i64 0,.slice none 0 0,.slice none 0 0,.slice none 0 0] 220))
 have k3:=dN w 49 33 220 [.bool ng,.string rl,.slice B nt d] [.map (some b)] [.int .i64 0,.slice none 0 0,.slice none 0 0,.slice none 0 0]
 clear sQ tf tc hD hm tD hN hf
 obtain⟨i0,sB,sC,si,sD⟩:=info_parts ib
 have sG:=zN (And.intro sB (And.intro sC (And.intro si sD)));clear sB sC si sD
 obtain⟨j0,sB,sC,si,sD⟩:=info_parts ic
 have sH:=zN (And.intro sB (And.intro sC (And.intro si sD)));clear sB sC si sD
 go_enter Tryz.func184,Tryz.ntmps184
 go_upto_region 1 with fail
 change Bk (((w.alloc (.cells #[.bool ng,.string rl,.slice B nt d] 49)).alloc (.cells #[.map (some b)] 33)).alloc (.cells #[.int .i64 0,.slice none 0 0,.slice none 0 0,.slice none 0 0] 220)) _ _ _∧Bk (((w.alloc (.cells #[.bool ng,.string rl,.slice B nt d] 49)).alloc (.cells #[.map (some b)] 33)).alloc (.cells #[.int .i64 0,.slice none 0 0,.slice none 0 0,.slice none 0 0] 220)) _ _ _∧Bk (((w.alloc (.cells #[.bool ng,.string rl,.slice B nt d] 49)).alloc (.cells #[.map (some b)] 33)).alloc (.cells #[.int .i64 0,.slice none 0 0,.slice none 0 0,.slice none 0 0] 220)) _ _ _ at k3
 generalize (((w.alloc (.cells #[.bool ng,.string rl,.slice B nt d] 49)).alloc (.cells #[.map (some b)] 33)).alloc (.cells #[.int .i64 0,.slice none 0 0,.slice none 0 0,.slice none 0 0] 220))=w1 at *
 obtain⟨ka,kd,kr⟩:=k3
 have a1:=ka.c1
 have d0:=kd.c0
 have tC:=zN hx;have tj:=zN ka;have tn:=zN kr
 clear hx ka kd kr
 go_wp2_with fail
 refine(sV.out _ tC.out).mono ?_
 rintro e w2 ⟨sN,A,c,rfl,tF⟩
 have tP:=zN (tC.out.trans sN);have su:=zN (tj.out.ext sN);have sp:=zN (tn.out.ext sN);have tz:=zN tF
 have a2:=su.out.c2
 have tU:=sp.out.lt
 clear sN tF a1 d0
 go_upto_region 3 with fail
 have k2:=bH w2 179 220 [.int .i64 ra,.slice A nr c] [.int .i64 ra,.slice A nr c,.slice none 0 0,.slice none 0 0]
 change Bk ((w2.alloc (.cells #[.int .i64 ra,.slice A nr c] 179)).alloc (.cells #[.int .i64 ra,.slice A nr c,.slice none 0 0,.slice none 0 0] 220)) _ _ _∧Bk ((w2.alloc (.cells #[.int .i64 ra,.slice A nr c] 179)).alloc (.cells #[.int .i64 ra,.slice A nr c,.slice none 0 0,.slice none 0 0] 220)) _ _ _ at k2
 have hx5:Ext w2 ((w2.alloc (.cells #[.int .i64 ra,.slice A nr c] 179)).alloc (.cells #[.int .i64 ra,.slice A nr c,.slice none 0 0,.slice none 0 0] 220)):=((Ext.refl w2).alloc _).alloc _
 generalize ((w2.alloc (.cells #[.int .i64 ra,.slice A nr c] 179)).alloc (.cells #[.int .i64 ra,.slice A nr c,.slice none 0 0,.slice none 0 0] 220))=w5 at *
 obtain⟨-,kn⟩:=k2
 obtain⟨g,hg⟩:=sd (w2.heap.size+1)
 rw[←hg]at kn ⊢
 have tQ:w.heap.size+1+1<g:=by omega
 have uc:g<w5.heap.size:=kn.lt
 have tN:=zN kn;have sZ:=zN (tP.out.trans hx5);have sT:=zN (sp.out.ext hx5);have sW:=zN (tz.out.ext hx5)
 replace a2:=hx5.cell a2
 clear kn hx5 hg tU tz tj su tn sp
 go_wp2_with fail
 clear a2
 go_loopw [24] (fun t wr=>∃(j:Nat) (u v:Value),j≤nt∧t=.int .i64 (j:Int)∧Hid (Bk wr g 220 [.int .i64 ra,.slice A nr c,u,v])∧Hid (wr.ownsRow w5.heap.size 3 1 u j (((ts.take j).map (fun t=>num t.var)).map I64))∧Hid (wr.ownsRow w5.heap.size 51 3 v j (au ((ts.take j).map Tm.vl)))∧Hid (Fr (fun b=>b=g) w5 wr)) (fun t _=>nt-(intOf t).toNat)
 case atStart=>exact⟨0,_,_,jn _,rfl,tN,zN (World.ownsRow_nil _ _ _ _),zN (World.ownsRow_nil _ _ _ _),zN (Fr.refl _ _)⟩
 case round =>
  obtain⟨j,u,v,hj,rfl,HB,HU,HV,sr⟩:=hrel
  obtain⟨W,rfl⟩:∃W:World,W=wr:=⟨_,rfl⟩
  obtain⟨Au,cu,rfl⟩:=af HU.out
  obtain⟨Av,cv,rfl⟩:=af HV.out
  have sq:=zN (sr.out.new sZ.out (fun b hb=>by omega))
  have tX:w5.heap.size≤W.heap.size:=sr.out.size
  have y0:=HB.out.c0;have y1:=HB.out.c1;have y2:=HB.out.c2;have y3:=HB.out.c3
  by_cases hjl:j<nt
  ·have j1:(0:Int)≤(j:Int):=by omega
   have j2:(j:Int)<(nt:Int):=by omega
   have sP:j<ts.length:=by have:=tq.out;omega
   obtain⟨ua,rfl,-,e0,e1,e2,e3⟩:=tI.out.term sP
   replace e0:=sq.out.cell e0;replace e1:=sq.out.cell e1;replace e2:=sq.out.cell e2;replace e3:=sq.out.cell e3
   have sR:ts.take (j+1)=ts.take j++[ts[j]]:=jj sP
   obtain⟨si,sg⟩:=HF.out _ (jf sP)
   obtain⟨t,ht⟩:=sd (ts[j])
   rw[←ht]at e0 e1 e2 e3 sR si sg
   obtain⟨tv,tk,ti,sj⟩:=t
   simp only at e0 e1 e2 e3 si sg
   obtain⟨xv,tg⟩:=sd (num tv)
   rw[←tg]at sg
   have sX:Hid (((ts.take (j+1)).map (fun t=>num t.var)).map I64=((ts.take j).map (fun t=>num t.var)).map I64++[.int .i64 xv]):=zN (by rw[sR,jH,jH,tg];rfl)
   have sY:Hid (au ((ts.take (j+1)).map Tm.vl)=au ((ts.take j).map Tm.vl)++[.int .i64 tk,.int .i64 ti,.string sj]):=zN (by rw[sR,jH];exact vcells_app _ _)
   have sS:=zN sg
   clear sR ht sg tg sP y0 y1 y3
   go_upto_region 6 with fail
   have kt:=Bk.new W 132 [.string tv,.int .i64 tk,.int .i64 ti,.string sj]
   change Bk (W.alloc (.cells #[.string tv,.int .i64 tk,.int .i64 ti,.string sj] 132)) _ _ _ at kt
   have hx6:Ext W (W.alloc (.cells #[.string tv,.int .i64 tk,.int .i64 ti,.string sj] 132)):=(Ext.refl W).alloc _
   generalize (W.alloc (.cells #[.string tv,.int .i64 tk,.int .i64 ti,.string sj] 132))=W2 at *
   have t0:=kt.c0
   replace y2:=hx6.cell y2
   have th:=zN (HB.out.ext hx6);have sx:=zN (aD HU.out hx6);have tA:=zN (aD HV.out hx6);have tJ:=zN (sr.out.ext hx6);have tp:=zN kt
   have tO:=zN (HN.out.ext (sq.out.trans hx6))
   have tY:W.heap.size<W2.heap.size:=kt.lt
   clear kt hx6 e0 e1 e2 e3
   go_upto_region 7 with (first
    | (refine ao rfl _ _ 145 3 rfl Tryz.underlying145 (.int .i64 0) (aO _) b2 n2 f rfl tO.out tv rfl si (.int .i64 xv) sS.out ?_)
    | (at_builtin;refine aq rfl _ _ 63 rfl w5.heap.size 3 i0 (.int .i64 0) 1 8 Tryz.underlying63 sG.out.1 sG.out.2.1 sG.out.2.2.1 sG.out.2.2.2 rfl (by omega) (.slice Au j cu) j (((ts.take j).map (fun t=>num t.var)).map I64) rfl (sx.out.alloc _) ⟨W2.heap.size,0,none⟩ 1 1 [.int .i64 xv] rfl rfl (aE W2 _ _) (by simp[Value.oneCell']) (by simp only[maxLen];omega) (by omega) (by simp;omega) ?_;intro v9 w9 te sA tT;obtain⟨A9,c9,rfl⟩:=af te;have sh:=(Ext.refl W2).alloc (.cells #[.int .i64 xv] 3);have sM:Bk w9 g 220 [.int .i64 ra,.slice A nr c,.slice Au j cu,.slice Av j cv]:=Bk.fr (th.out.ext sh) (am sA) (fun e=>aQ sx.out th.out (by decide) e rfl);have sU:Hid (Bk w9 W.heap.size 132 [.string tv,.int .i64 tk,.int .i64 ti,.string sj]):=zN (Bk.fr (tp.out.ext sh) (am sA) (fun e=>aQ sx.out tp.out (by decide) e rfl));have tB:Hid (w9.ownsRow w5.heap.size 51 3 (.slice Av j cv) j (au ((ts.take j).map Tm.vl))):=zN (bo (aD tA.out sh) (am sA) (fun q hq e=>nN sx.out tA.out (by decide) e hq));have q9:=sM.c2;have f9:=sM.free 2;have tH:=zN sM;have tu:=zN te;have tL:=zN ((tJ.out.ext sh).grown sA (fun b hb=>.inr (aw sx.out hb)));clear te sA tT sh sM))
   have sy:Fr (fun b=>b=g) w9 (w9.setCell ⟨g,2,none⟩ (.slice A9 (j+1) c9)):=(Fr.refl (fun b=>b=g) w9).setCell (p:=⟨g,2,none⟩) (.inl rfl) _
   have sE:=zN (tH.out.set 2 (.slice A9 (j+1) c9))
   have tM:=zN (tL.out.trans sy)
   have tw:=zN (bo tu.out sy (fun b hb e=>by have:=aw tu.out hb;omega))
   have sK:=zN (bo tB.out sy (fun b hb e=>by have:=aw tB.out hb;omega))
   have sI:=zN (sU.out.fr sy (by omega))
   clear sy q9 f9 t0 y2
   generalize (w9.setCell ⟨g,2,none⟩ (.slice A9 (j+1) c9))=W3 at *
   have m3:=sE.out.c3;have mf:=sE.out.free 3
   have s1:=sI.out.c1;have s2:=sI.out.c2;have s3:=sI.out.c3
   try simp at m3 s1 s2 s3
   have tZ:W.heap.size<W3.heap.size:=sI.out.lt
   go_wp2_with (first
    | (at_builtin;refine aq rfl _ _ 73 rfl w5.heap.size 51 j0 (.agg #[.int .i64 0,.int .i64 0,.string ⟨#[]⟩]) 3 32 Tryz.underlying73 sH.out.1 sH.out.2.1 sH.out.2.2.1 sH.out.2.2.2 rfl (by omega) (.slice Av j cv) j (au ((ts.take j).map Tm.vl)) rfl (sK.out.alloc _) ⟨W3.heap.size,0,none⟩ 1 1 [.int .i64 tk,.int .i64 ti,.string sj] rfl rfl (aE W3 _ _) (by simp[Value.oneCell']) (by simp only[maxLen];omega) (by omega) (by simp;omega) ?_;intro v8 w8 td sO tS;obtain⟨A8,c8,rfl⟩:=af td;have sh:=(Ext.refl W3).alloc (.cells #[.int .i64 tk,.int .i64 ti,.string sj] 51);have sL:Bk w8 g 220 [.int .i64 ra,.slice A nr c,.slice A9 (j+1) c9,.slice Av j cv]:=Bk.fr (sE.out.ext sh) (am sO) (fun e=>aQ sK.out sE.out (by decide) e rfl);have sw:Hid (w8.ownsRow w5.heap.size 3 1 (.slice A9 (j+1) c9) (j+1) (((ts.take j).map (fun t=>num t.var)).map I64++[.int .i64 xv])):=zN (bo (aD tw.out sh) (am sO) (fun q hq e=>nN sK.out tw.out (by decide) e hq));have q8:=sL.c3;have f8:=sL.free 3;have tG:=zN sL;have tt:=zN td;have tK:=zN ((tM.out.ext sh).grown sO (fun b hb=>.inr (aw sK.out hb)));clear td sO tS sh sL))
   go_roundw
   case rel =>
    have ta:Fr (fun b=>b=g) w8 (w8.setCell ⟨g,3,none⟩ (.slice A8 (j+1) c8)):=(Fr.refl (fun b=>b=g) w8).setCell (p:=⟨g,3,none⟩) (.inl rfl) _
    refine⟨j+1,.slice A9 (j+1) c9,.slice A8 (j+1) c8,by omega,by go_num,zN (tG.out.set 3 (.slice A8 (j+1) c8)),zN ?_,zN ?_,zN (tK.out.trans ta)⟩
    ·rw[sX.out]
     exact bo sw.out ta (fun b hb e=>by have:=aw sw.out hb;omega)
    ·rw[sY.out]
     exact bo tt.out ta (fun b hb e=>by have:=aw tt.out hb;omega)
   case measure=>simp[intOf];omega
  ·obtain rfl:j=nt:=by omega
   have ub:¬(j:Int)<(j:Int):=by omega
   have et:ts.take j=ts:=jp (by have:=tq.out;omega)
   rw[et]at HU HV
   clear et
   have se:=zN (sT.out.fr sr.out (by omega))
   obtain⟨r,hr⟩:=sd (w.heap.size+1+1)
   rw[←hr]at se tQ ⊢
   have ud:w.heap.size≤r:=by omega
   have z0:=se.out.c0;have z1:=se.out.c1;have z2:=se.out.c2;have z3:=se.out.c3
   have f0:=se.out.free 0;have f1:=se.out.free 1;have f2:=se.out.free 2;have f3:=se.out.free 3
   have kz:Bk ((((W.setCell ⟨r,0,none⟩ (.int .i64 ra)).setCell ⟨r,1,none⟩ (.slice A nr c)).setCell ⟨r,2,none⟩ (.slice Au j cu)).setCell ⟨r,3,none⟩ (.slice Av j cv)) r 220 [.int .i64 ra,.slice A nr c,.slice Au j cu,.slice Av j cv]:=(((se.out.set 0 _).set 1 _).set 2 _).set 3 _
   have tE:Fr (fun k=>k=r) W ((((W.setCell ⟨r,0,none⟩ (.int .i64 ra)).setCell ⟨r,1,none⟩ (.slice A nr c)).setCell ⟨r,2,none⟩ (.slice Au j cu)).setCell ⟨r,3,none⟩ (.slice Av j cv)):=((((Fr.refl (fun k=>k=r) W).setCell (p:=⟨r,0,none⟩) (.inl rfl) _).setCell (p:=⟨r,1,none⟩) (.inl rfl) _).setCell (p:=⟨r,2,none⟩) (.inl rfl) _).setCell (p:=⟨r,3,none⟩) (.inl rfl) _
   have sJ:=zN kz;have sF:=zN tE
   clear kz tE hr
   go_wp2_with fail
   generalize ((((W.setCell ⟨r,0,none⟩ (.int .i64 ra)).setCell ⟨r,1,none⟩ (.slice A nr c)).setCell ⟨r,2,none⟩ (.slice Au j cu)).setCell ⟨r,3,none⟩ (.slice Av j cv))=wz at *
   have x0:=sJ.out.c0;have x1:=sJ.out.c1;have x2:=sJ.out.c2;have x3:=sJ.out.c3
   exact bodyPost_ret (v:=.agg #[.int .i64 ra,.slice A nr c,.slice Au j cu,.slice Av j cv]) (by simp[results,Tryz.results184,go_sem,x0,x1,x2,x3]) rfl (HQ.out wz A c _ _ (sF.out.new sq.out (fun k hk=>by omega)) (((sW.out.fr sr.out (fun k hk e=>by have:=hk.2;omega)).fr sF.out (fun k hk e=>by have:=hk.2;omega)).mono (by decide) (fun k _ hk=>hk.1)) (rp (bo HU.out sF.out (fun k hk e=>by have:=aw HU.out hk;omega)) (by have:=sZ.out.size;omega)) (rp (bo HV.out sF.out (fun k hk e=>by have:=aw HV.out hk;omega)) (by have:=sZ.out.size;omega)))
end Go.Proofs.YtplldnnnhgnbjaaGreatDoor
