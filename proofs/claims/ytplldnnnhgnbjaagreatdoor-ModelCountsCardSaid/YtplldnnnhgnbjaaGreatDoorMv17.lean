/- packed -/
import Derived.Test.YtplldnnnhgnbjaaGreatDoorMv15
set_option maxRecDepth 20000
set_option maxHeartbeats 3200000
namespace Go.Proofs.YtplldnnnhgnbjaaGreatDoor
open Go.RowKit Go.Maps
theorem grow_rows{w:World}{n:Nat}(hn:n≤1048576) :
  Calls Tryz.prog 259 #[.slice none 0 0,.int .i64 (n:Int)] w (Ret (fun x w'=>w'.ownsRow w.heap.size 74 1 x 0 []) w):=by
 by_cases h0:n=0
 ·subst h0
  go_enter Tryz.func259,Tryz.ntmps259
  go_wp2_with fail
  go_ret
  exact Ret.mk (Ext.refl _) (World.ownsRow_nil _ _ _ _)
 have hp : 0<n:=by omega
 have sC:(0:Int)<(n:Int):=by omega
 have sD:¬(n:Int)<0:=by omega
 clear h0
 obtain⟨i0,sw,sy,sE,su⟩:=info_parts fD
 obtain⟨W1,G,sh,sx,hG,sq,sr,sp⟩:∃(W1:World) (G:Nat) (sh:List Value),(∀ty,(Builtin.append_ #[38,3] ty #[.slice none 0 0,.int .i64 (n:Int)]).run Tryz.prog w=.ok (.slice (some ⟨w.heap.size,0,none⟩) n G) W1)∧n≤G∧G≤maxLen∧sh.length=G∧W1=w.drew.alloc (.cells sh.toArray 74):=by
  refine⟨_,grownCap w n 0 74,List.replicate n (.slice none 0 0)++List.replicate (grownCap w n 0 74-n) (.slice none 0 0),fun ty=>?_,grownCap_ge w n 0 74,grownCap_le_maxLen w n 0 74 (by unfold maxLen;omega),?_,rfl⟩
  ·have h:=Lib.run_append_grow_zeros w 38 3 ty 74 i0 _ .i64 .i64 Tryz.underlying38 Tryz.underlying3 sw sy none 0 0 [] (by simp[Builtin.firstCells]) n hp (by omega) (by omega) (by omega) (by rw[su];omega) (by rw[su];exact growslice_fits (by omega) (by omega))
   rw[jY,dU _ rfl,dU _ rfl,List.append_toArray,List.append_toArray,ze]at h
   exact h
  ·have:=grownCap_ge w n 0 74
   simp;omega
 have sg:W1.ownsRow w.heap.size 74 1 (.slice (some ⟨w.heap.size,0,none⟩) 0 G) 0 []:=by
  rw[sp]
  exact World.ownsRow_made w.drew sh.toArray G (jo _) sq (by simp[sr])
 have se:Ext w W1:=by rw[sp];exact(Ext.refl w).drew.alloc _
 have sj:=zN sg;have si:=zN se
 have sA:(0:Int)≤(G:Int):=by omega
 unfold maxLen at sq
 have sB:(G:Int)≤9223372036854775807:=by omega
 clear sp sr sg se
 go_enter Tryz.func259,Tryz.ntmps259
 go_wp2_with (first|(at_builtin;refine Lib.wpList_append_run _ rfl _ _ _ _ rfl _ _ rfl rfl _ _ (sx _) ?_))
 go_ret
 exact Ret.mk si.out sj.out
theorem mt{F G:Nat→Prop}{w:World}{g:Nat}{A B:Option Addr}{na ca nb cb:Nat}{us vs:List Value}(kb:Bk w g 38 [.slice A na ca,.slice B nb cb])(sw:Cl F w A us)(sx:Cl G w B vs)(e2:na=us.length)(e4:nb=vs.length)(sP:na≤ca)(sQ:nb≤cb)(h1:∀u∈us,u.oneCell'=true)(h2:∀u∈vs,u.oneCell'=true)(hs:na+nb≤1048576) :
  Calls Tryz.prog 224 #[.slice (some ⟨g,0,none⟩) 2 2] w (Ret (fun x w'=>w'.ownsRow w.heap.size 74 1 x (na+nb) (us++vs)) w):=by
 have sN:=zN e2;have sO:=zN e4;have sF:=zN sw;have sG:=zN sx;have sr:=zN kb
 have c0:=kb.c0;have c1:=kb.c1
 obtain⟨i0,sB,sC,sD,sE⟩:=info_parts fD
 have sg:=zN (And.intro sB (And.intro sC (And.intro sD sE)));clear sB sC sD sE
 have HL:Hid (us.length=na*1∧vs.length=nb*1):=zN ⟨by omega,by omega⟩;have sH:=zN h1;have sI:=zN h2
 clear e2 e4 sw sx kb h1 h2
 have k1:(0:Int)≤(na:Int):=by omega
 have k2:¬(na:Int)<0:=by omega
 have k3:¬(na:Int)+(nb:Int)<0:=by omega
 have hn:na+nb≤1048576:=hs
 go_enter Tryz.func224,Tryz.ntmps224
 go_wp2_with fail
 refine wp_loop_rounds 3 ?_
 rw[rounds_succ]
 go_wp2_with fail
 rw[rounds_succ]
 go_wp2_with fail
 rw[rounds_succ]
 go_wp2_with fail
 have se:=grow_rows (w:=w) hn
 rw[show ((na+nb:Nat):Int)=(na:Int)+(nb:Int) by omega]at se
 refine se.mono ?_
 rintro e w1 ⟨v1,rfl,he,sh⟩
 obtain⟨A1,n1,rfl⟩:=af sh
 replace c0:=he.cell c0;replace c1:=he.cell c1
 have si:=zN sh;have HX:=zN he
 clear se sh he
 go_wp2_with fail
 refine wp_loop_rounds 3 ?_
 rw[rounds_succ]
 go_wp2_with (first|(at_builtin;refine aH rfl _ _ 38 rfl w.heap.size 74 i0 (.slice none 0 0) 1 24 Tryz.underlying38 sg.out.1 sg.out.2.1 sg.out.2.2.1 sg.out.2.2.2 rfl (by omega) (.slice A1 0 n1) 0 [] rfl si.out A na ca us rfl HL.out.1 ((sF.out.ext HX.out).news) sH.out (by simp only[maxLen];omega) (by omega) HX.out.size ?_;intro v9 w9 sj sA sM;rw[jY,ze]at sj;obtain⟨A9,c9,rfl⟩:=af sj;have su:=zN sj;have hx9:Ext w w9:=HX.out.grown sA (fun q hq=>aw si.out hq);have b0:=(sr.out.ext hx9).c0;have b1:=(sr.out.ext hx9).c1;have sp:=zN hx9;clear sj sA sM hx9))
 rw[rounds_succ]
 go_wp2_with (first|(at_builtin;refine aH rfl _ _ 38 rfl w.heap.size 74 i0 (.slice none 0 0) 1 24 Tryz.underlying38 sg.out.1 sg.out.2.1 sg.out.2.2.1 sg.out.2.2.2 rfl (by omega) (.slice A9 na c9) na us rfl su.out B nb cb vs rfl HL.out.2 ((sG.out.ext sp.out).news) sI.out (by simp only[maxLen];omega) (by omega) sp.out.size ?_;intro v8 w8 sq sy sL;obtain⟨A8,c8,rfl⟩:=af sq;have sJ:=zN sq;have sK:Hid (Ext w w8):=zN (sp.out.grown sy (fun q hq=>aw su.out hq));clear sq sy sL))
 rw[rounds_succ]
 go_wp2_with fail
 go_ret
 exact Ret.mk sK.out sJ.out
theorem dP{F G:Nat→Prop}{w:World}{A B:Option Addr}{n c m d:Nat}{a:Int}{rows:List (List Vl)}{r:List Vl}(hS:SoR rows)(hA:Sl aG F w (.slice A n c) rows)(hB:Sl aM G w (.slice B m d) r)(hm:m≤1048576)(hr:∀x∈rows,x.length≤1048576)(hn:n≤1048576) :
  Calls Tryz.prog 165 #[.agg #[.int .i64 a,.slice A n c],.slice B m d] w (SrPost rows r w):=by
 have kb:=Bk.new w 179 [.int .i64 a,.slice A n c]
 have hx:Ext w (w.alloc (.cells #[.int .i64 a,.slice A n c] 179)):=(Ext.refl w).alloc _
 have HS:=zN (fun (V:World) (hV:Ext w V)=>rB hS (hA.ext hV) (hB.ext hV) hm hr hn)
 clear hS hA hB hr
 go_enter Tryz.func165,Tryz.ntmps165
 go_upto_region 1 with fail
 change Bk (w.alloc (.cells #[.int .i64 a,.slice A n c] 179)) _ _ _ at kb
 generalize (w.alloc (.cells #[.int .i64 a,.slice A n c] 179))=w1 at *
 have b1:=kb.c1
 have HX:=zN hx
 clear kb hx
 go_wp2_with fail
 refine(HS.out _ HX.out).mono ?_
 rintro e w2 ⟨se,rfl⟩
 have sg:=zN (HX.out.trans se)
 clear se b1
 go_wp2_with fail
 go_ret2
 exact⟨sg.out,rfl⟩
theorem len_any{w:World}{a:Int}{A:Option Addr}{n c:Nat} :
  Calls Tryz.prog 164 #[.agg #[.int .i64 a,.slice A n c]] w (Ret (fun x _=>x=.int .i64 (n:Int)) w):=by
 go_enter Tryz.func164,Tryz.ntmps164
 go_wp2_with fail
 go_ret
 exact Ret.mk ((Ext.refl w).alloc _) rfl
def fg(a:Int)(r:List Vl):Int:=if (r.length:Int)=a then (if qh r=true then 0 else 4) else 6
theorem mi{G:Nat→Prop}{w:World}{A B:Option Addr}{n c m d:Nat}{a:Int}{r:List Vl}(hB:Sl aM G w (.slice B m d) r)(hm:m≤1048576)(hz:∀v∈r,v.str.size≤maxLen) :
  Calls Tryz.prog 223 #[.agg #[.int .i64 a,.slice A n c],.slice B m d] w (Ret (fun x _=>x=.int .i64 (fg a r)) w):=by
 have sp:=hB.cap.1
 have kb:=Bk.new w 179 [.int .i64 a,.slice A n c]
 have hx:Ext w (w.alloc (.cells #[.int .i64 a,.slice A n c] 179)):=(Ext.refl w).alloc _
 have HV:=zN (fun (V:World) (hV:Ext w V)=>nW (hB.ext hV) hm hz)
 obtain⟨z,se⟩:=sd (fg a r)
 rw[←se]
 have HZ:=zN se;have sg:=zN sp
 clear hB hz se sp
 go_enter Tryz.func223,Tryz.ntmps223
 go_upto_region 1 with fail
 change Bk (w.alloc (.cells #[.int .i64 a,.slice A n c] 179)) _ _ _ at kb
 generalize (w.alloc (.cells #[.int .i64 a,.slice A n c] 179))=w1 at *
 have b0:=kb.c0
 have HX:=zN hx
 clear kb hx
 by_cases hma:(m:Int)=a
 ·have g1:((m:Int) != a)=false:=by simpa using hma
  have sh:=zN (HV.out w1 HX.out)
  obtain⟨b,hb⟩:=sd (qh r)
  rw[←hb]at sh
  have HQ:Hid (z=if b=true then 0 else 4):=zN (by rw[HZ.out,hb];unfold fg;rw[if_pos (by rw[←sg.out];exact hma)])
  clear hma hb
  go_wp2_with fail
  refine sh.out.mono ?_
  rintro e w2 ⟨y,rfl,sj,rfl⟩
  have si:=zN (HX.out.trans sj)
  clear sj b0
  rcases b with _|_
  ·go_wp2_with fail
   go_ret
   exact Ret.mk si.out (by rw[HQ.out];rfl)
  ·go_wp2_with fail
   go_ret
   exact Ret.mk si.out (by rw[HQ.out];rfl)
 ·have g1:((m:Int) != a)=true:=by simpa using hma
  have HQ:Hid (z=6):=zN (by rw[HZ.out];unfold fg;rw[if_neg (by rw[←sg.out];exact hma)])
  clear hma
  go_wp2_with fail
  go_ret
  exact Ret.mk HX.out (by rw[HQ.out];rfl)
def qn(n:Nat)(rows:List (List Vl))(w:World)(e:Ending)(w':World):Prop:=Ext w w'∧∃g us,w.heap.size<g∧e=.returned (.slice (some ⟨g,0,none⟩) n n)∧OwR (fun k=>g<k) w' g (.slice (some ⟨g,0,none⟩) n n) n us rows
theorem rA{F:Nat→Prop}{w:World}{A:Option Addr}{n c:Nat}{a:Int}{rows:List (List Vl)}(hA:Sl aG F w (.slice A n c) rows)(hr:∀x∈rows,x.length≤1048576)(hn:n≤1048576) :
  Calls Tryz.prog 111 #[.agg #[.int .i64 a,.slice A n c]] w (qn n rows w):=by
 have sO:=hA.cap.1
 have kb:=Bk.new w 179 [.int .i64 a,.slice A n c]
 have hx:Ext w (w.alloc (.cells #[.int .i64 a,.slice A n c] 179)):=(Ext.refl w).alloc _
 have HA:=zN hA;have HR:=zN hr;have sC:=zN sO
 obtain⟨p0,sR,hx0,hx1,hx2⟩:=info_parts fD
 clear hA hr sO
 go_enter Tryz.func111,Tryz.ntmps111
 go_upto_region 1 with fail
 change Bk (w.alloc (.cells #[.int .i64 a,.slice A n c] 179)) _ _ _ at kb
 generalize (w.alloc (.cells #[.int .i64 a,.slice A n c] 179))=w1 at *
 have b1:=kb.c1
 have sw:=kb.lt
 obtain⟨w2,sx,se,si⟩:=run_make_full (P:=Tryz.prog) w1 w1.heap.size 38 74 p0 (.slice none 0 0) 1 Tryz.underlying38 sR hx0 hx1 .i64 .i64 n (by rw[hx2];omega) (by simp only[maxLen];omega) (jo _)
 have sY:w1.heap.size<w2.heap.size:=by
  rcases se.2 with ⟨h0,-⟩|⟨g',sX,sg,e,hb,hc,-⟩
  ·cases h0
  ·injection e with e1
   injection e1 with e1
   injection e1 with e1
   have:=(jR.1 hc).1
   omega
 have sG:Ext w1 w2:=(Ext.refl w1).grown si (fun k hk=>by cases hk)
 obtain⟨sF,sh⟩:=sd ((madeCells (Value.cells (.slice none 0 0)) (n*1)).toList)
 rw[←sh]at se
 have sr:=zN se;have sW:=zN (hx.trans sG);have sB:=zN (kb.ext sG)
 obtain⟨g,hg⟩:=sd w1.heap.size
 rw[←hg]at sr sx sY sw
 have sV:=zN sw
 clear sR hx0 hx1 hx2 se si sG sh hg kb hx
 go_upto_region 2 with fail
 clear sx b1
 go_wp2_with fail
 go_loopw [11] (fun t wr=>∃(j:Nat) (sg:List Value),j≤n∧t=.int .i64 (j:Int)∧Hid (wr.ownsRow g 74 1 (.slice (some ⟨g,0,none⟩) n n) n sg)∧Hid (∀q (h:q<rows.length) (h':q<sg.length),q<j→Sl aM (fun k=>g<k) wr sg[q] rows[q])∧Fr (fun b=>b=g) w2 wr) (fun t _=>n-(intOf t).toNat)
 case atStart=>exact⟨0,sF,jn _,rfl,sr,zN (fun q h h' h0=>by omega),Fr.refl _ _⟩
 case round =>
  obtain⟨j,sg,hj,rfl,sy,sL,sq⟩:=hrel
  obtain⟨W3,rfl⟩:∃W:World,W=wr:=⟨_,rfl⟩
  have HF:=zN sq
  have sA:Ext w W3:=sq.new sW.out (fun b hb=>by omega)
  have sM:=zN sA
  have a1:=(sB.out.fr sq (by omega)).c1
  have ta:g<W3.heap.size:=by have:=sq.size;omega
  by_cases hlt:j<n
  ·have i1:(0:Int)≤(j:Int):=by omega
   have i2:(j:Int)<(n:Int):=by omega
   have sH:j<rows.length:=by have:=sC.out;omega
   obtain⟨ad,B,e,rfl,-,c0,sp⟩:=HA.out.row sH
   replace c0:=sA.cell c0
   have sj:=HR.out _ (jf sH)
   obtain⟨xr,sK⟩:=sd (rows[j]'sH)
   rw[←sK]at c0 sp sj
   have sE:=zN sK
   have HP:=zN (fun (V:World) (hV:Ext w V)=>iz (w:=V) (sp.ext hV) sj)
   obtain⟨⟨o0,p0⟩,f0⟩:=bt sy.out (i:=j) (by omega)
   obtain⟨nx,sP⟩:=sd xr.length
   rw[←sP]at c0 HP
   clear sp sj sP sK sq sA
   go_wp2_with fail
   refine(HP.out _ sM.out).mono ?_
   rintro e w5 ⟨y,rfl,su,A5,c5,rfl,hy⟩
   replace p0:=su.cell p0
   have sI:=aD sy.out su
   have f5:=(bt sI (i:=j) (by omega)).2
   have sS:=hy.mono (G:=fun k=>g<k) (by decide) (fun k _ hk=>by omega)
   have sN:=(HF.out.ext su).setCell (p:=⟨g,j,none⟩) (.inl rfl) (.slice A5 nx c5)
   have sQ:=bZ sI (i:=j) (by omega) (.slice A5 nx c5)
   have sJ:Fr (fun k=>k=g) w5 (w5.setCell ⟨g,j,none⟩ (.slice A5 nx c5)):=(Fr.refl (fun k=>k=g) w5).setCell (p:=⟨g,j,none⟩) (.inl rfl) _
   have sT:=zN sN;have sU:=zN sQ
   have sD:Hid (∀q (h:q<rows.length) (h':q<(sg.set j (.slice A5 nx c5)).length),q<j+1→Sl aM (fun k=>g<k) (w5.setCell ⟨g,j,none⟩ (.slice A5 nx c5)) (sg.set j (.slice A5 nx c5))[q] rows[q]):=zN (fun q h h' h0=>by
    by_cases hqj:q=j
    ·subst hqj
     rw[List.getElem_set_self,←sE.out]
     exact sS.fr sJ (fun k hk e=>by omega)
    ·rw[List.getElem_set_ne (fun e=>hqj e.symm)]
     exact((sL.out q h (by simpa using h') (by omega)).ext su).fr sJ (fun k hk e=>by omega))
   clear su sI hy sS sN sQ sJ f0 c0
   go_wp2_with fail
   go_roundw
   case rel=>exact⟨j+1,_,by omega,by go_num,sU,sD,sT.out⟩
   case measure=>simp[intOf];omega
  ·obtain rfl:j=n:=by omega
   have sZ:¬(j:Int)<(j:Int):=by omega
   have HQ:Hid (qn j rows w (.returned (.slice (some ⟨g,0,none⟩) j j)) W3):=zN ⟨sM.out,g,sg,sV.out,rfl,sy.out,by have:=sy.out.1;have:=sC.out;omega,fun q h h'=>(sL.out q h h' (by have:=sC.out;omega)).mono (by decide) (fun k _ hk=>⟨hk,fun e=>by
    have e2:g=k:=by injection e
    omega⟩)⟩
   clear sq sA a1
   go_wp2_with fail
   go_ret
   exact HQ.out
def nH(rows:List (List Vl))(x:List Vl):List (List Vl):=rows.take (lowR rows x)++x::rows.drop (lowR rows x)
theorem insR_mem{rows:List (List Vl)}{x r:List Vl}:r∈nH rows x↔r=x∨r∈rows:=by
 unfold nH
 rw[ju,jB]
 have h:r∈rows↔r∈rows.take (lowR rows x)∨r∈rows.drop (lowR rows x):=by
  rw[←ju,jX]
 rw[h]
 constructor
 ·rintro(h|h|h)
  ·exact .inr (.inl h)
  ·exact .inl h
  ·exact .inr (.inr h)
 ·rintro(h|h|h)
  ·exact .inr (.inl h)
  ·exact .inl h
  ·exact .inr (.inr h)
theorem insR_so{rows:List (List Vl)}{x:List Vl}(h:SoR rows)(hx:da rows x=false):SoR (nH rows x):=by
 obtain⟨h1,h2⟩:=iE (r:=x) h
 have h3:SoR (rows.take (lowR rows x)):=h.sublist (List.take_sublist _ _)
 have h4:SoR (rows.drop (lowR rows x)):=h.sublist (List.drop_sublist _ _)
 have h5:∀y∈rows.drop (lowR rows x),dh x y<0:=fun y hy=>by
  have h6:=h2 y hy
  have h7:dh y x≠0:=fun e=>by
   have:da rows x=true:=fA.2 ((bG.eq _ _).1 e ▸ List.mem_of_mem_drop hy)
   rw[hx]at this
   cases this
  have h8:=bG.anti y x
  omega
 unfold nH SoR
 rw[List.pairwise_append]
 refine⟨h3,zL.2 ⟨h5,h4⟩,fun a ha b hb=>?_⟩
 rcases jB.1 hb with rfl|hb
 ·exact h1 a ha
 ·exact bG.trans _ _ _ (h1 a ha) (h5 b hb)
theorem qX(rows:List (List Vl))(x:List Vl):(nH rows x).length=rows.length+1:=by
 have:=mK rows x
 unfold nH
 rw[jm,jD,jt,za]
 omega
theorem Sl.us{F:Nat→Prop}{w:World}{A:Option Addr}{n c:Nat}{rows:List (List Vl)}(h:Sl aG F w (.slice A n c) rows):∃us:List Value,us.length=rows.length∧Cl F w A us∧(∀u∈us,u.oneCell'=true)∧∀i (h:i<rows.length) (h':i<us.length),Sl aM F w us[i] rows[i]:=by
 obtain⟨A',c',e,hc,hh⟩:=h
 injection e with e1 e2 e3
 subst e1
 have key:∀k,k≤rows.length→∃us:List Value,us.length=k∧∀i (h':i<us.length),∃ad,A=some ad∧F ad.block∧w.cell? (ad.add i)=some us[i]∧∃hi:i<rows.length,Sl aM F w us[i] rows[i]:=by
  intro k
  induction k with
  | zero=>exact fun _=>⟨[],rfl,fun i h'=>by simp at h'⟩
  | succ k ih =>
   intro hk
   obtain⟨us,hl,hu⟩:=ih (by omega)
   obtain⟨ad,cs,rfl,hF,⟨u,rfl,sg⟩,h4⟩:=hh k (by omega)
   have h5:=h4 0 (by simp)
   have e:k*aG.sz+0=k:=by show k*1+0=k;omega
   rw[e]at h5
   refine⟨us++[u],by simp[hl],fun i h'=>?_⟩
   rcases jz i us.length with hx|hx
   ·rw[jw hx]
    exact hu i hx
   ·have e2:i=us.length:=by simp at h';omega
    subst e2
    rw[jv (jo _)]
    simp only[zm,ja,hl]
    exact⟨ad,rfl,hF,h5,by omega,sg⟩
 obtain⟨us,hl,hu⟩:=key rows.length (jo _)
 refine⟨us,hl,?_,fun u sh=>?_,fun i hi h'=>?_⟩
 ·rcases us with _|⟨u,l⟩
  ·exact .inl rfl
  ·obtain⟨ad,rfl,hF,-⟩:=hu 0 (by simp)
   refine .inr ⟨ad,rfl,hF,fun j hj=>?_⟩
   obtain⟨si,e,-,se,-⟩:=hu j hj
   injection e with e
   subst e
   exact se
 ·obtain⟨i,hi,rfl⟩:=jx sh
  obtain⟨-,-,-,-,hr,sg⟩:=hu i hi
  obtain⟨B,d,e⟩:=sg.sl
  rw[e]
  rfl
 ·obtain⟨-,-,-,-,hr,sg⟩:=hu i h'
  exact sg
theorem Sl.of_own{G:Nat→Prop}{w:World}{base n:Nat}{v:Value}{us:List Value}{rows:List (List Vl)}(h:w.ownsRow base 74 1 v n us)(hl:us.length=rows.length)(hg:∀k,base≤k→G k)(hr:∀i (h:i<rows.length) (h':i<us.length),Sl aM G w us[i] rows[i]):Sl aG G w v rows:=by
 have hn:n=us.length:=by have:=h.1;omega
 obtain⟨A,c,rfl,hc,sh⟩:=Cl.of_own h
 refine⟨A,c,by rw[hn,hl],by omega,fun i hi=>?_⟩
 have sg:i<us.length:=by omega
 obtain⟨ad,rfl,hk,se⟩:=sh.at' (j:=i) (jl sg)
 refine⟨ad,[us[i]],rfl,hg _ hk.2,⟨us[i],rfl,hr i hi sg⟩,fun j hj=>?_⟩
 obtain rfl:j=0:=by simp at hj;omega
 have e:i*aG.sz+0=i:=by show i*1+0=i;omega
 rw[e]
 exact se
abbrev zrel:Value:=.agg #[.int .i64 0,.slice none 0 0]
def InsPost(F:Nat→Prop)(a:Int)(A:Option Addr)(n c:Nat)(rows:List (List Vl))(x:List Vl)(w:World)(e:Ending)(w':World):Prop :=
 Ext w w'∧((fg a x≠0∧e=.returned (.tuple #[zrel,.bool false,.int .i64 (fg a x)]))∨(fg a x=0∧da rows x=true∧e=.returned (.tuple #[.agg #[.int .i64 a,.slice A n c],.bool false,.int .i64 0])) ∨
  (fg a x=0∧da rows x=false∧∃B d,e=.returned (.tuple #[.agg #[.int .i64 a,.slice (some B) (n+1) d],.bool true,.int .i64 0])∧Sl aG (fun k=>F k∨w.heap.size≤k) w' (.slice (some B) (n+1) d) (nH rows x)))
theorem insert_any{F G:Nat→Prop}{w:World}{A B:Option Addr}{n c m d:Nat}{a:Int}{rows:List (List Vl)}{x:List Vl}(hS:SoR rows)(hA:Sl aG F w (.slice A n c) rows)(sF:A=none→c=0)(hB:Sl aM G w (.slice B m d) x)(hm:m≤1048576)(hr:∀x∈rows,x.length≤1048576)(hn:n<65536)(hz:∀v∈x,v.str.size≤maxLen) :
  Calls Tryz.prog 166 #[.agg #[.int .i64 a,.slice A n c],.slice B m d] w (InsPost F a A n c rows x w):=by
 have tD:=hA.cap.1
 have k2:=bH w 179 179 [.int .i64 a,.slice A n c] [.int .i64 0,.slice none 0 0]
 have hx:Ext w ((w.alloc (.cells #[.int .i64 a,.slice A n c] 179)).alloc (.cells #[.int .i64 0,.slice none 0 0] 179)):=((Ext.refl w).alloc _).alloc _
 have tG:=zN (fun (V:World) (hV:Ext w V)=>mi (a:=a) (A:=A) (n:=n) (c:=c) (hB.ext hV) hm hz)
 have ud:=zN (fun (V:World) (hV:Ext w V)=>dP (a:=a) hS (hA.ext hV) (hB.ext hV) hm hr (by omega))
 have tX:=zN (fun (V:World) (hV:Ext w V)=>iz (hB.ext hV) hm)
 obtain⟨us,tT,sY,sA,sZ⟩:=hA.us
 have HS:=zN hS;have HA:=zN hA;have sM:=zN tD;have sQ:=zN tT;have tI:=zN sY;have tJ:=zN sA;have ue:=zN sZ
 obtain⟨ea,tA⟩:=sd (fg a x)
 rw[←tA]at tG
 have sI:=zN tA
 have sV:=mK rows x
 rw[←tD]at sV
 clear hS hA hB hr hz tD tT sY sA sZ tA
 go_enter Tryz.func166,Tryz.ntmps166
 go_upto_region 1 with fail
 change Bk ((w.alloc (.cells #[.int .i64 a,.slice A n c] 179)).alloc (.cells #[.int .i64 0,.slice none 0 0] 179)) _ _ _∧Bk ((w.alloc (.cells #[.int .i64 a,.slice A n c] 179)).alloc (.cells #[.int .i64 0,.slice none 0 0] 179)) _ _ _ at k2
 generalize ((w.alloc (.cells #[.int .i64 a,.slice A n c] 179)).alloc (.cells #[.int .i64 0,.slice none 0 0] 179))=w1 at *
 obtain⟨ka,kb⟩:=k2
 have a0:=ka.c0;have a1:=ka.c1
 have tZ:=zN ka;have ub:=zN kb;have HX:=zN hx
 clear ka kb hx
 go_wp2_with fail
 refine(tG.out _ HX.out).mono ?_
 rintro e w2 ⟨y,rfl,sJ,rfl⟩
 replace a0:=sJ.cell a0;replace a1:=sJ.cell a1
 have tu:=zN (HX.out.trans sJ);have ua:=zN (tZ.out.ext sJ);have si:=zN (ub.out.ext sJ)
 clear sJ
 by_cases h0:ea=0
 ·subst h0
  obtain⟨q,hq⟩:=sd (lowR rows x)
  obtain⟨fb,tB⟩:=sd (da rows x)
  have HQ:=zN hq;have ta:=zN tB
  rw[←hq]at sV
  go_wp2_with fail
  refine(ud.out _ tu.out).mono ?_
  rintro e w3 ⟨sT,rfl⟩
  rw[←hq,←tB]
  have sR:=zN (tu.out.trans sT);have sj:=zN (si.out.ext sT)
  replace a0:=sT.cell a0;replace a1:=sT.cell a1
  have b0:=sj.out.c0;have b1:=sj.out.c1
  have f0:=sj.out.free 0;have f1:=sj.out.free 1
  have sE:w.heap.size+1<w3.heap.size:=sj.out.lt
  clear sT hq tB
  rcases fb with _|_
  ·have un:decide ((65536:Int)≤(n:Int))=false:=decide_eq_false (by omega)
   clear b0 b1 f0 f1
   go_upto_region 9 with fail
   obtain⟨p0,tE,hx0,hx1,hx2⟩:=info_parts fD
   obtain⟨w4,sG,sX,sy⟩:=run_make_own (P:=Tryz.prog) w3 w3.heap.size 38 74 p0 (.slice none 0 0) 1 Tryz.underlying38 tE hx0 hx1 .i64 .i64 (n+1) (by rw[hx2];omega) (by simp only[maxLen];omega) (jo _)
   rw[show ((n+1:Nat):Int)=(n:Int)+1 by omega]at sG
   have sg:=zN (And.intro tE (And.intro hx0 (And.intro hx1 hx2)));clear tE hx0 hx1 hx2
   have sK:Ext w3 w4:=(Ext.refl w3).grown sy (fun k hk=>by cases hk)
   have tK:=zN (sR.out.trans sK);have sp:=zN sX;have tj:=zN (sj.out.ext sK)
   have tM:=sK.cell a0;have tN:=sK.cell a1
   have tO:w3.heap.size≤w4.heap.size:=sK.size
   have q0:(0:Int)≤(q:Int):=by omega
   have uy:n≤c:=HA.out.cap.2
   have q1:(q:Int)≤(n:Int):=by omega
   have q2:(q:Int)≤(c:Int):=by omega
   obtain⟨B4,tz⟩:=sd w3.heap.size
   rw[←tz]at sp sG tO sE
   have tf:=zN tz
   clear sX sy sK tz
   go_upto_region 10 with fail
   clear sG a0 a1
   go_upto_region 11 with (first
    | (at_builtin;refine aH rfl _ _ 38 rfl B4 74 p0 (.slice none 0 0) 1 24 Tryz.underlying38 sg.out.1 sg.out.2.1 sg.out.2.2.1 sg.out.2.2.2 rfl (by omega) (.slice (some ⟨B4,0,none⟩) 0 (n+1)) 0 [] rfl sp.out A q c (us.take q) rfl (by have:=sQ.out;have:=sM.out;rw[jt];omega) (fun j u hu=>(tI.out.ext tK.out).news j u (by obtain⟨h1,h2⟩:=zj.1 hu;rw[jt]at h1;rw[←hu,zn (by omega)])) (fun u hu=>tJ.out u (List.mem_of_mem_take hu)) (by simp only[maxLen];omega) (by omega) tO ?_;intro v5 w5 te tC um;rw[jY,ze]at te;obtain⟨A5,c5,e5⟩:=af te;subst e5;have tH:=zN te;have hx5:Ext w w5:=tK.out.grown tC (fun b hb=>by have:=aw sp.out hb;have:=tf.out;have:=sR.out.size;omega);have td:=zN tC;have tw:=zN hx5;clear te tC um hx5))
   have uB:w4.heap.size≤w5.heap.size:=td.out.size
   have sN:Hid (∀k,(Value.slice A5 q c5).ownBlock=some k→B4≤k∧k<w5.heap.size):=zN (fun k hk=>tH.out.lt k hk)
   have tn:=zN (tj.out.fr (am td.out) (fun e=>by have h1:=aw sp.out e;omega))
   have a1:=Fr.cell (am td.out) tN (fun e=>by have h1:=aw sp.out e;have h2:w.heap.size+1<B4:=sE;change B4≤w.heap.size at h1;omega)
   have a0:=Fr.cell (am td.out) tM (fun e=>by have h1:=aw sp.out e;have h2:w.heap.size+1<B4:=sE;change B4≤w.heap.size at h1;omega)
   clear tM tN
   go_wp2_with fail
   refine(tX.out _ tw.out).mono ?_
   rintro e w6 ⟨y,rfl,sD,A6,c6,rfl,hy⟩
   have sO:=zN (aD tH.out sD);have uf:=zN (tw.out.trans sD);have tp:=zN (tn.out.ext sD)
   replace a0:=sD.cell a0;replace a1:=sD.cell a1
   have uC:w5.heap.size≤w6.heap.size:=sD.size
   have HY:=zN (hy.mono (G:=fun k=>w5.heap.size≤k∧k<w6.heap.size) (by decide) (fun k hk hf=>⟨hf,hk⟩))
   clear sD hy
   go_upto_region 12 with (first
    | (at_builtin;refine aq rfl _ _ 38 rfl B4 74 p0 (.slice none 0 0) 1 24 Tryz.underlying38 sg.out.1 sg.out.2.1 sg.out.2.2.1 sg.out.2.2.2 rfl (by omega) (.slice A5 q c5) q (us.take q) rfl (sO.out.alloc _) ⟨w6.heap.size,0,none⟩ 1 1 [.slice A6 m c6] rfl rfl (aE w6 _ _) (by simp[Value.oneCell']) (by simp only[maxLen];omega) (by omega) (by simp;omega) ?_;intro v7 w7 tF tP tR;obtain⟨A7,c7,e7⟩:=af tF;subst e7;have sC:=zN tF;have th:=zN tP;have uc:=zN tR;clear tF tP tR))
   have sH:Ext w6 (w6.alloc (.cells #[.slice A6 m c6] 74)):=(Ext.refl w6).alloc _
   have tL:Hid (Ext w w7):=zN ((uf.out.trans sH).grown th.out (fun b hb=>by have:=aw sO.out hb;have:=sR.out.size;have:=tf.out;omega))
   have uD:w6.heap.size<w7.heap.size:=by have h1:=th.out.size;simp at h1;omega
   have tc:Hid (Fr (fun k=>(Value.slice A5 q c5).ownBlock=some k) w6 w7):=zN ((sH.fr _).trans (am th.out))
   replace a0:=Fr.cell tc.out a0 (fun e=>by have h1:=aw sO.out e;change B4≤w.heap.size at h1;omega)
   replace a1:=Fr.cell tc.out a1 (fun e=>by have h1:=aw sO.out e;change B4≤w.heap.size at h1;omega)
   have tq:=zN (tp.out.fr tc.out (fun e=>by have h1:=aw sO.out e;omega))
   have tt:Hid (∀k,(Value.slice A7 (q+1) c7).ownBlock=some k→k<w5.heap.size∧B4≤k∨w6.heap.size≤k):=zN (fun k hk=>by
    have h1:=aw sC.out hk
    rcases uc.out with h2|h2
    ·rw[h2]at hk
     have h3:=sN.out k hk
     exact .inl ⟨h3.2,h3.1⟩
    ·rw[h2]at hk
     injection hk with hk
     simp at hk
     exact .inr (by omega))
   clear sH
   have tQ:(nH rows x)=rows.take q++x::rows.drop q:=by rw[HQ.out];rfl
   have tY:=zN tQ
   have sB:=zN (fun (V:World) (A8:Option Addr) (c8:Nat) (hr:V.ownsRow B4 74 1 (.slice A8 (q+1+(n-q)) c8) (q+1+(n-q)) (us.take q++[.slice A6 m c6]++us.drop q)) (hg:w7.grownBy V (Value.slice A7 (q+1) c7).ownBlock)=>(show (∃b,A8=some b)∧Sl aG (fun k=>(F k∨w.heap.size≤k)∧k≠w.heap.size+1) V (.slice A8 (n+1) c8) (nH rows x)∧Ext w V∧Bk V (w.heap.size+1) 179 [.int .i64 0,.slice none 0 0]∧V.cell? ⟨w.heap.size,0,none⟩=some (.int .i64 a) from by
    have e1:q+1+(n-q)=n+1:=by omega
    rw[e1]at hr
    have tW:Ext w V:=tL.out.grown hg (fun b hb=>by have:=aw sC.out hb;have:=sR.out.size;have:=tf.out;omega)
    have ux:=sQ.out
    have uw:=sM.out
    refine⟨?_,?_,tW,tq.out.fr (am hg) (fun e=>by have h1:=aw sC.out e;omega),Fr.cell (am hg) a0 (fun e=>by have h1:=aw sC.out e;change B4≤w.heap.size at h1;omega)⟩
    ·rcases hr.2 with ⟨h0,h1⟩|⟨g,cap,ut,e,-⟩
     ·omega
     ·injection e with e
      exact⟨_,e⟩
    ·rw[tY.out]
     refine Sl.of_own hr ?_ (fun k hk=>⟨.inr (by omega),by omega⟩) (fun i hi uh=>?_)
     ·simp only[jm,jt,za,jD,jQ]
      omega
     ·have tU:∀j (hj:j<us.length),us[j]=us[j]→Sl aM (fun k=>(F k∨w.heap.size≤k)∧k≠w.heap.size+1) V us[j] (rows[j]'(by omega)):=fun j hj _ =>
       (((ue.out j (by omega) hj).mono (G:=fun k=>F k∧k<w.heap.size) (by decide) (fun k hk hf=>⟨hf,hk⟩)).ext tW).mono (by decide) (fun k _ hk=>⟨.inl hk.1,by omega⟩)
      rcases jz i q with h1|h1
      ·have e2:(us.take q++[Value.slice A6 m c6]++us.drop q)[i]=us[i]'(by omega):=by
        rw[jw (by simp;omega),jw (by simp;omega),zy]
       have e3:(rows.take q++x::rows.drop q)[i]=rows[i]'(by omega):=by
        rw[jw (by simp;omega),zy]
       rw[e2,e3]
       exact tU i (by omega) rfl
      ·rcases Nat.eq_or_lt_of_le h1 with h2|h2
       ·subst h2
        have e2:(us.take q++[Value.slice A6 m c6]++us.drop q)[q]=Value.slice A6 m c6:=by
         rw[jw (by simp;omega),jv (by simp;omega)]
         simp only[jt,Nat.min_eq_left (show q≤us.length by omega),zm,ja]
        have e3:(rows.take q++x::rows.drop q)[q]=x:=by
         rw[jv (by simp;omega)]
         simp only[jt,Nat.min_eq_left (show q≤rows.length by omega),zm,ja]
        rw[e2,e3]
        refine(((HY.out.fr tc.out (fun k hk e=>by have:=sN.out k e;omega)).fr (am hg) (fun k hk e=>by rcases tt.out k e with h3|h3 <;> omega))).mono (by decide) (fun k _ hk=>⟨.inr (by have:=tw.out.size;omega),by omega⟩)
       ·have ui:(us.take q++[Value.slice A6 m c6]).length=q+1:=by simp;omega
        have uk:(rows.take q).length=q:=by simp;omega
        have uv:i<us.length+1:=by
         simp only[jm,jt,za,jD,jQ]at uh
         omega
        have e2:(us.take q++[Value.slice A6 m c6]++us.drop q)[i]=us[i-1]'(by omega):=by
         rw[jv (by omega)]
         simp only[ui,zE]
         congr 1
         omega
        have e3:(rows.take q++x::rows.drop q)[i]=rows[i-1]'(by omega):=by
         rw[jv (by omega)]
         simp only[uk]
         obtain⟨p,hp⟩:∃p,i-q=p+1:=⟨i-q-1,by omega⟩
         simp only[hp,je,zE]
         congr 1
         omega
        rw[e2,e3]
        exact tU (i-1) (by omega) rfl))
   clear tQ
   rcases A with _|ad
   ·have ug:=sF rfl
    obtain rfl:c=0:=ug
    obtain rfl:n=0:=by omega
    obtain rfl:q=0:=by omega
    clear sF
    have sS:us.drop 0=[]:=zb (by have:=sQ.out;have:=sM.out;omega)
    have tg:=zN sS
    clear sS
    go_upto_region 13 with (first
     | (at_builtin;refine aH rfl _ _ 38 rfl B4 74 p0 (.slice none 0 0) 1 24 Tryz.underlying38 sg.out.1 sg.out.2.1 sg.out.2.2.1 sg.out.2.2.2 rfl (by omega) (.slice A7 1 c7) 1 (us.take 0++[.slice A6 m c6]) rfl sC.out none (0) (0) [] rfl rfl (fun j u hu=>by simp at hu) (fun u hu=>by simp at hu) (by simp only[maxLen];omega) (by omega) (by omega) ?_;intro v8 w8 sw sx sU;obtain⟨A8,c8,e8⟩:=af sw;subst e8;have sP:=zN sw;have sL:=zN sx;clear sw sx sU))
    obtain⟨sh,sr,su,se,av⟩:=sB.out w8 A8 c8 (by rw[tg.out];exact sP.out) sL.out
    obtain⟨b8,rfl⟩:=sh
    have sr:=zN sr;have su:=zN su
    have b0:=se.c0;have b1:=se.c1
    have f0:=se.free 0;have f1:=se.free 1
    have sW:=se.lt
    have se:=zN se
    clear a0 a1
    go_wp2_with fail
    have kz:Bk ((w8.setCell ⟨w.heap.size+1,0,none⟩ (.int .i64 a)).setCell ⟨w.heap.size+1,1,none⟩ (.slice (some b8) 1 c8)) (w.heap.size+1) 179 [.int .i64 a,.slice (some b8) 1 c8]:=(se.out.set 0 _).set 1 _
    have sq:Fr (fun k=>k=w.heap.size+1) w8 ((w8.setCell ⟨w.heap.size+1,0,none⟩ (.int .i64 a)).setCell ⟨w.heap.size+1,1,none⟩ (.slice (some b8) 1 c8)):=((Fr.refl (fun k=>k=w.heap.size+1) w8).setCell (p:=⟨w.heap.size+1,0,none⟩) (.inl rfl) _).setCell (p:=⟨w.heap.size+1,1,none⟩) (.inl rfl) _
    generalize ((w8.setCell ⟨w.heap.size+1,0,none⟩ (.int .i64 a)).setCell ⟨w.heap.size+1,1,none⟩ (.slice (some b8) 1 c8))=wz at *
    have z0:=kz.c0;have z1:=kz.c1
    exact bodyPost_ret (v:=.tuple #[.agg #[.int .i64 a,.slice (some b8) 1 c8],.bool true,.int .i64 0]) (by simp[results,Tryz.results166,go_sem,z0,z1]) rfl ⟨sq.new su.out (fun q hq=>by omega),.inr (.inr ⟨sI.out.symm,ta.out.symm,b8,c8,rfl,(sr.out.fr sq (fun q hq=>hq.2)).mono (by decide) (fun q _ hq=>hq.1)⟩)⟩
   ·clear sF
    by_cases hcq:c=q
    ·obtain rfl:q=n:=by omega
     obtain rfl:c=q:=by omega
     have sS:us.drop c=[]:=zb (by have:=sQ.out;have:=sM.out;omega)
     have tg:=zN sS
     clear sS
     go_upto_region 13 with (first
      | (at_builtin;refine aH rfl _ _ 38 rfl B4 74 p0 (.slice none 0 0) 1 24 Tryz.underlying38 sg.out.1 sg.out.2.1 sg.out.2.2.1 sg.out.2.2.2 rfl (by omega) (.slice A7 (c+1) c7) (c+1) (us.take c++[.slice A6 m c6]) rfl sC.out (some ad) (0) (0) [] rfl rfl (fun j u hu=>by simp at hu) (fun u hu=>by simp at hu) (by simp only[maxLen];omega) (by omega) (by omega) ?_;intro v8 w8 sw sx sU;obtain⟨A8,c8,e8⟩:=af sw;subst e8;have sP:=zN sw;have sL:=zN sx;clear sw sx sU))
     obtain⟨sh,sr,su,se,av⟩:=sB.out w8 A8 c8 (by rw[tg.out,zm];exact sP.out) sL.out
     obtain⟨b8,rfl⟩:=sh
     have sr:=zN sr;have su:=zN su
     have b0:=se.c0;have b1:=se.c1
     have f0:=se.free 0;have f1:=se.free 1
     have sW:=se.lt
     have se:=zN se
     clear a0 a1
     go_wp2_with fail
     have kz:Bk ((w8.setCell ⟨w.heap.size+1,0,none⟩ (.int .i64 a)).setCell ⟨w.heap.size+1,1,none⟩ (.slice (some b8) (c+1) c8)) (w.heap.size+1) 179 [.int .i64 a,.slice (some b8) (c+1) c8]:=(se.out.set 0 _).set 1 _
     have sq:Fr (fun k=>k=w.heap.size+1) w8 ((w8.setCell ⟨w.heap.size+1,0,none⟩ (.int .i64 a)).setCell ⟨w.heap.size+1,1,none⟩ (.slice (some b8) (c+1) c8)):=((Fr.refl (fun k=>k=w.heap.size+1) w8).setCell (p:=⟨w.heap.size+1,0,none⟩) (.inl rfl) _).setCell (p:=⟨w.heap.size+1,1,none⟩) (.inl rfl) _
     generalize ((w8.setCell ⟨w.heap.size+1,0,none⟩ (.int .i64 a)).setCell ⟨w.heap.size+1,1,none⟩ (.slice (some b8) (c+1) c8))=wz at *
     have z0:=kz.c0;have z1:=kz.c1
     exact bodyPost_ret (v:=.tuple #[.agg #[.int .i64 a,.slice (some b8) (c+1) c8],.bool true,.int .i64 0]) (by simp[results,Tryz.results166,go_sem,z0,z1]) rfl ⟨sq.new su.out (fun q hq=>by omega),.inr (.inr ⟨sI.out.symm,ta.out.symm,b8,c8,rfl,(sr.out.fr sq (fun q hq=>hq.2)).mono (by decide) (fun q _ hq=>hq.1)⟩)⟩
    ·have uA:(q:Int)<(c:Int):=by omega
     go_upto_region 13 with (first
      | (at_builtin;refine aH rfl _ _ 38 rfl B4 74 p0 (.slice none 0 0) 1 24 Tryz.underlying38 sg.out.1 sg.out.2.1 sg.out.2.2.1 sg.out.2.2.2 rfl (by omega) (.slice A7 (q+1) c7) (q+1) (us.take q++[.slice A6 m c6]) rfl sC.out (some (ad.add q)) (n-q) (c-q) (us.drop q) rfl (by have:=sQ.out;have:=sM.out;rw[za];omega) (fun j u hu=>by obtain⟨h1,h2⟩:=zj.1 hu;rw[List.getElem?_drop]at hu;obtain⟨uq,e,hc⟩:=(tI.out.ext tL.out).news _ u hu;injection e with e;subst e;exact⟨_,rfl,by rw[add_add];exact hc⟩) (fun u hu=>tJ.out u (List.mem_of_mem_drop hu)) (by simp only[maxLen];omega) (by omega) (by omega) ?_;intro v8 w8 sw sx sU;obtain⟨A8,c8,e8⟩:=af sw;subst e8;have sP:=zN sw;have sL:=zN sx;clear sw sx sU))
     obtain⟨sh,sr,su,se,av⟩:=sB.out w8 A8 c8 sP.out sL.out
     have tS:q+1+(n-q)=n+1:=by omega
     rw[tS]
     clear tS
     obtain⟨b8,rfl⟩:=sh
     have sr:=zN sr;have su:=zN su
     have b0:=se.c0;have b1:=se.c1
     have f0:=se.free 0;have f1:=se.free 1
     have sW:=se.lt
     have se:=zN se
     clear a0 a1
     go_wp2_with fail
     have kz:Bk ((w8.setCell ⟨w.heap.size+1,0,none⟩ (.int .i64 a)).setCell ⟨w.heap.size+1,1,none⟩ (.slice (some b8) (n+1) c8)) (w.heap.size+1) 179 [.int .i64 a,.slice (some b8) (n+1) c8]:=(se.out.set 0 _).set 1 _
     have sq:Fr (fun k=>k=w.heap.size+1) w8 ((w8.setCell ⟨w.heap.size+1,0,none⟩ (.int .i64 a)).setCell ⟨w.heap.size+1,1,none⟩ (.slice (some b8) (n+1) c8)):=((Fr.refl (fun k=>k=w.heap.size+1) w8).setCell (p:=⟨w.heap.size+1,0,none⟩) (.inl rfl) _).setCell (p:=⟨w.heap.size+1,1,none⟩) (.inl rfl) _
     generalize ((w8.setCell ⟨w.heap.size+1,0,none⟩ (.int .i64 a)).setCell ⟨w.heap.size+1,1,none⟩ (.slice (some b8) (n+1) c8))=wz at *
     have z0:=kz.c0;have z1:=kz.c1
     exact bodyPost_ret (v:=.tuple #[.agg #[.int .i64 a,.slice (some b8) (n+1) c8],.bool true,.int .i64 0]) (by simp[results,Tryz.results166,go_sem,z0,z1]) rfl ⟨sq.new su.out (fun q hq=>by omega),.inr (.inr ⟨sI.out.symm,ta.out.symm,b8,c8,rfl,(sr.out.fr sq (fun q hq=>hq.2)).mono (by decide) (fun q _ hq=>hq.1)⟩)⟩
  ·go_wp2_with fail
   have kz:Bk ((w3.setCell ⟨w.heap.size+1,0,none⟩ (.int .i64 a)).setCell ⟨w.heap.size+1,1,none⟩ (.slice A n c)) (w.heap.size+1) 179 [.int .i64 a,.slice A n c]:=(sj.out.set 0 _).set 1 _
   have sq:Fr (fun k=>k=w.heap.size+1) w3 ((w3.setCell ⟨w.heap.size+1,0,none⟩ (.int .i64 a)).setCell ⟨w.heap.size+1,1,none⟩ (.slice A n c)):=((Fr.refl (fun k=>k=w.heap.size+1) w3).setCell (p:=⟨w.heap.size+1,0,none⟩) (.inl rfl) _).setCell (p:=⟨w.heap.size+1,1,none⟩) (.inl rfl) _
   generalize ((w3.setCell ⟨w.heap.size+1,0,none⟩ (.int .i64 a)).setCell ⟨w.heap.size+1,1,none⟩ (.slice A n c))=wz at *
   have z0:=kz.c0;have z1:=kz.c1
   exact bodyPost_ret (v:=.tuple #[.agg #[.int .i64 a,.slice A n c],.bool false,.int .i64 0]) (by simp[results,Tryz.results166,go_sem,z0,z1]) rfl ⟨sq.new sR.out (fun q hq=>by omega),.inr (.inl ⟨sI.out.symm,ta.out.symm,rfl⟩)⟩
 ·have g1:(ea != 0)=true:=by simpa using h0
  have b0:=si.out.c0;have b1:=si.out.c1
  have f0:=si.out.free 0;have f1:=si.out.free 1
  have uo:w.heap.size+1<w2.heap.size:=si.out.lt
  clear a0 a1
  go_wp2_with fail
  have kz:Bk ((w2.setCell ⟨w.heap.size+1,0,none⟩ (.int .i64 0)).setCell ⟨w.heap.size+1,1,none⟩ (.slice none 0 0)) (w.heap.size+1) 179 [.int .i64 0,.slice none 0 0]:=(si.out.set 0 _).set 1 _
  have sq:Fr (fun k=>k=w.heap.size+1) w2 ((w2.setCell ⟨w.heap.size+1,0,none⟩ (.int .i64 0)).setCell ⟨w.heap.size+1,1,none⟩ (.slice none 0 0)):=((Fr.refl (fun k=>k=w.heap.size+1) w2).setCell (p:=⟨w.heap.size+1,0,none⟩) (.inl rfl) _).setCell (p:=⟨w.heap.size+1,1,none⟩) (.inl rfl) _
  generalize ((w2.setCell ⟨w.heap.size+1,0,none⟩ (.int .i64 0)).setCell ⟨w.heap.size+1,1,none⟩ (.slice none 0 0))=wz at *
  have z0:=kz.c0;have z1:=kz.c1
  exact bodyPost_ret (v:=.tuple #[zrel,.bool false,.int .i64 ea]) (by simp[results,Tryz.results166,go_sem,z0,z1]) rfl ⟨sq.new tu.out (fun q hq=>by omega),.inl ⟨by rw[←sI.out];exact h0,by rw[sI.out]⟩⟩
def lJ(rows:List (List Vl))(x:List Vl):List (List Vl):=rows.take (lowR rows x)++rows.drop (lowR rows x+1)
theorem pU{rows:List (List Vl)}{x:List Vl}(h:SoR rows)(hx:da rows x=true):∃hl:lowR rows x<rows.length,rows[lowR rows x]=x:=by
 obtain⟨hl,he⟩:=(pV h).1 hx
 exact⟨hl,(bG.eq _ _).1 he⟩
theorem delR_mem{rows:List (List Vl)}{x r:List Vl}(h:SoR rows)(hx:da rows x=true):r∈lJ rows x↔r∈rows∧r≠x:=by
 obtain⟨hl,he⟩:=pU h hx
 obtain⟨h1,h2⟩:=iE (r:=x) h
 have sg:rows=rows.take (lowR rows x)++x::rows.drop (lowR rows x+1):=by
  conv=>lhs;rw[←jX (lowR rows x) rows,jV hl,he]
 have h3:∀y∈rows.drop (lowR rows x+1),y≠x:=fun y hy e=>by
  have h4:SoR (rows.drop (lowR rows x)):=h.sublist (List.drop_sublist _ _)
  rw[jV hl,he]at h4
  have h5:=(zL.1 h4).1 y hy
  rw[e,bG.self]at h5
  omega
 have h4:∀y∈rows.take (lowR rows x),y≠x:=fun y hy e=>by
  have h5:=h1 y hy
  rw[e,bG.self]at h5
  omega
 unfold lJ
 constructor
 ·intro hr
  rcases ju.1 hr with hr|hr
  ·exact⟨List.mem_of_mem_take hr,h4 r hr⟩
  ·exact⟨List.mem_of_mem_drop hr,h3 r hr⟩
 ·rintro⟨hr,se⟩
  rw[sg]at hr
  rcases ju.1 hr with hr|hr
  ·exact jP _ hr
  ·rcases jB.1 hr with hr|hr
   ·exact absurd hr se
   ·exact zq _ hr
theorem delR_so{rows:List (List Vl)}{x:List Vl}(h:SoR rows):SoR (lJ rows x):=by
 refine h.sublist ?_
 unfold lJ
 conv=>rhs;rw[←jX (lowR rows x) rows]
 exact List.Sublist.append (List.Sublist.refl _) (List.drop_sublist_drop_left _ (jO _))
theorem qI{rows:List (List Vl)}{x:List Vl}(h:lowR rows x<rows.length):(lJ rows x).length+1=rows.length:=by
 unfold lJ
 rw[jm,jt,za]
 omega
theorem rq{w:World}{b b' n sz:Nat}{E:TypeId}{v:Value}{xs:List Value}(h:w.ownsRow b E sz v n xs)(hb:b'≤b):w.ownsRow b' E sz v n xs:=by
 obtain⟨h1,h2⟩:=h
 refine⟨h1,?_⟩
 rcases h2 with h2|⟨g,cap,se,e,h3,h4⟩
 ·exact .inl h2
 ·exact .inr ⟨g,cap,se,e,by omega,h4⟩
theorem Cl.take{F:Nat→Prop}{w:World}{A:Option Addr}{xs:List Value}(h:Cl F w A xs)(k:Nat):Cl F w A (xs.take k):=by
 rcases h with rfl|⟨ad,h1,h2,h3⟩
 ·exact .inl (by simp)
 ·exact .inr ⟨ad,h1,h2,fun j hj=>by rw[zy];exact h3 j (by rw[jt]at hj;omega)⟩
theorem Cl.drop{F:Nat→Prop}{w:World}{ad:Addr}{xs:List Value}(h:Cl F w (some ad) xs)(k:Nat):Cl F w (some (ad.add k)) (xs.drop k):=by
 rcases h with rfl|⟨se,h1,h2,h3⟩
 ·exact .inl (by simp)
 ·injection h1 with h1
  subst h1
  exact .inr ⟨_,rfl,by rw[aT];exact h2,fun j hj=>by rw[add_add,zE];exact h3 (k+j) (by rw[za]at hj;omega)⟩
theorem add_pos'(ad:Addr)(k:Nat):ad.add (k+1)=⟨ad.block,ad.off+(k+1),none⟩:=by unfold Addr.add;simp
def DelPost(F:Nat→Prop)(a:Int)(A:Option Addr)(n c:Nat)(rows:List (List Vl))(x:List Vl)(w:World)(e:Ending)(w':World):Prop :=
 Ext w w'∧((fg a x≠0∧e=.returned (.tuple #[zrel,.bool false,.int .i64 (fg a x)]))∨(fg a x=0∧da rows x=false∧e=.returned (.tuple #[.agg #[.int .i64 a,.slice A n c],.bool false,.int .i64 0])) ∨
  (fg a x=0∧da rows x=true∧∃B k d,e=.returned (.tuple #[.agg #[.int .i64 a,.slice B k d],.bool true,.int .i64 0])∧(B=none→d=0)∧Sl aG (fun k=>F k∨w.heap.size≤k) w' (.slice B k d) (lJ rows x)))
theorem delete_any{F G:Nat→Prop}{w:World}{A B:Option Addr}{n c m d:Nat}{a:Int}{rows:List (List Vl)}{x:List Vl}(hS:SoR rows)(hA:Sl aG F w (.slice A n c) rows)(hB:Sl aM G w (.slice B m d) x)(hm:m≤1048576)(hr:∀x∈rows,x.length≤1048576)(hn:n≤65536)(hz:∀v∈x,v.str.size≤maxLen) :
  Calls Tryz.prog 163 #[.agg #[.int .i64 a,.slice A n c],.slice B m d] w (DelPost F a A n c rows x w):=by
 have ta:=hA.cap.1
 have tC:n≤c:=hA.cap.2
 have k2:=bH w 179 179 [.int .i64 a,.slice A n c] [.int .i64 0,.slice none 0 0]
 have hx:Ext w ((w.alloc (.cells #[.int .i64 a,.slice A n c] 179)).alloc (.cells #[.int .i64 0,.slice none 0 0] 179)):=((Ext.refl w).alloc _).alloc _
 have td:=zN (fun (V:World) (hV:Ext w V)=>mi (a:=a) (A:=A) (n:=n) (c:=c) (hB.ext hV) hm hz)
 have tq:=zN (fun (V:World) (hV:Ext w V)=>dP (a:=a) hS (hA.ext hV) (hB.ext hV) hm hr (by omega))
 obtain⟨us,tg,sJ,sr,sL⟩:=hA.us
 have HS:=zN hS;have HA:=zN hA;have sq:=zN ta;have sw:=zN tg;have sN:=zN sJ;have sS:=zN sr;have te:=zN sL
 obtain⟨ea,sU⟩:=sd (fg a x)
 rw[←sU]at td
 have sC:=zN sU
 have sI:=mK rows x
 rw[←ta]at sI
 clear hS hA hB hr hz ta tg sJ sr sL sU
 go_enter Tryz.func163,Tryz.ntmps163
 go_upto_region 1 with fail
 change Bk ((w.alloc (.cells #[.int .i64 a,.slice A n c] 179)).alloc (.cells #[.int .i64 0,.slice none 0 0] 179)) _ _ _∧Bk ((w.alloc (.cells #[.int .i64 a,.slice A n c] 179)).alloc (.cells #[.int .i64 0,.slice none 0 0] 179)) _ _ _ at k2
 generalize ((w.alloc (.cells #[.int .i64 a,.slice A n c] 179)).alloc (.cells #[.int .i64 0,.slice none 0 0] 179))=w1 at *
 obtain⟨ka,kb⟩:=k2
 have a0:=ka.c0;have a1:=ka.c1
 have tj:=zN ka;have tp:=zN kb;have HX:=zN hx
 clear ka kb hx
 go_wp2_with fail
 refine(td.out _ HX.out).mono ?_
 rintro e w2 ⟨y,rfl,sB,rfl⟩
 replace a0:=sB.cell a0;replace a1:=sB.cell a1
 have sT:=zN (HX.out.trans sB);have tn:=zN (tj.out.ext sB);have si:=zN (tp.out.ext sB)
 clear sB
 by_cases h0:ea=0
 ·subst h0
  obtain⟨q,hq⟩:=sd (lowR rows x)
  obtain⟨fb,sV⟩:=sd (da rows x)
  have HQ:=zN hq;have sM:=zN sV
  rw[←hq]at sI
  go_wp2_with fail
  refine(tq.out _ sT.out).mono ?_
  rintro e w3 ⟨sF,rfl⟩
  rw[←hq,←sV]
  have sA:=zN (sT.out.trans sF);have sg:=zN (si.out.ext sF)
  replace a0:=sF.cell a0;replace a1:=sF.cell a1
  have tz:w.heap.size+1<w3.heap.size:=sg.out.lt
  clear sF hq sV
  rcases fb with _|_
  ·have b0:=sg.out.c0;have b1:=sg.out.c1
   have f0:=sg.out.free 0;have f1:=sg.out.free 1
   go_wp2_with fail
   have kz:Bk ((w3.setCell ⟨w.heap.size+1,0,none⟩ (.int .i64 a)).setCell ⟨w.heap.size+1,1,none⟩ (.slice A n c)) (w.heap.size+1) 179 [.int .i64 a,.slice A n c]:=(sg.out.set 0 _).set 1 _
   have sp:Fr (fun k=>k=w.heap.size+1) w3 ((w3.setCell ⟨w.heap.size+1,0,none⟩ (.int .i64 a)).setCell ⟨w.heap.size+1,1,none⟩ (.slice A n c)):=((Fr.refl (fun k=>k=w.heap.size+1) w3).setCell (p:=⟨w.heap.size+1,0,none⟩) (.inl rfl) _).setCell (p:=⟨w.heap.size+1,1,none⟩) (.inl rfl) _
   generalize ((w3.setCell ⟨w.heap.size+1,0,none⟩ (.int .i64 a)).setCell ⟨w.heap.size+1,1,none⟩ (.slice A n c))=wz at *
   have z0:=kz.c0;have z1:=kz.c1
   exact bodyPost_ret (v:=.tuple #[.agg #[.int .i64 a,.slice A n c],.bool false,.int .i64 0]) (by simp[results,Tryz.results163,go_sem,z0,z1]) rfl ⟨sp.new sA.out (fun q hq=>by omega),.inr (.inl ⟨sC.out.symm,sM.out.symm,rfl⟩)⟩
  ·obtain⟨tc,-⟩:=pU HS.out sM.out.symm
   have tD:q<n:=by have:=HQ.out;have:=sq.out;omega
   have q0:(0:Int)≤(q:Int):=by omega
   have q1:(q:Int)≤(n:Int):=by omega
   have q2:(q:Int)≤(c:Int):=by omega
   have q3:(0:Int)≤(q:Int)+1:=by omega
   have q4:(q:Int)+1≤(n:Int):=by omega
   have q5:(q:Int)+1≤(c:Int):=by omega
   have hs:IntKind.i64.wrap ((q:Int)+1)=(q:Int)+1:=IntWalk.i64_in _ (by omega)
   have tE:((q:Int)+1).toNat=q+1:=by omega
   rcases A with _|ad
   ·exfalso
    have h1:=sN.out
    rcases h1 with h1|⟨ad,e,-⟩
    ·have h2:=sw.out;have h3:=sq.out
     rw[h1,jQ]at h2
     omega
    ·cases e
   clear tc
   go_upto_region 7 with fail
   have tB:Hid (Ext w3 w3.drew):=zN (Ext.refl w3).drew
   by_cases hcq:c=q+1
   ·obtain rfl:n=q+1:=by omega
    subst hcq
    have q6:(q:Int)≤(q:Int)+1:=by omega
    have q7:(q:Int)≤((q+1:Nat):Int):=by omega
    have q8:q≤q+1:=by omega
    have tf:us.drop (q+1)=[]:=zb (by have:=sw.out;have:=sq.out;omega)
    have th:=zN tf
    clear tf
    have su:Hid (∀(X:World) (v:Value) (k:Nat),X.ownsRow (w3.alloc (.cells #[.slice (some ad) q (q+1),.slice (some ad) 0 0] 38)).drew.heap.size 74 1 v k (us.take q++[])→X.ownsRow (w.heap.size+1+1) 74 1 v k (us.take q++us.drop (q+1))):=zN (fun X v k h=>by rw[th.out];exact rq h (by simp;omega))
    have sx:=mt (g:=w3.heap.size) (((Bk.new w3 38 [.slice (some ad) q (q+1),.slice (some ad) 0 0]).ext (Ext.refl _).drew:Bk (w3.alloc (.cells #[.slice (some ad) q (q+1),.slice (some ad) 0 0] 38)).drew w3.heap.size _ _)) ((sN.out.take q).ext ((sA.out.alloc _).drew)) (show Cl F _ (some ad) [] from .inl rfl) (by have:=sw.out;have:=sq.out;rw[jt];omega) rfl (by omega) (by omega) (fun u hu=>sS.out u (List.mem_of_mem_take hu)) (fun u hu=>by simp at hu) (by omega)
    change Calls Tryz.prog 224 _ (w3.alloc (.cells #[.slice (some ad) q (q+1),.slice (some ad) 0 0] 38)).drew _ at sx
    have sO:=zN sx
    have sP:Hid (Ext w3 (w3.alloc (.cells #[.slice (some ad) q (q+1),.slice (some ad) 0 0] 38)).drew):=zN ((Ext.refl w3).alloc _).drew
    clear sx
    go_region_held3 (fun V=>Ext w3 V∧V.cell? ⟨w.heap.size,1,none⟩=some (.slice (some ad) (q+1) (q+1)))
     ((refine(fun he=>⟨he,Ext.cell he a1⟩) ?_;repeat (first|exact Ext.refl _|exact(Ext.refl _).drew|refine Ext.drew ?_|refine Ext.alloc ?_ _|refine Ext.trans ?_ (by assumption))))
     (first
      | (go_at_call 224;(with_reducible refine sO.out.mono ?_);rintro e wi ⟨y,rfl,sy,sh⟩;have sG:=Ext.trans sP.out sy;rw[Nat.add_zero]at sh))
    have se:=sG
    obtain⟨X,rfl⟩:∃X:World,X=wi:=⟨_,rfl⟩
    obtain⟨Ay,cy,rfl⟩:=af sh
    have sE:=zN (sA.out.trans se);have sD:=zN sh
    have sj:=zN (sg.out.ext se)
    replace a0:=se.cell a0
    have b0:=sj.out.c0;have b1:=sj.out.c1
    have f0:=sj.out.free 0;have f1:=sj.out.free 1
    have sZ:=sj.out.lt
    have sR:Hid (Sl aG (fun k=>(F k∨w.heap.size≤k)∧k≠w.heap.size+1) X (.slice Ay q cy) (lJ rows x)):=zN (by
     have tA:=sw.out
     have tu:=sq.out
     have hd:lJ rows x=rows.take q++rows.drop (q+1):=by rw[HQ.out];rfl
     rw[hd]
     have hw:=su.out _ _ _ sD.out
     refine Sl.of_own hw ?_ (fun k hk=>⟨.inr (by omega),by omega⟩) (fun i hi sW=>?_)
     ·simp only[jm,jt,za]
      omega
     ·have sK:∀j (hj:j<us.length),Sl aM (fun k=>(F k∨w.heap.size≤k)∧k≠w.heap.size+1) X us[j] (rows[j]'(by omega)):=fun j hj =>
       (((te.out j (by omega) hj).mono (G:=fun k=>F k∧k<w.heap.size) (by decide) (fun k hk hf=>⟨hf,hk⟩)).ext sE.out).mono (by decide) (fun k _ hk=>⟨.inl hk.1,by omega⟩)
      have sH:i+1<us.length:=by
       simp only[jm,jt,za]at sW
       omega
      rcases jz i q with h1|h1
      ·have e2:(us.take q++us.drop (q+1))[i]=us[i]'(by omega):=by
        rw[jw (by rw[jt];omega),zy]
       have e3:(rows.take q++rows.drop (q+1))[i]=rows[i]'(by omega):=by
        rw[jw (by rw[jt];omega),zy]
       rw[e2,e3]
       exact sK i (by omega)
      ·have sX:(us.take q).length=q:=by rw[jt];omega
       have sY:(rows.take q).length=q:=by rw[jt];omega
       have e2:(us.take q++us.drop (q+1))[i]=us[i+1]'sH:=by
        rw[jv (by omega)]
        simp only[sX,zE]
        congr 1
        omega
       have e3:(rows.take q++rows.drop (q+1))[i]=rows[i+1]'(by omega):=by
        rw[jv (by omega)]
        simp only[sY,zE]
        congr 1
        omega
       rw[e2,e3]
       exact sK (i+1) sH)
    have sQ:Hid (Ay=none→cy=0):=zN (fun e=>by
     rcases sD.out.2 with ⟨h1,-⟩|⟨g,cap,tt,h1,-⟩
     ·injection h1 with h1 h2 h3
     ·injection h1 with h1
      rw[e]at h1
      cases h1)
    clear se sG sh a1
    go_wp2_with fail
    have kz:Bk ((X.setCell ⟨w.heap.size+1,0,none⟩ (.int .i64 a)).setCell ⟨w.heap.size+1,1,none⟩ (.slice Ay q cy)) (w.heap.size+1) 179 [.int .i64 a,.slice Ay q cy]:=(sj.out.set 0 _).set 1 _
    have sp:Fr (fun k=>k=w.heap.size+1) X ((X.setCell ⟨w.heap.size+1,0,none⟩ (.int .i64 a)).setCell ⟨w.heap.size+1,1,none⟩ (.slice Ay q cy)):=((Fr.refl (fun k=>k=w.heap.size+1) X).setCell (p:=⟨w.heap.size+1,0,none⟩) (.inl rfl) _).setCell (p:=⟨w.heap.size+1,1,none⟩) (.inl rfl) _
    generalize ((X.setCell ⟨w.heap.size+1,0,none⟩ (.int .i64 a)).setCell ⟨w.heap.size+1,1,none⟩ (.slice Ay q cy))=wz at *
    have z0:=kz.c0;have z1:=kz.c1
    exact bodyPost_ret (v:=.tuple #[.agg #[.int .i64 a,.slice Ay q cy],.bool true,.int .i64 0]) (by simp[results,Tryz.results163,go_sem,z0,z1]) rfl ⟨sp.new sE.out (fun q hq=>by omega),.inr (.inr ⟨sC.out.symm,sM.out.symm,Ay,q,cy,rfl,sQ.out,(sR.out.fr sp (fun q hq=>hq.2)).mono (by decide) (fun q _ hq=>hq.1)⟩)⟩
   ·have su:Hid (∀(X:World) (v:Value) (k:Nat),X.ownsRow (w3.alloc (.cells #[.slice (some ad) q c,.slice (some ⟨ad.block,ad.off+(q+1),none⟩) (n-(q+1)) (c-(q+1))] 38)).drew.heap.size 74 1 v k (us.take q++us.drop (q+1))→X.ownsRow (w.heap.size+1+1) 74 1 v k (us.take q++us.drop (q+1))):=zN (fun X v k h=>rq h (by simp;omega))
    have sx:=mt (g:=w3.heap.size) (((Bk.new w3 38 [.slice (some ad) q c,.slice (some ⟨ad.block,ad.off+(q+1),none⟩) (n-(q+1)) (c-(q+1))]).ext (Ext.refl _).drew:Bk (w3.alloc (.cells #[.slice (some ad) q c,.slice (some ⟨ad.block,ad.off+(q+1),none⟩) (n-(q+1)) (c-(q+1))] 38)).drew w3.heap.size _ _)) ((sN.out.take q).ext ((sA.out.alloc _).drew)) (by rw[←add_pos'];exact(sN.out.drop (q+1)).ext ((sA.out.alloc _).drew)) (by have:=sw.out;have:=sq.out;rw[jt];omega) (by have:=sw.out;have:=sq.out;rw[za];omega) (by omega) (by omega) (fun u hu=>sS.out u (List.mem_of_mem_take hu)) (fun u hu=>sS.out u (List.mem_of_mem_drop hu)) (by omega)
    change Calls Tryz.prog 224 _ (w3.alloc (.cells #[.slice (some ad) q c,.slice (some ⟨ad.block,ad.off+(q+1),none⟩) (n-(q+1)) (c-(q+1))] 38)).drew _ at sx
    have sO:=zN sx
    have sP:Hid (Ext w3 (w3.alloc (.cells #[.slice (some ad) q c,.slice (some ⟨ad.block,ad.off+(q+1),none⟩) (n-(q+1)) (c-(q+1))] 38)).drew):=zN ((Ext.refl w3).alloc _).drew
    clear sx
    go_region_held3 (fun V=>Ext w3 V∧V.cell? ⟨w.heap.size,1,none⟩=some (.slice (some ad) n c))
     ((refine(fun he=>⟨he,Ext.cell he a1⟩) ?_;repeat (first|exact Ext.refl _|exact(Ext.refl _).drew|refine Ext.drew ?_|refine Ext.alloc ?_ _|refine Ext.trans ?_ (by assumption))))
     (first
      | (go_at_call 224;(with_reducible refine sO.out.mono ?_);rintro e wi ⟨y,rfl,sy,sh⟩;have sG:=Ext.trans sP.out sy))
    have se:=sG
    obtain⟨X,rfl⟩:∃X:World,X=wi:=⟨_,rfl⟩
    obtain⟨Ay,cy,rfl⟩:=af sh
    have sE:=zN (sA.out.trans se);have sD:=zN sh
    have sj:=zN (sg.out.ext se)
    replace a0:=se.cell a0
    have b0:=sj.out.c0;have b1:=sj.out.c1
    have f0:=sj.out.free 0;have f1:=sj.out.free 1
    have sZ:=sj.out.lt
    have sR:Hid (Sl aG (fun k=>(F k∨w.heap.size≤k)∧k≠w.heap.size+1) X (.slice Ay (q+(n-(q+1))) cy) (lJ rows x)):=zN (by
     have tA:=sw.out
     have tu:=sq.out
     have hd:lJ rows x=rows.take q++rows.drop (q+1):=by rw[HQ.out];rfl
     rw[hd]
     have hw:=su.out _ _ _ sD.out
     refine Sl.of_own hw ?_ (fun k hk=>⟨.inr (by omega),by omega⟩) (fun i hi sW=>?_)
     ·simp only[jm,jt,za]
      omega
     ·have sK:∀j (hj:j<us.length),Sl aM (fun k=>(F k∨w.heap.size≤k)∧k≠w.heap.size+1) X us[j] (rows[j]'(by omega)):=fun j hj =>
       (((te.out j (by omega) hj).mono (G:=fun k=>F k∧k<w.heap.size) (by decide) (fun k hk hf=>⟨hf,hk⟩)).ext sE.out).mono (by decide) (fun k _ hk=>⟨.inl hk.1,by omega⟩)
      have sH:i+1<us.length:=by
       simp only[jm,jt,za]at sW
       omega
      rcases jz i q with h1|h1
      ·have e2:(us.take q++us.drop (q+1))[i]=us[i]'(by omega):=by
        rw[jw (by rw[jt];omega),zy]
       have e3:(rows.take q++rows.drop (q+1))[i]=rows[i]'(by omega):=by
        rw[jw (by rw[jt];omega),zy]
       rw[e2,e3]
       exact sK i (by omega)
      ·have sX:(us.take q).length=q:=by rw[jt];omega
       have sY:(rows.take q).length=q:=by rw[jt];omega
       have e2:(us.take q++us.drop (q+1))[i]=us[i+1]'sH:=by
        rw[jv (by omega)]
        simp only[sX,zE]
        congr 1
        omega
       have e3:(rows.take q++rows.drop (q+1))[i]=rows[i+1]'(by omega):=by
        rw[jv (by omega)]
        simp only[sY,zE]
        congr 1
        omega
       rw[e2,e3]
       exact sK (i+1) sH)
    have sQ:Hid (Ay=none→cy=0):=zN (fun e=>by
     rcases sD.out.2 with ⟨h1,-⟩|⟨g,cap,tt,h1,-⟩
     ·injection h1 with h1 h2 h3
     ·injection h1 with h1
      rw[e]at h1
      cases h1)
    clear se sG sh a1
    go_wp2_with fail
    have kz:Bk ((X.setCell ⟨w.heap.size+1,0,none⟩ (.int .i64 a)).setCell ⟨w.heap.size+1,1,none⟩ (.slice Ay (q+(n-(q+1))) cy)) (w.heap.size+1) 179 [.int .i64 a,.slice Ay (q+(n-(q+1))) cy]:=(sj.out.set 0 _).set 1 _
    have sp:Fr (fun k=>k=w.heap.size+1) X ((X.setCell ⟨w.heap.size+1,0,none⟩ (.int .i64 a)).setCell ⟨w.heap.size+1,1,none⟩ (.slice Ay (q+(n-(q+1))) cy)):=((Fr.refl (fun k=>k=w.heap.size+1) X).setCell (p:=⟨w.heap.size+1,0,none⟩) (.inl rfl) _).setCell (p:=⟨w.heap.size+1,1,none⟩) (.inl rfl) _
    generalize ((X.setCell ⟨w.heap.size+1,0,none⟩ (.int .i64 a)).setCell ⟨w.heap.size+1,1,none⟩ (.slice Ay (q+(n-(q+1))) cy))=wz at *
    have z0:=kz.c0;have z1:=kz.c1
    exact bodyPost_ret (v:=.tuple #[.agg #[.int .i64 a,.slice Ay (q+(n-(q+1))) cy],.bool true,.int .i64 0]) (by simp[results,Tryz.results163,go_sem,z0,z1]) rfl ⟨sp.new sE.out (fun q hq=>by omega),.inr (.inr ⟨sC.out.symm,sM.out.symm,Ay,(q+(n-(q+1))),cy,rfl,sQ.out,(sR.out.fr sp (fun q hq=>hq.2)).mono (by decide) (fun q _ hq=>hq.1)⟩)⟩
 ·have g1:(ea != 0)=true:=by simpa using h0
  have b0:=si.out.c0;have b1:=si.out.c1
  have f0:=si.out.free 0;have f1:=si.out.free 1
  have tw:w.heap.size+1<w2.heap.size:=si.out.lt
  clear a0 a1
  go_wp2_with fail
  have kz:Bk ((w2.setCell ⟨w.heap.size+1,0,none⟩ (.int .i64 0)).setCell ⟨w.heap.size+1,1,none⟩ (.slice none 0 0)) (w.heap.size+1) 179 [.int .i64 0,.slice none 0 0]:=(si.out.set 0 _).set 1 _
  have sp:Fr (fun k=>k=w.heap.size+1) w2 ((w2.setCell ⟨w.heap.size+1,0,none⟩ (.int .i64 0)).setCell ⟨w.heap.size+1,1,none⟩ (.slice none 0 0)):=((Fr.refl (fun k=>k=w.heap.size+1) w2).setCell (p:=⟨w.heap.size+1,0,none⟩) (.inl rfl) _).setCell (p:=⟨w.heap.size+1,1,none⟩) (.inl rfl) _
  generalize ((w2.setCell ⟨w.heap.size+1,0,none⟩ (.int .i64 0)).setCell ⟨w.heap.size+1,1,none⟩ (.slice none 0 0))=wz at *
  have z0:=kz.c0;have z1:=kz.c1
  exact bodyPost_ret (v:=.tuple #[zrel,.bool false,.int .i64 ea]) (by simp[results,Tryz.results163,go_sem,z0,z1]) rfl ⟨sp.new sT.out (fun q hq=>by omega),.inl ⟨by rw[←sC.out];exact h0,by rw[sC.out]⟩⟩
