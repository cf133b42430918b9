/- packed -/
import Derived.Test.YtplldnnnhgnbjaaGreatDoorMv31
set_option maxRecDepth 20000
set_option maxHeartbeats 3200000
namespace Go.Proofs.YtplldnnnhgnbjaaGreatDoor
open Go.RowKit Go.Maps
structure aW(w1:World)(M:Dm)(nb:Nat)(ev:Int)(b2 b3 b4 b5 b6 b7 b8 b9:Bool)(t6 t7 t14 t17 t18 t19 t20:Value)(W:World):Prop where
 ext:Ext w1 W
 h2:b2=true→b8=false→∃S n c l F,t17=.slice S n c∧bU M l∧l.length≤nb∧Sl el F W (.slice S n c) (cH M l)
 h3:b3=true→∃A n c B m d,t18=.tuple #[.agg #[.slice A n c,.slice B m d],.int .i64 ev]
 h4:b4=true→t14=t18
 h5:b5=true→∃A n c B m d,t19=.agg #[.slice A n c,.slice B m d]
 h6:b6=true→t20=.int .i64 ev
 h7:b7=true→b8=false→∃g x y,t6=.pointer (some ⟨g,0,none⟩)∧w1.heap.size≤g∧Bk W g 66 [x,y]
 h9:b9=true→t7=.int .i64 ev
section
variable {w1 W W':World} {M:Dm} {nb:Nat} {ev:Int} {b2 b3 b4 b5 b6 b7 b8 b9:Bool} {t6 t7 t14 t17 t18 t19 t20 v:Value}
theorem aW.more(h:aW w1 M nb ev b2 b3 b4 b5 b6 b7 b8 b9 t6 t7 t14 t17 t18 t19 t20 W)(he:Ext W W'):aW w1 M nb ev b2 b3 b4 b5 b6 b7 b8 b9 t6 t7 t14 t17 t18 t19 t20 W' :=
 ⟨h.ext.trans he,fun k k'=>let ⟨S,n,c,l,F,e1,e2,e3,e4⟩:=h.h2 k k';⟨S,n,c,l,F,e1,e2,e3,e4.ext he⟩,h.h3,h.h4,h.h5,h.h6,fun k k'=>let ⟨g,x,y,e1,e2,e3⟩:=h.h7 k k';⟨g,x,y,e1,e2,e3.ext he⟩,h.h9⟩
theorem aW.start:aW w1 M nb ev false false false false false false false false t6 t7 t14 t17 t18 t19 t20 w1.drew :=
 ⟨(Ext.refl w1).drew,(fun k=>by cases k),(fun k=>by cases k),(fun k=>by cases k),(fun k=>by cases k),(fun k=>by cases k),(fun k=>by cases k),(fun k=>by cases k)⟩
theorem aW.call1{S:Option Addr}{n c:Nat}{l:List ByteArray}{F:Nat→Prop}(h:aW w1 M nb ev false b3 b4 b5 b6 b7 b8 b9 t6 t7 t14 t17 t18 t19 t20 W)(he:Ext W W')(hs:Sl el F W' (.slice S n c) (cH M l))(h1:bU M l)(h2:l.length≤nb):aW w1 M nb ev true b3 b4 b5 b6 b7 b8 b9 t6 t7 t14 (.slice S n c) t18 t19 t20 W':=by
 have k:=h.more he
 exact⟨k.ext,fun _ _=>⟨S,n,c,l,F,rfl,h1,h2,hs⟩,k.h3,k.h4,k.h5,k.h6,k.h7,k.h9⟩
theorem aW.call2{A B:Option Addr}{n c m d:Nat}(h:aW w1 M nb ev b2 false false b5 b6 b7 b8 b9 t6 t7 t14 t17 t18 t19 t20 W)(he:Ext W W'):aW w1 M nb ev b2 true false b5 b6 b7 b8 b9 t6 t7 t14 t17 (.tuple #[.agg #[.slice A n c,.slice B m d],.int .i64 ev]) t19 t20 W':=by
 have k:=h.more he
 exact⟨k.ext,k.h2,fun _=>⟨A,n,c,B,m,d,rfl⟩,(fun e=>by cases e),k.h5,k.h6,k.h7,k.h9⟩
theorem aW.mv(h:aW w1 M nb ev b2 b3 false b5 b6 b7 b8 b9 t6 t7 t14 t17 t18 t19 t20 W):aW w1 M nb ev b2 b3 true b5 b6 b7 b8 b9 t6 t7 t18 t17 t18 t19 t20 W :=
 ⟨h.ext,h.h2,h.h3,fun _=>rfl,h.h5,h.h6,h.h7,h.h9⟩
theorem aW.ex0{A B:Option Addr}{n c m d:Nat}(h:aW w1 M nb ev b2 b3 b4 false b6 b7 b8 b9 t6 t7 t14 t17 t18 t19 t20 W):aW w1 M nb ev b2 b3 b4 true b6 b7 b8 b9 t6 t7 t14 t17 t18 (.agg #[.slice A n c,.slice B m d]) t20 W :=
 ⟨h.ext,h.h2,h.h3,h.h4,fun _=>⟨A,n,c,B,m,d,rfl⟩,h.h6,h.h7,h.h9⟩
theorem aW.ex1(h:aW w1 M nb ev b2 b3 b4 b5 false b7 b8 b9 t6 t7 t14 t17 t18 t19 t20 W):aW w1 M nb ev b2 b3 b4 b5 true b7 b8 b9 t6 t7 t14 t17 t18 t19 (.int .i64 ev) W :=
 ⟨h.ext,h.h2,h.h3,h.h4,h.h5,fun _=>rfl,h.h7,h.h9⟩
theorem aW.box{x y:Value}(h:aW w1 M nb ev b2 b3 b4 b5 b6 false b8 b9 t6 t7 t14 t17 t18 t19 t20 W):aW w1 M nb ev b2 b3 b4 b5 b6 true b8 b9 (.pointer (some ⟨W.heap.size,0,none⟩)) t7 t14 t17 t18 t19 t20 (W.alloc (.cells #[x,y] 66)):=by
 have k:=h.more ((Ext.refl W).alloc (.cells #[x,y] 66))
 exact⟨k.ext,k.h2,k.h3,k.h4,k.h5,k.h6,fun _ _=>⟨_,x,y,rfl,h.ext.size,Bk.new W _ [x,y]⟩,k.h9⟩
theorem aW.store{g:Nat}(h:aW w1 M nb ev b2 b3 b4 b5 b6 b7 false b9 (.pointer (some ⟨g,0,none⟩)) t7 t14 t17 t18 t19 t20 W)(hg:w1.heap.size≤g)(x y:Value):aW w1 M nb ev b2 b3 b4 b5 b6 b7 true b9 (.pointer (some ⟨g,0,none⟩)) t7 t14 t17 t18 t19 t20 ((W.setCell ⟨g,0,none⟩ x).setCell ⟨g,1,none⟩ y):=by
 have hf:Fr (fun k=>k=g) W ((W.setCell ⟨g,0,none⟩ x).setCell ⟨g,1,none⟩ y):=((Fr.refl (fun k=>k=g) W).setCell (p:=⟨g,0,none⟩) (.inl rfl) x).setCell (p:=⟨g,1,none⟩) (.inl rfl) y
 exact⟨hf.new h.ext (fun q hq=>by omega),(fun _ k=>by cases k),h.h3,h.h4,h.h5,h.h6,(fun _ k=>by cases k),h.h9⟩
theorem aW.asg(h:aW w1 M nb ev b2 b3 b4 b5 b6 b7 b8 false t6 t7 t14 t17 t18 t19 t20 W):aW w1 M nb ev b2 b3 b4 b5 b6 b7 b8 true t6 (.int .i64 ev) t14 t17 t18 t19 t20 W :=
 ⟨h.ext,h.h2,h.h3,h.h4,h.h5,h.h6,h.h7,fun _=>rfl⟩
end
structure dF(w1:World)(r:Rl)(hd:List ByteArray)(b1 b4 b5 b6:Bool)(t12 t36 t39:Value)(W:World):Prop where
 ext:Ext w1 W
 h1:b1=true→∃B,w1.heap.size≤B∧W.ownsRow B 9 1 t36 (aj r).length ((aj r).map Sv)
 h4:b4=true→∃B,w1.heap.size≤B∧W.ownsRow B 3 1 t39 hd.length ((aC (aj r) hd).map I64)
 h5:b5=true→∃g,t12=.pointer (some ⟨g,0,none⟩)∧w1.heap.size≤g∧Bk W g 63 [if b6=true then t39 else .slice none 0 0]
section
variable {w1 W W':World} {r:Rl} {hd:List ByteArray} {b1 b4 b5 b6:Bool} {t12 t36 t39 v:Value}
theorem dF.more(h:dF w1 r hd b1 b4 b5 b6 t12 t36 t39 W)(he:Ext W W'):dF w1 r hd b1 b4 b5 b6 t12 t36 t39 W' :=
 ⟨h.ext.trans he,fun k=>let ⟨B,e1,e2⟩:=h.h1 k;⟨B,e1,aD e2 he⟩,fun k=>let ⟨B,e1,e2⟩:=h.h4 k;⟨B,e1,aD e2 he⟩,fun k=>let ⟨g,e1,e2,e3⟩:=h.h5 k;⟨g,e1,e2,e3.ext he⟩⟩
theorem dF.start:dF w1 r hd false false false false t12 t36 t39 w1.drew:=⟨(Ext.refl w1).drew,(fun k=>by cases k),(fun k=>by cases k),(fun k=>by cases k)⟩
theorem dF.call1(h:dF w1 r hd false b4 b5 b6 t12 t36 t39 W)(he:Ext W W')(hv:W'.ownsRow W.heap.size 9 1 v (aj r).length ((aj r).map Sv)):dF w1 r hd true b4 b5 b6 t12 v t39 W':=by
 have k:=h.more he
 exact⟨k.ext,fun _=>⟨_,h.ext.size,hv⟩,k.h4,k.h5⟩
theorem dF.call2(h:dF w1 r hd b1 false b5 false t12 t36 t39 W)(he:Ext W W')(hv:W'.ownsRow W.heap.size 3 1 v hd.length ((aC (aj r) hd).map I64)):dF w1 r hd b1 true b5 false t12 t36 v W':=by
 have k:=h.more he
 exact⟨k.ext,k.h1,fun _=>⟨_,h.ext.size,hv⟩,k.h5⟩
theorem dF.box(h:dF w1 r hd b1 b4 false false t12 t36 t39 W):dF w1 r hd b1 b4 true false (.pointer (some ⟨W.heap.size,0,none⟩)) t36 t39 (W.alloc (.cells #[.slice none 0 0] 63)):=by
 have k:=h.more ((Ext.refl W).alloc (.cells #[.slice none 0 0] 63))
 exact⟨k.ext,k.h1,k.h4,fun _=>⟨_,rfl,h.ext.size,Bk.new W _ _⟩⟩
theorem dF.store{g:Nat}(h:dF w1 r hd true true true false (.pointer (some ⟨g,0,none⟩)) t36 t39 W):dF w1 r hd true true true true (.pointer (some ⟨g,0,none⟩)) t36 t39 (W.setCell ⟨g,0,none⟩ t39):=by
 have hf:Fr (fun k=>k=g) W (W.setCell ⟨g,0,none⟩ t39):=(Fr.refl (fun k=>k=g) W).setCell (p:=⟨g,0,none⟩) (.inl rfl) t39
 obtain⟨g',e,hg,hb⟩:=h.h5 rfl
 injection e with e
 injection e with e
 injection e with e
 subst e
 obtain⟨B1,k1,k2⟩:=h.h1 rfl
 obtain⟨B2,k3,k4⟩:=h.h4 rfl
 exact⟨hf.new h.ext (fun q hq=>by omega),fun _=>⟨B1,k1,bo k2 hf (fun k hk=>aQ k2 hb (by decide) hk)⟩,fun _=>⟨B2,k3,bo k4 hf (fun k hk=>aQ k4 hb (by decide) hk)⟩,fun _=>⟨g,rfl,hg,hb.set 0 t39⟩⟩
end
structure dv(w1:World)(hd:List ByteArray)(od:List Ky)(qv v:Value)(P:World→Prop)(b0 b1 b2 b3:Bool)(t48 t49 t50 t51:Value)(W:World):Prop where
 ext:b3=false→Ext w1 W
 h0:b0=true→t48=v
 h1:b1=true→t49=qv
 h2:b2=true→∃V,Ext w1 V∧(b3=false→dm hd od V (.returned t50) W)
 h3:b3=true→P W
section
variable {w1 W W':World} {hd:List ByteArray} {od:List Ky} {qv v:Value} {P:World→Prop} {b0 b1 b2 b3:Bool} {t48 t49 t50 t51 vf:Value}
theorem dv.start:dv w1 hd od qv v P false false false false t48 t49 t50 t51 w1.drew:=⟨fun _=>(Ext.refl w1).drew,(fun k=>by cases k),(fun k=>by cases k),(fun k=>by cases k),(fun k=>by cases k)⟩
theorem dv.ld1(h:dv w1 hd od qv v P false b1 b2 b3 t48 t49 t50 t51 W):dv w1 hd od qv v P true b1 b2 b3 v t49 t50 t51 W:=⟨h.ext,fun _=>rfl,h.h1,h.h2,h.h3⟩
theorem dv.ld2(h:dv w1 hd od qv v P b0 false b2 b3 t48 t49 t50 t51 W):dv w1 hd od qv v P b0 true b2 b3 t48 qv t50 t51 W:=⟨h.ext,h.h0,fun _=>rfl,h.h2,h.h3⟩
theorem dv.call1(h:dv w1 hd od qv v P b0 b1 false false t48 t49 t50 t51 W)(hp:dm hd od W (.returned vf) W'):dv w1 hd od qv v P b0 b1 true false t48 t49 vf t51 W':=⟨fun _=>(h.ext rfl).trans hp.1,h.h0,h.h1,fun _=>⟨W,h.ext rfl,fun _=>hp⟩,(fun k=>by cases k)⟩
theorem dv.call2(h:dv w1 hd od qv v P b0 b1 b2 false t48 t49 t50 t51 W)(hp:P W'):dv w1 hd od qv v P b0 b1 b2 true t48 t49 t50 vf W':=⟨(fun k=>by cases k),h.h0,h.h1,fun k=>let ⟨V,e,_⟩:=h.h2 k;⟨V,e,(fun k=>by cases k)⟩,fun _=>hp⟩
end
noncomputable def chkRgA:Code:=((Tryz.f14.body.bind (aK 1)).getD .skip)
def ChkJA(w1:World)(M:Dm)(nb:Nat)(ev:Int)(F:Value→Value→Value→Value→Value→Value→Value→ Act)(n:Nat)(l:Array Bool)(act:Act)(W:World):Prop :=
 (n=8∧l=#[true,true,false,false,false,false,false,false,false,false]∧∃t6 t7 t14 t17 t18 t19 t20,act=F t6 t7 t14 t17 t18 t19 t20∧aW w1 M nb ev false false false false false false false false t6 t7 t14 t17 t18 t19 t20 W)∨(n=7∧l=#[true,true,true,false,false,false,false,false,false,false]∧∃t6 t7 t14 t17 t18 t19 t20,act=F t6 t7 t14 t17 t18 t19 t20∧aW w1 M nb ev true false false false false false false false t6 t7 t14 t17 t18 t19 t20 W)∨(n=7∧l=#[true,true,false,false,false,false,false,true,false,false]∧∃t6 t7 t14 t17 t18 t19 t20,act=F t6 t7 t14 t17 t18 t19 t20∧aW w1 M nb ev false false false false false true false false t6 t7 t14 t17 t18 t19 t20 W)∨(n=6∧l=#[true,true,true,true,false,false,false,false,false,false]∧∃t6 t7 t14 t17 t18 t19 t20,act=F t6 t7 t14 t17 t18 t19 t20∧aW w1 M nb ev true true false false false false false false t6 t7 t14 t17 t18 t19 t20 W)∨(n=6∧l=#[true,true,true,false,false,false,false,true,false,false]∧∃t6 t7 t14 t17 t18 t19 t20,act=F t6 t7 t14 t17 t18 t19 t20∧aW w1 M nb ev true false false false false true false false t6 t7 t14 t17 t18 t19 t20 W)∨(n=5∧l=#[true,true,true,true,true,false,false,false,false,false]∧∃t6 t7 t14 t17 t18 t19 t20,act=F t6 t7 t14 t17 t18 t19 t20∧aW w1 M nb ev true true true false false false false false t6 t7 t14 t17 t18 t19 t20 W)∨(n=5∧l=#[true,true,true,true,false,false,false,true,false,false]∧∃t6 t7 t14 t17 t18 t19 t20,act=F t6 t7 t14 t17 t18 t19 t20∧aW w1 M nb ev true true false false false true false false t6 t7 t14 t17 t18 t19 t20 W)∨(n=4∧l=#[true,true,true,true,true,true,false,false,false,false]∧∃t6 t7 t14 t17 t18 t19 t20,act=F t6 t7 t14 t17 t18 t19 t20∧aW w1 M nb ev true true true true false false false false t6 t7 t14 t17 t18 t19 t20 W)∨(n=4∧l=#[true,true,true,true,true,false,true,false,false,false]∧∃t6 t7 t14 t17 t18 t19 t20,act=F t6 t7 t14 t17 t18 t19 t20∧aW w1 M nb ev true true true false true false false false t6 t7 t14 t17 t18 t19 t20 W)∨(n=4∧l=#[true,true,true,true,true,false,false,true,false,false]∧∃t6 t7 t14 t17 t18 t19 t20,act=F t6 t7 t14 t17 t18 t19 t20∧aW w1 M nb ev true true true false false true false false t6 t7 t14 t17 t18 t19 t20 W)∨(n=3∧l=#[true,true,true,true,true,true,true,false,false,false]∧∃t6 t7 t14 t17 t18 t19 t20,act=F t6 t7 t14 t17 t18 t19 t20∧aW w1 M nb ev true true true true true false false false t6 t7 t14 t17 t18 t19 t20 W)∨(n=3∧l=#[true,true,true,true,true,true,false,true,false,false]∧∃t6 t7 t14 t17 t18 t19 t20,act=F t6 t7 t14 t17 t18 t19 t20∧aW w1 M nb ev true true true true false true false false t6 t7 t14 t17 t18 t19 t20 W)∨(n=3∧l=#[true,true,true,true,true,false,true,true,false,false]∧∃t6 t7 t14 t17 t18 t19 t20,act=F t6 t7 t14 t17 t18 t19 t20∧aW w1 M nb ev true true true false true true false false t6 t7 t14 t17 t18 t19 t20 W)∨(n=2∧l=#[true,true,true,true,true,true,true,true,false,false]∧∃t6 t7 t14 t17 t18 t19 t20,act=F t6 t7 t14 t17 t18 t19 t20∧aW w1 M nb ev true true true true true true false false t6 t7 t14 t17 t18 t19 t20 W)∨(n=2∧l=#[true,true,true,true,true,true,false,true,true,false]∧∃t6 t7 t14 t17 t18 t19 t20,act=F t6 t7 t14 t17 t18 t19 t20∧aW w1 M nb ev true true true true false true true false t6 t7 t14 t17 t18 t19 t20 W)∨(n=1∧l=#[true,true,true,true,true,true,true,true,true,false]∧∃t6 t7 t14 t17 t18 t19 t20,act=F t6 t7 t14 t17 t18 t19 t20∧aW w1 M nb ev true true true true true true true false t6 t7 t14 t17 t18 t19 t20 W)∨(n=0∧l=#[true,true,true,true,true,true,true,true,true,true]∧∃t6 t7 t14 t17 t18 t19 t20,act=F t6 t7 t14 t17 t18 t19 t20∧aW w1 M nb ev true true true true true true true true t6 t7 t14 t17 t18 t19 t20 W)
theorem chk_regA{K:Act→World→Prop}{Q:Exit→Act→World→Prop}{w1:World}{M:Dm}{nb b g0 g1:Nat}{ev:Int}{c0 c1 c2 c3 c4 u0 u1 u4 u5 u8 u9 sq sr su sw sx sy sA sB sC sD sE sF sG sH sI u32 sJ sK sL sM sN sO sP sQ sR sS sT sU sV sW sX sY sZ ta tc td x6 x7 th tj tn tp tq xa xb:Value}(b0:w1.cell? ⟨g0,0,none⟩=some c0)(b1:w1.cell? ⟨g0,1,none⟩=some c1)(b2:w1.cell? ⟨g0,2,none⟩=some c2)(b3:w1.cell? ⟨g0,3,none⟩=some c3)(b4:w1.cell? ⟨g0,4,none⟩=some c4)(b5:w1.cell? ⟨g1,0,none⟩=some (.map (some b)))(tf:Hid (∀V,Ext w1 V→Calls Tryz.prog 23 #[.agg #[.map (some b)]] V (kN M nb V)))(te:Hid (∀V S n c l G,Ext w1 V→bU M l→l.length≤nb→Sl el G V (.slice S n c) (cH M l)→Calls Tryz.prog 22 #[.agg #[c0,c1,c2,c3,c4],.slice S n c] V (lE ev V)))(hK:∀t6 t14 t17 t18 t19 t20 W,Ext w1 W→K ⟨#[u0,u1,.pointer (some ⟨g0,0,none⟩),.pointer (some ⟨g1,0,none⟩),u4,u5,t6,.int .i64 ev,u8,u9,sq,sr,su,sw,t14,.agg #[c0,c1,c2,c3,c4],.agg #[.map (some b)],t17,t18,t19,t20,sx,sy,sA,sB,sC,sD,sE,sF,sG,sH,sI,u32,sJ,sK,sL,sM,sN,sO,sP,sQ,sR,sS,sT,sU,sV,sW,sX,sY,sZ,ta,tc,td],[]⟩ W) :
  Code.wp Tryz.prog chkRgA (Exit.then K Q) ⟨#[u0,u1,.pointer (some ⟨g0,0,none⟩),.pointer (some ⟨g1,0,none⟩),u4,u5,x6,x7,u8,u9,sq,sr,su,sw,th,xa,xb,tj,tn,tp,tq,sx,sy,sA,sB,sC,sD,sE,sF,sG,sH,sI,u32,sJ,sK,sL,sM,sN,sO,sP,sQ,sR,sS,sT,sU,sV,sW,sX,sY,sZ,ta,tc,td],[]⟩ w1:=by
 have HK:=zN hK
 clear hK
 conv=>arg 2;whnf
 refine cR ?_
 refine wp_region_held_drew (S:=fun V=>Ext w1 V) (by kernel_rfl) (Ext.refl w1).drew (fun sg=>?_)
 refine wpAnyH_take (i:=0) (oi:=?ox0) (v:=.agg #[c0,c1,c2,c3,c4]) ?hx0 (by kernel_rfl) (by kernel_rfl) (by kernel_rfl) (fun _ _ _ h=>h) (Or.inl ⟨?wx0,?yx0⟩) sg ?rx0
 case hx0=>simp only[jd,jb,jc];rfl
 case wx0=>rfl
 case yx0 =>
  intro V sh
  have q0:=Ext.cell sh b0
  have q1:=Ext.cell sh b1
  have q2:=Ext.cell sh b2
  have q3:=Ext.cell sh b3
  have q4:=Ext.cell sh b4
  simp[go_sem,q0,q1,q2,q3,q4] <;> with_reducible rfl
 (try simp only[Act.put,jg,jh,ji])
 refine wpAnyH_take (i:=1) (oi:=?ox1) (v:=.agg #[.map (some b)]) ?hx1 (by kernel_rfl) (by kernel_rfl) (by kernel_rfl) (fun _ _ _ h=>h) (Or.inl ⟨?wx1,?yx1⟩) sg ?rx1
 case hx1=>simp only[jd,jb,jc];rfl
 case wx1=>rfl
 case yx1 =>
  intro V sh
  have q0:=Ext.cell sh b5
  simp[go_sem,q0] <;> with_reducible rfl
 (try simp only[Act.put,jg,jh,ji])
 clear b0 b1 b2 b3 b4 b5
 refine cD (I:=ChkJA w1 M nb ev (fun t6 t7 t14 t17 t18 t19 t20=>⟨#[u0,u1,.pointer (some ⟨g0,0,none⟩),.pointer (some ⟨g1,0,none⟩),u4,u5,t6,t7,u8,u9,sq,sr,su,sw,t14,.agg #[c0,c1,c2,c3,c4],.agg #[.map (some b)],t17,t18,t19,t20,sx,sy,sA,sB,sC,sD,sE,sF,sG,sH,sI,u32,sJ,sK,sL,sM,sN,sO,sP,sQ,sR,sS,sT,sU,sV,sW,sX,sY,sZ,ta,tc,td],[]⟩)) ?hS ?h0 ?h1 _ _ _ _ ?st
 case hS =>
  rintro n l tg W (⟨hn,rfl,t6,t7,t14,t17,t18,t19,t20,rfl,h⟩|⟨hn,rfl,t6,t7,t14,t17,t18,t19,t20,rfl,h⟩|⟨hn,rfl,t6,t7,t14,t17,t18,t19,t20,rfl,h⟩|⟨hn,rfl,t6,t7,t14,t17,t18,t19,t20,rfl,h⟩|⟨hn,rfl,t6,t7,t14,t17,t18,t19,t20,rfl,h⟩|⟨hn,rfl,t6,t7,t14,t17,t18,t19,t20,rfl,h⟩|⟨hn,rfl,t6,t7,t14,t17,t18,t19,t20,rfl,h⟩|⟨hn,rfl,t6,t7,t14,t17,t18,t19,t20,rfl,h⟩|⟨hn,rfl,t6,t7,t14,t17,t18,t19,t20,rfl,h⟩|⟨hn,rfl,t6,t7,t14,t17,t18,t19,t20,rfl,h⟩|⟨hn,rfl,t6,t7,t14,t17,t18,t19,t20,rfl,h⟩|⟨hn,rfl,t6,t7,t14,t17,t18,t19,t20,rfl,h⟩|⟨hn,rfl,t6,t7,t14,t17,t18,t19,t20,rfl,h⟩|⟨hn,rfl,t6,t7,t14,t17,t18,t19,t20,rfl,h⟩|⟨hn,rfl,t6,t7,t14,t17,t18,t19,t20,rfl,h⟩|⟨hn,rfl,t6,t7,t14,t17,t18,t19,t20,rfl,h⟩|⟨hn,rfl,t6,t7,t14,t17,t18,t19,t20,rfl,h⟩)
  ·exact h.ext
  ·exact h.ext
  ·exact h.ext
  ·exact h.ext
  ·exact h.ext
  ·exact h.ext
  ·exact h.ext
  ·exact h.ext
  ·exact h.ext
  ·exact h.ext
  ·exact h.ext
  ·exact h.ext
  ·exact h.ext
  ·exact h.ext
  ·exact h.ext
  ·exact h.ext
  ·exact h.ext
 case st=>exact .inl ⟨rfl,rfl,x6,x7,th,tj,tn,tp,tq,rfl,aW.start⟩
 case h0 =>
  rintro l tg W (⟨hn,rfl,t6,t7,t14,t17,t18,t19,t20,rfl,h⟩|⟨hn,rfl,t6,t7,t14,t17,t18,t19,t20,rfl,h⟩|⟨hn,rfl,t6,t7,t14,t17,t18,t19,t20,rfl,h⟩|⟨hn,rfl,t6,t7,t14,t17,t18,t19,t20,rfl,h⟩|⟨hn,rfl,t6,t7,t14,t17,t18,t19,t20,rfl,h⟩|⟨hn,rfl,t6,t7,t14,t17,t18,t19,t20,rfl,h⟩|⟨hn,rfl,t6,t7,t14,t17,t18,t19,t20,rfl,h⟩|⟨hn,rfl,t6,t7,t14,t17,t18,t19,t20,rfl,h⟩|⟨hn,rfl,t6,t7,t14,t17,t18,t19,t20,rfl,h⟩|⟨hn,rfl,t6,t7,t14,t17,t18,t19,t20,rfl,h⟩|⟨hn,rfl,t6,t7,t14,t17,t18,t19,t20,rfl,h⟩|⟨hn,rfl,t6,t7,t14,t17,t18,t19,t20,rfl,h⟩|⟨hn,rfl,t6,t7,t14,t17,t18,t19,t20,rfl,h⟩|⟨hn,rfl,t6,t7,t14,t17,t18,t19,t20,rfl,h⟩|⟨hn,rfl,t6,t7,t14,t17,t18,t19,t20,rfl,h⟩|⟨hn,rfl,t6,t7,t14,t17,t18,t19,t20,rfl,h⟩|⟨hn,rfl,t6,t7,t14,t17,t18,t19,t20,rfl,h⟩)
  ·exact absurd hn (by omega)
  ·exact absurd hn (by omega)
  ·exact absurd hn (by omega)
  ·exact absurd hn (by omega)
  ·exact absurd hn (by omega)
  ·exact absurd hn (by omega)
  ·exact absurd hn (by omega)
  ·exact absurd hn (by omega)
  ·exact absurd hn (by omega)
  ·exact absurd hn (by omega)
  ·exact absurd hn (by omega)
  ·exact absurd hn (by omega)
  ·exact absurd hn (by omega)
  ·exact absurd hn (by omega)
  ·exact absurd hn (by omega)
  ·exact absurd hn (by omega)
  ·refine⟨by kernel_rfl,?_⟩
   obtain rfl:=h.h9 rfl
   exact HK.out _ _ _ _ _ _ _ h.ext
 case h1 =>
  rintro m l tg W (⟨hn,rfl,t6,t7,t14,t17,t18,t19,t20,rfl,h⟩|⟨hn,rfl,t6,t7,t14,t17,t18,t19,t20,rfl,h⟩|⟨hn,rfl,t6,t7,t14,t17,t18,t19,t20,rfl,h⟩|⟨hn,rfl,t6,t7,t14,t17,t18,t19,t20,rfl,h⟩|⟨hn,rfl,t6,t7,t14,t17,t18,t19,t20,rfl,h⟩|⟨hn,rfl,t6,t7,t14,t17,t18,t19,t20,rfl,h⟩|⟨hn,rfl,t6,t7,t14,t17,t18,t19,t20,rfl,h⟩|⟨hn,rfl,t6,t7,t14,t17,t18,t19,t20,rfl,h⟩|⟨hn,rfl,t6,t7,t14,t17,t18,t19,t20,rfl,h⟩|⟨hn,rfl,t6,t7,t14,t17,t18,t19,t20,rfl,h⟩|⟨hn,rfl,t6,t7,t14,t17,t18,t19,t20,rfl,h⟩|⟨hn,rfl,t6,t7,t14,t17,t18,t19,t20,rfl,h⟩|⟨hn,rfl,t6,t7,t14,t17,t18,t19,t20,rfl,h⟩|⟨hn,rfl,t6,t7,t14,t17,t18,t19,t20,rfl,h⟩|⟨hn,rfl,t6,t7,t14,t17,t18,t19,t20,rfl,h⟩|⟨hn,rfl,t6,t7,t14,t17,t18,t19,t20,rfl,h⟩|⟨hn,rfl,t6,t7,t14,t17,t18,t19,t20,rfl,h⟩)
  ·obtain rfl:m=7:=by omega
   refine ab (rs:=[2,7]) (by kernel_rfl) (by simp) ?_
   refine aa (o:=?a0_2) ?b0_2 (fun K hK=>?c0_2) ?d0_2
   case b0_2=>simp only[jd,jb,jc];rfl
   case c0_2 =>
    go_simp
    go_at_call 23
    have hx:=h.ext
    (with_reducible refine(tf.out _ hx).mono ?_)
    rintro e W2 ⟨v,l,rfl,he,se,si,sj,sp⟩
    obtain⟨S2,c2,hv⟩:=se.sl
    subst hv
    (try simp only[Act.put,jg,jh,ji])
    exact hK.out _ _ (.inr (.inl ⟨rfl,rfl,t6,t7,t14,_,t18,t19,t20,rfl,h.call1 he se ⟨si,sp⟩ sj⟩))
   refine aa (o:=?a0_7) ?b0_7 (fun K hK=>?c0_7) ?d0_7
   case b0_7=>simp only[jd,jb,jc];rfl
   case c0_7 =>
    go_simp
    exact hK.out _ _ (.inr (.inr (.inl ⟨rfl,rfl,_,t7,t14,t17,t18,t19,t20,rfl,h.box⟩)))
   exact ah
  ·obtain rfl:m=6:=by omega
   refine ab (rs:=[3,7]) (by kernel_rfl) (by simp) ?_
   refine aa (o:=?a1_3) ?b1_3 (fun K hK=>?c1_3) ?d1_3
   case b1_3=>simp only[jd,jb,jc];rfl
   case c1_3 =>
    obtain⟨SS,nS,cs,l,G,rfl,si,sj,se⟩:=h.h2 rfl rfl
    have hx:=h.ext
    go_simp
    go_at_call 22
    (with_reducible refine(te.out _ _ _ _ _ _ hx si sj se).mono ?_)
    rintro e W2 ⟨he,A,n,c,B,m,d,rfl⟩
    (try simp only[Act.put,jg,jh,ji])
    exact hK.out _ _ (.inr (.inr (.inr (.inl ⟨rfl,rfl,t6,t7,t14,_,_,t19,t20,rfl,h.call2 he⟩))))
   refine aa (o:=?a1_7) ?b1_7 (fun K hK=>?c1_7) ?d1_7
   case b1_7=>simp only[jd,jb,jc];rfl
   case c1_7 =>
    go_simp
    exact hK.out _ _ (.inr (.inr (.inr (.inr (.inl ⟨rfl,rfl,_,t7,t14,t17,t18,t19,t20,rfl,h.box⟩)))))
   exact ah
  ·obtain rfl:m=6:=by omega
   refine ab (rs:=[2]) (by kernel_rfl) (by simp) ?_
   refine aa (o:=?a2_2) ?b2_2 (fun K hK=>?c2_2) ?d2_2
   case b2_2=>simp only[jd,jb,jc];rfl
   case c2_2 =>
    go_simp
    go_at_call 23
    have hx:=h.ext
    (with_reducible refine(tf.out _ hx).mono ?_)
    rintro e W2 ⟨v,l,rfl,he,se,si,sj,sp⟩
    obtain⟨S2,c2,hv⟩:=se.sl
    subst hv
    (try simp only[Act.put,jg,jh,ji])
    exact hK.out _ _ (.inr (.inr (.inr (.inr (.inl ⟨rfl,rfl,t6,t7,t14,_,t18,t19,t20,rfl,h.call1 he se ⟨si,sp⟩ sj⟩)))))
   exact ah
  ·obtain rfl:m=5:=by omega
   refine ab (rs:=[4,7]) (by kernel_rfl) (by simp) ?_
   refine aa (o:=?a3_4) ?b3_4 (fun K hK=>?c3_4) ?d3_4
   case b3_4=>simp only[jd,jb,jc];rfl
   case c3_4 =>
    obtain⟨A,n,c,B,m,d,rfl⟩:=h.h3 rfl
    go_simp
    exact hK.out _ _ (.inr (.inr (.inr (.inr (.inr (.inl ⟨rfl,rfl,t6,t7,_,t17,_,t19,t20,rfl,h.mv⟩))))))
   refine aa (o:=?a3_7) ?b3_7 (fun K hK=>?c3_7) ?d3_7
   case b3_7=>simp only[jd,jb,jc];rfl
   case c3_7 =>
    go_simp
    exact hK.out _ _ (.inr (.inr (.inr (.inr (.inr (.inr (.inl ⟨rfl,rfl,_,t7,t14,t17,t18,t19,t20,rfl,h.box⟩)))))))
   exact ah
  ·obtain rfl:m=5:=by omega
   refine ab (rs:=[3]) (by kernel_rfl) (by simp) ?_
   refine aa (o:=?a4_3) ?b4_3 (fun K hK=>?c4_3) ?d4_3
   case b4_3=>simp only[jd,jb,jc];rfl
   case c4_3 =>
    obtain⟨SS,nS,cs,l,G,rfl,si,sj,se⟩:=h.h2 rfl rfl
    have hx:=h.ext
    go_simp
    go_at_call 22
    (with_reducible refine(te.out _ _ _ _ _ _ hx si sj se).mono ?_)
    rintro e W2 ⟨he,A,n,c,B,m,d,rfl⟩
    (try simp only[Act.put,jg,jh,ji])
    exact hK.out _ _ (.inr (.inr (.inr (.inr (.inr (.inr (.inl ⟨rfl,rfl,t6,t7,t14,_,_,t19,t20,rfl,h.call2 he⟩)))))))
   exact ah
  ·obtain rfl:m=4:=by omega
   refine ab (rs:=[5,6,7]) (by kernel_rfl) (by simp) ?_
   refine aa (o:=?a5_5) ?b5_5 (fun K hK=>?c5_5) ?d5_5
   case b5_5=>simp only[jd,jb,jc];rfl
   case c5_5 =>
    obtain⟨A,n,c,B,m,d,rfl⟩:=h.h3 rfl
    obtain rfl:=h.h4 rfl
    go_simp
    exact hK.out _ _ (.inr (.inr (.inr (.inr (.inr (.inr (.inr (.inl ⟨rfl,rfl,t6,t7,_,t17,_,_,t20,rfl,h.ex0⟩))))))))
   refine aa (o:=?a5_6) ?b5_6 (fun K hK=>?c5_6) ?d5_6
   case b5_6=>simp only[jd,jb,jc];rfl
   case c5_6 =>
    obtain⟨A,n,c,B,m,d,rfl⟩:=h.h3 rfl
    obtain rfl:=h.h4 rfl
    go_simp
    exact hK.out _ _ (.inr (.inr (.inr (.inr (.inr (.inr (.inr (.inr (.inl ⟨rfl,rfl,t6,t7,_,t17,_,t19,_,rfl,h.ex1⟩)))))))))
   refine aa (o:=?a5_7) ?b5_7 (fun K hK=>?c5_7) ?d5_7
   case b5_7=>simp only[jd,jb,jc];rfl
   case c5_7 =>
    go_simp
    exact hK.out _ _ (.inr (.inr (.inr (.inr (.inr (.inr (.inr (.inr (.inr (.inl ⟨rfl,rfl,_,t7,t14,t17,t18,t19,t20,rfl,h.box⟩))))))))))
   exact ah
  ·obtain rfl:m=4:=by omega
   refine ab (rs:=[4]) (by kernel_rfl) (by simp) ?_
   refine aa (o:=?a6_4) ?b6_4 (fun K hK=>?c6_4) ?d6_4
   case b6_4=>simp only[jd,jb,jc];rfl
   case c6_4 =>
    obtain⟨A,n,c,B,m,d,rfl⟩:=h.h3 rfl
    go_simp
    exact hK.out _ _ (.inr (.inr (.inr (.inr (.inr (.inr (.inr (.inr (.inr (.inl ⟨rfl,rfl,t6,t7,_,t17,_,t19,t20,rfl,h.mv⟩))))))))))
   exact ah
  ·obtain rfl:m=3:=by omega
   refine ab (rs:=[6,7]) (by kernel_rfl) (by simp) ?_
   refine aa (o:=?a7_6) ?b7_6 (fun K hK=>?c7_6) ?d7_6
   case b7_6=>simp only[jd,jb,jc];rfl
   case c7_6 =>
    obtain⟨A,n,c,B,m,d,rfl⟩:=h.h3 rfl
    obtain rfl:=h.h4 rfl
    go_simp
    exact hK.out _ _ (.inr (.inr (.inr (.inr (.inr (.inr (.inr (.inr (.inr (.inr (.inl ⟨rfl,rfl,t6,t7,_,t17,_,t19,_,rfl,h.ex1⟩)))))))))))
   refine aa (o:=?a7_7) ?b7_7 (fun K hK=>?c7_7) ?d7_7
   case b7_7=>simp only[jd,jb,jc];rfl
   case c7_7 =>
    go_simp
    exact hK.out _ _ (.inr (.inr (.inr (.inr (.inr (.inr (.inr (.inr (.inr (.inr (.inr (.inl ⟨rfl,rfl,_,t7,t14,t17,t18,t19,t20,rfl,h.box⟩))))))))))))
   exact ah
  ·obtain rfl:m=3:=by omega
   refine ab (rs:=[5,7]) (by kernel_rfl) (by simp) ?_
   refine aa (o:=?a8_5) ?b8_5 (fun K hK=>?c8_5) ?d8_5
   case b8_5=>simp only[jd,jb,jc];rfl
   case c8_5 =>
    obtain⟨A,n,c,B,m,d,rfl⟩:=h.h3 rfl
    obtain rfl:=h.h4 rfl
    go_simp
    exact hK.out _ _ (.inr (.inr (.inr (.inr (.inr (.inr (.inr (.inr (.inr (.inr (.inl ⟨rfl,rfl,t6,t7,_,t17,_,_,t20,rfl,h.ex0⟩)))))))))))
   refine aa (o:=?a8_7) ?b8_7 (fun K hK=>?c8_7) ?d8_7
   case b8_7=>simp only[jd,jb,jc];rfl
   case c8_7 =>
    go_simp
    exact hK.out _ _ (.inr (.inr (.inr (.inr (.inr (.inr (.inr (.inr (.inr (.inr (.inr (.inr (.inl ⟨rfl,rfl,_,t7,t14,t17,t18,t19,t20,rfl,h.box⟩)))))))))))))
   exact ah
  ·obtain rfl:m=3:=by omega
   refine ab (rs:=[5,6]) (by kernel_rfl) (by simp) ?_
   refine aa (o:=?a9_5) ?b9_5 (fun K hK=>?c9_5) ?d9_5
   case b9_5=>simp only[jd,jb,jc];rfl
   case c9_5 =>
    obtain⟨A,n,c,B,m,d,rfl⟩:=h.h3 rfl
    obtain rfl:=h.h4 rfl
    go_simp
    exact hK.out _ _ (.inr (.inr (.inr (.inr (.inr (.inr (.inr (.inr (.inr (.inr (.inr (.inl ⟨rfl,rfl,t6,t7,_,t17,_,_,t20,rfl,h.ex0⟩))))))))))))
   refine aa (o:=?a9_6) ?b9_6 (fun K hK=>?c9_6) ?d9_6
   case b9_6=>simp only[jd,jb,jc];rfl
   case c9_6 =>
    obtain⟨A,n,c,B,m,d,rfl⟩:=h.h3 rfl
    obtain rfl:=h.h4 rfl
    go_simp
    exact hK.out _ _ (.inr (.inr (.inr (.inr (.inr (.inr (.inr (.inr (.inr (.inr (.inr (.inr (.inl ⟨rfl,rfl,t6,t7,_,t17,_,t19,_,rfl,h.ex1⟩)))))))))))))
   exact ah
  ·obtain rfl:m=2:=by omega
   refine ab (rs:=[7]) (by kernel_rfl) (by simp) ?_
   refine aa (o:=?a10_7) ?b10_7 (fun K hK=>?c10_7) ?d10_7
   case b10_7=>simp only[jd,jb,jc];rfl
   case c10_7 =>
    go_simp
    exact hK.out _ _ (.inr (.inr (.inr (.inr (.inr (.inr (.inr (.inr (.inr (.inr (.inr (.inr (.inr (.inl ⟨rfl,rfl,_,t7,t14,t17,t18,t19,t20,rfl,h.box⟩))))))))))))))
   exact ah
  ·obtain rfl:m=2:=by omega
   refine ab (rs:=[6,8]) (by kernel_rfl) (by simp) ?_
   refine aa (o:=?a11_6) ?b11_6 (fun K hK=>?c11_6) ?d11_6
   case b11_6=>simp only[jd,jb,jc];rfl
   case c11_6 =>
    obtain⟨A,n,c,B,m,d,rfl⟩:=h.h3 rfl
    obtain rfl:=h.h4 rfl
    go_simp
    exact hK.out _ _ (.inr (.inr (.inr (.inr (.inr (.inr (.inr (.inr (.inr (.inr (.inr (.inr (.inr (.inl ⟨rfl,rfl,t6,t7,_,t17,_,t19,_,rfl,h.ex1⟩))))))))))))))
   refine aa (o:=?a11_8) ?b11_8 (fun K hK=>?c11_8) ?d11_8
   case b11_8=>simp only[jd,jb,jc];rfl
   case c11_8 =>
    obtain⟨A,n,c,B,m,d,rfl⟩:=h.h5 rfl
    obtain⟨g,x,y,rfl,hg,hb⟩:=h.h7 rfl rfl
    have k0:=hb.c0;have k1:=hb.c1;have k2:=hb.free 0;have k3:=hb.free 1
    have h9:=(h.store hg (.slice A n c) (.slice B m d))
    clear hb h
    go_simp
    exact hK.out _ _ (.inr (.inr (.inr (.inr (.inr (.inr (.inr (.inr (.inr (.inr (.inr (.inr (.inr (.inr (.inl ⟨rfl,rfl,_,t7,t14,t17,t18,_,t20,rfl,h9⟩)))))))))))))))
   exact ah
  ·obtain rfl:m=2:=by omega
   refine ab (rs:=[5]) (by kernel_rfl) (by simp) ?_
   refine aa (o:=?a12_5) ?b12_5 (fun K hK=>?c12_5) ?d12_5
   case b12_5=>simp only[jd,jb,jc];rfl
   case c12_5 =>
    obtain⟨A,n,c,B,m,d,rfl⟩:=h.h3 rfl
    obtain rfl:=h.h4 rfl
    go_simp
    exact hK.out _ _ (.inr (.inr (.inr (.inr (.inr (.inr (.inr (.inr (.inr (.inr (.inr (.inr (.inr (.inl ⟨rfl,rfl,t6,t7,_,t17,_,_,t20,rfl,h.ex0⟩))))))))))))))
   exact ah
  ·obtain rfl:m=1:=by omega
   refine ab (rs:=[8]) (by kernel_rfl) (by simp) ?_
   refine aa (o:=?a13_8) ?b13_8 (fun K hK=>?c13_8) ?d13_8
   case b13_8=>simp only[jd,jb,jc];rfl
   case c13_8 =>
    obtain⟨A,n,c,B,m,d,rfl⟩:=h.h5 rfl
    obtain⟨g,x,y,rfl,hg,hb⟩:=h.h7 rfl rfl
    have k0:=hb.c0;have k1:=hb.c1;have k2:=hb.free 0;have k3:=hb.free 1
    have h9:=(h.store hg (.slice A n c) (.slice B m d))
    clear hb h
    go_simp
    exact hK.out _ _ (.inr (.inr (.inr (.inr (.inr (.inr (.inr (.inr (.inr (.inr (.inr (.inr (.inr (.inr (.inr (.inl ⟨rfl,rfl,_,t7,t14,t17,t18,_,t20,rfl,h9⟩))))))))))))))))
   exact ah
  ·obtain rfl:m=1:=by omega
   refine ab (rs:=[6]) (by kernel_rfl) (by simp) ?_
   refine aa (o:=?a14_6) ?b14_6 (fun K hK=>?c14_6) ?d14_6
   case b14_6=>simp only[jd,jb,jc];rfl
   case c14_6 =>
    obtain⟨A,n,c,B,m,d,rfl⟩:=h.h3 rfl
    obtain rfl:=h.h4 rfl
    go_simp
    exact hK.out _ _ (.inr (.inr (.inr (.inr (.inr (.inr (.inr (.inr (.inr (.inr (.inr (.inr (.inr (.inr (.inr (.inl ⟨rfl,rfl,t6,t7,_,t17,_,t19,_,rfl,h.ex1⟩))))))))))))))))
   exact ah
  ·obtain rfl:m=0:=by omega
   refine ab (rs:=[9]) (by kernel_rfl) (by simp) ?_
   refine aa (o:=?a15_9) ?b15_9 (fun K hK=>?c15_9) ?d15_9
   case b15_9=>simp only[jd,jb,jc];rfl
   case c15_9 =>
    obtain rfl:=h.h6 rfl
    go_simp
    exact hK.out _ _ (.inr (.inr (.inr (.inr (.inr (.inr (.inr (.inr (.inr (.inr (.inr (.inr (.inr (.inr (.inr (.inr (⟨rfl,rfl,t6,_,t14,t17,t18,t19,_,rfl,h.asg⟩)))))))))))))))))
   exact ah
  ·exact absurd hn (by omega)
noncomputable def colRgA:Code:=((Tryz.f14.body.bind (aK 11)).getD .skip)
def ColJA(w1:World)(r:Rl)(hd:List ByteArray)(F:Value→Value→Value→ Act)(n:Nat)(l:Array Bool)(act:Act)(W:World):Prop :=
 (n=4∧l=#[true,false,true,true,false,false,false]∧∃t12 t36 t39,act=F t12 t36 t39∧dF w1 r hd false false false false t12 t36 t39 W)∨(n=3∧l=#[true,true,true,true,false,false,false]∧∃t12 t36 t39,act=F t12 t36 t39∧dF w1 r hd true false false false t12 t36 t39 W)∨(n=3∧l=#[true,false,true,true,false,true,false]∧∃t12 t36 t39,act=F t12 t36 t39∧dF w1 r hd false false true false t12 t36 t39 W)∨(n=2∧l=#[true,true,true,true,true,false,false]∧∃t12 t36 t39,act=F t12 t36 t39∧dF w1 r hd true true false false t12 t36 t39 W)∨(n=2∧l=#[true,true,true,true,false,true,false]∧∃t12 t36 t39,act=F t12 t36 t39∧dF w1 r hd true false true false t12 t36 t39 W)∨(n=1∧l=#[true,true,true,true,true,true,false]∧∃t12 t36 t39,act=F t12 t36 t39∧dF w1 r hd true true true false t12 t36 t39 W)∨(n=0∧l=#[true,true,true,true,true,true,true]∧∃t12 t36 t39,act=F t12 t36 t39∧dF w1 r hd true true true true t12 t36 t39 W)
theorem col_regA{K:Act→World→Prop}{Q:Exit→Act→World→Prop}{w1:World}{r:Rl}{hd:List ByteArray}{g0 g1:Nat}{c0 r0 r1 u0 u1 u3 u4 u5 u6 u7 u8 u9 si sj sp sq sr su sw sx sy sA sB sC sD sE sF sG sH sI sJ sK u32 sL sM sN sO sP sQ sR sS sT sU sV sW sX sY sZ te tf tg xa xb xc:Value}(b0:w1.cell? ⟨g0,0,none⟩=some c0)(b1:w1.cell? ⟨g1,0,none⟩=some r0)(b2:w1.cell? ⟨g1,1,none⟩=some r1)(tc:Hid (∀V,Ext w1 V→Calls Tryz.prog 48 #[.agg #[r0,r1]] V (Ret (fun x w'=>w'.ownsRow V.heap.size 9 1 x (aj r).length ((aj r).map Sv)) V)))(ta:Hid (∀V B v,Ext w1 V→V.ownsRow B 9 1 v (aj r).length ((aj r).map Sv)→Calls Tryz.prog 47 #[v,c0] V (Ret (fun x w'=>w'.ownsRow V.heap.size 3 1 x hd.length ((aC (aj r) hd).map I64)) V)))(hK:∀t12 t36 t39 W,dF w1 r hd true true true true t12 t36 t39 W→K ⟨#[u0,u1,.pointer (some ⟨g0,0,none⟩),u3,u4,u5,u6,u7,u8,u9,si,.pointer (some ⟨g1,0,none⟩),t12,sj,sp,sq,sr,su,sw,sx,sy,sA,sB,sC,sD,sE,sF,sG,sH,sI,sJ,sK,u32,sL,sM,.agg #[r0,r1],t36,.pointer (some ⟨g0,0,none⟩),c0,t39,sN,sO,sP,sQ,sR,sS,sT,sU,sV,sW,sX,sY,sZ],[]⟩ W) :
  Code.wp Tryz.prog colRgA (Exit.then K Q) ⟨#[u0,u1,.pointer (some ⟨g0,0,none⟩),u3,u4,u5,u6,u7,u8,u9,si,.pointer (some ⟨g1,0,none⟩),te,sj,sp,sq,sr,su,sw,sx,sy,sA,sB,sC,sD,sE,sF,sG,sH,sI,sJ,sK,u32,sL,sM,xa,tf,xb,xc,tg,sN,sO,sP,sQ,sR,sS,sT,sU,sV,sW,sX,sY,sZ],[]⟩ w1:=by
 have HK:=zN hK
 clear hK
 conv=>arg 2;whnf
 refine cR ?_
 refine wp_region_held_drew (S:=fun V=>Ext w1 V) (by kernel_rfl) (Ext.refl w1).drew (fun se=>?_)
 refine wpAnyH_take (i:=0) (oi:=?ox0) (v:=.agg #[r0,r1]) ?hx0 (by kernel_rfl) (by kernel_rfl) (by kernel_rfl) (fun _ _ _ h=>h) (Or.inl ⟨?wx0,?yx0⟩) se ?rx0
 case hx0=>simp only[jd,jb,jc];rfl
 case wx0=>rfl
 case yx0 =>
  intro V sh
  have q0:=Ext.cell sh b1
  have q1:=Ext.cell sh b2
  simp[go_sem,q0,q1] <;> with_reducible rfl
 (try simp only[Act.put,jg,jh,ji])
 refine wpAnyH_take (i:=2) (oi:=?ox2) (v:=.pointer (some ⟨g0,0,none⟩)) ?hx2 (by kernel_rfl) (by kernel_rfl) (by kernel_rfl) (fun _ _ _ h=>h) (Or.inl ⟨?wx2,?yx2⟩) se ?rx2
 case hx2=>simp only[jd,jb,jc];rfl
 case wx2=>rfl
 case yx2 =>
  intro V sh

  simp[go_sem] <;> with_reducible rfl
 (try simp only[Act.put,jg,jh,ji])
 refine wpAnyH_take (i:=3) (oi:=?ox3) (v:=c0) ?hx3 (by kernel_rfl) (by kernel_rfl) (by kernel_rfl) (fun _ _ _ h=>h) (Or.inl ⟨?wx3,?yx3⟩) se ?rx3
 case hx3=>simp only[jd,jb,jc];rfl
 case wx3=>rfl
 case yx3 =>
  intro V sh
  have q0:=Ext.cell sh b0
  simp[go_sem,q0] <;> with_reducible rfl
 (try simp only[Act.put,jg,jh,ji])
 clear b0 b1 b2
 refine cD (I:=ColJA w1 r hd (fun t12 t36 t39=>⟨#[u0,u1,.pointer (some ⟨g0,0,none⟩),u3,u4,u5,u6,u7,u8,u9,si,.pointer (some ⟨g1,0,none⟩),t12,sj,sp,sq,sr,su,sw,sx,sy,sA,sB,sC,sD,sE,sF,sG,sH,sI,sJ,sK,u32,sL,sM,.agg #[r0,r1],t36,.pointer (some ⟨g0,0,none⟩),c0,t39,sN,sO,sP,sQ,sR,sS,sT,sU,sV,sW,sX,sY,sZ],[]⟩)) ?hS ?h0 ?h1 _ _ _ _ ?st
 case hS =>
  rintro n l td W (⟨hn,rfl,t12,t36,t39,rfl,h⟩|⟨hn,rfl,t12,t36,t39,rfl,h⟩|⟨hn,rfl,t12,t36,t39,rfl,h⟩|⟨hn,rfl,t12,t36,t39,rfl,h⟩|⟨hn,rfl,t12,t36,t39,rfl,h⟩|⟨hn,rfl,t12,t36,t39,rfl,h⟩|⟨hn,rfl,t12,t36,t39,rfl,h⟩)
  ·exact h.ext
  ·exact h.ext
  ·exact h.ext
  ·exact h.ext
  ·exact h.ext
  ·exact h.ext
  ·exact h.ext
 case st=>exact .inl ⟨rfl,rfl,te,tf,tg,rfl,dF.start⟩
 case h0 =>
  rintro l td W (⟨hn,rfl,t12,t36,t39,rfl,h⟩|⟨hn,rfl,t12,t36,t39,rfl,h⟩|⟨hn,rfl,t12,t36,t39,rfl,h⟩|⟨hn,rfl,t12,t36,t39,rfl,h⟩|⟨hn,rfl,t12,t36,t39,rfl,h⟩|⟨hn,rfl,t12,t36,t39,rfl,h⟩|⟨hn,rfl,t12,t36,t39,rfl,h⟩)
  ·exact absurd hn (by omega)
  ·exact absurd hn (by omega)
  ·exact absurd hn (by omega)
  ·exact absurd hn (by omega)
  ·exact absurd hn (by omega)
  ·exact absurd hn (by omega)
  ·refine⟨by kernel_rfl,?_⟩
   exact HK.out _ _ _ _ h
 case h1 =>
  rintro m l td W (⟨hn,rfl,t12,t36,t39,rfl,h⟩|⟨hn,rfl,t12,t36,t39,rfl,h⟩|⟨hn,rfl,t12,t36,t39,rfl,h⟩|⟨hn,rfl,t12,t36,t39,rfl,h⟩|⟨hn,rfl,t12,t36,t39,rfl,h⟩|⟨hn,rfl,t12,t36,t39,rfl,h⟩|⟨hn,rfl,t12,t36,t39,rfl,h⟩)
  ·obtain rfl:m=3:=by omega
   refine ab (rs:=[1,5]) (by kernel_rfl) (by simp) ?_
   refine aa (o:=?a0_1) ?b0_1 (fun K hK=>?c0_1) ?d0_1
   case b0_1=>simp only[jd,jb,jc];rfl
   case c0_1 =>
    go_simp
    go_at_call 48
    have hx:=h.ext
    (with_reducible refine(tc.out _ hx).mono ?_)
    rintro e W2 ⟨v,rfl,he,hv⟩
    (try simp only[Act.put,jg,jh,ji])
    exact hK.out _ _ (.inr (.inl ⟨rfl,rfl,t12,_,t39,rfl,h.call1 he hv⟩))
   refine aa (o:=?a0_5) ?b0_5 (fun K hK=>?c0_5) ?d0_5
   case b0_5=>simp only[jd,jb,jc];rfl
   case c0_5 =>
    go_simp
    exact hK.out _ _ (.inr (.inr (.inl ⟨rfl,rfl,_,t36,t39,rfl,h.box⟩)))
   exact ah
  ·obtain rfl:m=2:=by omega
   refine ab (rs:=[4,5]) (by kernel_rfl) (by simp) ?_
   refine aa (o:=?a1_4) ?b1_4 (fun K hK=>?c1_4) ?d1_4
   case b1_4=>simp only[jd,jb,jc];rfl
   case c1_4 =>
    obtain⟨B,hB,hv⟩:=h.h1 rfl
    have hx:=h.ext
    go_simp
    go_at_call 47
    (with_reducible refine(ta.out _ _ _ hx hv).mono ?_)
    rintro e W2 ⟨v,rfl,he,sg⟩
    (try simp only[Act.put,jg,jh,ji])
    exact hK.out _ _ (.inr (.inr (.inr (.inl ⟨rfl,rfl,t12,t36,_,rfl,h.call2 he sg⟩))))
   refine aa (o:=?a1_5) ?b1_5 (fun K hK=>?c1_5) ?d1_5
   case b1_5=>simp only[jd,jb,jc];rfl
   case c1_5 =>
    go_simp
    exact hK.out _ _ (.inr (.inr (.inr (.inr (.inl ⟨rfl,rfl,_,t36,t39,rfl,h.box⟩)))))
   exact ah
  ·obtain rfl:m=2:=by omega
   refine ab (rs:=[1]) (by kernel_rfl) (by simp) ?_
   refine aa (o:=?a2_1) ?b2_1 (fun K hK=>?c2_1) ?d2_1
   case b2_1=>simp only[jd,jb,jc];rfl
   case c2_1 =>
    go_simp
    go_at_call 48
    have hx:=h.ext
    (with_reducible refine(tc.out _ hx).mono ?_)
    rintro e W2 ⟨v,rfl,he,hv⟩
    (try simp only[Act.put,jg,jh,ji])
    exact hK.out _ _ (.inr (.inr (.inr (.inr (.inl ⟨rfl,rfl,t12,_,t39,rfl,h.call1 he hv⟩)))))
   exact ah
  ·obtain rfl:m=1:=by omega
   refine ab (rs:=[5]) (by kernel_rfl) (by simp) ?_
   refine aa (o:=?a3_5) ?b3_5 (fun K hK=>?c3_5) ?d3_5
   case b3_5=>simp only[jd,jb,jc];rfl
   case c3_5 =>
    go_simp
    exact hK.out _ _ (.inr (.inr (.inr (.inr (.inr (.inl ⟨rfl,rfl,_,t36,t39,rfl,h.box⟩))))))
   exact ah
  ·obtain rfl:m=1:=by omega
   refine ab (rs:=[4]) (by kernel_rfl) (by simp) ?_
   refine aa (o:=?a4_4) ?b4_4 (fun K hK=>?c4_4) ?d4_4
   case b4_4=>simp only[jd,jb,jc];rfl
   case c4_4 =>
    obtain⟨B,hB,hv⟩:=h.h1 rfl
    have hx:=h.ext
    go_simp
    go_at_call 47
    (with_reducible refine(ta.out _ _ _ hx hv).mono ?_)
    rintro e W2 ⟨v,rfl,he,sg⟩
    (try simp only[Act.put,jg,jh,ji])
    exact hK.out _ _ (.inr (.inr (.inr (.inr (.inr (.inl ⟨rfl,rfl,t12,t36,_,rfl,h.call2 he sg⟩))))))
   exact ah
  ·obtain rfl:m=0:=by omega
   refine ab (rs:=[6]) (by kernel_rfl) (by simp) ?_
   refine aa (o:=?a5_6) ?b5_6 (fun K hK=>?c5_6) ?d5_6
   case b5_6=>simp only[jd,jb,jc];rfl
   case c5_6 =>
    obtain⟨B2,th,sg⟩:=h.h4 rfl
    obtain⟨A2,c2,rfl⟩:=af sg
    obtain⟨g,rfl,hg,hb⟩:=h.h5 rfl
    have k0:=hb.c0;have k1:=hb.free 0
    try simp only[if_false,Bool.false_eq_true,ja]at k0
    have h9:=h.store
    clear hb h sg
    go_simp
    exact hK.out _ _ (.inr (.inr (.inr (.inr (.inr (.inr (⟨rfl,rfl,_,t36,_,rfl,h9⟩)))))))
   exact ah
  ·exact absurd hn (by omega)
noncomputable def srtRgA:Code:=((Tryz.f14.body.bind (aK 16)).getD .skip)
def SrtJA(w1:World)(hd:List ByteArray)(od:List Ky)(c0 c1 c2 c3 c4 v:Value)(P:World→Prop)(F:Value→Value→Value→Value→ Act)(n:Nat)(l:Array Bool)(act:Act)(W:World):Prop :=
 (n=4∧l=#[false,false,false,false]∧∃t48 t49 t50 t51,act=F t48 t49 t50 t51∧dv w1 hd od (.agg #[c0,c1,c2,c3,c4]) v P false false false false t48 t49 t50 t51 W)∨(n=3∧l=#[true,false,false,false]∧∃t48 t49 t50 t51,act=F t48 t49 t50 t51∧dv w1 hd od (.agg #[c0,c1,c2,c3,c4]) v P true false false false t48 t49 t50 t51 W)∨(n=3∧l=#[false,true,false,false]∧∃t48 t49 t50 t51,act=F t48 t49 t50 t51∧dv w1 hd od (.agg #[c0,c1,c2,c3,c4]) v P false true false false t48 t49 t50 t51 W)∨(n=2∧l=#[true,true,false,false]∧∃t48 t49 t50 t51,act=F t48 t49 t50 t51∧dv w1 hd od (.agg #[c0,c1,c2,c3,c4]) v P true true false false t48 t49 t50 t51 W)∨(n=2∧l=#[false,true,true,false]∧∃t48 t49 t50 t51,act=F t48 t49 t50 t51∧dv w1 hd od (.agg #[c0,c1,c2,c3,c4]) v P false true true false t48 t49 t50 t51 W)∨(n=1∧l=#[true,true,true,false]∧∃t48 t49 t50 t51,act=F t48 t49 t50 t51∧dv w1 hd od (.agg #[c0,c1,c2,c3,c4]) v P true true true false t48 t49 t50 t51 W)∨(n=0∧l=#[true,true,true,true]∧∃t48 t49 t50 t51,act=F t48 t49 t50 t51∧dv w1 hd od (.agg #[c0,c1,c2,c3,c4]) v P true true true true t48 t49 t50 t51 W)
theorem srt_regA{K:Act→World→Prop}{Q:Exit→Act→World→Prop}{w1:World}{hd:List ByteArray}{od:List Ky}{P:World→Prop}{g0 g1:Nat}{c0 c1 c2 c3 c4 v u0 u1 u3 u4 u5 u6 u7 u8 se sg sh si sj sp sq sr su sw sx sy sA sB sC sD sE sF sG sH sI sJ u32 sK sL sM sN sO sP sQ sR sS sT sU sV sW sX sY sZ te tf tg th:Value}(B0:w1.cell? ⟨g0,0,none⟩=some c0)(B1:w1.cell? ⟨g0,1,none⟩=some c1)(B2:w1.cell? ⟨g0,2,none⟩=some c2)(B3:w1.cell? ⟨g0,3,none⟩=some c3)(B4:w1.cell? ⟨g0,4,none⟩=some c4)(B5:w1.cell? ⟨g1,0,none⟩=some v)(tn:v.oneCell'=true)(ta:Hid (∀V,Ext w1 V→Calls Tryz.prog 54 #[.agg #[c0,c1,c2,c3,c4]] V (dm hd od V)))(tj:Hid (∀V W vf,Ext w1 V→dm hd od V (.returned vf) W→Calls Tryz.prog 53 #[v,vf] W (fun e w'=>e=.returned (.tuple #[])∧P w')))(hK:∀t48 t49 t50 t51 W,P W→K ⟨#[u0,u1,.pointer (some ⟨g0,0,none⟩),u3,u4,u5,u6,u7,u8,.pointer (some ⟨g1,0,none⟩),se,sg,sh,si,sj,sp,sq,sr,su,sw,sx,sy,sA,sB,sC,sD,sE,sF,sG,sH,sI,sJ,u32,sK,sL,sM,sN,sO,sP,sQ,sR,sS,sT,sU,sV,sW,sX,sY,t48,t49,t50,t51,sZ],[]⟩ W) :
  Code.wp Tryz.prog srtRgA (Exit.then K Q) ⟨#[u0,u1,.pointer (some ⟨g0,0,none⟩),u3,u4,u5,u6,u7,u8,.pointer (some ⟨g1,0,none⟩),se,sg,sh,si,sj,sp,sq,sr,su,sw,sx,sy,sA,sB,sC,sD,sE,sF,sG,sH,sI,sJ,u32,sK,sL,sM,sN,sO,sP,sQ,sR,sS,sT,sU,sV,sW,sX,sY,te,tf,tg,th,sZ],[]⟩ w1:=by
 have HK:=zN hK
 clear hK
 conv=>arg 2;whnf
 refine cR ?_
 refine wp_region_held_drew (S:=fun _=>True) (by kernel_rfl) trivial (fun td=>?_)
 refine cD (I:=SrtJA w1 hd od c0 c1 c2 c3 c4 v P (fun t48 t49 t50 t51=>⟨#[u0,u1,.pointer (some ⟨g0,0,none⟩),u3,u4,u5,u6,u7,u8,.pointer (some ⟨g1,0,none⟩),se,sg,sh,si,sj,sp,sq,sr,su,sw,sx,sy,sA,sB,sC,sD,sE,sF,sG,sH,sI,sJ,u32,sK,sL,sM,sN,sO,sP,sQ,sR,sS,sT,sU,sV,sW,sX,sY,t48,t49,t50,t51,sZ],[]⟩)) ?hS ?h0 ?h1 _ _ _ _ ?st
 case hS =>
  rintro n l tc W (⟨hn,rfl,t48,t49,t50,t51,rfl,h⟩|⟨hn,rfl,t48,t49,t50,t51,rfl,h⟩|⟨hn,rfl,t48,t49,t50,t51,rfl,h⟩|⟨hn,rfl,t48,t49,t50,t51,rfl,h⟩|⟨hn,rfl,t48,t49,t50,t51,rfl,h⟩|⟨hn,rfl,t48,t49,t50,t51,rfl,h⟩|⟨hn,rfl,t48,t49,t50,t51,rfl,h⟩)
  all_goals trivial
 case st=>exact .inl ⟨rfl,rfl,te,tf,tg,th,rfl,dv.start⟩
 case h0 =>
  rintro l tc W (⟨hn,rfl,t48,t49,t50,t51,rfl,h⟩|⟨hn,rfl,t48,t49,t50,t51,rfl,h⟩|⟨hn,rfl,t48,t49,t50,t51,rfl,h⟩|⟨hn,rfl,t48,t49,t50,t51,rfl,h⟩|⟨hn,rfl,t48,t49,t50,t51,rfl,h⟩|⟨hn,rfl,t48,t49,t50,t51,rfl,h⟩|⟨hn,rfl,t48,t49,t50,t51,rfl,h⟩)
  ·exact absurd hn (by omega)
  ·exact absurd hn (by omega)
  ·exact absurd hn (by omega)
  ·exact absurd hn (by omega)
  ·exact absurd hn (by omega)
  ·exact absurd hn (by omega)
  ·refine⟨by kernel_rfl,?_⟩
   exact HK.out _ _ _ _ _ (h.h3 rfl)
 case h1 =>
  rintro m l tc W (⟨hn,rfl,t48,t49,t50,t51,rfl,h⟩|⟨hn,rfl,t48,t49,t50,t51,rfl,h⟩|⟨hn,rfl,t48,t49,t50,t51,rfl,h⟩|⟨hn,rfl,t48,t49,t50,t51,rfl,h⟩|⟨hn,rfl,t48,t49,t50,t51,rfl,h⟩|⟨hn,rfl,t48,t49,t50,t51,rfl,h⟩|⟨hn,rfl,t48,t49,t50,t51,rfl,h⟩)
  ·obtain rfl:m=3:=by omega
   refine ab (rs:=[0,1]) (by kernel_rfl) (by simp) ?_
   refine aa (o:=?a0_0) ?b0_0 (fun K hK=>?c0_0) ?d0_0
   case b0_0=>simp only[jd,jb,jc];rfl
   case c0_0 =>
    have k0:=(h.ext rfl).cell B5
    go_simp
    exact hK.out _ _ (.inr (.inl ⟨rfl,rfl,_,t49,t50,t51,rfl,h.ld1⟩))
   refine aa (o:=?a0_1) ?b0_1 (fun K hK=>?c0_1) ?d0_1
   case b0_1=>simp only[jd,jb,jc];rfl
   case c0_1 =>
    have k0:=(h.ext rfl).cell B0;have k1:=(h.ext rfl).cell B1;have k2:=(h.ext rfl).cell B2;have k3:=(h.ext rfl).cell B3;have k4:=(h.ext rfl).cell B4
    go_simp
    exact hK.out _ _ (.inr (.inr (.inl ⟨rfl,rfl,t48,_,t50,t51,rfl,h.ld2⟩)))
   exact ah
  ·obtain rfl:m=2:=by omega
   refine ab (rs:=[1]) (by kernel_rfl) (by simp) ?_
   refine aa (o:=?a1_1) ?b1_1 (fun K hK=>?c1_1) ?d1_1
   case b1_1=>simp only[jd,jb,jc];rfl
   case c1_1 =>
    have k0:=(h.ext rfl).cell B0;have k1:=(h.ext rfl).cell B1;have k2:=(h.ext rfl).cell B2;have k3:=(h.ext rfl).cell B3;have k4:=(h.ext rfl).cell B4
    go_simp
    exact hK.out _ _ (.inr (.inr (.inr (.inl ⟨rfl,rfl,t48,_,t50,t51,rfl,h.ld2⟩))))
   exact ah
  ·obtain rfl:m=2:=by omega
   refine ab (rs:=[0,2]) (by kernel_rfl) (by simp) ?_
   refine aa (o:=?a2_0) ?b2_0 (fun K hK=>?c2_0) ?d2_0
   case b2_0=>simp only[jd,jb,jc];rfl
   case c2_0 =>
    have k0:=(h.ext rfl).cell B5
    go_simp
    exact hK.out _ _ (.inr (.inr (.inr (.inl ⟨rfl,rfl,_,t49,t50,t51,rfl,h.ld1⟩))))
   refine aa (o:=?a2_2) ?b2_2 (fun K hK=>?c2_2) ?d2_2
   case b2_2=>simp only[jd,jb,jc];rfl
   case c2_2 =>
    obtain rfl:=h.h1 rfl
    have hx:=h.ext rfl
    go_simp
    go_at_call 54
    (with_reducible refine(ta.out _ hx).mono ?_)
    rintro e W2 hp
    obtain⟨vf,rfl⟩:∃vf,e=.returned vf:=(by obtain⟨-,gC,gK,C,D,c3,c4,e9,-⟩:=hp;exact⟨_,e9⟩)
    (try simp only[Act.put,jg,jh,ji])
    exact hK.out _ _ (.inr (.inr (.inr (.inr (.inl ⟨rfl,rfl,t48,_,_,t51,rfl,h.call1 hp⟩)))))
   exact ah
  ·obtain rfl:m=1:=by omega
   refine ab (rs:=[2]) (by kernel_rfl) (by simp) ?_
   refine aa (o:=?a3_2) ?b3_2 (fun K hK=>?c3_2) ?d3_2
   case b3_2=>simp only[jd,jb,jc];rfl
   case c3_2 =>
    obtain rfl:=h.h1 rfl
    have hx:=h.ext rfl
    go_simp
    go_at_call 54
    (with_reducible refine(ta.out _ hx).mono ?_)
    rintro e W2 hp
    obtain⟨vf,rfl⟩:∃vf,e=.returned vf:=(by obtain⟨-,gC,gK,C,D,c3,c4,e9,-⟩:=hp;exact⟨_,e9⟩)
    (try simp only[Act.put,jg,jh,ji])
    exact hK.out _ _ (.inr (.inr (.inr (.inr (.inr (.inl ⟨rfl,rfl,t48,_,_,t51,rfl,h.call1 hp⟩))))))
   exact ah
  ·obtain rfl:m=1:=by omega
   refine ab (rs:=[0]) (by kernel_rfl) (by simp) ?_
   refine aa (o:=?a4_0) ?b4_0 (fun K hK=>?c4_0) ?d4_0
   case b4_0=>simp only[jd,jb,jc];rfl
   case c4_0 =>
    have k0:=(h.ext rfl).cell B5
    go_simp
    exact hK.out _ _ (.inr (.inr (.inr (.inr (.inr (.inl ⟨rfl,rfl,_,t49,t50,t51,rfl,h.ld1⟩))))))
   exact ah
  ·obtain rfl:m=0:=by omega
   refine ab (rs:=[3]) (by kernel_rfl) (by simp) ?_
   refine aa (o:=?a5_3) ?b5_3 (fun K hK=>?c5_3) ?d5_3
   case b5_3=>simp only[jd,jb,jc];rfl
   case c5_3 =>
    obtain rfl:=h.h0 rfl
    obtain⟨V,hx,hp⟩:=h.h2 rfl
    replace hp:=hp rfl
    go_simp
    go_at_call 53
    (with_reducible refine(tj.out _ _ _ hx hp).mono ?_)
    rintro e W2 ⟨rfl,hq⟩
    (try simp only[Act.put,jg,jh,ji])
    exact hK.out _ _ (.inr (.inr (.inr (.inr (.inr (.inr (⟨rfl,rfl,_,t49,t50,_,rfl,h.call2 hq⟩)))))))
   exact ah
  ·exact absurd hn (by omega)
