/- packed -/
import Derived.Test.YtplldnnnhgnbjaaGreatDoorMu30
namespace Go.Proofs.YtplldnnnhgnbjaaGreatDoor
open Go.RowKit Go.Maps
structure ChkI(w1:World)(M:Dm)(nb:Nat)(ev:Int)(b2 b3 b4 b5 b6 b7 b8 b9:Bool)(t6 t7 t14 t17 t18 t19 t20:Value)(W:World):Prop where
 ext:Ext w1 W
 h2:b2=true→b8=false→∃S n c l F,t17=.slice S n c∧NamesOf M l∧l.length≤nb∧Sl rdSc F W (.slice S n c) (schL M l)
 h3:b3=true→∃A n c B m d,t18=.tuple #[.agg #[.slice A n c,.slice B m d],.int .i64 ev]
 h4:b4=true→t14=t18
 h5:b5=true→∃A n c B m d,t19=.agg #[.slice A n c,.slice B m d]
 h6:b6=true→t20=.int .i64 ev
 h7:b7=true→b8=false→∃g x y,t6=.pointer (some ⟨g,0,none⟩)∧w1.heap.size≤g∧Bk W g 66 [x,y]
 h9:b9=true→t7=.int .i64 ev
section
variable {w1 W W':World} {M:Dm} {nb:Nat} {ev:Int} {b2 b3 b4 b5 b6 b7 b8 b9:Bool} {t6 t7 t14 t17 t18 t19 t20 v:Value}
theorem ChkI.more(h:ChkI w1 M nb ev b2 b3 b4 b5 b6 b7 b8 b9 t6 t7 t14 t17 t18 t19 t20 W)(he:Ext W W'):ChkI w1 M nb ev b2 b3 b4 b5 b6 b7 b8 b9 t6 t7 t14 t17 t18 t19 t20 W' :=
 ⟨h.ext.trans he,fun k k'=>let ⟨S,n,c,l,F,e1,e2,e3,e4⟩:=h.h2 k k';⟨S,n,c,l,F,e1,e2,e3,e4.ext he⟩,h.h3,h.h4,h.h5,h.h6,fun k k'=>let ⟨g,x,y,e1,e2,e3⟩:=h.h7 k k';⟨g,x,y,e1,e2,e3.ext he⟩,h.h9⟩
theorem ChkI.start:ChkI w1 M nb ev false false false false false false false false t6 t7 t14 t17 t18 t19 t20 w1.drew :=
 ⟨(Ext.refl w1).drew,(fun k=>by cases k),(fun k=>by cases k),(fun k=>by cases k),(fun k=>by cases k),(fun k=>by cases k),(fun k=>by cases k),(fun k=>by cases k)⟩
theorem ChkI.call1{S:Option Addr}{n c:Nat}{l:List ByteArray}{F:Nat→Prop}(h:ChkI w1 M nb ev false b3 b4 b5 b6 b7 b8 b9 t6 t7 t14 t17 t18 t19 t20 W)(he:Ext W W')(hs:Sl rdSc F W' (.slice S n c) (schL M l))(h1:NamesOf M l)(h2:l.length≤nb):ChkI w1 M nb ev true b3 b4 b5 b6 b7 b8 b9 t6 t7 t14 (.slice S n c) t18 t19 t20 W':=by
 have k:=h.more he
 exact⟨k.ext,fun _ _=>⟨S,n,c,l,F,rfl,h1,h2,hs⟩,k.h3,k.h4,k.h5,k.h6,k.h7,k.h9⟩
theorem ChkI.call2{A B:Option Addr}{n c m d:Nat}(h:ChkI w1 M nb ev b2 false false b5 b6 b7 b8 b9 t6 t7 t14 t17 t18 t19 t20 W)(he:Ext W W'):ChkI w1 M nb ev b2 true false b5 b6 b7 b8 b9 t6 t7 t14 t17 (.tuple #[.agg #[.slice A n c,.slice B m d],.int .i64 ev]) t19 t20 W':=by
 have k:=h.more he
 exact⟨k.ext,k.h2,fun _=>⟨A,n,c,B,m,d,rfl⟩,(fun e=>by cases e),k.h5,k.h6,k.h7,k.h9⟩
theorem ChkI.mv(h:ChkI w1 M nb ev b2 b3 false b5 b6 b7 b8 b9 t6 t7 t14 t17 t18 t19 t20 W):ChkI w1 M nb ev b2 b3 true b5 b6 b7 b8 b9 t6 t7 t18 t17 t18 t19 t20 W :=
 ⟨h.ext,h.h2,h.h3,fun _=>rfl,h.h5,h.h6,h.h7,h.h9⟩
theorem ChkI.ex0{A B:Option Addr}{n c m d:Nat}(h:ChkI w1 M nb ev b2 b3 b4 false b6 b7 b8 b9 t6 t7 t14 t17 t18 t19 t20 W):ChkI w1 M nb ev b2 b3 b4 true b6 b7 b8 b9 t6 t7 t14 t17 t18 (.agg #[.slice A n c,.slice B m d]) t20 W :=
 ⟨h.ext,h.h2,h.h3,h.h4,fun _=>⟨A,n,c,B,m,d,rfl⟩,h.h6,h.h7,h.h9⟩
theorem ChkI.ex1(h:ChkI w1 M nb ev b2 b3 b4 b5 false b7 b8 b9 t6 t7 t14 t17 t18 t19 t20 W):ChkI w1 M nb ev b2 b3 b4 b5 true b7 b8 b9 t6 t7 t14 t17 t18 t19 (.int .i64 ev) W :=
 ⟨h.ext,h.h2,h.h3,h.h4,h.h5,fun _=>rfl,h.h7,h.h9⟩
theorem ChkI.box{x y:Value}(h:ChkI w1 M nb ev b2 b3 b4 b5 b6 false b8 b9 t6 t7 t14 t17 t18 t19 t20 W):ChkI w1 M nb ev b2 b3 b4 b5 b6 true b8 b9 (.pointer (some ⟨W.heap.size,0,none⟩)) t7 t14 t17 t18 t19 t20 (W.alloc (.cells #[x,y] 66)):=by
 have k:=h.more ((Ext.refl W).alloc (.cells #[x,y] 66))
 exact⟨k.ext,k.h2,k.h3,k.h4,k.h5,k.h6,fun _ _=>⟨_,x,y,rfl,h.ext.size,Bk.new W _ [x,y]⟩,k.h9⟩
theorem ChkI.store{g:Nat}(h:ChkI w1 M nb ev b2 b3 b4 b5 b6 b7 false b9 (.pointer (some ⟨g,0,none⟩)) t7 t14 t17 t18 t19 t20 W)(hg:w1.heap.size≤g)(x y:Value):ChkI w1 M nb ev b2 b3 b4 b5 b6 b7 true b9 (.pointer (some ⟨g,0,none⟩)) t7 t14 t17 t18 t19 t20 ((W.setCell ⟨g,0,none⟩ x).setCell ⟨g,1,none⟩ y):=by
 have hf:Fr (fun k=>k=g) W ((W.setCell ⟨g,0,none⟩ x).setCell ⟨g,1,none⟩ y):=((Fr.refl (fun k=>k=g) W).setCell (p:=⟨g,0,none⟩) (.inl rfl) x).setCell (p:=⟨g,1,none⟩) (.inl rfl) y
 exact⟨hf.new h.ext (fun q hq=>by omega),(fun _ k=>by cases k),h.h3,h.h4,h.h5,h.h6,(fun _ k=>by cases k),h.h9⟩
theorem ChkI.asg(h:ChkI w1 M nb ev b2 b3 b4 b5 b6 b7 b8 false t6 t7 t14 t17 t18 t19 t20 W):ChkI w1 M nb ev b2 b3 b4 b5 b6 b7 b8 true t6 (.int .i64 ev) t14 t17 t18 t19 t20 W :=
 ⟨h.ext,h.h2,h.h3,h.h4,h.h5,h.h6,h.h7,fun _=>rfl⟩
end
structure ColI(w1:World)(r:Rl)(hd:List ByteArray)(b1 b4 b5 b6:Bool)(t12 t36 t39:Value)(W:World):Prop where
 ext:Ext w1 W
 h1:b1=true→∃B,w1.heap.size≤B∧W.ownsRow B 9 1 t36 (varsC r).length ((varsC r).map Sv)
 h4:b4=true→∃B,w1.heap.size≤B∧W.ownsRow B 3 1 t39 hd.length ((colsI (varsC r) hd).map I64)
 h5:b5=true→∃g,t12=.pointer (some ⟨g,0,none⟩)∧w1.heap.size≤g∧Bk W g 63 [if b6=true then t39 else .slice none 0 0]
section
variable {w1 W W':World} {r:Rl} {hd:List ByteArray} {b1 b4 b5 b6:Bool} {t12 t36 t39 v:Value}
theorem ColI.more(h:ColI w1 r hd b1 b4 b5 b6 t12 t36 t39 W)(he:Ext W W'):ColI w1 r hd b1 b4 b5 b6 t12 t36 t39 W' :=
 ⟨h.ext.trans he,fun k=>let ⟨B,e1,e2⟩:=h.h1 k;⟨B,e1,own_ext' e2 he⟩,fun k=>let ⟨B,e1,e2⟩:=h.h4 k;⟨B,e1,own_ext' e2 he⟩,fun k=>let ⟨g,e1,e2,e3⟩:=h.h5 k;⟨g,e1,e2,e3.ext he⟩⟩
theorem ColI.start:ColI w1 r hd false false false false t12 t36 t39 w1.drew:=⟨(Ext.refl w1).drew,(fun k=>by cases k),(fun k=>by cases k),(fun k=>by cases k)⟩
theorem ColI.call1(h:ColI w1 r hd false b4 b5 b6 t12 t36 t39 W)(he:Ext W W')(hv:W'.ownsRow W.heap.size 9 1 v (varsC r).length ((varsC r).map Sv)):ColI w1 r hd true b4 b5 b6 t12 v t39 W':=by
 have k:=h.more he
 exact⟨k.ext,fun _=>⟨_,h.ext.size,hv⟩,k.h4,k.h5⟩
theorem ColI.call2(h:ColI w1 r hd b1 false b5 false t12 t36 t39 W)(he:Ext W W')(hv:W'.ownsRow W.heap.size 3 1 v hd.length ((colsI (varsC r) hd).map I64)):ColI w1 r hd b1 true b5 false t12 t36 v W':=by
 have k:=h.more he
 exact⟨k.ext,k.h1,fun _=>⟨_,h.ext.size,hv⟩,k.h5⟩
theorem ColI.box(h:ColI w1 r hd b1 b4 false false t12 t36 t39 W):ColI w1 r hd b1 b4 true false (.pointer (some ⟨W.heap.size,0,none⟩)) t36 t39 (W.alloc (.cells #[.slice none 0 0] 63)):=by
 have k:=h.more ((Ext.refl W).alloc (.cells #[.slice none 0 0] 63))
 exact⟨k.ext,k.h1,k.h4,fun _=>⟨_,rfl,h.ext.size,Bk.new W _ _⟩⟩
theorem ColI.store{g:Nat}(h:ColI w1 r hd true true true false (.pointer (some ⟨g,0,none⟩)) t36 t39 W):ColI w1 r hd true true true true (.pointer (some ⟨g,0,none⟩)) t36 t39 (W.setCell ⟨g,0,none⟩ t39):=by
 have hf:Fr (fun k=>k=g) W (W.setCell ⟨g,0,none⟩ t39):=(Fr.refl (fun k=>k=g) W).setCell (p:=⟨g,0,none⟩) (.inl rfl) t39
 obtain⟨g',e,hg,hb⟩:=h.h5 rfl
 injection e with e
 injection e with e
 injection e with e
 subst e
 obtain⟨B1,k1,k2⟩:=h.h1 rfl
 obtain⟨B2,k3,k4⟩:=h.h4 rfl
 exact⟨hf.new h.ext (fun q hq=>by omega),fun _=>⟨B1,k1,own_fr k2 hf (fun k hk=>own_bk k2 hb (by decide) hk)⟩,fun _=>⟨B2,k3,own_fr k4 hf (fun k hk=>own_bk k4 hb (by decide) hk)⟩,fun _=>⟨g,rfl,hg,hb.set 0 t39⟩⟩
end
structure SrtI(w1:World)(hd:List ByteArray)(od:List Ky)(qv v:Value)(P:World→Prop)(b0 b1 b2 b3:Bool)(t48 t49 t50 t51:Value)(W:World):Prop where
 ext:b3=false→Ext w1 W
 h0:b0=true→t48=v
 h1:b1=true→t49=qv
 h2:b2=true→∃V,Ext w1 V∧(b3=false→CmpPost hd od V (.returned t50) W)
 h3:b3=true→P W
section
variable {w1 W W':World} {hd:List ByteArray} {od:List Ky} {qv v:Value} {P:World→Prop} {b0 b1 b2 b3:Bool} {t48 t49 t50 t51 vf:Value}
theorem SrtI.start:SrtI w1 hd od qv v P false false false false t48 t49 t50 t51 w1.drew:=⟨fun _=>(Ext.refl w1).drew,(fun k=>by cases k),(fun k=>by cases k),(fun k=>by cases k),(fun k=>by cases k)⟩
theorem SrtI.ld1(h:SrtI w1 hd od qv v P false b1 b2 b3 t48 t49 t50 t51 W):SrtI w1 hd od qv v P true b1 b2 b3 v t49 t50 t51 W:=⟨h.ext,fun _=>rfl,h.h1,h.h2,h.h3⟩
theorem SrtI.ld2(h:SrtI w1 hd od qv v P b0 false b2 b3 t48 t49 t50 t51 W):SrtI w1 hd od qv v P b0 true b2 b3 t48 qv t50 t51 W:=⟨h.ext,h.h0,fun _=>rfl,h.h2,h.h3⟩
theorem SrtI.call1(h:SrtI w1 hd od qv v P b0 b1 false false t48 t49 t50 t51 W)(hp:CmpPost hd od W (.returned vf) W'):SrtI w1 hd od qv v P b0 b1 true false t48 t49 vf t51 W':=⟨fun _=>(h.ext rfl).trans hp.1,h.h0,h.h1,fun _=>⟨W,h.ext rfl,fun _=>hp⟩,(fun k=>by cases k)⟩
theorem SrtI.call2(h:SrtI w1 hd od qv v P b0 b1 b2 false t48 t49 t50 t51 W)(hp:P W'):SrtI w1 hd od qv v P b0 b1 b2 true t48 t49 t50 vf W':=⟨(fun k=>by cases k),h.h0,h.h1,fun k=>let ⟨V,e,_⟩:=h.h2 k;⟨V,e,(fun k=>by cases k)⟩,fun _=>hp⟩
end
noncomputable def chkRgA:Code:=((Tryz.f14.body.bind (findRegion 1)).getD .skip)
def ChkJA(w1:World)(M:Dm)(nb:Nat)(ev:Int)(F:Value→Value→Value→Value→Value→Value→Value→ Act)(n:Nat)(l:Array Bool)(act:Act)(W:World):Prop :=
 (n=8∧l=#[true,true,false,false,false,false,false,false,false,false]∧∃t6 t7 t14 t17 t18 t19 t20,act=F t6 t7 t14 t17 t18 t19 t20∧ChkI w1 M nb ev false false false false false false false false t6 t7 t14 t17 t18 t19 t20 W)∨(n=7∧l=#[true,true,true,false,false,false,false,false,false,false]∧∃t6 t7 t14 t17 t18 t19 t20,act=F t6 t7 t14 t17 t18 t19 t20∧ChkI w1 M nb ev true false false false false false false false t6 t7 t14 t17 t18 t19 t20 W)∨(n=7∧l=#[true,true,false,false,false,false,false,true,false,false]∧∃t6 t7 t14 t17 t18 t19 t20,act=F t6 t7 t14 t17 t18 t19 t20∧ChkI w1 M nb ev false false false false false true false false t6 t7 t14 t17 t18 t19 t20 W)∨(n=6∧l=#[true,true,true,true,false,false,false,false,false,false]∧∃t6 t7 t14 t17 t18 t19 t20,act=F t6 t7 t14 t17 t18 t19 t20∧ChkI w1 M nb ev true true false false false false false false t6 t7 t14 t17 t18 t19 t20 W)∨(n=6∧l=#[true,true,true,false,false,false,false,true,false,false]∧∃t6 t7 t14 t17 t18 t19 t20,act=F t6 t7 t14 t17 t18 t19 t20∧ChkI w1 M nb ev true false false false false true false false t6 t7 t14 t17 t18 t19 t20 W)∨(n=5∧l=#[true,true,true,true,true,false,false,false,false,false]∧∃t6 t7 t14 t17 t18 t19 t20,act=F t6 t7 t14 t17 t18 t19 t20∧ChkI w1 M nb ev true true true false false false false false t6 t7 t14 t17 t18 t19 t20 W)∨(n=5∧l=#[true,true,true,true,false,false,false,true,false,false]∧∃t6 t7 t14 t17 t18 t19 t20,act=F t6 t7 t14 t17 t18 t19 t20∧ChkI w1 M nb ev true true false false false true false false t6 t7 t14 t17 t18 t19 t20 W)∨(n=4∧l=#[true,true,true,true,true,true,false,false,false,false]∧∃t6 t7 t14 t17 t18 t19 t20,act=F t6 t7 t14 t17 t18 t19 t20∧ChkI w1 M nb ev true true true true false false false false t6 t7 t14 t17 t18 t19 t20 W)∨(n=4∧l=#[true,true,true,true,true,false,true,false,false,false]∧∃t6 t7 t14 t17 t18 t19 t20,act=F t6 t7 t14 t17 t18 t19 t20∧ChkI w1 M nb ev true true true false true false false false t6 t7 t14 t17 t18 t19 t20 W)∨(n=4∧l=#[true,true,true,true,true,false,false,true,false,false]∧∃t6 t7 t14 t17 t18 t19 t20,act=F t6 t7 t14 t17 t18 t19 t20∧ChkI w1 M nb ev true true true false false true false false t6 t7 t14 t17 t18 t19 t20 W)∨(n=3∧l=#[true,true,true,true,true,true,true,false,false,false]∧∃t6 t7 t14 t17 t18 t19 t20,act=F t6 t7 t14 t17 t18 t19 t20∧ChkI w1 M nb ev true true true true true false false false t6 t7 t14 t17 t18 t19 t20 W)∨(n=3∧l=#[true,true,true,true,true,true,false,true,false,false]∧∃t6 t7 t14 t17 t18 t19 t20,act=F t6 t7 t14 t17 t18 t19 t20∧ChkI w1 M nb ev true true true true false true false false t6 t7 t14 t17 t18 t19 t20 W)∨(n=3∧l=#[true,true,true,true,true,false,true,true,false,false]∧∃t6 t7 t14 t17 t18 t19 t20,act=F t6 t7 t14 t17 t18 t19 t20∧ChkI w1 M nb ev true true true false true true false false t6 t7 t14 t17 t18 t19 t20 W)∨(n=2∧l=#[true,true,true,true,true,true,true,true,false,false]∧∃t6 t7 t14 t17 t18 t19 t20,act=F t6 t7 t14 t17 t18 t19 t20∧ChkI w1 M nb ev true true true true true true false false t6 t7 t14 t17 t18 t19 t20 W)∨(n=2∧l=#[true,true,true,true,true,true,false,true,true,false]∧∃t6 t7 t14 t17 t18 t19 t20,act=F t6 t7 t14 t17 t18 t19 t20∧ChkI w1 M nb ev true true true true false true true false t6 t7 t14 t17 t18 t19 t20 W)∨(n=1∧l=#[true,true,true,true,true,true,true,true,true,false]∧∃t6 t7 t14 t17 t18 t19 t20,act=F t6 t7 t14 t17 t18 t19 t20∧ChkI w1 M nb ev true true true true true true true false t6 t7 t14 t17 t18 t19 t20 W)∨(n=0∧l=#[true,true,true,true,true,true,true,true,true,true]∧∃t6 t7 t14 t17 t18 t19 t20,act=F t6 t7 t14 t17 t18 t19 t20∧ChkI w1 M nb ev true true true true true true true true t6 t7 t14 t17 t18 t19 t20 W)
set_option maxRecDepth 20000 in
set_option maxHeartbeats 3200000 in
theorem chk_regA{K:Act→World→Prop}{Q:Exit→Act→World→Prop}{w1:World}{M:Dm}{nb b g0 g1:Nat}{ev:Int}{c0 c1 c2 c3 c4 u0 u1 u4 u5 u8 u9 u10 u11 u12 u13 u21 u22 u23 u24 u25 u26 u27 u28 u29 u30 u31 u32 u33 u34 u35 u36 u37 u38 u39 u40 u41 u42 u43 u44 u45 u46 u47 u48 u49 u50 u51 u52 x6 x7 x14 x17 x18 x19 x20 xa xb:Value}(b0:w1.cell? ⟨g0,0,none⟩=some c0)(b1:w1.cell? ⟨g0,1,none⟩=some c1)(b2:w1.cell? ⟨g0,2,none⟩=some c2)(b3:w1.cell? ⟨g0,3,none⟩=some c3)(b4:w1.cell? ⟨g0,4,none⟩=some c4)(b5:w1.cell? ⟨g1,0,none⟩=some (.map (some b)))(HSC:Hid (∀V,Ext w1 V→Calls Tryz.prog 23 #[.agg #[.map (some b)]] V (SchsPost M nb V)))(HCK:Hid (∀V S n c l G,Ext w1 V→NamesOf M l→l.length≤nb→Sl rdSc G V (.slice S n c) (schL M l)→Calls Tryz.prog 22 #[.agg #[c0,c1,c2,c3,c4],.slice S n c] V (CheckPost ev V)))(hK:∀t6 t14 t17 t18 t19 t20 W,Ext w1 W→K ⟨#[u0,u1,.pointer (some ⟨g0,0,none⟩),.pointer (some ⟨g1,0,none⟩),u4,u5,t6,.int .i64 ev,u8,u9,u10,u11,u12,u13,t14,.agg #[c0,c1,c2,c3,c4],.agg #[.map (some b)],t17,t18,t19,t20,u21,u22,u23,u24,u25,u26,u27,u28,u29,u30,u31,u32,u33,u34,u35,u36,u37,u38,u39,u40,u41,u42,u43,u44,u45,u46,u47,u48,u49,u50,u51,u52],[]⟩ W) :
  Code.wp Tryz.prog chkRgA (Exit.then K Q) ⟨#[u0,u1,.pointer (some ⟨g0,0,none⟩),.pointer (some ⟨g1,0,none⟩),u4,u5,x6,x7,u8,u9,u10,u11,u12,u13,x14,xa,xb,x17,x18,x19,x20,u21,u22,u23,u24,u25,u26,u27,u28,u29,u30,u31,u32,u33,u34,u35,u36,u37,u38,u39,u40,u41,u42,u43,u44,u45,u46,u47,u48,u49,u50,u51,u52],[]⟩ w1:=by
 have HK:=zO hK
 clear hK
 conv=>arg 2;whnf
 refine wp_only ?_
 refine wp_region_held_drew (S:=fun V=>Ext w1 V) (by kernel_rfl) (Ext.refl w1).drew (fun hHeld=>?_)
 refine wpAnyH_take (i:=0) (oi:=?ox0) (v:=.agg #[c0,c1,c2,c3,c4]) ?hx0 (by kernel_rfl) (by kernel_rfl) (by kernel_rfl) (fun _ _ _ h=>h) (Or.inl ⟨?wx0,?yx0⟩) hHeld ?rx0
 case hx0=>simp only[jd,jb,jc];rfl
 case wx0=>rfl
 case yx0 =>
  intro V hSw
  have q0:=Ext.cell hSw b0
  have q1:=Ext.cell hSw b1
  have q2:=Ext.cell hSw b2
  have q3:=Ext.cell hSw b3
  have q4:=Ext.cell hSw b4
  simp[go_sem,q0,q1,q2,q3,q4] <;> with_reducible rfl
 (try simp only[Act.put,jf,jh,ji])
 refine wpAnyH_take (i:=1) (oi:=?ox1) (v:=.agg #[.map (some b)]) ?hx1 (by kernel_rfl) (by kernel_rfl) (by kernel_rfl) (fun _ _ _ h=>h) (Or.inl ⟨?wx1,?yx1⟩) hHeld ?rx1
 case hx1=>simp only[jd,jb,jc];rfl
 case wx1=>rfl
 case yx1 =>
  intro V hSw
  have q0:=Ext.cell hSw b5
  simp[go_sem,q0] <;> with_reducible rfl
 (try simp only[Act.put,jf,jh,ji])
 clear b0 b1 b2 b3 b4 b5
 refine inv_any (I:=ChkJA w1 M nb ev (fun t6 t7 t14 t17 t18 t19 t20=>⟨#[u0,u1,.pointer (some ⟨g0,0,none⟩),.pointer (some ⟨g1,0,none⟩),u4,u5,t6,t7,u8,u9,u10,u11,u12,u13,t14,.agg #[c0,c1,c2,c3,c4],.agg #[.map (some b)],t17,t18,t19,t20,u21,u22,u23,u24,u25,u26,u27,u28,u29,u30,u31,u32,u33,u34,u35,u36,u37,u38,u39,u40,u41,u42,u43,u44,u45,u46,u47,u48,u49,u50,u51,u52],[]⟩)) ?hS ?h0 ?h1 _ _ _ _ ?st
 case hS =>
  rintro n l act W (⟨hn,rfl,t6,t7,t14,t17,t18,t19,t20,rfl,h⟩|⟨hn,rfl,t6,t7,t14,t17,t18,t19,t20,rfl,h⟩|⟨hn,rfl,t6,t7,t14,t17,t18,t19,t20,rfl,h⟩|⟨hn,rfl,t6,t7,t14,t17,t18,t19,t20,rfl,h⟩|⟨hn,rfl,t6,t7,t14,t17,t18,t19,t20,rfl,h⟩|⟨hn,rfl,t6,t7,t14,t17,t18,t19,t20,rfl,h⟩|⟨hn,rfl,t6,t7,t14,t17,t18,t19,t20,rfl,h⟩|⟨hn,rfl,t6,t7,t14,t17,t18,t19,t20,rfl,h⟩|⟨hn,rfl,t6,t7,t14,t17,t18,t19,t20,rfl,h⟩|⟨hn,rfl,t6,t7,t14,t17,t18,t19,t20,rfl,h⟩|⟨hn,rfl,t6,t7,t14,t17,t18,t19,t20,rfl,h⟩|⟨hn,rfl,t6,t7,t14,t17,t18,t19,t20,rfl,h⟩|⟨hn,rfl,t6,t7,t14,t17,t18,t19,t20,rfl,h⟩|⟨hn,rfl,t6,t7,t14,t17,t18,t19,t20,rfl,h⟩|⟨hn,rfl,t6,t7,t14,t17,t18,t19,t20,rfl,h⟩|⟨hn,rfl,t6,t7,t14,t17,t18,t19,t20,rfl,h⟩|⟨hn,rfl,t6,t7,t14,t17,t18,t19,t20,rfl,h⟩)
  ·exact h.ext
  ·exact h.ext
  ·exact h.ext
  ·exact h.ext
  ·exact h.ext
  ·exact h.ext
  ·exact h.ext
  ·exact h.ext
  ·exact h.ext
  ·exact h.ext
  ·exact h.ext
  ·exact h.ext
  ·exact h.ext
  ·exact h.ext
  ·exact h.ext
  ·exact h.ext
  ·exact h.ext
 case st=>exact .inl ⟨rfl,rfl,x6,x7,x14,x17,x18,x19,x20,rfl,ChkI.start⟩
 case h0 =>
  rintro l act W (⟨hn,rfl,t6,t7,t14,t17,t18,t19,t20,rfl,h⟩|⟨hn,rfl,t6,t7,t14,t17,t18,t19,t20,rfl,h⟩|⟨hn,rfl,t6,t7,t14,t17,t18,t19,t20,rfl,h⟩|⟨hn,rfl,t6,t7,t14,t17,t18,t19,t20,rfl,h⟩|⟨hn,rfl,t6,t7,t14,t17,t18,t19,t20,rfl,h⟩|⟨hn,rfl,t6,t7,t14,t17,t18,t19,t20,rfl,h⟩|⟨hn,rfl,t6,t7,t14,t17,t18,t19,t20,rfl,h⟩|⟨hn,rfl,t6,t7,t14,t17,t18,t19,t20,rfl,h⟩|⟨hn,rfl,t6,t7,t14,t17,t18,t19,t20,rfl,h⟩|⟨hn,rfl,t6,t7,t14,t17,t18,t19,t20,rfl,h⟩|⟨hn,rfl,t6,t7,t14,t17,t18,t19,t20,rfl,h⟩|⟨hn,rfl,t6,t7,t14,t17,t18,t19,t20,rfl,h⟩|⟨hn,rfl,t6,t7,t14,t17,t18,t19,t20,rfl,h⟩|⟨hn,rfl,t6,t7,t14,t17,t18,t19,t20,rfl,h⟩|⟨hn,rfl,t6,t7,t14,t17,t18,t19,t20,rfl,h⟩|⟨hn,rfl,t6,t7,t14,t17,t18,t19,t20,rfl,h⟩|⟨hn,rfl,t6,t7,t14,t17,t18,t19,t20,rfl,h⟩)
  ·exact absurd hn (by omega)
  ·exact absurd hn (by omega)
  ·exact absurd hn (by omega)
  ·exact absurd hn (by omega)
  ·exact absurd hn (by omega)
  ·exact absurd hn (by omega)
  ·exact absurd hn (by omega)
  ·exact absurd hn (by omega)
  ·exact absurd hn (by omega)
  ·exact absurd hn (by omega)
  ·exact absurd hn (by omega)
  ·exact absurd hn (by omega)
  ·exact absurd hn (by omega)
  ·exact absurd hn (by omega)
  ·exact absurd hn (by omega)
  ·exact absurd hn (by omega)
  ·refine⟨by kernel_rfl,?_⟩
   obtain rfl:=h.h9 rfl
   exact HK.out _ _ _ _ _ _ _ h.ext
 case h1 =>
  rintro m l act W (⟨hn,rfl,t6,t7,t14,t17,t18,t19,t20,rfl,h⟩|⟨hn,rfl,t6,t7,t14,t17,t18,t19,t20,rfl,h⟩|⟨hn,rfl,t6,t7,t14,t17,t18,t19,t20,rfl,h⟩|⟨hn,rfl,t6,t7,t14,t17,t18,t19,t20,rfl,h⟩|⟨hn,rfl,t6,t7,t14,t17,t18,t19,t20,rfl,h⟩|⟨hn,rfl,t6,t7,t14,t17,t18,t19,t20,rfl,h⟩|⟨hn,rfl,t6,t7,t14,t17,t18,t19,t20,rfl,h⟩|⟨hn,rfl,t6,t7,t14,t17,t18,t19,t20,rfl,h⟩|⟨hn,rfl,t6,t7,t14,t17,t18,t19,t20,rfl,h⟩|⟨hn,rfl,t6,t7,t14,t17,t18,t19,t20,rfl,h⟩|⟨hn,rfl,t6,t7,t14,t17,t18,t19,t20,rfl,h⟩|⟨hn,rfl,t6,t7,t14,t17,t18,t19,t20,rfl,h⟩|⟨hn,rfl,t6,t7,t14,t17,t18,t19,t20,rfl,h⟩|⟨hn,rfl,t6,t7,t14,t17,t18,t19,t20,rfl,h⟩|⟨hn,rfl,t6,t7,t14,t17,t18,t19,t20,rfl,h⟩|⟨hn,rfl,t6,t7,t14,t17,t18,t19,t20,rfl,h⟩|⟨hn,rfl,t6,t7,t14,t17,t18,t19,t20,rfl,h⟩)
  ·obtain rfl:m=7:=by omega
   refine inv_ready (rs:=[2,7]) (by kernel_rfl) (by simp) ?_
   refine inv_cons (o:=?ow0_2) ?ho0_2 (fun K hK=>?hst0_2) ?hmore0_2
   case ho0_2=>simp only[jd,jb,jc];rfl
   case hst0_2 =>
    go_simp
    go_at_call 23
    have hx:=h.ext
    (with_reducible refine(HSC.out _ hx).mono ?_)
    rintro e W2 ⟨v,l,rfl,he,hsl,hl1,hl2,hl3⟩
    obtain⟨S2,c2,hv⟩:=hsl.sl
    subst hv
    (try simp only[Act.put,jf,jh,ji])
    exact hK.out _ _ (.inr (.inl ⟨rfl,rfl,t6,t7,t14,_,t18,t19,t20,rfl,h.call1 he hsl ⟨hl1,hl3⟩ hl2⟩))
   refine inv_cons (o:=?ow0_7) ?ho0_7 (fun K hK=>?hst0_7) ?hmore0_7
   case ho0_7=>simp only[jd,jb,jc];rfl
   case hst0_7 =>
    go_simp
    exact hK.out _ _ (.inr (.inr (.inl ⟨rfl,rfl,_,t7,t14,t17,t18,t19,t20,rfl,h.box⟩)))
   exact inv_nil
  ·obtain rfl:m=6:=by omega
   refine inv_ready (rs:=[3,7]) (by kernel_rfl) (by simp) ?_
   refine inv_cons (o:=?ow1_3) ?ho1_3 (fun K hK=>?hst1_3) ?hmore1_3
   case ho1_3=>simp only[jd,jb,jc];rfl
   case hst1_3 =>
    obtain⟨SS,nS,cs,l,G,rfl,hl1,hl2,hsl⟩:=h.h2 rfl rfl
    have hx:=h.ext
    go_simp
    go_at_call 22
    (with_reducible refine(HCK.out _ _ _ _ _ _ hx hl1 hl2 hsl).mono ?_)
    rintro e W2 ⟨he,A,n,c,B,m,d,rfl⟩
    (try simp only[Act.put,jf,jh,ji])
    exact hK.out _ _ (.inr (.inr (.inr (.inl ⟨rfl,rfl,t6,t7,t14,_,_,t19,t20,rfl,h.call2 he⟩))))
   refine inv_cons (o:=?ow1_7) ?ho1_7 (fun K hK=>?hst1_7) ?hmore1_7
   case ho1_7=>simp only[jd,jb,jc];rfl
   case hst1_7 =>
    go_simp
    exact hK.out _ _ (.inr (.inr (.inr (.inr (.inl ⟨rfl,rfl,_,t7,t14,t17,t18,t19,t20,rfl,h.box⟩)))))
   exact inv_nil
  ·obtain rfl:m=6:=by omega
   refine inv_ready (rs:=[2]) (by kernel_rfl) (by simp) ?_
   refine inv_cons (o:=?ow2_2) ?ho2_2 (fun K hK=>?hst2_2) ?hmore2_2
   case ho2_2=>simp only[jd,jb,jc];rfl
   case hst2_2 =>
    go_simp
    go_at_call 23
    have hx:=h.ext
    (with_reducible refine(HSC.out _ hx).mono ?_)
    rintro e W2 ⟨v,l,rfl,he,hsl,hl1,hl2,hl3⟩
    obtain⟨S2,c2,hv⟩:=hsl.sl
    subst hv
    (try simp only[Act.put,jf,jh,ji])
    exact hK.out _ _ (.inr (.inr (.inr (.inr (.inl ⟨rfl,rfl,t6,t7,t14,_,t18,t19,t20,rfl,h.call1 he hsl ⟨hl1,hl3⟩ hl2⟩)))))
   exact inv_nil
  ·obtain rfl:m=5:=by omega
   refine inv_ready (rs:=[4,7]) (by kernel_rfl) (by simp) ?_
   refine inv_cons (o:=?ow3_4) ?ho3_4 (fun K hK=>?hst3_4) ?hmore3_4
   case ho3_4=>simp only[jd,jb,jc];rfl
   case hst3_4 =>
    obtain⟨A,n,c,B,m,d,rfl⟩:=h.h3 rfl
    go_simp
    exact hK.out _ _ (.inr (.inr (.inr (.inr (.inr (.inl ⟨rfl,rfl,t6,t7,_,t17,_,t19,t20,rfl,h.mv⟩))))))
   refine inv_cons (o:=?ow3_7) ?ho3_7 (fun K hK=>?hst3_7) ?hmore3_7
   case ho3_7=>simp only[jd,jb,jc];rfl
   case hst3_7 =>
    go_simp
    exact hK.out _ _ (.inr (.inr (.inr (.inr (.inr (.inr (.inl ⟨rfl,rfl,_,t7,t14,t17,t18,t19,t20,rfl,h.box⟩)))))))
   exact inv_nil
  ·obtain rfl:m=5:=by omega
   refine inv_ready (rs:=[3]) (by kernel_rfl) (by simp) ?_
   refine inv_cons (o:=?ow4_3) ?ho4_3 (fun K hK=>?hst4_3) ?hmore4_3
   case ho4_3=>simp only[jd,jb,jc];rfl
   case hst4_3 =>
    obtain⟨SS,nS,cs,l,G,rfl,hl1,hl2,hsl⟩:=h.h2 rfl rfl
    have hx:=h.ext
    go_simp
    go_at_call 22
    (with_reducible refine(HCK.out _ _ _ _ _ _ hx hl1 hl2 hsl).mono ?_)
    rintro e W2 ⟨he,A,n,c,B,m,d,rfl⟩
    (try simp only[Act.put,jf,jh,ji])
    exact hK.out _ _ (.inr (.inr (.inr (.inr (.inr (.inr (.inl ⟨rfl,rfl,t6,t7,t14,_,_,t19,t20,rfl,h.call2 he⟩)))))))
   exact inv_nil
  ·obtain rfl:m=4:=by omega
   refine inv_ready (rs:=[5,6,7]) (by kernel_rfl) (by simp) ?_
   refine inv_cons (o:=?ow5_5) ?ho5_5 (fun K hK=>?hst5_5) ?hmore5_5
   case ho5_5=>simp only[jd,jb,jc];rfl
   case hst5_5 =>
    obtain⟨A,n,c,B,m,d,rfl⟩:=h.h3 rfl
    obtain rfl:=h.h4 rfl
    go_simp
    exact hK.out _ _ (.inr (.inr (.inr (.inr (.inr (.inr (.inr (.inl ⟨rfl,rfl,t6,t7,_,t17,_,_,t20,rfl,h.ex0⟩))))))))
   refine inv_cons (o:=?ow5_6) ?ho5_6 (fun K hK=>?hst5_6) ?hmore5_6
   case ho5_6=>simp only[jd,jb,jc];rfl
   case hst5_6 =>
    obtain⟨A,n,c,B,m,d,rfl⟩:=h.h3 rfl
    obtain rfl:=h.h4 rfl
    go_simp
    exact hK.out _ _ (.inr (.inr (.inr (.inr (.inr (.inr (.inr (.inr (.inl ⟨rfl,rfl,t6,t7,_,t17,_,t19,_,rfl,h.ex1⟩)))))))))
   refine inv_cons (o:=?ow5_7) ?ho5_7 (fun K hK=>?hst5_7) ?hmore5_7
   case ho5_7=>simp only[jd,jb,jc];rfl
   case hst5_7 =>
    go_simp
    exact hK.out _ _ (.inr (.inr (.inr (.inr (.inr (.inr (.inr (.inr (.inr (.inl ⟨rfl,rfl,_,t7,t14,t17,t18,t19,t20,rfl,h.box⟩))))))))))
   exact inv_nil
  ·obtain rfl:m=4:=by omega
   refine inv_ready (rs:=[4]) (by kernel_rfl) (by simp) ?_
   refine inv_cons (o:=?ow6_4) ?ho6_4 (fun K hK=>?hst6_4) ?hmore6_4
   case ho6_4=>simp only[jd,jb,jc];rfl
   case hst6_4 =>
    obtain⟨A,n,c,B,m,d,rfl⟩:=h.h3 rfl
    go_simp
    exact hK.out _ _ (.inr (.inr (.inr (.inr (.inr (.inr (.inr (.inr (.inr (.inl ⟨rfl,rfl,t6,t7,_,t17,_,t19,t20,rfl,h.mv⟩))))))))))
   exact inv_nil
  ·obtain rfl:m=3:=by omega
   refine inv_ready (rs:=[6,7]) (by kernel_rfl) (by simp) ?_
   refine inv_cons (o:=?ow7_6) ?ho7_6 (fun K hK=>?hst7_6) ?hmore7_6
   case ho7_6=>simp only[jd,jb,jc];rfl
   case hst7_6 =>
    obtain⟨A,n,c,B,m,d,rfl⟩:=h.h3 rfl
    obtain rfl:=h.h4 rfl
    go_simp
    exact hK.out _ _ (.inr (.inr (.inr (.inr (.inr (.inr (.inr (.inr (.inr (.inr (.inl ⟨rfl,rfl,t6,t7,_,t17,_,t19,_,rfl,h.ex1⟩)))))))))))
   refine inv_cons (o:=?ow7_7) ?ho7_7 (fun K hK=>?hst7_7) ?hmore7_7
   case ho7_7=>simp only[jd,jb,jc];rfl
   case hst7_7 =>
    go_simp
    exact hK.out _ _ (.inr (.inr (.inr (.inr (.inr (.inr (.inr (.inr (.inr (.inr (.inr (.inl ⟨rfl,rfl,_,t7,t14,t17,t18,t19,t20,rfl,h.box⟩))))))))))))
   exact inv_nil
  ·obtain rfl:m=3:=by omega
   refine inv_ready (rs:=[5,7]) (by kernel_rfl) (by simp) ?_
   refine inv_cons (o:=?ow8_5) ?ho8_5 (fun K hK=>?hst8_5) ?hmore8_5
   case ho8_5=>simp only[jd,jb,jc];rfl
   case hst8_5 =>
    obtain⟨A,n,c,B,m,d,rfl⟩:=h.h3 rfl
    obtain rfl:=h.h4 rfl
    go_simp
    exact hK.out _ _ (.inr (.inr (.inr (.inr (.inr (.inr (.inr (.inr (.inr (.inr (.inl ⟨rfl,rfl,t6,t7,_,t17,_,_,t20,rfl,h.ex0⟩)))))))))))
   refine inv_cons (o:=?ow8_7) ?ho8_7 (fun K hK=>?hst8_7) ?hmore8_7
   case ho8_7=>simp only[jd,jb,jc];rfl
   case hst8_7 =>
    go_simp
    exact hK.out _ _ (.inr (.inr (.inr (.inr (.inr (.inr (.inr (.inr (.inr (.inr (.inr (.inr (.inl ⟨rfl,rfl,_,t7,t14,t17,t18,t19,t20,rfl,h.box⟩)))))))))))))
   exact inv_nil
  ·obtain rfl:m=3:=by omega
   refine inv_ready (rs:=[5,6]) (by kernel_rfl) (by simp) ?_
   refine inv_cons (o:=?ow9_5) ?ho9_5 (fun K hK=>?hst9_5) ?hmore9_5
   case ho9_5=>simp only[jd,jb,jc];rfl
   case hst9_5 =>
    obtain⟨A,n,c,B,m,d,rfl⟩:=h.h3 rfl
    obtain rfl:=h.h4 rfl
    go_simp
    exact hK.out _ _ (.inr (.inr (.inr (.inr (.inr (.inr (.inr (.inr (.inr (.inr (.inr (.inl ⟨rfl,rfl,t6,t7,_,t17,_,_,t20,rfl,h.ex0⟩))))))))))))
   refine inv_cons (o:=?ow9_6) ?ho9_6 (fun K hK=>?hst9_6) ?hmore9_6
   case ho9_6=>simp only[jd,jb,jc];rfl
   case hst9_6 =>
    obtain⟨A,n,c,B,m,d,rfl⟩:=h.h3 rfl
    obtain rfl:=h.h4 rfl
    go_simp
    exact hK.out _ _ (.inr (.inr (.inr (.inr (.inr (.inr (.inr (.inr (.inr (.inr (.inr (.inr (.inl ⟨rfl,rfl,t6,t7,_,t17,_,t19,_,rfl,h.ex1⟩)))))))))))))
   exact inv_nil
  ·obtain rfl:m=2:=by omega
   refine inv_ready (rs:=[7]) (by kernel_rfl) (by simp) ?_
   refine inv_cons (o:=?ow10_7) ?ho10_7 (fun K hK=>?hst10_7) ?hmore10_7
   case ho10_7=>simp only[jd,jb,jc];rfl
   case hst10_7 =>
    go_simp
    exact hK.out _ _ (.inr (.inr (.inr (.inr (.inr (.inr (.inr (.inr (.inr (.inr (.inr (.inr (.inr (.inl ⟨rfl,rfl,_,t7,t14,t17,t18,t19,t20,rfl,h.box⟩))))))))))))))
   exact inv_nil
  ·obtain rfl:m=2:=by omega
   refine inv_ready (rs:=[6,8]) (by kernel_rfl) (by simp) ?_
   refine inv_cons (o:=?ow11_6) ?ho11_6 (fun K hK=>?hst11_6) ?hmore11_6
   case ho11_6=>simp only[jd,jb,jc];rfl
   case hst11_6 =>
    obtain⟨A,n,c,B,m,d,rfl⟩:=h.h3 rfl
    obtain rfl:=h.h4 rfl
    go_simp
    exact hK.out _ _ (.inr (.inr (.inr (.inr (.inr (.inr (.inr (.inr (.inr (.inr (.inr (.inr (.inr (.inl ⟨rfl,rfl,t6,t7,_,t17,_,t19,_,rfl,h.ex1⟩))))))))))))))
   refine inv_cons (o:=?ow11_8) ?ho11_8 (fun K hK=>?hst11_8) ?hmore11_8
   case ho11_8=>simp only[jd,jb,jc];rfl
   case hst11_8 =>
    obtain⟨A,n,c,B,m,d,rfl⟩:=h.h5 rfl
    obtain⟨g,x,y,rfl,hg,hb⟩:=h.h7 rfl rfl
    have k0:=hb.cell (i:=0) (by simp);have k1:=hb.cell (i:=1) (by simp);have k2:=hb.free 0;have k3:=hb.free 1
    simp only[ja,je]at k0 k1
    have h9:=(h.store hg (.slice A n c) (.slice B m d))
    clear hb h
    go_simp
    exact hK.out _ _ (.inr (.inr (.inr (.inr (.inr (.inr (.inr (.inr (.inr (.inr (.inr (.inr (.inr (.inr (.inl ⟨rfl,rfl,_,t7,t14,t17,t18,_,t20,rfl,h9⟩)))))))))))))))
   exact inv_nil
  ·obtain rfl:m=2:=by omega
   refine inv_ready (rs:=[5]) (by kernel_rfl) (by simp) ?_
   refine inv_cons (o:=?ow12_5) ?ho12_5 (fun K hK=>?hst12_5) ?hmore12_5
   case ho12_5=>simp only[jd,jb,jc];rfl
   case hst12_5 =>
    obtain⟨A,n,c,B,m,d,rfl⟩:=h.h3 rfl
    obtain rfl:=h.h4 rfl
    go_simp
    exact hK.out _ _ (.inr (.inr (.inr (.inr (.inr (.inr (.inr (.inr (.inr (.inr (.inr (.inr (.inr (.inl ⟨rfl,rfl,t6,t7,_,t17,_,_,t20,rfl,h.ex0⟩))))))))))))))
   exact inv_nil
  ·obtain rfl:m=1:=by omega
   refine inv_ready (rs:=[8]) (by kernel_rfl) (by simp) ?_
   refine inv_cons (o:=?ow13_8) ?ho13_8 (fun K hK=>?hst13_8) ?hmore13_8
   case ho13_8=>simp only[jd,jb,jc];rfl
   case hst13_8 =>
    obtain⟨A,n,c,B,m,d,rfl⟩:=h.h5 rfl
    obtain⟨g,x,y,rfl,hg,hb⟩:=h.h7 rfl rfl
    have k0:=hb.cell (i:=0) (by simp);have k1:=hb.cell (i:=1) (by simp);have k2:=hb.free 0;have k3:=hb.free 1
    simp only[ja,je]at k0 k1
    have h9:=(h.store hg (.slice A n c) (.slice B m d))
    clear hb h
    go_simp
    exact hK.out _ _ (.inr (.inr (.inr (.inr (.inr (.inr (.inr (.inr (.inr (.inr (.inr (.inr (.inr (.inr (.inr (.inl ⟨rfl,rfl,_,t7,t14,t17,t18,_,t20,rfl,h9⟩))))))))))))))))
   exact inv_nil
  ·obtain rfl:m=1:=by omega
   refine inv_ready (rs:=[6]) (by kernel_rfl) (by simp) ?_
   refine inv_cons (o:=?ow14_6) ?ho14_6 (fun K hK=>?hst14_6) ?hmore14_6
   case ho14_6=>simp only[jd,jb,jc];rfl
   case hst14_6 =>
    obtain⟨A,n,c,B,m,d,rfl⟩:=h.h3 rfl
    obtain rfl:=h.h4 rfl
    go_simp
    exact hK.out _ _ (.inr (.inr (.inr (.inr (.inr (.inr (.inr (.inr (.inr (.inr (.inr (.inr (.inr (.inr (.inr (.inl ⟨rfl,rfl,t6,t7,_,t17,_,t19,_,rfl,h.ex1⟩))))))))))))))))
   exact inv_nil
  ·obtain rfl:m=0:=by omega
   refine inv_ready (rs:=[9]) (by kernel_rfl) (by simp) ?_
   refine inv_cons (o:=?ow15_9) ?ho15_9 (fun K hK=>?hst15_9) ?hmore15_9
   case ho15_9=>simp only[jd,jb,jc];rfl
   case hst15_9 =>
    obtain rfl:=h.h6 rfl
    go_simp
    exact hK.out _ _ (.inr (.inr (.inr (.inr (.inr (.inr (.inr (.inr (.inr (.inr (.inr (.inr (.inr (.inr (.inr (.inr (⟨rfl,rfl,t6,_,t14,t17,t18,t19,_,rfl,h.asg⟩)))))))))))))))))
   exact inv_nil
  ·exact absurd hn (by omega)
noncomputable def colRgA:Code:=((Tryz.f14.body.bind (findRegion 11)).getD .skip)
def ColJA(w1:World)(r:Rl)(hd:List ByteArray)(F:Value→Value→Value→ Act)(n:Nat)(l:Array Bool)(act:Act)(W:World):Prop :=
 (n=4∧l=#[true,false,true,true,false,false,false]∧∃t12 t36 t39,act=F t12 t36 t39∧ColI w1 r hd false false false false t12 t36 t39 W)∨(n=3∧l=#[true,true,true,true,false,false,false]∧∃t12 t36 t39,act=F t12 t36 t39∧ColI w1 r hd true false false false t12 t36 t39 W)∨(n=3∧l=#[true,false,true,true,false,true,false]∧∃t12 t36 t39,act=F t12 t36 t39∧ColI w1 r hd false false true false t12 t36 t39 W)∨(n=2∧l=#[true,true,true,true,true,false,false]∧∃t12 t36 t39,act=F t12 t36 t39∧ColI w1 r hd true true false false t12 t36 t39 W)∨(n=2∧l=#[true,true,true,true,false,true,false]∧∃t12 t36 t39,act=F t12 t36 t39∧ColI w1 r hd true false true false t12 t36 t39 W)∨(n=1∧l=#[true,true,true,true,true,true,false]∧∃t12 t36 t39,act=F t12 t36 t39∧ColI w1 r hd true true true false t12 t36 t39 W)∨(n=0∧l=#[true,true,true,true,true,true,true]∧∃t12 t36 t39,act=F t12 t36 t39∧ColI w1 r hd true true true true t12 t36 t39 W)
set_option maxRecDepth 20000 in
set_option maxHeartbeats 3200000 in
theorem col_regA{K:Act→World→Prop}{Q:Exit→Act→World→Prop}{w1:World}{r:Rl}{hd:List ByteArray}{g0 g1:Nat}{c0 r0 r1 u0 u1 u3 u4 u5 u6 u7 u8 u9 u10 u13 u14 u15 u16 u17 u18 u19 u20 u21 u22 u23 u24 u25 u26 u27 u28 u29 u30 u31 u32 u33 u34 u40 u41 u42 u43 u44 u45 u46 u47 u48 u49 u50 u51 u52 x12 x36 x39 xa xb xc:Value}(b0:w1.cell? ⟨g0,0,none⟩=some c0)(b1:w1.cell? ⟨g1,0,none⟩=some r0)(b2:w1.cell? ⟨g1,1,none⟩=some r1)(HVA:Hid (∀V,Ext w1 V→Calls Tryz.prog 48 #[.agg #[r0,r1]] V (Ret (fun x w'=>w'.ownsRow V.heap.size 9 1 x (varsC r).length ((varsC r).map Sv)) V)))(HCO:Hid (∀V B v,Ext w1 V→V.ownsRow B 9 1 v (varsC r).length ((varsC r).map Sv)→Calls Tryz.prog 47 #[v,c0] V (Ret (fun x w'=>w'.ownsRow V.heap.size 3 1 x hd.length ((colsI (varsC r) hd).map I64)) V)))(hK:∀t12 t36 t39 W,ColI w1 r hd true true true true t12 t36 t39 W→K ⟨#[u0,u1,.pointer (some ⟨g0,0,none⟩),u3,u4,u5,u6,u7,u8,u9,u10,.pointer (some ⟨g1,0,none⟩),t12,u13,u14,u15,u16,u17,u18,u19,u20,u21,u22,u23,u24,u25,u26,u27,u28,u29,u30,u31,u32,u33,u34,.agg #[r0,r1],t36,.pointer (some ⟨g0,0,none⟩),c0,t39,u40,u41,u42,u43,u44,u45,u46,u47,u48,u49,u50,u51,u52],[]⟩ W) :
  Code.wp Tryz.prog colRgA (Exit.then K Q) ⟨#[u0,u1,.pointer (some ⟨g0,0,none⟩),u3,u4,u5,u6,u7,u8,u9,u10,.pointer (some ⟨g1,0,none⟩),x12,u13,u14,u15,u16,u17,u18,u19,u20,u21,u22,u23,u24,u25,u26,u27,u28,u29,u30,u31,u32,u33,u34,xa,x36,xb,xc,x39,u40,u41,u42,u43,u44,u45,u46,u47,u48,u49,u50,u51,u52],[]⟩ w1:=by
 have HK:=zO hK
 clear hK
 conv=>arg 2;whnf
 refine wp_only ?_
 refine wp_region_held_drew (S:=fun V=>Ext w1 V) (by kernel_rfl) (Ext.refl w1).drew (fun hHeld=>?_)
 refine wpAnyH_take (i:=0) (oi:=?ox0) (v:=.agg #[r0,r1]) ?hx0 (by kernel_rfl) (by kernel_rfl) (by kernel_rfl) (fun _ _ _ h=>h) (Or.inl ⟨?wx0,?yx0⟩) hHeld ?rx0
 case hx0=>simp only[jd,jb,jc];rfl
 case wx0=>rfl
 case yx0 =>
  intro V hSw
  have q0:=Ext.cell hSw b1
  have q1:=Ext.cell hSw b2
  simp[go_sem,q0,q1] <;> with_reducible rfl
 (try simp only[Act.put,jf,jh,ji])
 refine wpAnyH_take (i:=2) (oi:=?ox2) (v:=.pointer (some ⟨g0,0,none⟩)) ?hx2 (by kernel_rfl) (by kernel_rfl) (by kernel_rfl) (fun _ _ _ h=>h) (Or.inl ⟨?wx2,?yx2⟩) hHeld ?rx2
 case hx2=>simp only[jd,jb,jc];rfl
 case wx2=>rfl
 case yx2 =>
  intro V hSw

  simp[go_sem] <;> with_reducible rfl
 (try simp only[Act.put,jf,jh,ji])
 refine wpAnyH_take (i:=3) (oi:=?ox3) (v:=c0) ?hx3 (by kernel_rfl) (by kernel_rfl) (by kernel_rfl) (fun _ _ _ h=>h) (Or.inl ⟨?wx3,?yx3⟩) hHeld ?rx3
 case hx3=>simp only[jd,jb,jc];rfl
 case wx3=>rfl
 case yx3 =>
  intro V hSw
  have q0:=Ext.cell hSw b0
  simp[go_sem,q0] <;> with_reducible rfl
 (try simp only[Act.put,jf,jh,ji])
 clear b0 b1 b2
 refine inv_any (I:=ColJA w1 r hd (fun t12 t36 t39=>⟨#[u0,u1,.pointer (some ⟨g0,0,none⟩),u3,u4,u5,u6,u7,u8,u9,u10,.pointer (some ⟨g1,0,none⟩),t12,u13,u14,u15,u16,u17,u18,u19,u20,u21,u22,u23,u24,u25,u26,u27,u28,u29,u30,u31,u32,u33,u34,.agg #[r0,r1],t36,.pointer (some ⟨g0,0,none⟩),c0,t39,u40,u41,u42,u43,u44,u45,u46,u47,u48,u49,u50,u51,u52],[]⟩)) ?hS ?h0 ?h1 _ _ _ _ ?st
 case hS =>
  rintro n l act W (⟨hn,rfl,t12,t36,t39,rfl,h⟩|⟨hn,rfl,t12,t36,t39,rfl,h⟩|⟨hn,rfl,t12,t36,t39,rfl,h⟩|⟨hn,rfl,t12,t36,t39,rfl,h⟩|⟨hn,rfl,t12,t36,t39,rfl,h⟩|⟨hn,rfl,t12,t36,t39,rfl,h⟩|⟨hn,rfl,t12,t36,t39,rfl,h⟩)
  ·exact h.ext
  ·exact h.ext
  ·exact h.ext
  ·exact h.ext
  ·exact h.ext
  ·exact h.ext
  ·exact h.ext
 case st=>exact .inl ⟨rfl,rfl,x12,x36,x39,rfl,ColI.start⟩
 case h0 =>
  rintro l act W (⟨hn,rfl,t12,t36,t39,rfl,h⟩|⟨hn,rfl,t12,t36,t39,rfl,h⟩|⟨hn,rfl,t12,t36,t39,rfl,h⟩|⟨hn,rfl,t12,t36,t39,rfl,h⟩|⟨hn,rfl,t12,t36,t39,rfl,h⟩|⟨hn,rfl,t12,t36,t39,rfl,h⟩|⟨hn,rfl,t12,t36,t39,rfl,h⟩)
  ·exact absurd hn (by omega)
  ·exact absurd hn (by omega)
  ·exact absurd hn (by omega)
  ·exact absurd hn (by omega)
  ·exact absurd hn (by omega)
  ·exact absurd hn (by omega)
  ·refine⟨by kernel_rfl,?_⟩
   exact HK.out _ _ _ _ h
 case h1 =>
  rintro m l act W (⟨hn,rfl,t12,t36,t39,rfl,h⟩|⟨hn,rfl,t12,t36,t39,rfl,h⟩|⟨hn,rfl,t12,t36,t39,rfl,h⟩|⟨hn,rfl,t12,t36,t39,rfl,h⟩|⟨hn,rfl,t12,t36,t39,rfl,h⟩|⟨hn,rfl,t12,t36,t39,rfl,h⟩|⟨hn,rfl,t12,t36,t39,rfl,h⟩)
  ·obtain rfl:m=3:=by omega
   refine inv_ready (rs:=[1,5]) (by kernel_rfl) (by simp) ?_
   refine inv_cons (o:=?ow0_1) ?ho0_1 (fun K hK=>?hst0_1) ?hmore0_1
   case ho0_1=>simp only[jd,jb,jc];rfl
   case hst0_1 =>
    go_simp
    go_at_call 48
    have hx:=h.ext
    (with_reducible refine(HVA.out _ hx).mono ?_)
    rintro e W2 ⟨v,rfl,he,hv⟩
    (try simp only[Act.put,jf,jh,ji])
    exact hK.out _ _ (.inr (.inl ⟨rfl,rfl,t12,_,t39,rfl,h.call1 he hv⟩))
   refine inv_cons (o:=?ow0_5) ?ho0_5 (fun K hK=>?hst0_5) ?hmore0_5
   case ho0_5=>simp only[jd,jb,jc];rfl
   case hst0_5 =>
    go_simp
    exact hK.out _ _ (.inr (.inr (.inl ⟨rfl,rfl,_,t36,t39,rfl,h.box⟩)))
   exact inv_nil
  ·obtain rfl:m=2:=by omega
   refine inv_ready (rs:=[4,5]) (by kernel_rfl) (by simp) ?_
   refine inv_cons (o:=?ow1_4) ?ho1_4 (fun K hK=>?hst1_4) ?hmore1_4
   case ho1_4=>simp only[jd,jb,jc];rfl
   case hst1_4 =>
    obtain⟨B,hB,hv⟩:=h.h1 rfl
    have hx:=h.ext
    go_simp
    go_at_call 47
    (with_reducible refine(HCO.out _ _ _ hx hv).mono ?_)
    rintro e W2 ⟨v,rfl,he,hv2⟩
    (try simp only[Act.put,jf,jh,ji])
    exact hK.out _ _ (.inr (.inr (.inr (.inl ⟨rfl,rfl,t12,t36,_,rfl,h.call2 he hv2⟩))))
   refine inv_cons (o:=?ow1_5) ?ho1_5 (fun K hK=>?hst1_5) ?hmore1_5
   case ho1_5=>simp only[jd,jb,jc];rfl
   case hst1_5 =>
    go_simp
    exact hK.out _ _ (.inr (.inr (.inr (.inr (.inl ⟨rfl,rfl,_,t36,t39,rfl,h.box⟩)))))
   exact inv_nil
  ·obtain rfl:m=2:=by omega
   refine inv_ready (rs:=[1]) (by kernel_rfl) (by simp) ?_
   refine inv_cons (o:=?ow2_1) ?ho2_1 (fun K hK=>?hst2_1) ?hmore2_1
   case ho2_1=>simp only[jd,jb,jc];rfl
   case hst2_1 =>
    go_simp
    go_at_call 48
    have hx:=h.ext
    (with_reducible refine(HVA.out _ hx).mono ?_)
    rintro e W2 ⟨v,rfl,he,hv⟩
    (try simp only[Act.put,jf,jh,ji])
    exact hK.out _ _ (.inr (.inr (.inr (.inr (.inl ⟨rfl,rfl,t12,_,t39,rfl,h.call1 he hv⟩)))))
   exact inv_nil
  ·obtain rfl:m=1:=by omega
   refine inv_ready (rs:=[5]) (by kernel_rfl) (by simp) ?_
   refine inv_cons (o:=?ow3_5) ?ho3_5 (fun K hK=>?hst3_5) ?hmore3_5
   case ho3_5=>simp only[jd,jb,jc];rfl
   case hst3_5 =>
    go_simp
    exact hK.out _ _ (.inr (.inr (.inr (.inr (.inr (.inl ⟨rfl,rfl,_,t36,t39,rfl,h.box⟩))))))
   exact inv_nil
  ·obtain rfl:m=1:=by omega
   refine inv_ready (rs:=[4]) (by kernel_rfl) (by simp) ?_
   refine inv_cons (o:=?ow4_4) ?ho4_4 (fun K hK=>?hst4_4) ?hmore4_4
   case ho4_4=>simp only[jd,jb,jc];rfl
   case hst4_4 =>
    obtain⟨B,hB,hv⟩:=h.h1 rfl
    have hx:=h.ext
    go_simp
    go_at_call 47
    (with_reducible refine(HCO.out _ _ _ hx hv).mono ?_)
    rintro e W2 ⟨v,rfl,he,hv2⟩
    (try simp only[Act.put,jf,jh,ji])
    exact hK.out _ _ (.inr (.inr (.inr (.inr (.inr (.inl ⟨rfl,rfl,t12,t36,_,rfl,h.call2 he hv2⟩))))))
   exact inv_nil
  ·obtain rfl:m=0:=by omega
   refine inv_ready (rs:=[6]) (by kernel_rfl) (by simp) ?_
   refine inv_cons (o:=?ow5_6) ?ho5_6 (fun K hK=>?hst5_6) ?hmore5_6
   case ho5_6=>simp only[jd,jb,jc];rfl
   case hst5_6 =>
    obtain⟨B2,hB2,hv2⟩:=h.h4 rfl
    obtain⟨A2,c2,rfl⟩:=own_slice hv2
    obtain⟨g,rfl,hg,hb⟩:=h.h5 rfl
    have k0:=hb.cell (i:=0) (by simp);have k1:=hb.free 0
    simp only[if_false,Bool.false_eq_true,ja]at k0
    have h9:=h.store
    clear hb h hv2
    go_simp
    exact hK.out _ _ (.inr (.inr (.inr (.inr (.inr (.inr (⟨rfl,rfl,_,t36,_,rfl,h9⟩)))))))
   exact inv_nil
  ·exact absurd hn (by omega)
noncomputable def srtRgA:Code:=((Tryz.f14.body.bind (findRegion 16)).getD .skip)
def SrtJA(w1:World)(hd:List ByteArray)(od:List Ky)(c0 c1 c2 c3 c4 v:Value)(P:World→Prop)(F:Value→Value→Value→Value→ Act)(n:Nat)(l:Array Bool)(act:Act)(W:World):Prop :=
 (n=4∧l=#[false,false,false,false]∧∃t48 t49 t50 t51,act=F t48 t49 t50 t51∧SrtI w1 hd od (.agg #[c0,c1,c2,c3,c4]) v P false false false false t48 t49 t50 t51 W)∨(n=3∧l=#[true,false,false,false]∧∃t48 t49 t50 t51,act=F t48 t49 t50 t51∧SrtI w1 hd od (.agg #[c0,c1,c2,c3,c4]) v P true false false false t48 t49 t50 t51 W)∨(n=3∧l=#[false,true,false,false]∧∃t48 t49 t50 t51,act=F t48 t49 t50 t51∧SrtI w1 hd od (.agg #[c0,c1,c2,c3,c4]) v P false true false false t48 t49 t50 t51 W)∨(n=2∧l=#[true,true,false,false]∧∃t48 t49 t50 t51,act=F t48 t49 t50 t51∧SrtI w1 hd od (.agg #[c0,c1,c2,c3,c4]) v P true true false false t48 t49 t50 t51 W)∨(n=2∧l=#[false,true,true,false]∧∃t48 t49 t50 t51,act=F t48 t49 t50 t51∧SrtI w1 hd od (.agg #[c0,c1,c2,c3,c4]) v P false true true false t48 t49 t50 t51 W)∨(n=1∧l=#[true,true,true,false]∧∃t48 t49 t50 t51,act=F t48 t49 t50 t51∧SrtI w1 hd od (.agg #[c0,c1,c2,c3,c4]) v P true true true false t48 t49 t50 t51 W)∨(n=0∧l=#[true,true,true,true]∧∃t48 t49 t50 t51,act=F t48 t49 t50 t51∧SrtI w1 hd od (.agg #[c0,c1,c2,c3,c4]) v P true true true true t48 t49 t50 t51 W)
set_option maxRecDepth 20000 in
set_option maxHeartbeats 3200000 in
theorem srt_regA{K:Act→World→Prop}{Q:Exit→Act→World→Prop}{w1:World}{hd:List ByteArray}{od:List Ky}{P:World→Prop}{g0 g1:Nat}{c0 c1 c2 c3 c4 v u0 u1 u3 u4 u5 u6 u7 u8 u10 u11 u12 u13 u14 u15 u16 u17 u18 u19 u20 u21 u22 u23 u24 u25 u26 u27 u28 u29 u30 u31 u32 u33 u34 u35 u36 u37 u38 u39 u40 u41 u42 u43 u44 u45 u46 u47 u52 x48 x49 x50 x51:Value}(B0:w1.cell? ⟨g0,0,none⟩=some c0)(B1:w1.cell? ⟨g0,1,none⟩=some c1)(B2:w1.cell? ⟨g0,2,none⟩=some c2)(B3:w1.cell? ⟨g0,3,none⟩=some c3)(B4:w1.cell? ⟨g0,4,none⟩=some c4)(B5:w1.cell? ⟨g1,0,none⟩=some v)(hone:v.oneCell'=true)(HCM:Hid (∀V,Ext w1 V→Calls Tryz.prog 54 #[.agg #[c0,c1,c2,c3,c4]] V (CmpPost hd od V)))(HSO:Hid (∀V W vf,Ext w1 V→CmpPost hd od V (.returned vf) W→Calls Tryz.prog 53 #[v,vf] W (fun e w'=>e=.returned (.tuple #[])∧P w')))(hK:∀t48 t49 t50 t51 W,P W→K ⟨#[u0,u1,.pointer (some ⟨g0,0,none⟩),u3,u4,u5,u6,u7,u8,.pointer (some ⟨g1,0,none⟩),u10,u11,u12,u13,u14,u15,u16,u17,u18,u19,u20,u21,u22,u23,u24,u25,u26,u27,u28,u29,u30,u31,u32,u33,u34,u35,u36,u37,u38,u39,u40,u41,u42,u43,u44,u45,u46,u47,t48,t49,t50,t51,u52],[]⟩ W) :
  Code.wp Tryz.prog srtRgA (Exit.then K Q) ⟨#[u0,u1,.pointer (some ⟨g0,0,none⟩),u3,u4,u5,u6,u7,u8,.pointer (some ⟨g1,0,none⟩),u10,u11,u12,u13,u14,u15,u16,u17,u18,u19,u20,u21,u22,u23,u24,u25,u26,u27,u28,u29,u30,u31,u32,u33,u34,u35,u36,u37,u38,u39,u40,u41,u42,u43,u44,u45,u46,u47,x48,x49,x50,x51,u52],[]⟩ w1:=by
 have HK:=zO hK
 clear hK
 conv=>arg 2;whnf
 refine wp_only ?_
 refine wp_region_held_drew (S:=fun _=>True) (by kernel_rfl) trivial (fun hHeld=>?_)
 refine inv_any (I:=SrtJA w1 hd od c0 c1 c2 c3 c4 v P (fun t48 t49 t50 t51=>⟨#[u0,u1,.pointer (some ⟨g0,0,none⟩),u3,u4,u5,u6,u7,u8,.pointer (some ⟨g1,0,none⟩),u10,u11,u12,u13,u14,u15,u16,u17,u18,u19,u20,u21,u22,u23,u24,u25,u26,u27,u28,u29,u30,u31,u32,u33,u34,u35,u36,u37,u38,u39,u40,u41,u42,u43,u44,u45,u46,u47,t48,t49,t50,t51,u52],[]⟩)) ?hS ?h0 ?h1 _ _ _ _ ?st
 case hS =>
  rintro n l act W (⟨hn,rfl,t48,t49,t50,t51,rfl,h⟩|⟨hn,rfl,t48,t49,t50,t51,rfl,h⟩|⟨hn,rfl,t48,t49,t50,t51,rfl,h⟩|⟨hn,rfl,t48,t49,t50,t51,rfl,h⟩|⟨hn,rfl,t48,t49,t50,t51,rfl,h⟩|⟨hn,rfl,t48,t49,t50,t51,rfl,h⟩|⟨hn,rfl,t48,t49,t50,t51,rfl,h⟩)
  all_goals trivial
 case st=>exact .inl ⟨rfl,rfl,x48,x49,x50,x51,rfl,SrtI.start⟩
 case h0 =>
  rintro l act W (⟨hn,rfl,t48,t49,t50,t51,rfl,h⟩|⟨hn,rfl,t48,t49,t50,t51,rfl,h⟩|⟨hn,rfl,t48,t49,t50,t51,rfl,h⟩|⟨hn,rfl,t48,t49,t50,t51,rfl,h⟩|⟨hn,rfl,t48,t49,t50,t51,rfl,h⟩|⟨hn,rfl,t48,t49,t50,t51,rfl,h⟩|⟨hn,rfl,t48,t49,t50,t51,rfl,h⟩)
  ·exact absurd hn (by omega)
  ·exact absurd hn (by omega)
  ·exact absurd hn (by omega)
  ·exact absurd hn (by omega)
  ·exact absurd hn (by omega)
  ·exact absurd hn (by omega)
  ·refine⟨by kernel_rfl,?_⟩
   exact HK.out _ _ _ _ _ (h.h3 rfl)
 case h1 =>
  rintro m l act W (⟨hn,rfl,t48,t49,t50,t51,rfl,h⟩|⟨hn,rfl,t48,t49,t50,t51,rfl,h⟩|⟨hn,rfl,t48,t49,t50,t51,rfl,h⟩|⟨hn,rfl,t48,t49,t50,t51,rfl,h⟩|⟨hn,rfl,t48,t49,t50,t51,rfl,h⟩|⟨hn,rfl,t48,t49,t50,t51,rfl,h⟩|⟨hn,rfl,t48,t49,t50,t51,rfl,h⟩)
  ·obtain rfl:m=3:=by omega
   refine inv_ready (rs:=[0,1]) (by kernel_rfl) (by simp) ?_
   refine inv_cons (o:=?ow0_0) ?ho0_0 (fun K hK=>?hst0_0) ?hmore0_0
   case ho0_0=>simp only[jd,jb,jc];rfl
   case hst0_0 =>
    have k0:=(h.ext rfl).cell B5
    go_simp
    exact hK.out _ _ (.inr (.inl ⟨rfl,rfl,_,t49,t50,t51,rfl,h.ld1⟩))
   refine inv_cons (o:=?ow0_1) ?ho0_1 (fun K hK=>?hst0_1) ?hmore0_1
   case ho0_1=>simp only[jd,jb,jc];rfl
   case hst0_1 =>
    have k0:=(h.ext rfl).cell B0;have k1:=(h.ext rfl).cell B1;have k2:=(h.ext rfl).cell B2;have k3:=(h.ext rfl).cell B3;have k4:=(h.ext rfl).cell B4
    go_simp
    exact hK.out _ _ (.inr (.inr (.inl ⟨rfl,rfl,t48,_,t50,t51,rfl,h.ld2⟩)))
   exact inv_nil
  ·obtain rfl:m=2:=by omega
   refine inv_ready (rs:=[1]) (by kernel_rfl) (by simp) ?_
   refine inv_cons (o:=?ow1_1) ?ho1_1 (fun K hK=>?hst1_1) ?hmore1_1
   case ho1_1=>simp only[jd,jb,jc];rfl
   case hst1_1 =>
    have k0:=(h.ext rfl).cell B0;have k1:=(h.ext rfl).cell B1;have k2:=(h.ext rfl).cell B2;have k3:=(h.ext rfl).cell B3;have k4:=(h.ext rfl).cell B4
    go_simp
    exact hK.out _ _ (.inr (.inr (.inr (.inl ⟨rfl,rfl,t48,_,t50,t51,rfl,h.ld2⟩))))
   exact inv_nil
  ·obtain rfl:m=2:=by omega
   refine inv_ready (rs:=[0,2]) (by kernel_rfl) (by simp) ?_
   refine inv_cons (o:=?ow2_0) ?ho2_0 (fun K hK=>?hst2_0) ?hmore2_0
   case ho2_0=>simp only[jd,jb,jc];rfl
   case hst2_0 =>
    have k0:=(h.ext rfl).cell B5
    go_simp
    exact hK.out _ _ (.inr (.inr (.inr (.inl ⟨rfl,rfl,_,t49,t50,t51,rfl,h.ld1⟩))))
   refine inv_cons (o:=?ow2_2) ?ho2_2 (fun K hK=>?hst2_2) ?hmore2_2
   case ho2_2=>simp only[jd,jb,jc];rfl
   case hst2_2 =>
    obtain rfl:=h.h1 rfl
    have hx:=h.ext rfl
    go_simp
    go_at_call 54
    (with_reducible refine(HCM.out _ hx).mono ?_)
    rintro e W2 hp
    obtain⟨vf,rfl⟩:∃vf,e=.returned vf:=(by obtain⟨-,gC,gK,C,D,c3,c4,e9,-⟩:=hp;exact⟨_,e9⟩)
    (try simp only[Act.put,jf,jh,ji])
    exact hK.out _ _ (.inr (.inr (.inr (.inr (.inl ⟨rfl,rfl,t48,_,_,t51,rfl,h.call1 hp⟩)))))
   exact inv_nil
  ·obtain rfl:m=1:=by omega
   refine inv_ready (rs:=[2]) (by kernel_rfl) (by simp) ?_
   refine inv_cons (o:=?ow3_2) ?ho3_2 (fun K hK=>?hst3_2) ?hmore3_2
   case ho3_2=>simp only[jd,jb,jc];rfl
   case hst3_2 =>
    obtain rfl:=h.h1 rfl
    have hx:=h.ext rfl
    go_simp
    go_at_call 54
    (with_reducible refine(HCM.out _ hx).mono ?_)
    rintro e W2 hp
    obtain⟨vf,rfl⟩:∃vf,e=.returned vf:=(by obtain⟨-,gC,gK,C,D,c3,c4,e9,-⟩:=hp;exact⟨_,e9⟩)
    (try simp only[Act.put,jf,jh,ji])
    exact hK.out _ _ (.inr (.inr (.inr (.inr (.inr (.inl ⟨rfl,rfl,t48,_,_,t51,rfl,h.call1 hp⟩))))))
   exact inv_nil
  ·obtain rfl:m=1:=by omega
   refine inv_ready (rs:=[0]) (by kernel_rfl) (by simp) ?_
   refine inv_cons (o:=?ow4_0) ?ho4_0 (fun K hK=>?hst4_0) ?hmore4_0
   case ho4_0=>simp only[jd,jb,jc];rfl
   case hst4_0 =>
    have k0:=(h.ext rfl).cell B5
    go_simp
    exact hK.out _ _ (.inr (.inr (.inr (.inr (.inr (.inl ⟨rfl,rfl,_,t49,t50,t51,rfl,h.ld1⟩))))))
   exact inv_nil
  ·obtain rfl:m=0:=by omega
   refine inv_ready (rs:=[3]) (by kernel_rfl) (by simp) ?_
   refine inv_cons (o:=?ow5_3) ?ho5_3 (fun K hK=>?hst5_3) ?hmore5_3
   case ho5_3=>simp only[jd,jb,jc];rfl
   case hst5_3 =>
    obtain rfl:=h.h0 rfl
    obtain⟨V,hx,hp⟩:=h.h2 rfl
    replace hp:=hp rfl
    go_simp
    go_at_call 53
    (with_reducible refine(HSO.out _ _ _ hx hp).mono ?_)
    rintro e W2 ⟨rfl,hq⟩
    (try simp only[Act.put,jf,jh,ji])
    exact hK.out _ _ (.inr (.inr (.inr (.inr (.inr (.inr (⟨rfl,rfl,_,t49,t50,_,rfl,h.call2 hq⟩)))))))
   exact inv_nil
  ·exact absurd hn (by omega)
