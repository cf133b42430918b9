/- packed -/
import Derived.Test.YtplldnnnhgnbjaaGreatDoorMv29
import Derived.Test.YtplldnnnhgnbjaaGreatDoorMv32
set_option maxRecDepth 20000
set_option maxHeartbeats 3200000
namespace Go.Proofs.YtplldnnnhgnbjaaGreatDoor
open Go.RowKit Go.Maps
theorem info_gr:(Tryz.prog.info? 80).map (fun i=>(i.zero,i.size,i.bytes))=some (some (.agg #[.slice none 0 0,.slice none 0 0,.bool false,.slice none 0 0,.slice none 0 0,.int .i64 0,.int .i64 0,.string ⟨#[]⟩]),8,136):=by kernel_rfl
theorem grC_one{u:Value}(h:u.oneCell'=true)(gn:Nat):∀x∈grC u gn,x.oneCell'=true:=by
 intro x hx
 simp only[grC,jB,zJ,or_false]at hx
 rcases hx with rfl|rfl|rfl|rfl|rfl|rfl|rfl|rfl <;> first|exact h|rfl
def GgPost(w1:World)(base n c0:Nat)(A0:Option Addr)(us:List Value)(uu:Value)(k gn:Nat)(A9:Option Addr)(c9:Nat)(W:World):Prop :=
 ∃V,Ext w1 V∧Bk V gn 165 (n32 k)∧w1.heap.size≤gn∧W.ownsRow base 80 8 (.slice A9 (n+1) c9) (n+1) (us++grC uu gn)∧V.grownBy W (Value.slice A0 n c0).ownBlock∧df V (.slice A0 n c0) (.slice A9 (n+1) c9)
structure GgI(w1:World)(base n c0:Nat)(A0:Option Addr)(us:List Value)(uu:Value)(ks:ByteArray)(gt k:Nat)(b3 b4 b7 b8 b9 b10:Bool)(t15 t66 t67 t70 t71 t72:Value)(gn:Nat)(W:World):Prop where
 fr:Fr (fun q=>(Value.slice A0 n c0).ownBlock=some q) w1 W
 ext:b9=false→Ext w1 W
 h66:b3=true→t66=.string ks
 h67:b4=true→t67=.pointer (some ⟨gt,0,none⟩)
 h70:b7=true→t70=.agg (grC uu gn).toArray∧w1.heap.size≤gn
 hb:b7=true→b9=false→Bk W gn 165 (n32 k)
 h71:b8=true→b9=false→∃V gm,gm=gn∧Ext w1 V∧W=V.alloc (.cells (grC uu gm).toArray 80)∧t71=.slice (some ⟨V.heap.size,0,none⟩) 1 1∧Bk V gm 165 (n32 k)
 h72:b9=true→∃A9 c9,t72=.slice A9 (n+1) c9∧GgPost w1 base n c0 A0 us uu k gn A9 c9 W
 h15:b10=true→t15=t72
section
variable {w1 W W' V:World} {base n c0:Nat} {A0:Option Addr} {us:List Value} {uu:Value} {ks:ByteArray} {gt k gn gm:Nat} {b3 b4 b7 b8 b9 b10:Bool} {t15 t66 t67 t70 t71 t72:Value}
theorem GgI.start:GgI w1 base n c0 A0 us uu ks gt k false false false false false false t15 t66 t67 t70 t71 t72 gn w1.drew :=
 ⟨(Fr.refl _ w1).drew,fun _=>(Ext.refl w1).drew,nofun,nofun,nofun,nofun,nofun,nofun,nofun⟩
theorem GgI.key(h:GgI w1 base n c0 A0 us uu ks gt k false false false false false false t15 t66 t67 t70 t71 t72 gn W)(he:Ext W W'):GgI w1 base n c0 A0 us uu ks gt k true false false false false false t15 (.string ks) t67 t70 t71 t72 gn W' :=
 ⟨h.fr.ext he,fun _=>(h.ext rfl).trans he,fun _=>rfl,nofun,nofun,nofun,nofun,nofun,nofun⟩
theorem GgI.look(h:GgI w1 base n c0 A0 us uu ks gt k true false false false false false t15 t66 t67 t70 t71 t72 gn W):GgI w1 base n c0 A0 us uu ks gt k true true false false false false t15 t66 (.pointer (some ⟨gt,0,none⟩)) t70 t71 t72 gn W :=
 ⟨h.fr,h.ext,h.h66,fun _=>rfl,nofun,nofun,nofun,nofun,nofun⟩
theorem GgI.grp(h:GgI w1 base n c0 A0 us uu ks gt k true true false false false false t15 t66 t67 t70 t71 t72 gn W)(hb:Bk W' gm 165 (n32 k))(hg:W.heap.size≤gm)(he:Ext W W'):GgI w1 base n c0 A0 us uu ks gt k true true true false false false t15 t66 t67 (.agg (grC uu gm).toArray) t71 t72 gm W' :=
 ⟨h.fr.ext he,fun _=>(h.ext rfl).trans he,h.h66,h.h67,fun _=>⟨rfl,jr (h.ext rfl).size hg⟩,fun _ _=>hb,nofun,nofun,nofun⟩
theorem GgI.bld(h:GgI w1 base n c0 A0 us uu ks gt k true true true false false false t15 t66 t67 t70 t71 t72 gn W):GgI w1 base n c0 A0 us uu ks gt k true true true true false false t15 t66 t67 t70 (.slice (some ⟨W.heap.size,0,none⟩) 1 1) t72 gn (W.alloc (.cells (grC uu gn).toArray 80)) :=
 ⟨h.fr.ext ((Ext.refl W).alloc _),fun _=>(h.ext rfl).alloc _,h.h66,h.h67,h.h70,fun k1 k2=>(h.hb k1 k2).alloc _,fun _ _=>⟨W,gn,rfl,h.ext rfl,rfl,rfl,h.hb rfl rfl⟩,nofun,nofun⟩
theorem GgI.app{A9:Option Addr}{c9:Nat}(h:GgI w1 base n c0 A0 us uu ks gt k true true true true false false t15 t66 t67 t70 t71 t72 gn W)(hx:Ext w1 V)(hb:Bk V gn 165 (n32 k))(hr:W'.ownsRow base 80 8 (.slice A9 (n+1) c9) (n+1) (us++grC uu gn))(se:(V.alloc (.cells (grC uu gn).toArray 80)).grownBy W' (Value.slice A0 n c0).ownBlock)(hl:df (V.alloc (.cells (grC uu gn).toArray 80)) (.slice A0 n c0) (.slice A9 (n+1) c9)):GgI w1 base n c0 A0 us uu ks gt k true true true true true false t15 t66 t67 t70 t71 (.slice A9 (n+1) c9) gn W' :=
 ⟨Fr.comp ((hx.alloc _).fr _) (am se) (fun k hk=>.inl hk),nofun,h.h66,h.h67,h.h70,nofun,nofun,fun _=>⟨A9,c9,rfl,_,hx.alloc _,hb.alloc _,(h.h70 rfl).2,hr,se,hl⟩,nofun⟩
theorem GgI.asg(h:GgI w1 base n c0 A0 us uu ks gt k true true true true true false t15 t66 t67 t70 t71 t72 gn W):GgI w1 base n c0 A0 us uu ks gt k true true true true true true t72 t66 t67 t70 t71 t72 gn W :=
 ⟨h.fr,nofun,h.h66,h.h67,h.h70,nofun,nofun,h.h72,fun _=>rfl⟩
end
noncomputable def chkRgG:Code:=((Tryz.f21.body.bind (aK 1)).getD .skip)
def ChkJG(w1:World)(M:Dm)(nb:Nat)(ev:Int)(F:Value→Value→Value→Value→Value→Value→Value→ Act)(n:Nat)(l:Array Bool)(act:Act)(W:World):Prop :=
 (n=8∧l=#[true,true,false,false,false,false,false,false,false,false]∧∃t6 t7 t14 t17 t18 t19 t20,act=F t6 t7 t14 t17 t18 t19 t20∧aW w1 M nb ev false false false false false false false false t6 t7 t14 t17 t18 t19 t20 W)∨(n=7∧l=#[true,true,true,false,false,false,false,false,false,false]∧∃t6 t7 t14 t17 t18 t19 t20,act=F t6 t7 t14 t17 t18 t19 t20∧aW w1 M nb ev true false false false false false false false t6 t7 t14 t17 t18 t19 t20 W)∨(n=7∧l=#[true,true,false,false,false,false,false,true,false,false]∧∃t6 t7 t14 t17 t18 t19 t20,act=F t6 t7 t14 t17 t18 t19 t20∧aW w1 M nb ev false false false false false true false false t6 t7 t14 t17 t18 t19 t20 W)∨(n=6∧l=#[true,true,true,true,false,false,false,false,false,false]∧∃t6 t7 t14 t17 t18 t19 t20,act=F t6 t7 t14 t17 t18 t19 t20∧aW w1 M nb ev true true false false false false false false t6 t7 t14 t17 t18 t19 t20 W)∨(n=6∧l=#[true,true,true,false,false,false,false,true,false,false]∧∃t6 t7 t14 t17 t18 t19 t20,act=F t6 t7 t14 t17 t18 t19 t20∧aW w1 M nb ev true false false false false true false false t6 t7 t14 t17 t18 t19 t20 W)∨(n=5∧l=#[true,true,true,true,true,false,false,false,false,false]∧∃t6 t7 t14 t17 t18 t19 t20,act=F t6 t7 t14 t17 t18 t19 t20∧aW w1 M nb ev true true true false false false false false t6 t7 t14 t17 t18 t19 t20 W)∨(n=5∧l=#[true,true,true,true,false,false,false,true,false,false]∧∃t6 t7 t14 t17 t18 t19 t20,act=F t6 t7 t14 t17 t18 t19 t20∧aW w1 M nb ev true true false false false true false false t6 t7 t14 t17 t18 t19 t20 W)∨(n=4∧l=#[true,true,true,true,true,true,false,false,false,false]∧∃t6 t7 t14 t17 t18 t19 t20,act=F t6 t7 t14 t17 t18 t19 t20∧aW w1 M nb ev true true true true false false false false t6 t7 t14 t17 t18 t19 t20 W)∨(n=4∧l=#[true,true,true,true,true,false,true,false,false,false]∧∃t6 t7 t14 t17 t18 t19 t20,act=F t6 t7 t14 t17 t18 t19 t20∧aW w1 M nb ev true true true false true false false false t6 t7 t14 t17 t18 t19 t20 W)∨(n=4∧l=#[true,true,true,true,true,false,false,true,false,false]∧∃t6 t7 t14 t17 t18 t19 t20,act=F t6 t7 t14 t17 t18 t19 t20∧aW w1 M nb ev true true true false false true false false t6 t7 t14 t17 t18 t19 t20 W)∨(n=3∧l=#[true,true,true,true,true,true,true,false,false,false]∧∃t6 t7 t14 t17 t18 t19 t20,act=F t6 t7 t14 t17 t18 t19 t20∧aW w1 M nb ev true true true true true false false false t6 t7 t14 t17 t18 t19 t20 W)∨(n=3∧l=#[true,true,true,true,true,true,false,true,false,false]∧∃t6 t7 t14 t17 t18 t19 t20,act=F t6 t7 t14 t17 t18 t19 t20∧aW w1 M nb ev true true true true false true false false t6 t7 t14 t17 t18 t19 t20 W)∨(n=3∧l=#[true,true,true,true,true,false,true,true,false,false]∧∃t6 t7 t14 t17 t18 t19 t20,act=F t6 t7 t14 t17 t18 t19 t20∧aW w1 M nb ev true true true false true true false false t6 t7 t14 t17 t18 t19 t20 W)∨(n=2∧l=#[true,true,true,true,true,true,true,true,false,false]∧∃t6 t7 t14 t17 t18 t19 t20,act=F t6 t7 t14 t17 t18 t19 t20∧aW w1 M nb ev true true true true true true false false t6 t7 t14 t17 t18 t19 t20 W)∨(n=2∧l=#[true,true,true,true,true,true,false,true,true,false]∧∃t6 t7 t14 t17 t18 t19 t20,act=F t6 t7 t14 t17 t18 t19 t20∧aW w1 M nb ev true true true true false true true false t6 t7 t14 t17 t18 t19 t20 W)∨(n=1∧l=#[true,true,true,true,true,true,true,true,true,false]∧∃t6 t7 t14 t17 t18 t19 t20,act=F t6 t7 t14 t17 t18 t19 t20∧aW w1 M nb ev true true true true true true true false t6 t7 t14 t17 t18 t19 t20 W)∨(n=0∧l=#[true,true,true,true,true,true,true,true,true,true]∧∃t6 t7 t14 t17 t18 t19 t20,act=F t6 t7 t14 t17 t18 t19 t20∧aW w1 M nb ev true true true true true true true true t6 t7 t14 t17 t18 t19 t20 W)
theorem chk_regG{K:Act→World→Prop}{Q:Exit→Act→World→Prop}{w1:World}{M:Dm}{nb b g0 g1:Nat}{ev:Int}{c0 c1 c2 c3 c4 u0 u1 u4 u5 u8 u9 sq sr su sw sx sy sA sB sC sD sE sF sG sH sI u32 sJ sK sL sM sN sO sP sQ sR sS sT sU sV sW sX sY sZ ta tc td te tf tg th tj tn tp tq tt tu tw u64 tz tA tB tC tD tE tF tG tH tI x6 x7 tM tN tO tP tQ xa xb:Value}(b0:w1.cell? ⟨g0,0,none⟩=some c0)(b1:w1.cell? ⟨g0,1,none⟩=some c1)(b2:w1.cell? ⟨g0,2,none⟩=some c2)(b3:w1.cell? ⟨g0,3,none⟩=some c3)(b4:w1.cell? ⟨g0,4,none⟩=some c4)(b5:w1.cell? ⟨g1,0,none⟩=some (.map (some b)))(tK:Hid (∀V,Ext w1 V→Calls Tryz.prog 23 #[.agg #[.map (some b)]] V (kN M nb V)))(tJ:Hid (∀V S n c l G,Ext w1 V→bU M l→l.length≤nb→Sl el G V (.slice S n c) (cH M l)→Calls Tryz.prog 22 #[.agg #[c0,c1,c2,c3,c4],.slice S n c] V (lE ev V)))(hK:∀t6 t14 t17 t18 t19 t20 W,Ext w1 W→K ⟨#[u0,u1,.pointer (some ⟨g0,0,none⟩),.pointer (some ⟨g1,0,none⟩),u4,u5,t6,.int .i64 ev,u8,u9,sq,sr,su,sw,sx,sy,sA,sB,t14,.agg #[c0,c1,c2,c3,c4],.agg #[.map (some b)],t17,t18,t19,t20,sC,sD,sE,sF,sG,sH,sI,u32,sJ,sK,sL,sM,sN,sO,sP,sQ,sR,sS,sT,sU,sV,sW,sX,sY,sZ,ta,tc,td,te,tf,tg,th,tj,tn,tp,tq,tt,tu,tw,u64,tz,tA,tB,tC,tD,tE,tF,tG,tH,tI],[]⟩ W) :
  Code.wp Tryz.prog chkRgG (Exit.then K Q) ⟨#[u0,u1,.pointer (some ⟨g0,0,none⟩),.pointer (some ⟨g1,0,none⟩),u4,u5,x6,x7,u8,u9,sq,sr,su,sw,sx,sy,sA,sB,tM,xa,xb,tN,tO,tP,tQ,sC,sD,sE,sF,sG,sH,sI,u32,sJ,sK,sL,sM,sN,sO,sP,sQ,sR,sS,sT,sU,sV,sW,sX,sY,sZ,ta,tc,td,te,tf,tg,th,tj,tn,tp,tq,tt,tu,tw,u64,tz,tA,tB,tC,tD,tE,tF,tG,tH,tI],[]⟩ w1:=by
 have HK:=zN hK
 clear hK
 conv=>arg 2;whnf
 refine cR ?_
 refine wp_region_held_drew (S:=fun V=>Ext w1 V) (by kernel_rfl) (Ext.refl w1).drew (fun sg=>?_)
 refine wpAnyH_take (i:=0) (oi:=?ox0) (v:=.agg #[c0,c1,c2,c3,c4]) ?hx0 (by kernel_rfl) (by kernel_rfl) (by kernel_rfl) (fun _ _ _ h=>h) (Or.inl ⟨?wx0,?yx0⟩) sg ?rx0
 case hx0=>simp only[jd,jb,jc];rfl
 case wx0=>rfl
 case yx0 =>
  intro V sh
  have q0:=Ext.cell sh b0
  have q1:=Ext.cell sh b1
  have q2:=Ext.cell sh b2
  have q3:=Ext.cell sh b3
  have q4:=Ext.cell sh b4
  simp[go_sem,q0,q1,q2,q3,q4] <;> with_reducible rfl
 (try simp only[Act.put,jg,jh,ji])
 refine wpAnyH_take (i:=1) (oi:=?ox1) (v:=.agg #[.map (some b)]) ?hx1 (by kernel_rfl) (by kernel_rfl) (by kernel_rfl) (fun _ _ _ h=>h) (Or.inl ⟨?wx1,?yx1⟩) sg ?rx1
 case hx1=>simp only[jd,jb,jc];rfl
 case wx1=>rfl
 case yx1 =>
  intro V sh
  have q0:=Ext.cell sh b5
  simp[go_sem,q0] <;> with_reducible rfl
 (try simp only[Act.put,jg,jh,ji])
 clear b0 b1 b2 b3 b4 b5
 refine cD (I:=ChkJG w1 M nb ev (fun t6 t7 t14 t17 t18 t19 t20=>⟨#[u0,u1,.pointer (some ⟨g0,0,none⟩),.pointer (some ⟨g1,0,none⟩),u4,u5,t6,t7,u8,u9,sq,sr,su,sw,sx,sy,sA,sB,t14,.agg #[c0,c1,c2,c3,c4],.agg #[.map (some b)],t17,t18,t19,t20,sC,sD,sE,sF,sG,sH,sI,u32,sJ,sK,sL,sM,sN,sO,sP,sQ,sR,sS,sT,sU,sV,sW,sX,sY,sZ,ta,tc,td,te,tf,tg,th,tj,tn,tp,tq,tt,tu,tw,u64,tz,tA,tB,tC,tD,tE,tF,tG,tH,tI],[]⟩)) ?hS ?h0 ?h1 _ _ _ _ ?st
 case hS =>
  rintro n l tL W (⟨hn,rfl,t6,t7,t14,t17,t18,t19,t20,rfl,h⟩|⟨hn,rfl,t6,t7,t14,t17,t18,t19,t20,rfl,h⟩|⟨hn,rfl,t6,t7,t14,t17,t18,t19,t20,rfl,h⟩|⟨hn,rfl,t6,t7,t14,t17,t18,t19,t20,rfl,h⟩|⟨hn,rfl,t6,t7,t14,t17,t18,t19,t20,rfl,h⟩|⟨hn,rfl,t6,t7,t14,t17,t18,t19,t20,rfl,h⟩|⟨hn,rfl,t6,t7,t14,t17,t18,t19,t20,rfl,h⟩|⟨hn,rfl,t6,t7,t14,t17,t18,t19,t20,rfl,h⟩|⟨hn,rfl,t6,t7,t14,t17,t18,t19,t20,rfl,h⟩|⟨hn,rfl,t6,t7,t14,t17,t18,t19,t20,rfl,h⟩|⟨hn,rfl,t6,t7,t14,t17,t18,t19,t20,rfl,h⟩|⟨hn,rfl,t6,t7,t14,t17,t18,t19,t20,rfl,h⟩|⟨hn,rfl,t6,t7,t14,t17,t18,t19,t20,rfl,h⟩|⟨hn,rfl,t6,t7,t14,t17,t18,t19,t20,rfl,h⟩|⟨hn,rfl,t6,t7,t14,t17,t18,t19,t20,rfl,h⟩|⟨hn,rfl,t6,t7,t14,t17,t18,t19,t20,rfl,h⟩|⟨hn,rfl,t6,t7,t14,t17,t18,t19,t20,rfl,h⟩)
  ·exact h.ext
  ·exact h.ext
  ·exact h.ext
  ·exact h.ext
  ·exact h.ext
  ·exact h.ext
  ·exact h.ext
  ·exact h.ext
  ·exact h.ext
  ·exact h.ext
  ·exact h.ext
  ·exact h.ext
  ·exact h.ext
  ·exact h.ext
  ·exact h.ext
  ·exact h.ext
  ·exact h.ext
 case st=>exact .inl ⟨rfl,rfl,x6,x7,tM,tN,tO,tP,tQ,rfl,aW.start⟩
 case h0 =>
  rintro l tL W (⟨hn,rfl,t6,t7,t14,t17,t18,t19,t20,rfl,h⟩|⟨hn,rfl,t6,t7,t14,t17,t18,t19,t20,rfl,h⟩|⟨hn,rfl,t6,t7,t14,t17,t18,t19,t20,rfl,h⟩|⟨hn,rfl,t6,t7,t14,t17,t18,t19,t20,rfl,h⟩|⟨hn,rfl,t6,t7,t14,t17,t18,t19,t20,rfl,h⟩|⟨hn,rfl,t6,t7,t14,t17,t18,t19,t20,rfl,h⟩|⟨hn,rfl,t6,t7,t14,t17,t18,t19,t20,rfl,h⟩|⟨hn,rfl,t6,t7,t14,t17,t18,t19,t20,rfl,h⟩|⟨hn,rfl,t6,t7,t14,t17,t18,t19,t20,rfl,h⟩|⟨hn,rfl,t6,t7,t14,t17,t18,t19,t20,rfl,h⟩|⟨hn,rfl,t6,t7,t14,t17,t18,t19,t20,rfl,h⟩|⟨hn,rfl,t6,t7,t14,t17,t18,t19,t20,rfl,h⟩|⟨hn,rfl,t6,t7,t14,t17,t18,t19,t20,rfl,h⟩|⟨hn,rfl,t6,t7,t14,t17,t18,t19,t20,rfl,h⟩|⟨hn,rfl,t6,t7,t14,t17,t18,t19,t20,rfl,h⟩|⟨hn,rfl,t6,t7,t14,t17,t18,t19,t20,rfl,h⟩|⟨hn,rfl,t6,t7,t14,t17,t18,t19,t20,rfl,h⟩)
  ·exact absurd hn (by omega)
  ·exact absurd hn (by omega)
  ·exact absurd hn (by omega)
  ·exact absurd hn (by omega)
  ·exact absurd hn (by omega)
  ·exact absurd hn (by omega)
  ·exact absurd hn (by omega)
  ·exact absurd hn (by omega)
  ·exact absurd hn (by omega)
  ·exact absurd hn (by omega)
  ·exact absurd hn (by omega)
  ·exact absurd hn (by omega)
  ·exact absurd hn (by omega)
  ·exact absurd hn (by omega)
  ·exact absurd hn (by omega)
  ·exact absurd hn (by omega)
  ·refine⟨by kernel_rfl,?_⟩
   obtain rfl:=h.h9 rfl
   exact HK.out _ _ _ _ _ _ _ h.ext
 case h1 =>
  rintro m l tL W (⟨hn,rfl,t6,t7,t14,t17,t18,t19,t20,rfl,h⟩|⟨hn,rfl,t6,t7,t14,t17,t18,t19,t20,rfl,h⟩|⟨hn,rfl,t6,t7,t14,t17,t18,t19,t20,rfl,h⟩|⟨hn,rfl,t6,t7,t14,t17,t18,t19,t20,rfl,h⟩|⟨hn,rfl,t6,t7,t14,t17,t18,t19,t20,rfl,h⟩|⟨hn,rfl,t6,t7,t14,t17,t18,t19,t20,rfl,h⟩|⟨hn,rfl,t6,t7,t14,t17,t18,t19,t20,rfl,h⟩|⟨hn,rfl,t6,t7,t14,t17,t18,t19,t20,rfl,h⟩|⟨hn,rfl,t6,t7,t14,t17,t18,t19,t20,rfl,h⟩|⟨hn,rfl,t6,t7,t14,t17,t18,t19,t20,rfl,h⟩|⟨hn,rfl,t6,t7,t14,t17,t18,t19,t20,rfl,h⟩|⟨hn,rfl,t6,t7,t14,t17,t18,t19,t20,rfl,h⟩|⟨hn,rfl,t6,t7,t14,t17,t18,t19,t20,rfl,h⟩|⟨hn,rfl,t6,t7,t14,t17,t18,t19,t20,rfl,h⟩|⟨hn,rfl,t6,t7,t14,t17,t18,t19,t20,rfl,h⟩|⟨hn,rfl,t6,t7,t14,t17,t18,t19,t20,rfl,h⟩|⟨hn,rfl,t6,t7,t14,t17,t18,t19,t20,rfl,h⟩)
  ·obtain rfl:m=7:=by omega
   refine ab (rs:=[2,7]) (by kernel_rfl) (by simp) ?_
   refine aa (o:=?a0_2) ?b0_2 (fun K hK=>?c0_2) ?d0_2
   case b0_2=>simp only[jd,jb,jc];rfl
   case c0_2 =>
    go_simp
    go_at_call 23
    have hx:=h.ext
    (with_reducible refine(tK.out _ hx).mono ?_)
    rintro e W2 ⟨v,l,rfl,he,se,si,sj,sp⟩
    obtain⟨S2,c2,hv⟩:=se.sl
    subst hv
    (try simp only[Act.put,jg,jh,ji])
    exact hK.out _ _ (.inr (.inl ⟨rfl,rfl,t6,t7,t14,_,t18,t19,t20,rfl,h.call1 he se ⟨si,sp⟩ sj⟩))
   refine aa (o:=?a0_7) ?b0_7 (fun K hK=>?c0_7) ?d0_7
   case b0_7=>simp only[jd,jb,jc];rfl
   case c0_7 =>
    go_simp
    exact hK.out _ _ (.inr (.inr (.inl ⟨rfl,rfl,_,t7,t14,t17,t18,t19,t20,rfl,h.box⟩)))
   exact ah
  ·obtain rfl:m=6:=by omega
   refine ab (rs:=[3,7]) (by kernel_rfl) (by simp) ?_
   refine aa (o:=?a1_3) ?b1_3 (fun K hK=>?c1_3) ?d1_3
   case b1_3=>simp only[jd,jb,jc];rfl
   case c1_3 =>
    obtain⟨SS,nS,cs,l,G,rfl,si,sj,se⟩:=h.h2 rfl rfl
    have hx:=h.ext
    go_simp
    go_at_call 22
    (with_reducible refine(tJ.out _ _ _ _ _ _ hx si sj se).mono ?_)
    rintro e W2 ⟨he,A,n,c,B,m,d,rfl⟩
    (try simp only[Act.put,jg,jh,ji])
    exact hK.out _ _ (.inr (.inr (.inr (.inl ⟨rfl,rfl,t6,t7,t14,_,_,t19,t20,rfl,h.call2 he⟩))))
   refine aa (o:=?a1_7) ?b1_7 (fun K hK=>?c1_7) ?d1_7
   case b1_7=>simp only[jd,jb,jc];rfl
   case c1_7 =>
    go_simp
    exact hK.out _ _ (.inr (.inr (.inr (.inr (.inl ⟨rfl,rfl,_,t7,t14,t17,t18,t19,t20,rfl,h.box⟩)))))
   exact ah
  ·obtain rfl:m=6:=by omega
   refine ab (rs:=[2]) (by kernel_rfl) (by simp) ?_
   refine aa (o:=?a2_2) ?b2_2 (fun K hK=>?c2_2) ?d2_2
   case b2_2=>simp only[jd,jb,jc];rfl
   case c2_2 =>
    go_simp
    go_at_call 23
    have hx:=h.ext
    (with_reducible refine(tK.out _ hx).mono ?_)
    rintro e W2 ⟨v,l,rfl,he,se,si,sj,sp⟩
    obtain⟨S2,c2,hv⟩:=se.sl
    subst hv
    (try simp only[Act.put,jg,jh,ji])
    exact hK.out _ _ (.inr (.inr (.inr (.inr (.inl ⟨rfl,rfl,t6,t7,t14,_,t18,t19,t20,rfl,h.call1 he se ⟨si,sp⟩ sj⟩)))))
   exact ah
  ·obtain rfl:m=5:=by omega
   refine ab (rs:=[4,7]) (by kernel_rfl) (by simp) ?_
   refine aa (o:=?a3_4) ?b3_4 (fun K hK=>?c3_4) ?d3_4
   case b3_4=>simp only[jd,jb,jc];rfl
   case c3_4 =>
    obtain⟨A,n,c,B,m,d,rfl⟩:=h.h3 rfl
    go_simp
    exact hK.out _ _ (.inr (.inr (.inr (.inr (.inr (.inl ⟨rfl,rfl,t6,t7,_,t17,_,t19,t20,rfl,h.mv⟩))))))
   refine aa (o:=?a3_7) ?b3_7 (fun K hK=>?c3_7) ?d3_7
   case b3_7=>simp only[jd,jb,jc];rfl
   case c3_7 =>
    go_simp
    exact hK.out _ _ (.inr (.inr (.inr (.inr (.inr (.inr (.inl ⟨rfl,rfl,_,t7,t14,t17,t18,t19,t20,rfl,h.box⟩)))))))
   exact ah
  ·obtain rfl:m=5:=by omega
   refine ab (rs:=[3]) (by kernel_rfl) (by simp) ?_
   refine aa (o:=?a4_3) ?b4_3 (fun K hK=>?c4_3) ?d4_3
   case b4_3=>simp only[jd,jb,jc];rfl
   case c4_3 =>
    obtain⟨SS,nS,cs,l,G,rfl,si,sj,se⟩:=h.h2 rfl rfl
    have hx:=h.ext
    go_simp
    go_at_call 22
    (with_reducible refine(tJ.out _ _ _ _ _ _ hx si sj se).mono ?_)
    rintro e W2 ⟨he,A,n,c,B,m,d,rfl⟩
    (try simp only[Act.put,jg,jh,ji])
    exact hK.out _ _ (.inr (.inr (.inr (.inr (.inr (.inr (.inl ⟨rfl,rfl,t6,t7,t14,_,_,t19,t20,rfl,h.call2 he⟩)))))))
   exact ah
  ·obtain rfl:m=4:=by omega
   refine ab (rs:=[5,6,7]) (by kernel_rfl) (by simp) ?_
   refine aa (o:=?a5_5) ?b5_5 (fun K hK=>?c5_5) ?d5_5
   case b5_5=>simp only[jd,jb,jc];rfl
   case c5_5 =>
    obtain⟨A,n,c,B,m,d,rfl⟩:=h.h3 rfl
    obtain rfl:=h.h4 rfl
    go_simp
    exact hK.out _ _ (.inr (.inr (.inr (.inr (.inr (.inr (.inr (.inl ⟨rfl,rfl,t6,t7,_,t17,_,_,t20,rfl,h.ex0⟩))))))))
   refine aa (o:=?a5_6) ?b5_6 (fun K hK=>?c5_6) ?d5_6
   case b5_6=>simp only[jd,jb,jc];rfl
   case c5_6 =>
    obtain⟨A,n,c,B,m,d,rfl⟩:=h.h3 rfl
    obtain rfl:=h.h4 rfl
    go_simp
    exact hK.out _ _ (.inr (.inr (.inr (.inr (.inr (.inr (.inr (.inr (.inl ⟨rfl,rfl,t6,t7,_,t17,_,t19,_,rfl,h.ex1⟩)))))))))
   refine aa (o:=?a5_7) ?b5_7 (fun K hK=>?c5_7) ?d5_7
   case b5_7=>simp only[jd,jb,jc];rfl
   case c5_7 =>
    go_simp
    exact hK.out _ _ (.inr (.inr (.inr (.inr (.inr (.inr (.inr (.inr (.inr (.inl ⟨rfl,rfl,_,t7,t14,t17,t18,t19,t20,rfl,h.box⟩))))))))))
   exact ah
  ·obtain rfl:m=4:=by omega
   refine ab (rs:=[4]) (by kernel_rfl) (by simp) ?_
   refine aa (o:=?a6_4) ?b6_4 (fun K hK=>?c6_4) ?d6_4
   case b6_4=>simp only[jd,jb,jc];rfl
   case c6_4 =>
    obtain⟨A,n,c,B,m,d,rfl⟩:=h.h3 rfl
    go_simp
    exact hK.out _ _ (.inr (.inr (.inr (.inr (.inr (.inr (.inr (.inr (.inr (.inl ⟨rfl,rfl,t6,t7,_,t17,_,t19,t20,rfl,h.mv⟩))))))))))
   exact ah
  ·obtain rfl:m=3:=by omega
   refine ab (rs:=[6,7]) (by kernel_rfl) (by simp) ?_
   refine aa (o:=?a7_6) ?b7_6 (fun K hK=>?c7_6) ?d7_6
   case b7_6=>simp only[jd,jb,jc];rfl
   case c7_6 =>
    obtain⟨A,n,c,B,m,d,rfl⟩:=h.h3 rfl
    obtain rfl:=h.h4 rfl
    go_simp
    exact hK.out _ _ (.inr (.inr (.inr (.inr (.inr (.inr (.inr (.inr (.inr (.inr (.inl ⟨rfl,rfl,t6,t7,_,t17,_,t19,_,rfl,h.ex1⟩)))))))))))
   refine aa (o:=?a7_7) ?b7_7 (fun K hK=>?c7_7) ?d7_7
   case b7_7=>simp only[jd,jb,jc];rfl
   case c7_7 =>
    go_simp
    exact hK.out _ _ (.inr (.inr (.inr (.inr (.inr (.inr (.inr (.inr (.inr (.inr (.inr (.inl ⟨rfl,rfl,_,t7,t14,t17,t18,t19,t20,rfl,h.box⟩))))))))))))
   exact ah
  ·obtain rfl:m=3:=by omega
   refine ab (rs:=[5,7]) (by kernel_rfl) (by simp) ?_
   refine aa (o:=?a8_5) ?b8_5 (fun K hK=>?c8_5) ?d8_5
   case b8_5=>simp only[jd,jb,jc];rfl
   case c8_5 =>
    obtain⟨A,n,c,B,m,d,rfl⟩:=h.h3 rfl
    obtain rfl:=h.h4 rfl
    go_simp
    exact hK.out _ _ (.inr (.inr (.inr (.inr (.inr (.inr (.inr (.inr (.inr (.inr (.inl ⟨rfl,rfl,t6,t7,_,t17,_,_,t20,rfl,h.ex0⟩)))))))))))
   refine aa (o:=?a8_7) ?b8_7 (fun K hK=>?c8_7) ?d8_7
   case b8_7=>simp only[jd,jb,jc];rfl
   case c8_7 =>
    go_simp
    exact hK.out _ _ (.inr (.inr (.inr (.inr (.inr (.inr (.inr (.inr (.inr (.inr (.inr (.inr (.inl ⟨rfl,rfl,_,t7,t14,t17,t18,t19,t20,rfl,h.box⟩)))))))))))))
   exact ah
  ·obtain rfl:m=3:=by omega
   refine ab (rs:=[5,6]) (by kernel_rfl) (by simp) ?_
   refine aa (o:=?a9_5) ?b9_5 (fun K hK=>?c9_5) ?d9_5
   case b9_5=>simp only[jd,jb,jc];rfl
   case c9_5 =>
    obtain⟨A,n,c,B,m,d,rfl⟩:=h.h3 rfl
    obtain rfl:=h.h4 rfl
    go_simp
    exact hK.out _ _ (.inr (.inr (.inr (.inr (.inr (.inr (.inr (.inr (.inr (.inr (.inr (.inl ⟨rfl,rfl,t6,t7,_,t17,_,_,t20,rfl,h.ex0⟩))))))))))))
   refine aa (o:=?a9_6) ?b9_6 (fun K hK=>?c9_6) ?d9_6
   case b9_6=>simp only[jd,jb,jc];rfl
   case c9_6 =>
    obtain⟨A,n,c,B,m,d,rfl⟩:=h.h3 rfl
    obtain rfl:=h.h4 rfl
    go_simp
    exact hK.out _ _ (.inr (.inr (.inr (.inr (.inr (.inr (.inr (.inr (.inr (.inr (.inr (.inr (.inl ⟨rfl,rfl,t6,t7,_,t17,_,t19,_,rfl,h.ex1⟩)))))))))))))
   exact ah
  ·obtain rfl:m=2:=by omega
   refine ab (rs:=[7]) (by kernel_rfl) (by simp) ?_
   refine aa (o:=?a10_7) ?b10_7 (fun K hK=>?c10_7) ?d10_7
   case b10_7=>simp only[jd,jb,jc];rfl
   case c10_7 =>
    go_simp
    exact hK.out _ _ (.inr (.inr (.inr (.inr (.inr (.inr (.inr (.inr (.inr (.inr (.inr (.inr (.inr (.inl ⟨rfl,rfl,_,t7,t14,t17,t18,t19,t20,rfl,h.box⟩))))))))))))))
   exact ah
  ·obtain rfl:m=2:=by omega
   refine ab (rs:=[6,8]) (by kernel_rfl) (by simp) ?_
   refine aa (o:=?a11_6) ?b11_6 (fun K hK=>?c11_6) ?d11_6
   case b11_6=>simp only[jd,jb,jc];rfl
   case c11_6 =>
    obtain⟨A,n,c,B,m,d,rfl⟩:=h.h3 rfl
    obtain rfl:=h.h4 rfl
    go_simp
    exact hK.out _ _ (.inr (.inr (.inr (.inr (.inr (.inr (.inr (.inr (.inr (.inr (.inr (.inr (.inr (.inl ⟨rfl,rfl,t6,t7,_,t17,_,t19,_,rfl,h.ex1⟩))))))))))))))
   refine aa (o:=?a11_8) ?b11_8 (fun K hK=>?c11_8) ?d11_8
   case b11_8=>simp only[jd,jb,jc];rfl
   case c11_8 =>
    obtain⟨A,n,c,B,m,d,rfl⟩:=h.h5 rfl
    obtain⟨g,x,y,rfl,hg,hb⟩:=h.h7 rfl rfl
    have k0:=hb.c0;have k1:=hb.c1;have k2:=hb.free 0;have k3:=hb.free 1
    have h9:=(h.store hg (.slice A n c) (.slice B m d))
    clear hb h
    go_simp
    exact hK.out _ _ (.inr (.inr (.inr (.inr (.inr (.inr (.inr (.inr (.inr (.inr (.inr (.inr (.inr (.inr (.inl ⟨rfl,rfl,_,t7,t14,t17,t18,_,t20,rfl,h9⟩)))))))))))))))
   exact ah
  ·obtain rfl:m=2:=by omega
   refine ab (rs:=[5]) (by kernel_rfl) (by simp) ?_
   refine aa (o:=?a12_5) ?b12_5 (fun K hK=>?c12_5) ?d12_5
   case b12_5=>simp only[jd,jb,jc];rfl
   case c12_5 =>
    obtain⟨A,n,c,B,m,d,rfl⟩:=h.h3 rfl
    obtain rfl:=h.h4 rfl
    go_simp
    exact hK.out _ _ (.inr (.inr (.inr (.inr (.inr (.inr (.inr (.inr (.inr (.inr (.inr (.inr (.inr (.inl ⟨rfl,rfl,t6,t7,_,t17,_,_,t20,rfl,h.ex0⟩))))))))))))))
   exact ah
  ·obtain rfl:m=1:=by omega
   refine ab (rs:=[8]) (by kernel_rfl) (by simp) ?_
   refine aa (o:=?a13_8) ?b13_8 (fun K hK=>?c13_8) ?d13_8
   case b13_8=>simp only[jd,jb,jc];rfl
   case c13_8 =>
    obtain⟨A,n,c,B,m,d,rfl⟩:=h.h5 rfl
    obtain⟨g,x,y,rfl,hg,hb⟩:=h.h7 rfl rfl
    have k0:=hb.c0;have k1:=hb.c1;have k2:=hb.free 0;have k3:=hb.free 1
    have h9:=(h.store hg (.slice A n c) (.slice B m d))
    clear hb h
    go_simp
    exact hK.out _ _ (.inr (.inr (.inr (.inr (.inr (.inr (.inr (.inr (.inr (.inr (.inr (.inr (.inr (.inr (.inr (.inl ⟨rfl,rfl,_,t7,t14,t17,t18,_,t20,rfl,h9⟩))))))))))))))))
   exact ah
  ·obtain rfl:m=1:=by omega
   refine ab (rs:=[6]) (by kernel_rfl) (by simp) ?_
   refine aa (o:=?a14_6) ?b14_6 (fun K hK=>?c14_6) ?d14_6
   case b14_6=>simp only[jd,jb,jc];rfl
   case c14_6 =>
    obtain⟨A,n,c,B,m,d,rfl⟩:=h.h3 rfl
    obtain rfl:=h.h4 rfl
    go_simp
    exact hK.out _ _ (.inr (.inr (.inr (.inr (.inr (.inr (.inr (.inr (.inr (.inr (.inr (.inr (.inr (.inr (.inr (.inl ⟨rfl,rfl,t6,t7,_,t17,_,t19,_,rfl,h.ex1⟩))))))))))))))))
   exact ah
  ·obtain rfl:m=0:=by omega
   refine ab (rs:=[9]) (by kernel_rfl) (by simp) ?_
   refine aa (o:=?a15_9) ?b15_9 (fun K hK=>?c15_9) ?d15_9
   case b15_9=>simp only[jd,jb,jc];rfl
   case c15_9 =>
    obtain rfl:=h.h6 rfl
    go_simp
    exact hK.out _ _ (.inr (.inr (.inr (.inr (.inr (.inr (.inr (.inr (.inr (.inr (.inr (.inr (.inr (.inr (.inr (.inr (⟨rfl,rfl,t6,_,t14,t17,t18,t19,_,rfl,h.asg⟩)))))))))))))))))
   exact ah
  ·exact absurd hn (by omega)
noncomputable def srtRgG:Code:=((Tryz.f21.body.bind (aK 15)).getD .skip)
def SrtJG(w1:World)(hd:List ByteArray)(od:List Ky)(c0 c1 c2 c3 c4 v:Value)(P:World→Prop)(F:Value→Value→Value→Value→ Act)(n:Nat)(l:Array Bool)(act:Act)(W:World):Prop :=
 (n=4∧l=#[false,false,false,false]∧∃t48 t49 t50 t51,act=F t48 t49 t50 t51∧dv w1 hd od (.agg #[c0,c1,c2,c3,c4]) v P false false false false t48 t49 t50 t51 W)∨(n=3∧l=#[true,false,false,false]∧∃t48 t49 t50 t51,act=F t48 t49 t50 t51∧dv w1 hd od (.agg #[c0,c1,c2,c3,c4]) v P true false false false t48 t49 t50 t51 W)∨(n=3∧l=#[false,true,false,false]∧∃t48 t49 t50 t51,act=F t48 t49 t50 t51∧dv w1 hd od (.agg #[c0,c1,c2,c3,c4]) v P false true false false t48 t49 t50 t51 W)∨(n=2∧l=#[true,true,false,false]∧∃t48 t49 t50 t51,act=F t48 t49 t50 t51∧dv w1 hd od (.agg #[c0,c1,c2,c3,c4]) v P true true false false t48 t49 t50 t51 W)∨(n=2∧l=#[false,true,true,false]∧∃t48 t49 t50 t51,act=F t48 t49 t50 t51∧dv w1 hd od (.agg #[c0,c1,c2,c3,c4]) v P false true true false t48 t49 t50 t51 W)∨(n=1∧l=#[true,true,true,false]∧∃t48 t49 t50 t51,act=F t48 t49 t50 t51∧dv w1 hd od (.agg #[c0,c1,c2,c3,c4]) v P true true true false t48 t49 t50 t51 W)∨(n=0∧l=#[true,true,true,true]∧∃t48 t49 t50 t51,act=F t48 t49 t50 t51∧dv w1 hd od (.agg #[c0,c1,c2,c3,c4]) v P true true true true t48 t49 t50 t51 W)
theorem srt_regG{K:Act→World→Prop}{Q:Exit→Act→World→Prop}{w1:World}{hd:List ByteArray}{od:List Ky}{P:World→Prop}{g0 g1:Nat}{c0 c1 c2 c3 c4 v u0 u1 u3 u4 u5 u6 u7 u8 u9 se sg sh si sj sp sq sr su sw sx sy sA sB sC sD sE sF sG sH sI u32 sJ sK sL sM sN sO sP sQ sR sS sT sU sV sW sX sY sZ ta tc td te tf tg th tj tn tp u64 tq tt tu tw tz tA tB tC tD tE tI tJ tK tL:Value}(B0:w1.cell? ⟨g0,0,none⟩=some c0)(B1:w1.cell? ⟨g0,1,none⟩=some c1)(B2:w1.cell? ⟨g0,2,none⟩=some c2)(B3:w1.cell? ⟨g0,3,none⟩=some c3)(B4:w1.cell? ⟨g0,4,none⟩=some c4)(B5:w1.cell? ⟨g1,0,none⟩=some v)(tN:v.oneCell'=true)(tF:Hid (∀V,Ext w1 V→Calls Tryz.prog 54 #[.agg #[c0,c1,c2,c3,c4]] V (dm hd od V)))(tM:Hid (∀V W vf,Ext w1 V→dm hd od V (.returned vf) W→Calls Tryz.prog 53 #[v,vf] W (fun e w'=>e=.returned (.tuple #[])∧P w')))(hK:∀t48 t49 t50 t51 W,P W→K ⟨#[u0,u1,.pointer (some ⟨g0,0,none⟩),u3,u4,u5,u6,u7,u8,u9,se,sg,sh,.pointer (some ⟨g1,0,none⟩),si,sj,sp,sq,sr,su,sw,sx,sy,sA,sB,sC,sD,sE,sF,sG,sH,sI,u32,sJ,sK,sL,sM,sN,sO,sP,sQ,sR,sS,sT,sU,sV,sW,sX,sY,sZ,ta,tc,td,t48,t49,t50,t51,te,tf,tg,th,tj,tn,tp,u64,tq,tt,tu,tw,tz,tA,tB,tC,tD,tE],[]⟩ W) :
  Code.wp Tryz.prog srtRgG (Exit.then K Q) ⟨#[u0,u1,.pointer (some ⟨g0,0,none⟩),u3,u4,u5,u6,u7,u8,u9,se,sg,sh,.pointer (some ⟨g1,0,none⟩),si,sj,sp,sq,sr,su,sw,sx,sy,sA,sB,sC,sD,sE,sF,sG,sH,sI,u32,sJ,sK,sL,sM,sN,sO,sP,sQ,sR,sS,sT,sU,sV,sW,sX,sY,sZ,ta,tc,td,tI,tJ,tK,tL,te,tf,tg,th,tj,tn,tp,u64,tq,tt,tu,tw,tz,tA,tB,tC,tD,tE],[]⟩ w1:=by
 have HK:=zN hK
 clear hK
 conv=>arg 2;whnf
 refine cR ?_
 refine wp_region_held_drew (S:=fun _=>True) (by kernel_rfl) trivial (fun tH=>?_)
 refine cD (I:=SrtJG w1 hd od c0 c1 c2 c3 c4 v P (fun t48 t49 t50 t51=>⟨#[u0,u1,.pointer (some ⟨g0,0,none⟩),u3,u4,u5,u6,u7,u8,u9,se,sg,sh,.pointer (some ⟨g1,0,none⟩),si,sj,sp,sq,sr,su,sw,sx,sy,sA,sB,sC,sD,sE,sF,sG,sH,sI,u32,sJ,sK,sL,sM,sN,sO,sP,sQ,sR,sS,sT,sU,sV,sW,sX,sY,sZ,ta,tc,td,t48,t49,t50,t51,te,tf,tg,th,tj,tn,tp,u64,tq,tt,tu,tw,tz,tA,tB,tC,tD,tE],[]⟩)) ?hS ?h0 ?h1 _ _ _ _ ?st
 case hS =>
  rintro n l tG W (⟨hn,rfl,t48,t49,t50,t51,rfl,h⟩|⟨hn,rfl,t48,t49,t50,t51,rfl,h⟩|⟨hn,rfl,t48,t49,t50,t51,rfl,h⟩|⟨hn,rfl,t48,t49,t50,t51,rfl,h⟩|⟨hn,rfl,t48,t49,t50,t51,rfl,h⟩|⟨hn,rfl,t48,t49,t50,t51,rfl,h⟩|⟨hn,rfl,t48,t49,t50,t51,rfl,h⟩)
  all_goals trivial
 case st=>exact .inl ⟨rfl,rfl,tI,tJ,tK,tL,rfl,dv.start⟩
 case h0 =>
  rintro l tG W (⟨hn,rfl,t48,t49,t50,t51,rfl,h⟩|⟨hn,rfl,t48,t49,t50,t51,rfl,h⟩|⟨hn,rfl,t48,t49,t50,t51,rfl,h⟩|⟨hn,rfl,t48,t49,t50,t51,rfl,h⟩|⟨hn,rfl,t48,t49,t50,t51,rfl,h⟩|⟨hn,rfl,t48,t49,t50,t51,rfl,h⟩|⟨hn,rfl,t48,t49,t50,t51,rfl,h⟩)
  ·exact absurd hn (by omega)
  ·exact absurd hn (by omega)
  ·exact absurd hn (by omega)
  ·exact absurd hn (by omega)
  ·exact absurd hn (by omega)
  ·exact absurd hn (by omega)
  ·refine⟨by kernel_rfl,?_⟩
   exact HK.out _ _ _ _ _ (h.h3 rfl)
 case h1 =>
  rintro m l tG W (⟨hn,rfl,t48,t49,t50,t51,rfl,h⟩|⟨hn,rfl,t48,t49,t50,t51,rfl,h⟩|⟨hn,rfl,t48,t49,t50,t51,rfl,h⟩|⟨hn,rfl,t48,t49,t50,t51,rfl,h⟩|⟨hn,rfl,t48,t49,t50,t51,rfl,h⟩|⟨hn,rfl,t48,t49,t50,t51,rfl,h⟩|⟨hn,rfl,t48,t49,t50,t51,rfl,h⟩)
  ·obtain rfl:m=3:=by omega
   refine ab (rs:=[0,1]) (by kernel_rfl) (by simp) ?_
   refine aa (o:=?a0_0) ?b0_0 (fun K hK=>?c0_0) ?d0_0
   case b0_0=>simp only[jd,jb,jc];rfl
   case c0_0 =>
    have k0:=(h.ext rfl).cell B5
    go_simp
    exact hK.out _ _ (.inr (.inl ⟨rfl,rfl,_,t49,t50,t51,rfl,h.ld1⟩))
   refine aa (o:=?a0_1) ?b0_1 (fun K hK=>?c0_1) ?d0_1
   case b0_1=>simp only[jd,jb,jc];rfl
   case c0_1 =>
    have k0:=(h.ext rfl).cell B0;have k1:=(h.ext rfl).cell B1;have k2:=(h.ext rfl).cell B2;have k3:=(h.ext rfl).cell B3;have k4:=(h.ext rfl).cell B4
    go_simp
    exact hK.out _ _ (.inr (.inr (.inl ⟨rfl,rfl,t48,_,t50,t51,rfl,h.ld2⟩)))
   exact ah
  ·obtain rfl:m=2:=by omega
   refine ab (rs:=[1]) (by kernel_rfl) (by simp) ?_
   refine aa (o:=?a1_1) ?b1_1 (fun K hK=>?c1_1) ?d1_1
   case b1_1=>simp only[jd,jb,jc];rfl
   case c1_1 =>
    have k0:=(h.ext rfl).cell B0;have k1:=(h.ext rfl).cell B1;have k2:=(h.ext rfl).cell B2;have k3:=(h.ext rfl).cell B3;have k4:=(h.ext rfl).cell B4
    go_simp
    exact hK.out _ _ (.inr (.inr (.inr (.inl ⟨rfl,rfl,t48,_,t50,t51,rfl,h.ld2⟩))))
   exact ah
  ·obtain rfl:m=2:=by omega
   refine ab (rs:=[0,2]) (by kernel_rfl) (by simp) ?_
   refine aa (o:=?a2_0) ?b2_0 (fun K hK=>?c2_0) ?d2_0
   case b2_0=>simp only[jd,jb,jc];rfl
   case c2_0 =>
    have k0:=(h.ext rfl).cell B5
    go_simp
    exact hK.out _ _ (.inr (.inr (.inr (.inl ⟨rfl,rfl,_,t49,t50,t51,rfl,h.ld1⟩))))
   refine aa (o:=?a2_2) ?b2_2 (fun K hK=>?c2_2) ?d2_2
   case b2_2=>simp only[jd,jb,jc];rfl
   case c2_2 =>
    obtain rfl:=h.h1 rfl
    have hx:=h.ext rfl
    go_simp
    go_at_call 54
    (with_reducible refine(tF.out _ hx).mono ?_)
    rintro e W2 hp
    obtain⟨vf,rfl⟩:∃vf,e=.returned vf:=(by obtain⟨-,gC,gK,C,D,c3,c4,e9,-⟩:=hp;exact⟨_,e9⟩)
    (try simp only[Act.put,jg,jh,ji])
    exact hK.out _ _ (.inr (.inr (.inr (.inr (.inl ⟨rfl,rfl,t48,_,_,t51,rfl,h.call1 hp⟩)))))
   exact ah
  ·obtain rfl:m=1:=by omega
   refine ab (rs:=[2]) (by kernel_rfl) (by simp) ?_
   refine aa (o:=?a3_2) ?b3_2 (fun K hK=>?c3_2) ?d3_2
   case b3_2=>simp only[jd,jb,jc];rfl
   case c3_2 =>
    obtain rfl:=h.h1 rfl
    have hx:=h.ext rfl
    go_simp
    go_at_call 54
    (with_reducible refine(tF.out _ hx).mono ?_)
    rintro e W2 hp
    obtain⟨vf,rfl⟩:∃vf,e=.returned vf:=(by obtain⟨-,gC,gK,C,D,c3,c4,e9,-⟩:=hp;exact⟨_,e9⟩)
    (try simp only[Act.put,jg,jh,ji])
    exact hK.out _ _ (.inr (.inr (.inr (.inr (.inr (.inl ⟨rfl,rfl,t48,_,_,t51,rfl,h.call1 hp⟩))))))
   exact ah
  ·obtain rfl:m=1:=by omega
   refine ab (rs:=[0]) (by kernel_rfl) (by simp) ?_
   refine aa (o:=?a4_0) ?b4_0 (fun K hK=>?c4_0) ?d4_0
   case b4_0=>simp only[jd,jb,jc];rfl
   case c4_0 =>
    have k0:=(h.ext rfl).cell B5
    go_simp
    exact hK.out _ _ (.inr (.inr (.inr (.inr (.inr (.inl ⟨rfl,rfl,_,t49,t50,t51,rfl,h.ld1⟩))))))
   exact ah
  ·obtain rfl:m=0:=by omega
   refine ab (rs:=[3]) (by kernel_rfl) (by simp) ?_
   refine aa (o:=?a5_3) ?b5_3 (fun K hK=>?c5_3) ?d5_3
   case b5_3=>simp only[jd,jb,jc];rfl
   case c5_3 =>
    obtain rfl:=h.h0 rfl
    obtain⟨V,hx,hp⟩:=h.h2 rfl
    replace hp:=hp rfl
    go_simp
    go_at_call 53
    (with_reducible refine(tM.out _ _ _ hx hp).mono ?_)
    rintro e W2 ⟨rfl,hq⟩
    (try simp only[Act.put,jg,jh,ji])
    exact hK.out _ _ (.inr (.inr (.inr (.inr (.inr (.inr (⟨rfl,rfl,_,t49,t50,_,rfl,h.call2 hq⟩)))))))
   exact ah
  ·exact absurd hn (by omega)
noncomputable def ggrRg:Code:=((Tryz.f21.body.bind (aK 20)).getD .skip)
inductive kA(w1:World)(base n c0:Nat)(A0:Option Addr)(us:List Value)(uu:Value)(ks:ByteArray)(gt k:Nat)(Fz:Value→Value→Value→Value→Value→Value→ Act):Nat→Array Bool→Act→World→Prop
 | s0 {t15 t66 t67 t70 t71 t72:Value} {gn:Nat} {W:World} (h:GgI w1 base n c0 A0 us uu ks gt k false false false false false false t15 t66 t67 t70 t71 t72 gn W):kA w1 base n c0 A0 us uu ks gt k Fz 6 #[true,true,true,false,false,true,true,false,false,false,false] (Fz t15 t66 t67 t70 t71 t72) W
 | s1 {t15 t66 t67 t70 t71 t72:Value} {gn:Nat} {W:World} (h:GgI w1 base n c0 A0 us uu ks gt k true false false false false false t15 t66 t67 t70 t71 t72 gn W):kA w1 base n c0 A0 us uu ks gt k Fz 5 #[true,true,true,true,false,true,true,false,false,false,false] (Fz t15 t66 t67 t70 t71 t72) W
 | s2 {t15 t66 t67 t70 t71 t72:Value} {gn:Nat} {W:World} (h:GgI w1 base n c0 A0 us uu ks gt k true true false false false false t15 t66 t67 t70 t71 t72 gn W):kA w1 base n c0 A0 us uu ks gt k Fz 4 #[true,true,true,true,true,true,true,false,false,false,false] (Fz t15 t66 t67 t70 t71 t72) W
 | s3 {t15 t66 t67 t70 t71 t72:Value} {gn:Nat} {W:World} (h:GgI w1 base n c0 A0 us uu ks gt k true true true false false false t15 t66 t67 t70 t71 t72 gn W):kA w1 base n c0 A0 us uu ks gt k Fz 3 #[true,true,true,true,true,true,true,true,false,false,false] (Fz t15 t66 t67 t70 t71 t72) W
 | s4 {t15 t66 t67 t70 t71 t72:Value} {gn:Nat} {W:World} (h:GgI w1 base n c0 A0 us uu ks gt k true true true true false false t15 t66 t67 t70 t71 t72 gn W):kA w1 base n c0 A0 us uu ks gt k Fz 2 #[true,true,true,true,true,true,true,true,true,false,false] (Fz t15 t66 t67 t70 t71 t72) W
 | s5 {t15 t66 t67 t70 t71 t72:Value} {gn:Nat} {W:World} (h:GgI w1 base n c0 A0 us uu ks gt k true true true true true false t15 t66 t67 t70 t71 t72 gn W):kA w1 base n c0 A0 us uu ks gt k Fz 1 #[true,true,true,true,true,true,true,true,true,true,false] (Fz t15 t66 t67 t70 t71 t72) W
 | s6 {t15 t66 t67 t70 t71 t72:Value} {gn:Nat} {W:World} (h:GgI w1 base n c0 A0 us uu ks gt k true true true true true true t15 t66 t67 t70 t71 t72 gn W):kA w1 base n c0 A0 us uu ks gt k Fz 0 #[true,true,true,true,true,true,true,true,true,true,true] (Fz t15 t66 t67 t70 t71 t72) W
theorem ggr_reg{K:Act→World→Prop}{Q:Exit→Act→World→Prop}{w1:World}{gq gs bm gt n c0 p1 c1 base N k:Nat}{A0 B1:Option Addr}{f:ByteArray→Option Value}{ks:ByteArray}{us:List Value}{uu:Value}{u0 u1 u3 u4 u5 u6 u7 u8 u9 si sj sp sq sr su sw sx sy sA sB sC sD sE sF sG sH sI sJ u32 sK sL sM sN sO sP sQ sR sS sT sU sV sW sX sY sZ ta tc td te tf tg th tj tn tp tq tt tu tw tz tA tR tS tT tU tW z63 z64 tX tY tZ:Value}(b0:w1.cell? ⟨gs,0,none⟩=some (.map (some bm)))(b1:w1.cell? ⟨gq,1,none⟩=some (.int .i64 1))(n1:¬(Value.slice A0 n c0).ownBlock=some gs)(n2:¬(Value.slice A0 n c0).ownBlock=some gq)(hm:aI w1 bm N f)(tO:ks.size≤maxLen)(hf:f ks=some (.pointer (some ⟨gt,0,none⟩)))(hu:uu.oneCell'=true)(hO:w1.ownsRow base 80 8 (.slice A0 n c0) n us)(tC:base≤w1.heap.size)(hn:n≤1000000)(tJ:Hid (∀V,Ext w1 V→Calls Tryz.prog 52 #[.slice B1 p1 c1] V (fun e W=>Ext V W∧e=.returned (.string ks))))(tI:Hid (∀V,Ext w1 V→Calls Tryz.prog 62 #[.pointer (some ⟨gt,0,none⟩),.int .i64 1] V (fun e W=>∃gn,e=.returned (.agg (grC uu gn).toArray)∧Bk W gn 165 (n32 k)∧V.heap.size≤gn∧Ext V W)))(hK:∀A9 c9 gn t66 t67 t70 t71 t72 W,GgPost w1 base n c0 A0 us uu k gn A9 c9 W→K ⟨#[u0,u1,.pointer (some ⟨gq,0,none⟩),u3,u4,u5,u6,u7,u8,u9,si,sj,.pointer (some ⟨gs,0,none⟩),sp,sq,.slice A9 (n+1) c9,sr,.slice B1 p1 c1,su,sw,sx,sy,sA,sB,sC,sD,sE,sF,sG,sH,sI,sJ,u32,sK,sL,sM,sN,sO,sP,sQ,sR,sS,sT,sU,sV,sW,sX,sY,sZ,ta,tc,td,te,tf,tg,th,tj,tn,tp,tq,tt,tu,tw,.slice A0 n c0,.map (some bm),.slice B1 p1 c1,t66,t67,.pointer (some ⟨gq,1,none⟩),.int .i64 1,t70,t71,t72,tz,tA],[]⟩ W) :
  Code.wp Tryz.prog ggrRg (Exit.then K Q) ⟨#[u0,u1,.pointer (some ⟨gq,0,none⟩),u3,u4,u5,u6,u7,u8,u9,si,sj,.pointer (some ⟨gs,0,none⟩),sp,sq,.slice A0 n c0,sr,.slice B1 p1 c1,su,sw,sx,sy,sA,sB,sC,sD,sE,sF,sG,sH,sI,sJ,u32,sK,sL,sM,sN,sO,sP,sQ,sR,sS,sT,sU,sV,sW,sX,sY,sZ,ta,tc,td,te,tf,tg,th,tj,tn,tp,tq,tt,tu,tw,z63,z64,tX,tR,tS,tY,tZ,tT,tU,tW,tz,tA],[]⟩ w1:=by
 have HK:=zN hK
 have HO:=zN hO;have HM:=zN hm;have HF:=zN hf;have HU:=zN hu
 obtain⟨j0,tD,tF,tG,tH⟩:=info_parts info_gr
 have sh:=zN (And.intro tD (And.intro tF (And.intro tG tH)))
 clear hK hO hm hf hu tD tF tG tH
 conv=>arg 2;whnf
 refine cR ?_
 refine wp_region_held_drew (S:=fun V=>Fr (fun q=>(Value.slice A0 n c0).ownBlock=some q) w1 V) (by kernel_rfl) (Fr.refl _ w1).drew (fun se=>?_)
 refine wpAnyH_take (i:=0) (oi:=?ox0) (v:=.slice A0 n c0) ?hx0 (by kernel_rfl) (by kernel_rfl) (by kernel_rfl) (fun _ _ _ h=>h) (Or.inl ⟨?wx0,?yx0⟩) se ?rx0
 case hx0=>simp only[jd,jb,jc];rfl
 case wx0=>rfl
 case yx0 =>
  intro V sg

  simp[go_sem] <;> with_reducible rfl
 (try simp only[Act.put,jg,jh,ji])
 refine wpAnyH_take (i:=1) (oi:=?ox1) (v:=.map (some bm)) ?hx1 (by kernel_rfl) (by kernel_rfl) (by kernel_rfl) (fun _ _ _ h=>h) (Or.inl ⟨?wx1,?yx1⟩) se ?rx1
 case hx1=>simp only[jd,jb,jc];rfl
 case wx1=>rfl
 case yx1 =>
  intro V sg
  have q0:=Fr.cell sg b0 n1
  simp[go_sem,q0] <;> with_reducible rfl
 (try simp only[Act.put,jg,jh,ji])
 refine wpAnyH_take (i:=2) (oi:=?ox2) (v:=.slice B1 p1 c1) ?hx2 (by kernel_rfl) (by kernel_rfl) (by kernel_rfl) (fun _ _ _ h=>h) (Or.inl ⟨?wx2,?yx2⟩) se ?rx2
 case hx2=>simp only[jd,jb,jc];rfl
 case wx2=>rfl
 case yx2 =>
  intro V sg

  simp[go_sem] <;> with_reducible rfl
 (try simp only[Act.put,jg,jh,ji])
 refine wpAnyH_take (i:=5) (oi:=?ox5) (v:=.pointer (some ⟨gq,1,none⟩)) ?hx5 (by kernel_rfl) (by kernel_rfl) (by kernel_rfl) (fun _ _ _ h=>h) (Or.inl ⟨?wx5,?yx5⟩) se ?rx5
 case hx5=>simp only[jd,jb,jc];rfl
 case wx5=>rfl
 case yx5 =>
  intro V sg

  simp[go_sem] <;> with_reducible rfl
 (try simp only[Act.put,jg,jh,ji])
 refine wpAnyH_take (i:=6) (oi:=?ox6) (v:=.int .i64 1) ?hx6 (by kernel_rfl) (by kernel_rfl) (by kernel_rfl) (fun _ _ _ h=>h) (Or.inl ⟨?wx6,?yx6⟩) se ?rx6
 case hx6=>simp only[jd,jb,jc];rfl
 case wx6=>rfl
 case yx6 =>
  intro V sg
  have q0:=Fr.cell sg b1 n2
  simp[go_sem,q0] <;> with_reducible rfl
 (try simp only[Act.put,jg,jh,ji])
 clear b0 b1
 refine cD (I:=kA w1 base n c0 A0 us uu ks gt k (fun t15 t66 t67 t70 t71 t72=>⟨#[u0,u1,.pointer (some ⟨gq,0,none⟩),u3,u4,u5,u6,u7,u8,u9,si,sj,.pointer (some ⟨gs,0,none⟩),sp,sq,t15,sr,.slice B1 p1 c1,su,sw,sx,sy,sA,sB,sC,sD,sE,sF,sG,sH,sI,sJ,u32,sK,sL,sM,sN,sO,sP,sQ,sR,sS,sT,sU,sV,sW,sX,sY,sZ,ta,tc,td,te,tf,tg,th,tj,tn,tp,tq,tt,tu,tw,.slice A0 n c0,.map (some bm),.slice B1 p1 c1,t66,t67,.pointer (some ⟨gq,1,none⟩),.int .i64 1,t70,t71,t72,tz,tA],[]⟩)) ?hS ?h0 ?h1 _ _ _ _ ?st
 case hS =>
  intro n l tB W hI
  cases hI with
  | s0 h=>exact h.fr
  | s1 h=>exact h.fr
  | s2 h=>exact h.fr
  | s3 h=>exact h.fr
  | s4 h=>exact h.fr
  | s5 h=>exact h.fr
  | s6 h=>exact h.fr
 case st=>exact kA.s0 (GgI.start (gn:=0))
 case h0 =>
  intro l tB W hI
  cases hI with
  | s6 h =>
   refine⟨by kernel_rfl,?_⟩
   obtain⟨A9,c9,tL,hp⟩:=h.h72 rfl
   have tK:=h.h15 rfl
   subst tL
   subst tK
   exact HK.out _ _ _ _ _ _ _ _ _ hp
 case h1 =>
  intro m l tB W hI
  cases hI with
  | s0 h =>
   refine ab (rs:=[3]) (by kernel_rfl) (by simp) ?_
   refine aa (o:=?a0_3) ?b0_3 (fun K hK=>?c0_3) ?d0_3
   case b0_3=>simp only[jd,jb,jc];rfl
   case c0_3 =>
    have hx:=h.ext rfl
    go_simp
    go_at_call 52
    (with_reducible refine(tJ.out _ hx).mono ?_)
    rintro e W2 ⟨he,rfl⟩
    (try simp only[Act.put,jg,jh,ji])
    exact hK.out _ _ (kA.s1 (h.key he))
   exact ah
  | s1 h =>
   refine ab (rs:=[4]) (by kernel_rfl) (by simp) ?_
   refine aa (o:=?a1_4) ?b1_4 (fun K hK=>?c1_4) ?d1_4
   case b1_4=>simp only[jd,jb,jc];rfl
   case c1_4 =>
    obtain rfl:=h.h66 rfl
    have ua:=(HM.out.ext (h.ext rfl)).look Tryz.underlying135 (oo W) tO (u:=.pointer (some ⟨gt,0,none⟩)) (by rw[HF.out];rfl)
    go_simp
    exact hK.out _ _ (kA.s2 (h.look))
   exact ah
  | s2 h =>
   refine ab (rs:=[7]) (by kernel_rfl) (by simp) ?_
   refine aa (o:=?a2_7) ?b2_7 (fun K hK=>?c2_7) ?d2_7
   case b2_7=>simp only[jd,jb,jc];rfl
   case c2_7 =>
    obtain rfl:=h.h67 rfl
    have hx:=h.ext rfl
    go_simp
    go_at_call 62
    (with_reducible refine(tI.out _ hx).mono ?_)
    rintro e W2 ⟨gn,rfl,hb,hg,he⟩
    (try simp only[Act.put,jg,jh,ji])
    exact hK.out _ _ (kA.s3 (h.grp hb hg he))
   exact ah
  | s3 h =>
   refine ab (rs:=[8]) (by kernel_rfl) (by simp) ?_
   refine aa (o:=?a3_8) ?b3_8 (fun K hK=>?c3_8) ?d3_8
   case b3_8=>simp only[jd,jb,jc];rfl
   case c3_8 =>
    obtain⟨rfl,-⟩:=h.h70 rfl
    have h9:=h.bld
    simp only[grC]at h9 ⊢
    go_simp
    exact hK.out _ _ (kA.s4 (h9))
   exact ah
  | s4 h =>
   refine ab (rs:=[9]) (by kernel_rfl) (by simp) ?_
   refine aa (o:=?a4_9) ?b4_9 (fun K hK=>?c4_9) ?d4_9
   case b4_9=>simp only[jd,jb,jc];rfl
   case c4_9 =>
    obtain⟨V,gm,tM,hx,rfl,rfl,hb⟩:=h.h71 rfl rfl
    subst tM
    have HH:=zN h
    clear h
    have ub:=hx.size
    have tQ:=aD HO.out (hx.alloc (.cells (grC uu gm).toArray 80))
    refine bO (by rfl) _ _ _ (by rfl) base 80 j0 (.agg #[.slice none 0 0,.slice none 0 0,.bool false,.slice none 0 0,.slice none 0 0,.int .i64 0,.int .i64 0,.string ⟨#[]⟩]) 8 136 Tryz.underlying60 sh.out.1 sh.out.2.1 sh.out.2.2.1 sh.out.2.2.2 rfl (by omega) (.slice A0 n c0) n us (by rfl) tQ ⟨V.heap.size,0,none⟩ 1 1 (grC uu gm) (by rfl) (by rfl) (aE V _ _) (grC_one HU.out gm) (by simp only[maxLen];omega) (by omega) (by simp;omega) ?_
    intro v9 W9 tE tN tP
    obtain⟨A9,c9,rfl⟩:=af tE
    (try simp only[Act.put,jg,jh,ji])
    exact hK.out _ _ (kA.s5 (HH.out.app hx hb tE tN tP))
   exact ah
  | s5 h =>
   refine ab (rs:=[10]) (by kernel_rfl) (by simp) ?_
   refine aa (o:=?a5_10) ?b5_10 (fun K hK=>?c5_10) ?d5_10
   case b5_10=>simp only[jd,jb,jc];rfl
   case c5_10 =>
    go_simp
    exact hK.out _ _ (kA.s6 (h.asg))
   exact ah
