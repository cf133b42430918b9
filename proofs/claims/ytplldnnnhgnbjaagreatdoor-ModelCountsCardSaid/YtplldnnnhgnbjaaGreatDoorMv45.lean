/- packed -/
import Derived.Test.YtplldnnnhgnbjaaGreatDoorMv44
set_option maxRecDepth 20000
set_option maxHeartbeats 6400000
namespace Go.Proofs.YtplldnnnhgnbjaaGreatDoor
open Go.RowKit Go.Maps
theorem fP.fr{M:Dm}{nb:Nat}{w V V':World}{v:Value}{S:Nat→Prop}(h:fP M nb w v V)(hf:Fr S V V')(hs:∀k,w.heap.size≤k→¬S k):fP M nb w v V' :=
 let ⟨A,c,l,e,h1,h2,h3⟩:=h;⟨A,c,l,e,h1,h2,h3.fr hf hs⟩
def ip(M:Dm)(u:Up):Dm:=match i7 M u with
 | .ok p=>p.1
 | .error _=>M
def madeD(ss:List Sc)(us:List Up):Dm:=us.foldl ip (dmL ss)
def oD(ss:List Sc)(us:List Up)(w w':World)(mb:Option Nat)(v:Value):Prop :=
 ∃(b n:Nat) (M:Dm) (W:World) (F:Nat→Prop),mb=some b∧n≤50∧DbB (fun k=>F k∧w.heap.size≤k) w' b n M∧DbI (fk ss) 40 M∧M=madeD ss us∧Ext w W∧fP M n W v w'
def fO(ss:List Sc)(us:List Up)(w:World)(e:Ending)(w':World):Prop :=
 Ext w w'∧∃(mb:Option Nat) (A:Option Addr) (n c:Nat) (z:Bool),e=.returned (.tuple #[.agg #[.map mb],.slice A n c,.bool z])∧(z=true→oD ss us w w' mb (.slice A n c))∧(oI ss→z=true)
structure oq(ss:List Sc)(us:List Up)(w:World)(g4 g7 i:Nat)(W:World)(b n:Nat)(M:Dm)(F:Nat→Prop):Prop where
 b4:∃x,Bk W g4 33 [x]
 b7:Bk W g7 33 [.map (some b)]
 db:DbB F W b n M
 nn:n≤3+i
 dbi:DbI (fk ss) i M
 f4:∀k,F k→k≠g4∧k≠g7∧k<W.heap.size
 bb:b≠g4∧b≠g7
 ext:Ext w W
 gg:g4≠g7∧w.heap.size≤g4∧w.heap.size≤g7
 eq:M=(us.take i).foldl ip (dmL ss)
 fl:∀k,F k→w.heap.size≤k
theorem oq.more{ss:List Sc}{us:List Up}{w W W':World}{g4 g7 i b n:Nat}{M:Dm}{F:Nat→Prop}(h:oq ss us w g4 g7 i W b n M F)(he:Ext W W')(j:Nat)(hj:i≤j)(hm:M=(us.take j).foldl ip (dmL ss)):oq ss us w g4 g7 j W' b n M F :=
 ⟨let ⟨x,hx⟩:=h.b4;⟨x,hx.ext he⟩,h.b7.ext he,h.db.ext he,jr h.nn (by omega),h.dbi.le hj,fun k hk=>⟨(h.f4 k hk).1,(h.f4 k hk).2.1,jE (h.f4 k hk).2.2 he.size⟩,h.bb,h.ext.trans he,h.gg,hm,h.fl⟩
def DbP(ss:List Sc)(M0:Dm)(u:Up)(w1:World)(F:Nat→Prop)(n i:Nat)(c d:Nat)(mb:Option Nat)(er:Int)(W:World):Prop :=
 (er≠0∧ip M0 u=M0)∨(er=0∧∃b M,ip M0 u=M∧mb=some b∧c≤b∧b<d∧DbB (fun k=>(F k∧k<w1.heap.size)∨(c≤k∧k<d)) W b (n+1) M∧DbI (fk ss) (i+1) M)
theorem dbP_st{ss:List Sc}{M0:Dm}{u:Up}{w1:World}{F:Nat→Prop}{n i:Nat}:PSt w1 (DbP ss M0 u w1 F n i):=by
 intro c d mb er W W' S h hf hs
 rcases h with h|⟨h0,b,M,hm,h1,h2,h3,h4,h5⟩
 ·exact .inl h
 ·have hn:∀k,((F k∧k<w1.heap.size)∨(c≤k∧k<d))→¬S k:=fun k hk hS=>by
   have:=hs k hS
   rcases hk with hk|hk
   ·have:=hk.2;omega
   ·omega
  exact .inr ⟨h0,b,M,hm,h1,h2,h3,h4.fr hf (hn b (.inr ⟨h2,h3⟩)) hn,h5⟩
theorem appL_one{M M':Dm}{u:Up}{k:Nat}(h:kV M 0 [u]=.ok (M',k)):∃ch,i7 M u=.ok (M',ch):=by
 unfold kV at h
 rcases ha:i7 M u with e|⟨p,ch⟩
 ·rw[ha]at h
  cases h
 ·rw[ha]at h
  unfold kV at h
  injection h with h
  injection h with h1 h2
  exact⟨ch,by rw[←h1]⟩
theorem oq.apply{ss:List Sc}{us:List Up}{w W:World}{g4 g7 i b n:Nat}{M:Dm}{F:Nat→Prop}(h:oq ss us w g4 g7 i W b n M F)(hi:i≤40){u:Up}(hu:∀v∈u.row,SmV v)(hs:u.rel.size≤maxLen∧u.row.length≤maxLen∧∀v∈u.row,v.str.size≤maxLen){V:World}{S:Addr}{G:Nat→Prop}(hV:Ext W V)(hS:Sl fJ G V (.slice (some S) 1 1) [u]) :
  Calls Tryz.prog 33 #[.agg #[.map (some b)],.slice (some S) 1 1] V (fun e Z=>Ext V Z∧∃mb k er,e=.returned (.tuple #[.agg #[.map mb],.int .i64 k,.int .i64 er])∧DbP ss M u W F n i V.heap.size Z.heap.size mb er Z):=by
 have se:=h.nn
 refine(apply_any (m:=1) ((h.db.mono (G:=fun k=>F k∧k<W.heap.size) (fun k h1 h2=>⟨h2,h1⟩)).ext hV) (by omega) h.dbi.ok hS (fun x hx=>by rw[jq]at hx;rw[hx];exact hs)).mono ?_
 rintro e Z ⟨he,⟨er,h1,h2,rfl⟩|⟨M',k,g,h1,rfl,h2,h3,h4,h5⟩⟩
 ·refine⟨he,none,0,er,rfl,.inl ⟨h2,?_⟩⟩
  unfold ip
  unfold kV at h1
  rcases ha:i7 M u with e9|p
  ·rfl
  ·rw[ha]at h1
   unfold kV at h1
   cases h1
 ·obtain⟨ch,ha⟩:=appL_one h1
  refine⟨he,some g,k,0,rfl,.inr ⟨rfl,g,M',by unfold ip;rw[ha],rfl,h2,h5.lt,h5.mono (fun q hq hk=>?_),h.dbi.app hu ha⟩⟩
  rcases hk with hk|hk
  ·exact .inl hk.1
  ·exact .inr ⟨by omega,hq⟩
theorem oq.take{ss:List Sc}{us:List Up}{w W Z:World}{g4 g7 i b n:Nat}{M M':Dm}{F:Nat→Prop}(h:oq ss us w g4 g7 i W b n M F){c d b':Nat}(hZ:Ext W Z)(hc:W.heap.size≤c)(hb:c≤b'∧b'<d)(se:DbB (fun k=>(F k∧k<W.heap.size)∨(c≤k∧k<d)) Z b' (n+1) M')(sg:DbI (fk ss) (i+1) M')(hd:d≤Z.heap.size)(hm:M'=(us.take (i+1)).foldl ip (dmL ss)):oq ss us w g4 g7 (i+1) (Z.setCell ⟨g7,0,none⟩ (.map (some b'))) b' (n+1) M' (fun k=>(F k∧k<W.heap.size)∨(c≤k∧k<d)):=by
 have hf:Fr (fun k=>k=g7) Z (Z.setCell ⟨g7,0,none⟩ (.map (some b'))):=(Fr.refl (fun k=>k=g7) Z).setCell (p:=⟨g7,0,none⟩) (.inl rfl) _
 obtain⟨x,hx⟩:=h.b4
 have h7:=h.b7.lt
 have h4:=hx.lt
 have hF:∀k,((F k∧k<W.heap.size)∨(c≤k∧k<d))→k≠g4∧k≠g7∧k<Z.heap.size:=fun k hk=>by
  have hz:=hZ.size
  rcases hk with hk|hk
  ·have:=h.f4 k hk.1
   exact⟨this.1,this.2.1,by omega⟩
  ·exact⟨by omega,by omega,by omega⟩
 refine⟨⟨x,(hx.ext hZ).fr hf h.gg.1⟩,(h.b7.ext hZ).set 0 _,se.fr hf (by omega) (fun k hk=>(hF k hk).2.1),by have:=h.nn;omega,sg,fun k hk=>⟨(hF k hk).1,(hF k hk).2.1,jE (hF k hk).2.2 hf.size⟩,⟨by omega,by omega⟩,hf.new (h.ext.trans hZ) (fun q hq=>by rw[hq];exact h.gg.2.2),h.gg,hm,fun k hk=>hk.elim (fun h9=>h.fl k h9.1) (fun h9=>by have:=h.ext.size;omega)⟩
theorem ld{F0 G0:Nat→Prop}{w:World}{S U:Option Addr}{ns cs nu cu:Nat}{ss:List Sc}{us:List Up}(hS:Sl el F0 w (.slice S ns cs) ss)(hU:Sl fJ G0 w (.slice U nu cu) us)(td:ns≤3)(te:nu≤40)(hz:∀x∈ss,x.name.size≤maxLen)(hk:∀x∈ss,x.kinds.length≤maxLen)(si:∀u∈us,∀v∈u.row,SmV v)(sj:∀u∈us,u.rel.size≤maxLen∧u.row.length≤maxLen∧∀v∈u.row,v.str.size≤maxLen) :
  Calls Tryz.prog 12 #[.slice S ns cs,.slice U nu cu] w (fO ss us w):=by
 have hx:=(Ext.refl w).alloc (.cells #[.map none] 33)
 have kb:=Bk.new w 33 [.map none]
 have sS:=zN (fun (V:World) (hV:Ext w V)=>new_any2 (hS.ext hV) (by omega) hz hk)
 have sY:=hS.cap.1
 have sJ:Hid (nu=us.length):=zN hU.cap.1
 obtain⟨PP,su⟩:∃P:Ending→World→Prop,P=fO ss us w:=⟨_,rfl⟩
 have sQ:Hid (∀V (mb:Option Nat),Ext w V→¬oI ss→PP (.returned (.tuple #[.agg #[.map mb],.slice none 0 0,.bool false])) V):=zN (fun V mb hV hn=>by rw[su];exact⟨hV,mb,none,0,0,false,rfl,(fun h=>by cases h),fun h=>absurd h hn⟩)
 have sx:Hid (∀V (b:Nat) (v:Value),Ext w V→oD ss us w V (some b) v→PP (.returned (.tuple #[.agg #[.map (some b)],v,.bool true])) V):=zN (fun V b v hV h=>by
  rw[su]
  obtain⟨b',n,M,W,F,h1,h2,h3,h4,hm,h5,A,c,l,rfl,h6⟩:=h
  exact⟨hV,some b,A,_,c,true,rfl,(fun _=>⟨b',n,M,W,F,h1,h2,h3,h4,hm,h5,A,c,l,rfl,h6⟩),fun _=>rfl⟩)
 rw[←su]
 have HU:=zN hU;have sT:=zN si;have sV:=zN sj;have sR:Hid (ss.length≤3):=zN (by omega)
 clear hS hU hz hk si sj su sY
 go_enter Tryz.func12,Tryz.ntmps12
 go_upto_region 1 with fail
 change Bk (w.alloc (.cells #[.map none] 33)) _ _ _ at kb
 generalize (w.alloc (.cells #[.map none] 33))=w1 at *
 have sG:=zN kb;have HX:=zN hx
 obtain⟨g4,sC⟩:=sd w.heap.size
 have sF:Hid (w.heap.size≤g4∧g4<w1.heap.size):=zN ⟨by omega,by rw[sC];exact kb.lt⟩
 rw[←sC]at sG ⊢
 clear kb hx sC
 go_wp2_with fail
 refine(sS.out _ HX.out).mono ?_
 rintro e w2 ⟨he,mb,er,rfl,sr⟩
 have sK:=zN (HX.out.trans he);have sg:=zN (sG.out.ext he);have ta:=zN he
 have sh:=zN sr
 clear sr he
 have hx3:=(Ext.refl w2).alloc (.cells #[.map mb] 33)
 have k7:=Bk.new w2 33 [.map mb]
 have p0:=(sg.out.ext hx3).c0;have p1:=(sg.out.ext hx3).free 0
 by_cases h0:er=0
 ·subst h0
  obtain⟨b,n,rfl,hb,hn,sA,sO⟩:∃b n,mb=some b∧w1.heap.size≤b∧n≤ss.length∧DbB (fun k=>w1.heap.size<k∧k≠b) w2 b n (dmL ss)∧∀x∈ss,pE x:=by
   rcases sh.out with ⟨h,-⟩|⟨-,b,n,h1,h2,h3,h4,h5⟩
   ·exact absurd rfl h
   ·exact⟨b,n,h1,h2,h3,h4,h5⟩
  go_upto_region 4 with fail
  change Bk (w2.alloc (.cells #[.map (some b)] 33)) _ _ _ at k7
  generalize (w2.alloc (.cells #[.map (some b)] 33))=w3 at *
  obtain⟨g7,sM⟩:=sd w2.heap.size
  rw[←sM]at k7 ⊢
  have sN:oq ss us w g4 g7 0 w3 b n (dmL ss) (fun k=>(w1.heap.size<k∧k≠b)∧k<w2.heap.size):=by
   have h1:=sF.out
   have h2:=sA.lt
   have h3:=hx3.size
   exact⟨⟨_,sg.out.ext hx3⟩,k7,(sA.mono (fun k hk h=>⟨h,hk⟩)).ext hx3,by have:=sR.out;omega,DbI.new sO,fun k hk=>⟨by omega,by omega,by omega⟩,⟨by omega,by omega⟩,sK.out.trans hx3,⟨by omega,h1.1,by omega⟩,rfl,fun k hk=>by have:=hk.1.1;omega⟩
  have sH:=zN sN
  clear sN k7 hx3 p0 p1 sM hb hn sA sO sh
  go_wp2_with fail
  go_loopw [9] (fun t wr=>∃(i b n:Nat) (M:Dm) (F:Nat→Prop),i≤nu∧t=.int .i64 (i:Int)∧Hid (oq ss us w g4 g7 i wr b n M F)) (fun t _=>nu-(intOf t).toNat)
  case atStart=>exact⟨0,b,n,_,_,jn _,rfl,sH⟩
  case round =>
   clear sH
   obtain⟨i,b,n,M,F,hi,rfl,HL⟩:=hrel
   obtain⟨W,rfl⟩:∃W:World,W=wr:=⟨_,rfl⟩
   by_cases sW:i<nu
   ·have i1:(0:Int)≤(i:Int):=by omega
    have i2:(i:Int)<(nu:Int):=by omega
    have sq:i<us.length:=by have:=sJ.out;omega
    obtain⟨ad,B,d,rfl,c0,c1,c2,se⟩:=HU.out.up sq
    replace c0:=HL.out.ext.cell c0;replace c1:=HL.out.ext.cell c1;replace c2:=HL.out.ext.cell c2
    replace se:=se.ext HL.out.ext
    have si:=sT.out _ (jf sq)
    have sj:=sV.out _ (jf sq)
    have sE:us.take (i+1)=us.take i++[us[i]]:=jj sq
    obtain⟨u,hu⟩:=sd (us[i])
    rw[←hu]at c0 c1 c2 se si sj sE
    have sI:Hid ((us.take (i+1)).foldl ip (dmL ss)=ip M u):=zN (by rw[sE,zD,←HL.out.eq];rfl)
    clear sE
    have b0:=HL.out.b7.c0
    have sP:=zN (fun (V:World) (S:Addr) (G:Nat→Prop) (hV:Ext W V) (hS:Sl fJ G V (.slice (some S) 1 1) [u])=>HL.out.apply (by omega) si sj hV hS)
    clear si sj hu sq
    go_upto_region 7 with fail
    refine cS ?_
    intro KK sp
    refine dbs_reg (P:=DbP ss M u W F n i) b0 i1 i2 c0 c1 c2 se dbP_st sP ?_
    intro g t27 t33 t34 t35 t36 t37 sZ k2 sL c dd Z hZ hP hg sy sB hb
    clear c0 c1 c2 se b0
    rw[sp]
    clear sp KK
    by_cases h0:sL=0
    ·subst h0
     obtain⟨b',M',qm,rfl,q1,q2,q3,q4⟩:∃b' M',ip M u=M'∧sZ=some b'∧c≤b'∧b'<dd∧DbB (fun k=>(F k∧k<W.heap.size)∨(c≤k∧k<dd)) Z b' (n+1) M'∧DbI (fk ss) (i+1) M':=by
      rcases hP with ⟨h,-⟩|⟨-,h⟩
      ·exact absurd rfl h
      ·exact h
     have sw:=zN (HL.out.take hZ sy ⟨q1,q2⟩ q3 q4 sB (by rw[sI.out,qm]))
     have d0:=hb.c0
     have d1:=(HL.out.b7.ext hZ).c0;have d2:=(HL.out.b7.ext hZ).free 0
     clear hZ hP hg sy sB hb q1 q2 q3 q4
     go_wp2_with fail
     go_roundw
     case rel=>exact⟨i+1,b',n+1,M',_,by omega,by go_num,sw⟩
     case measure=>simp[intOf];omega
    ·have g0:(sL == 0)=false:=by rw[beq_eq_false_iff_ne];exact h0
     have sw:=zN (HL.out.more hZ (i+1) (by omega) (by
      rw[sI.out]
      rcases hP with ⟨-,h⟩|⟨h,-⟩
      ·exact h.symm
      ·exact absurd h h0))
     clear hZ hP hg sy sB hb h0
     go_wp2_with fail
     go_roundw
     case rel=>exact⟨i+1,b,n,M,F,by omega,by go_num,sw⟩
     case measure=>simp[intOf];omega
   ·obtain rfl:i=nu:=by omega
    have tc:¬(i:Int)<(i:Int):=by omega
    have hl:=HL.out
    obtain⟨x,hx4⟩:=hl.b4
    have b0:=hl.b7.c0
    have sX:=hl.nn
    have sU:=zN (fun (V:World) (hV:Ext W V)=>tables_any (nb:=n) (hl.db.ext hV) hl.dbi.db (fun s e he=>⟨(hl.dbi.ok.ar s e he).2,(hl.dbi.ok.so s e he).2⟩) (by omega))
    have sD:=hl.gg
    clear hl
    go_upto_region 10 with fail
    refine cS ?_
    intro KK sp
    refine dbr_reg (Q':=fun v V=>fP M n W v V) b0 hx4 sD.1 (zN (fun V hV=>(sU.out V hV).mono (by
     rintro e Z ⟨he,v,rfl,hq⟩
     refine⟨he,v,rfl,?_⟩
     obtain⟨A,c,l,rfl,k1,k2,k3⟩:=hq
     exact⟨A,c,l,rfl,k1,k2,k3.mono (by decide) (fun k _ hk=>jr hV.size hk)⟩))) ?_
    intro v V hq hV
    rw[sp]
    clear sp KK
    have hf:Fr (fun k=>k=g4) V (V.setCell ⟨g4,0,none⟩ (.map (some b))):=(Fr.refl (fun k=>k=g4) V).setCell (p:=⟨g4,0,none⟩) (.inl rfl) _
    have q0:=((hx4.ext hV).set 0 (.map (some b))).c0
    try simp only[jh,ja]at q0
    have HQ:Hid (PP (.returned (.tuple #[.agg #[.map (some b)],v,.bool true])) (V.setCell ⟨g4,0,none⟩ (.map (some b)))):=zN (by
     have hl:=HL.out
     have sW:=hx4.lt
     refine sx.out _ b v (hf.new (hl.ext.trans hV) (fun q hq=>by rw[hq];exact sD.2.1)) ⟨b,n,M,W,F,rfl,by omega,((hl.db.ext hV).fr hf hl.bb.1 (fun k hk e=>(hl.f4 k hk).1 e)).mono (fun k _ hk=>⟨hk,hl.fl k hk⟩),hl.dbi.le (by omega),by rw[hl.eq,jp (by have:=sJ.out;omega)];rfl,hl.ext,hq.fr hf (fun k hk e=>by omega)⟩)
    generalize (V.setCell ⟨g4,0,none⟩ (.map (some b)))=Z at *
    clear hf hq hV hx4 b0 sD sX
    go_wp2_with fail
    exact bodyPost_ret (v:=.tuple #[.agg #[.map (some b)],v,.bool true]) (by simp[results,Tryz.results12,go_sem,q0]) rfl HQ.out
 ·have g0:(er != 0)=true:=bne_iff_ne.2 h0
  have hf:Fr (fun k=>k=g4) (w2.alloc (.cells #[.map mb] 33)) ((w2.alloc (.cells #[.map mb] 33)).setCell ⟨g4,0,none⟩ (.map mb)):=(Fr.refl (fun k=>k=g4) _).setCell (p:=⟨g4,0,none⟩) (.inl rfl) _
  have HP:=zN (sQ.out _ mb (hf.new (sK.out.trans hx3) (fun q hq=>by rw[hq];exact sF.out.1)) (by
   rcases sh.out with ⟨-,h⟩|⟨h,-⟩
   ·exact h
   ·exact absurd h h0))
  have q0:=((sg.out.ext hx3).set 0 (.map mb)).c0
  try simp only[jh,ja]at q0
  clear hf hx3 k7 h0
  go_wp2_with fail
  exact bodyPost_ret (v:=.tuple #[.agg #[.map mb],.slice none 0 0,.bool false]) (by simp[results,Tryz.results12,go_sem,q0]) rfl HP.out
end Go.Proofs.YtplldnnnhgnbjaaGreatDoor
namespace Go.Proofs.YtplldnnnhgnbjaaGreatDoor
open Go.RowKit Go.Maps
structure iY(ss:List Sc)(us:List Up)(q:Qy):Prop where
 s:ss.length≤3
 u:us.length≤40
 r:q.rs.length≤4
 h:q.hd.length≤8
 o:q.od.length≤8
 v:∀u∈us,∀v∈u.row,SmV v
 l:∀r∈q.rs,iX r
structure RlN(r:Rl):Prop where
 z:RlZ r
 t:∀a∈r.ats,a.terms.length≤9223372036854775807
 c:r.cds.length≤9223372036854775807
 a:r.ats.length≤9223372036854775807
theorem great_any{F G H:Nat→Prop}{w:World}{S U A B O:Option Addr}{ns cs nu cu ca cb co:Nat}{ss:List Sc}{us:List Up}{q:Qy}(hS:Sl el F w (.slice S ns cs) ss)(hU:Sl fJ G w (.slice U nu cu) us)(hQ:QyR H w A ca B cb O co q)(hN:∀r∈q.rs,RlN r)(sU:us.length≤9223372036854775807)(sV:∀u∈us,u.row.length≤9223372036854775807)(tj:q.rs.length≤9223372036854775807) :
  Calls Tryz.prog 10 #[.slice S ns cs,.slice U nu cu,.agg #[.slice A q.hd.length ca,.int .i64 q.ag,.string q.av,.slice B q.rs.length cb,.slice O q.od.length co]] w (NoP (iY ss us q) w):=by
 have kb:=Bk.new w 28 [.slice A q.hd.length ca,.int .i64 q.ag,.string q.av,.slice B q.rs.length cb,.slice O q.od.length co]
 have hx:=(Ext.refl w).alloc (.cells #[.slice A q.hd.length ca,.int .i64 q.ag,.string q.av,.slice B q.rs.length cb,.slice O q.od.length co] 28)
 have sg:Hid (∀V,Ext w V→NoP (iY ss us q) w (.returned (.bool true)) V):=zN (fun V hV=>⟨hV,true,rfl,fun h=>by cases h⟩)
 have sK:Hid (∀V,Ext w V→iY ss us q→NoP (iY ss us q) w (.returned (.bool false)) V):=zN (fun V hV h=>⟨hV,false,rfl,fun _=>h⟩)
 obtain⟨PP,sO⟩:=sd (NoP (iY ss us q) w)
 rw[←sO]at sg sK ⊢
 have sY:Hid (ns=ss.length):=zN hS.cap.1
 have sB:Hid (nu=us.length):=zN hU.cap.1
 have tt:nu≤9223372036854775807:=by rw[hU.cap.1];exact sU
 obtain⟨nh,sF⟩:=sd q.hd.length
 obtain⟨nr,sw⟩:=sd q.rs.length
 obtain⟨no,sG⟩:=sd q.od.length
 obtain⟨ag,sP⟩:=sd q.ag
 obtain⟨av,sQ⟩:=sd q.av
 rw[←sF,←sw,←sG,←sP,←sQ]at kb hx ⊢
 rw[←sw]at tj
 have sX:=zN sF;have sA:=zN sw;have sy:=zN sG
 have HQ:=zN hQ.rs;have HN:=zN hN;have HU:=zN hU;have sZ:=zN sV
 clear hS hU hQ hN sU sV sO sF sw sG sP sQ
 go_enter Tryz.func10,Tryz.ntmps10
 go_upto_region 1 with fail
 change Bk (w.alloc (.cells #[.slice A nh ca,.int .i64 ag,.string av,.slice B nr cb,.slice O no co] 28)) _ _ _ at kb
 generalize (w.alloc (.cells #[.slice A nh ca,.int .i64 ag,.string av,.slice B nr cb,.slice O no co] 28))=w1 at *
 have sJ:=zN kb;have HX:=zN hx
 have b0:=kb.c0;have b3:=kb.c3;have b4:=kb.c4
 obtain⟨gb,sR⟩:=sd w.heap.size
 rw[←sR]at sJ b0 b3 b4 ⊢
 have HP:=zN (sg.out w1 HX.out)
 clear kb hx sR
 by_cases g1:ns≤3
 ·have tc:¬(3:Int)<(ns:Int):=by omega
  by_cases g2:nu≤40
  ·have td:¬(40:Int)<(nu:Int):=by omega
   by_cases g3:nr≤4
   ·have te:¬(4:Int)<(nr:Int):=by omega
    by_cases g4:nh≤8
    ·have tf:¬(8:Int)<(nh:Int):=by omega
     by_cases g5:no≤8
     ·have tg:¬(8:Int)<(no:Int):=by omega
      go_wp2_with fail
      go_loopw [7] (fun t wr=>∃i:Nat,i≤nu∧t=.int .i64 (i:Int)∧Hid (∀u∈us.take i,∀v∈u.row,SmV v)∧Hid (Ext w1 wr)) (fun t _=>nu-(intOf t).toNat)
      case atStart=>exact⟨0,jn _,rfl,zN (by simp),zN (Ext.refl _)⟩
      case round =>
       clear b0 b3 b4
       obtain⟨i,hi,rfl,HV,HE⟩:=hrel
       obtain⟨W,rfl⟩:∃W:World,W=wr:=⟨_,rfl⟩
       by_cases hlt:i<nu
       ·have i1:(0:Int)≤(i:Int):=by omega
        have i2:(i:Int)<(nu:Int):=by omega
        have su:i<us.length:=by have:=sB.out;omega
        obtain⟨ad,C,d,rfl,-,-,c2,si⟩:=HU.out.up su
        have se:us.take (i+1)=us.take i++[us[i]]:=jj su
        have sq:=sZ.out _ (jf su)
        obtain⟨u,hu⟩:=sd (us[i])
        rw[←hu]at c2 si se sq
        have sx:=zN (HX.out.cell c2)
        have sp:=zN (si.ext HX.out)
        obtain⟨nw,sH⟩:=sd u.row.length
        rw[←sH]at sx sp sq
        have sL:=zN sH;have sC:=zN se
        clear c2 si se hu sH su
        have c2:=HE.out.cell sx.out
        go_wp2_with fail
        go_loopw [8] (fun t wr=>∃k:Nat,k≤nw∧t=.int .i64 (k:Int)∧Hid (∀v∈u.row.take k,SmV v)∧Hid (Ext w1 wr)) (fun t _=>nw-(intOf t).toNat)
        case atStart=>exact⟨0,jn _,rfl,zN (by simp),HE⟩
        case round =>
         clear c2 HE
         obtain⟨k,hk,rfl,HW,HE⟩:=hrel
         obtain⟨W2,rfl⟩:∃W:World,W=wr:=⟨_,rfl⟩
         have c2:=HE.out.cell sx.out
         by_cases hkt:k<nw
         ·have j1:(0:Int)≤(k:Int):=by omega
          have j2:(k:Int)<(nw:Int):=by omega
          have sh:k<u.row.length:=by have:=sL.out;omega
          obtain⟨ae,rfl,-,e0,e1,e2⟩:=sp.out.vl sh
          replace e1:=HE.out.cell e1
          have se:u.row.take (k+1)=u.row.take k++[u.row[k]]:=jj sh
          obtain⟨v,hv⟩:=sd (u.row[k])
          rw[←hv]at e1 se
          obtain⟨m,hm⟩:=sd v.int
          rw[←hm]at e1
          have sD:=zN se;have HM:=zN hm
          clear se hv hm e0 e2 sh
          have sj:=zN (sg.out W2 (HX.out.trans HE.out))
          by_cases m1:m≤1099511627776
          ·have tn:¬(1099511627776:Int)<m:=by omega
           by_cases m2 : -1099511627776≤m
           ·have tp:¬m<(-1099511627776:Int):=by omega
            have ta:Hid (∀v∈u.row.take (k+1),SmV v):=zN (by
             rw[sD.out]
             intro x hx
             rcases ju.1 hx with hx|hx
             ·exact HW.out x hx
             ·rw[jq]at hx
              rw[hx]
              unfold SmV
              rw[←HM.out]
              exact⟨m2,m1⟩)
            go_wp2_with fail
            go_roundw
            case rel=>exact⟨k+1,by omega,by go_num,ta,HE⟩
            case measure=>simp[intOf];omega
           ·have tp:m<(-1099511627776:Int):=by omega
            go_wp2_with fail
            exact sj.out
          ·have tn:(1099511627776:Int)<m:=by omega
           go_wp2_with fail
           exact sj.out
         ·obtain rfl:k=nw:=by omega
          have th:¬(k:Int)<(k:Int):=by omega
          have sE:Hid (∀u∈us.take (i+1),∀v∈u.row,SmV v):=zN (by
           rw[sC.out]
           intro x hx
           rcases ju.1 hx with hx|hx
           ·exact HV.out x hx
           ·rw[jq]at hx
            rw[hx]
            have h:=HW.out
            rw[jp (by have:=sL.out;omega)]at h
            exact h)
          go_wp2_with fail
          go_roundw
          case rel=>exact⟨i+1,by omega,by go_num,sE,HE⟩
          case measure=>simp[intOf];omega
       ·obtain rfl:i=nu:=by omega
        have tq:¬(i:Int)<(i:Int):=by omega
        have sE:Hid (∀u∈us,∀v∈u.row,SmV v):=zN (by
         have h:=HV.out
         rw[jp (by have:=sB.out;omega)]at h
         exact h)
        clear HV
        go_wp2_with fail
        go_loopw [10] (fun t wr=>∃i:Nat,i≤nr∧t=.int .i64 (i:Int)∧Hid (∀r∈q.rs.take i,iX r)∧Hid (Ext w1 wr)) (fun t _=>nr-(intOf t).toNat)
        case atStart=>exact⟨0,jn _,rfl,zN (by simp),HE⟩
        case round =>
         clear HE
         obtain⟨k,hk,rfl,HL,HE⟩:=hrel
         obtain⟨W2,rfl⟩:∃W:World,W=wr:=⟨_,rfl⟩
         have b3:=(sJ.out.ext HE.out).c3
         by_cases hkt:k<nr
         ·have j1:(0:Int)≤(k:Int):=by omega
          have j2:(k:Int)<(nr:Int):=by omega
          have sh:k<q.rs.length:=by have:=sA.out;omega
          obtain⟨ad,B1,d1,C1,e1,rfl,-,f0,f1,sM,sN⟩:=HQ.out.rl sh
          replace f0:=HE.out.cell (HX.out.cell f0);replace f1:=HE.out.cell (HX.out.cell f1)
          have se:q.rs.take (k+1)=q.rs.take k++[q.rs[k]]:=jj sh
          have hn:=HN.out _ (jf sh)
          have sr:=zN (long_any (sM.ext (HX.out.trans HE.out)) (sN.ext (HX.out.trans HE.out)) hn.z hn.t hn.c hn.a)
          obtain⟨r,hr⟩:=sd (q.rs[k])
          rw[←hr]at f0 f1 se sr
          obtain⟨n1,sS⟩:=sd r.ats.length
          obtain⟨n2,sT⟩:=sd r.cds.length
          rw[←sS]at f0 sr
          rw[←sT]at f1 sr
          have sC:=zN se
          clear se hn hr sS sT sM sN sh
          go_wp2_with fail
          refine sr.out.mono ?_
          rintro e W3 ⟨he,z,rfl,hz⟩
          have sI:=zN (HE.out.trans he)
          have HZ:=zN hz
          clear he hz f0 f1 b3
          rcases z with _|_
          ·have sW:Hid (∀r∈q.rs.take (k+1),iX r):=zN (by
            rw[sC.out]
            intro x hx
            rcases ju.1 hx with hx|hx
            ·exact HL.out x hx
            ·rw[jq]at hx
             rw[hx]
             exact HZ.out rfl)
           go_wp2_with fail
           go_roundw
           case rel=>exact⟨k+1,by omega,by go_num,sW,sI⟩
           case measure=>simp[intOf];omega
          ·have sj:=zN (sg.out W3 (HX.out.trans sI.out))
           go_wp2_with fail
           exact sj.out
         ·obtain rfl:k=nr:=by omega
          have th:¬(k:Int)<(k:Int):=by omega
          have sj:=zN (sK.out W2 (HX.out.trans HE.out) ⟨by have:=sY.out;omega,by have:=sB.out;omega,by have:=sA.out;omega,by have:=sX.out;omega,by have:=sy.out;omega,sE.out,by
           have h:=HL.out
           rw[jp (by have:=sA.out;omega)]at h
           exact h⟩)
          go_wp2_with fail
          exact sj.out
     ·have tg:(8:Int)<(no:Int):=by omega
      go_wp2_with fail
      exact HP.out
    ·have tf:(8:Int)<(nh:Int):=by omega
     go_wp2_with fail
     exact HP.out
   ·have te:(4:Int)<(nr:Int):=by omega
    go_wp2_with fail
    exact HP.out
  ·have td:(40:Int)<(nu:Int):=by omega
   go_wp2_with fail
   exact HP.out
 ·have tc:(3:Int)<(ns:Int):=by omega
  go_wp2_with fail
  exact HP.out
end Go.Proofs.YtplldnnnhgnbjaaGreatDoor
