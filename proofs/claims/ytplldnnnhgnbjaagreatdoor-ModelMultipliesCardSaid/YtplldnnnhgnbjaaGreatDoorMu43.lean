/- packed -/
import Derived.Test.YtplldnnnhgnbjaaGreatDoorMu42
namespace Go.Proofs.YtplldnnnhgnbjaaGreatDoor
open Go.RowKit Go.Maps
theorem TablesQ.fr{M:Dm}{nb:Nat}{w V V':World}{v:Value}{S:Nat→Prop}(h:TablesQ M nb w v V)(hf:Fr S V V')(hs:∀k,w.heap.size≤k→¬S k):TablesQ M nb w v V' :=
 let ⟨A,c,l,e,h1,h2,h3⟩:=h;⟨A,c,l,e,h1,h2,h3.fr hf hs⟩
def stepD(M:Dm)(u:Up):Dm:=match appD M u with
 | .ok p=>p.1
 | .error _=>M
def madeD(ss:List Sc)(us:List Up):Dm:=us.foldl stepD (dmL ss)
def DatabaseQ(ss:List Sc)(us:List Up)(w w':World)(mb:Option Nat)(v:Value):Prop :=
 ∃b n M W F,mb=some b∧n≤50∧DbB F w' b n M∧DbI (namesL ss) 40 M∧M=madeD ss us∧Ext w W∧TablesQ M n W v w'
def DatabasePost(ss:List Sc)(us:List Up)(w:World)(e:Ending)(w':World):Prop :=
 Ext w w'∧∃(mb:Option Nat) (A:Option Addr) (n c:Nat) (z:Bool),e=.returned (.tuple #[.agg #[.map mb],.slice A n c,.bool z])∧(z=true→DatabaseQ ss us w w' mb (.slice A n c))∧(NewOk ss→z=true)
structure DbLp(ss:List Sc)(us:List Up)(w:World)(g4 g7 i:Nat)(W:World)(b n:Nat)(M:Dm)(F:Nat→Prop):Prop where
 b4:∃x,Bk W g4 33 [x]
 b7:Bk W g7 33 [.map (some b)]
 db:DbB F W b n M
 nn:n≤3+i
 dbi:DbI (namesL ss) i M
 f4:∀k,F k→k≠g4∧k≠g7∧k<W.heap.size
 bb:b≠g4∧b≠g7
 ext:Ext w W
 gg:g4≠g7∧w.heap.size≤g4∧w.heap.size≤g7
 eq:M=(us.take i).foldl stepD (dmL ss)
theorem DbLp.more{ss:List Sc}{us:List Up}{w W W':World}{g4 g7 i b n:Nat}{M:Dm}{F:Nat→Prop}(h:DbLp ss us w g4 g7 i W b n M F)(he:Ext W W')(j:Nat)(hj:i≤j)(hm:M=(us.take j).foldl stepD (dmL ss)):DbLp ss us w g4 g7 j W' b n M F :=
 ⟨let ⟨x,hx⟩:=h.b4;⟨x,hx.ext he⟩,h.b7.ext he,h.db.ext he,js h.nn (by omega),h.dbi.le hj,fun k hk=>⟨(h.f4 k hk).1,(h.f4 k hk).2.1,jM (h.f4 k hk).2.2 he.size⟩,h.bb,h.ext.trans he,h.gg,hm⟩
def DbP(ss:List Sc)(M0:Dm)(u:Up)(w1:World)(F:Nat→Prop)(n i:Nat)(c d:Nat)(mb:Option Nat)(er:Int)(W:World):Prop :=
 (er≠0∧stepD M0 u=M0)∨(er=0∧∃b M,stepD M0 u=M∧mb=some b∧c≤b∧b<d∧DbB (fun k=>(F k∧k<w1.heap.size)∨(c≤k∧k<d)) W b (n+1) M∧DbI (namesL ss) (i+1) M)
theorem dbP_st{ss:List Sc}{M0:Dm}{u:Up}{w1:World}{F:Nat→Prop}{n i:Nat}:PSt w1 (DbP ss M0 u w1 F n i):=by
 intro c d mb er W W' S h hf hs
 rcases h with h|⟨h0,b,M,hm,h1,h2,h3,h4,h5⟩
 ·exact .inl h
 ·have hn:∀k,((F k∧k<w1.heap.size)∨(c≤k∧k<d))→¬S k:=fun k hk hS=>by
   have:=hs k hS
   rcases hk with hk|hk
   ·have:=hk.2;omega
   ·omega
  exact .inr ⟨h0,b,M,hm,h1,h2,h3,h4.fr hf (hn b (.inr ⟨h2,h3⟩)) hn,h5⟩
theorem appL_one{M M':Dm}{u:Up}{k:Nat}(h:appL M 0 [u]=.ok (M',k)):∃ch,appD M u=.ok (M',ch):=by
 unfold appL at h
 rcases ha:appD M u with e|⟨p,ch⟩
 ·rw[ha]at h
  cases h
 ·rw[ha]at h
  unfold appL at h
  injection h with h
  injection h with h1 h2
  exact⟨ch,by rw[←h1]⟩
theorem DbLp.apply{ss:List Sc}{us:List Up}{w W:World}{g4 g7 i b n:Nat}{M:Dm}{F:Nat→Prop}(h:DbLp ss us w g4 g7 i W b n M F)(hi:i≤40){u:Up}(hu:∀v∈u.row,SmV v)(hs:u.rel.size≤maxLen∧u.row.length≤maxLen∧∀v∈u.row,v.str.size≤maxLen){V:World}{S:Addr}{G:Nat→Prop}(hV:Ext W V)(hS:Sl rdUp G V (.slice (some S) 1 1) [u]) :
  Calls Tryz.prog 33 #[.agg #[.map (some b)],.slice (some S) 1 1] V (fun e Z=>Ext V Z∧∃mb k er,e=.returned (.tuple #[.agg #[.map mb],.int .i64 k,.int .i64 er])∧DbP ss M u W F n i V.heap.size Z.heap.size mb er Z):=by
 have hnn:=h.nn
 refine(apply_any (m:=1) ((h.db.mono (G:=fun k=>F k∧k<W.heap.size) (fun k h1 h2=>⟨h2,h1⟩)).ext hV) (by omega) h.dbi.ok hS (fun x hx=>by rw[jt]at hx;rw[hx];exact hs)).mono ?_
 rintro e Z ⟨he,⟨er,h1,h2,rfl⟩|⟨M',k,g,h1,rfl,h2,h3,h4,h5⟩⟩
 ·refine⟨he,none,0,er,rfl,.inl ⟨h2,?_⟩⟩
  unfold stepD
  unfold appL at h1
  rcases ha:appD M u with e9|p
  ·rfl
  ·rw[ha]at h1
   unfold appL at h1
   cases h1
 ·obtain⟨ch,ha⟩:=appL_one h1
  refine⟨he,some g,k,0,rfl,.inr ⟨rfl,g,M',by unfold stepD;rw[ha],rfl,h2,h5.lt,h5.mono (fun q hq hk=>?_),h.dbi.app hu ha⟩⟩
  rcases hk with hk|hk
  ·exact .inl hk.1
  ·exact .inr ⟨by omega,hq⟩
theorem DbLp.take{ss:List Sc}{us:List Up}{w W Z:World}{g4 g7 i b n:Nat}{M M':Dm}{F:Nat→Prop}(h:DbLp ss us w g4 g7 i W b n M F){c d b':Nat}(hZ:Ext W Z)(hc:W.heap.size≤c)(hb:c≤b'∧b'<d)(hdb:DbB (fun k=>(F k∧k<W.heap.size)∨(c≤k∧k<d)) Z b' (n+1) M')(hdi:DbI (namesL ss) (i+1) M')(hd:d≤Z.heap.size)(hm:M'=(us.take (i+1)).foldl stepD (dmL ss)):DbLp ss us w g4 g7 (i+1) (Z.setCell ⟨g7,0,none⟩ (.map (some b'))) b' (n+1) M' (fun k=>(F k∧k<W.heap.size)∨(c≤k∧k<d)):=by
 have hf:Fr (fun k=>k=g7) Z (Z.setCell ⟨g7,0,none⟩ (.map (some b'))):=(Fr.refl (fun k=>k=g7) Z).setCell (p:=⟨g7,0,none⟩) (.inl rfl) _
 obtain⟨x,hx⟩:=h.b4
 have h7:=h.b7.lt
 have h4:=hx.lt
 have hF:∀k,((F k∧k<W.heap.size)∨(c≤k∧k<d))→k≠g4∧k≠g7∧k<Z.heap.size:=fun k hk=>by
  have hz:=hZ.size
  rcases hk with hk|hk
  ·have:=h.f4 k hk.1
   exact⟨this.1,this.2.1,by omega⟩
  ·exact⟨by omega,by omega,by omega⟩
 refine⟨⟨x,(hx.ext hZ).fr hf h.gg.1⟩,(h.b7.ext hZ).set 0 _,hdb.fr hf (by omega) (fun k hk=>(hF k hk).2.1),by have:=h.nn;omega,hdi,fun k hk=>⟨(hF k hk).1,(hF k hk).2.1,jM (hF k hk).2.2 hf.size⟩,⟨by omega,by omega⟩,hf.new (h.ext.trans hZ) (fun q hq=>by rw[hq];exact h.gg.2.2),h.gg,hm⟩
set_option maxRecDepth 20000 in
set_option maxHeartbeats 6400000 in
theorem database_any{F0 G0:Nat→Prop}{w:World}{S U:Option Addr}{ns cs nu cu:Nat}{ss:List Sc}{us:List Up}(hS:Sl rdSc F0 w (.slice S ns cs) ss)(hU:Sl rdUp G0 w (.slice U nu cu) us)(hns:ns≤3)(hnu:nu≤40)(hz:∀x∈ss,x.name.size≤maxLen)(hk:∀x∈ss,x.kinds.length≤maxLen)(hsm:∀u∈us,∀v∈u.row,SmV v)(hus:∀u∈us,u.rel.size≤maxLen∧u.row.length≤maxLen∧∀v∈u.row,v.str.size≤maxLen) :
  Calls Tryz.prog 12 #[.slice S ns cs,.slice U nu cu] w (DatabasePost ss us w):=by
 have hx:=(Ext.refl w).alloc (.cells #[.map none] 33)
 have kb:=Bk.new w 33 [.map none]
 have HNW:=zO (fun (V:World) (hV:Ext w V)=>new_any2 (hS.ext hV) (by omega) hz hk)
 have hsl:=hS.cap.1
 have HNU:Hid (nu=us.length):=zO hU.cap.1
 obtain⟨PP,hPP⟩:∃P:Ending→World→Prop,P=DatabasePost ss us w:=⟨_,rfl⟩
 have HNO:Hid (∀V (mb:Option Nat),Ext w V→¬NewOk ss→PP (.returned (.tuple #[.agg #[.map mb],.slice none 0 0,.bool false])) V):=zO (fun V mb hV hn=>by rw[hPP];exact⟨hV,mb,none,0,0,false,rfl,(fun h=>by cases h),fun h=>absurd h hn⟩)
 have HYES:Hid (∀V (b:Nat) (v:Value),Ext w V→DatabaseQ ss us w V (some b) v→PP (.returned (.tuple #[.agg #[.map (some b)],v,.bool true])) V):=zO (fun V b v hV h=>by
  rw[hPP]
  obtain⟨b',n,M,W,F,h1,h2,h3,h4,hm,h5,A,c,l,rfl,h6⟩:=h
  exact⟨hV,some b,A,_,c,true,rfl,(fun _=>⟨b',n,M,W,F,h1,h2,h3,h4,hm,h5,A,c,l,rfl,h6⟩),fun _=>rfl⟩)
 rw[←hPP]
 have HU:=zO hU;have HSM:=zO hsm;have HUS:=zO hus;have HNS:Hid (ss.length≤3):=zO (by omega)
 clear hS hU hz hk hsm hus hPP hsl
 go_enter Tryz.func12,Tryz.ntmps12
 go_upto_region 1 with fail
 change Bk (w.alloc (.cells #[.map none] 33)) _ _ _ at kb
 generalize (w.alloc (.cells #[.map none] 33))=w1 at *
 have HKB:=zO kb;have HX:=zO hx
 obtain⟨g4,hg4⟩:∃g,g=w.heap.size:=⟨_,rfl⟩
 have HG4:Hid (w.heap.size≤g4∧g4<w1.heap.size):=zO ⟨by omega,by rw[hg4];exact kb.lt⟩
 rw[←hg4]at HKB ⊢
 clear kb hx hg4
 go_wp2_with fail
 refine(HNW.out _ HX.out).mono ?_
 rintro e w2 ⟨he,mb,er,rfl,hnew⟩
 have HX2:=zO (HX.out.trans he);have HKB2:=zO (HKB.out.ext he);have HE2:=zO he
 have HNEW:=zO hnew
 clear hnew he
 have hx3:=(Ext.refl w2).alloc (.cells #[.map mb] 33)
 have k7:=Bk.new w2 33 [.map mb]
 have p0:=(HKB2.out.ext hx3).cell (i:=0) (by simp);have p1:=(HKB2.out.ext hx3).free 0
 simp only[ja]at p0
 by_cases h0:er=0
 ·subst h0
  obtain⟨b,n,rfl,hb,hn,hdb,hok⟩:∃b n,mb=some b∧w1.heap.size≤b∧n≤ss.length∧DbB (fun k=>w1.heap.size<k∧k≠b) w2 b n (dmL ss)∧∀x∈ss,ScOk x:=by
   rcases HNEW.out with ⟨h,-⟩|⟨-,b,n,h1,h2,h3,h4,h5⟩
   ·exact absurd rfl h
   ·exact⟨b,n,h1,h2,h3,h4,h5⟩
  go_upto_region 4 with fail
  change Bk (w2.alloc (.cells #[.map (some b)] 33)) _ _ _ at k7
  generalize (w2.alloc (.cells #[.map (some b)] 33))=w3 at *
  obtain⟨g7,hg7⟩:∃g,g=w2.heap.size:=⟨_,rfl⟩
  rw[←hg7]at k7 ⊢
  have hlp:DbLp ss us w g4 g7 0 w3 b n (dmL ss) (fun k=>(w1.heap.size<k∧k≠b)∧k<w2.heap.size):=by
   have h1:=HG4.out
   have h2:=hdb.lt
   have h3:=hx3.size
   exact⟨⟨_,HKB2.out.ext hx3⟩,k7,(hdb.mono (fun k hk h=>⟨h,hk⟩)).ext hx3,by have:=HNS.out;omega,DbI.new hok,fun k hk=>⟨by omega,by omega,by omega⟩,⟨by omega,by omega⟩,HX2.out.trans hx3,⟨by omega,h1.1,by omega⟩,rfl⟩
  have HLP:=zO hlp
  clear hlp k7 hx3 p0 p1 hg7 hb hn hdb hok HNEW
  go_wp2_with fail
  go_loopw [9] (fun t wr=>∃(i b n:Nat) (M:Dm) (F:Nat→Prop),i≤nu∧t=.int .i64 (i:Int)∧Hid (DbLp ss us w g4 g7 i wr b n M F)) (fun t _=>nu-(intOf t).toNat)
  case atStart=>exact⟨0,b,n,_,_,jn _,rfl,HLP⟩
  case round =>
   clear HLP
   obtain⟨i,b,n,M,F,hi,rfl,HL⟩:=hrel
   obtain⟨W,rfl⟩:∃W:World,W=wr:=⟨_,rfl⟩
   by_cases hlt:i<nu
   ·have i1:(0:Int)≤(i:Int):=by omega
    have i2:(i:Int)<(nu:Int):=by omega
    have hix:i<us.length:=by have:=HNU.out;omega
    obtain⟨ad,B,d,rfl,c0,c1,c2,hrow⟩:=HU.out.up hix
    replace c0:=HL.out.ext.cell c0;replace c1:=HL.out.ext.cell c1;replace c2:=HL.out.ext.cell c2
    replace hrow:=hrow.ext HL.out.ext
    have hsm:=HSM.out _ (jg hix)
    have hus:=HUS.out _ (jg hix)
    have htk:us.take (i+1)=us.take i++[us[i]]:=jj hix
    obtain⟨u,hu⟩:∃u,u=us[i]:=⟨_,rfl⟩
    rw[←hu]at c0 c1 c2 hrow hsm hus htk
    have HMK:Hid ((us.take (i+1)).foldl stepD (dmL ss)=stepD M u):=zO (by rw[htk,zD,←HL.out.eq];rfl)
    clear htk
    have b0:=HL.out.b7.cell (i:=0) (by simp)
    simp only[ja]at b0
    have HAP:=zO (fun (V:World) (S:Addr) (G:Nat→Prop) (hV:Ext W V) (hS:Sl rdUp G V (.slice (some S) 1 1) [u])=>HL.out.apply (by omega) hsm hus hV hS)
    clear hsm hus hu hix
    go_upto_region 7 with fail
    refine wp_then ?_
    intro KK hKK
    refine dbs_reg (P:=DbP ss M u W F n i) b0 i1 i2 c0 c1 c2 hrow dbP_st HAP ?_
    intro g t27 t33 t34 t35 t36 t37 mb2 k2 er2 c dd Z hZ hP hg hcc hdd hb
    clear c0 c1 c2 hrow b0
    rw[hKK]
    clear hKK KK
    by_cases h0:er2=0
    ·subst h0
     obtain⟨b',M',qm,rfl,q1,q2,q3,q4⟩:∃b' M',stepD M u=M'∧mb2=some b'∧c≤b'∧b'<dd∧DbB (fun k=>(F k∧k<W.heap.size)∨(c≤k∧k<dd)) Z b' (n+1) M'∧DbI (namesL ss) (i+1) M':=by
      rcases hP with ⟨h,-⟩|⟨-,h⟩
      ·exact absurd rfl h
      ·exact h
     have HL2:=zO (HL.out.take hZ hcc ⟨q1,q2⟩ q3 q4 hdd (by rw[HMK.out,qm]))
     have d0:=hb.cell (i:=0) (by simp)
     have d1:=(HL.out.b7.ext hZ).cell (i:=0) (by simp);have d2:=(HL.out.b7.ext hZ).free 0
     simp only[ja]at d0 d1
     clear hZ hP hg hcc hdd hb q1 q2 q3 q4
     go_wp2_with fail
     go_roundw
     case rel=>exact⟨i+1,b',n+1,M',_,by omega,by go_num,HL2⟩
     case measure=>simp[intOf];omega
    ·have g0:(er2 == 0)=false:=by rw[beq_eq_false_iff_ne];exact h0
     have HL2:=zO (HL.out.more hZ (i+1) (by omega) (by
      rw[HMK.out]
      rcases hP with ⟨-,h⟩|⟨h,-⟩
      ·exact h.symm
      ·exact absurd h h0))
     clear hZ hP hg hcc hdd hb h0
     go_wp2_with fail
     go_roundw
     case rel=>exact⟨i+1,b,n,M,F,by omega,by go_num,HL2⟩
     case measure=>simp[intOf];omega
   ·obtain rfl:i=nu:=by omega
    have hdi:¬(i:Int)<(i:Int):=by omega
    have hl:=HL.out
    obtain⟨x,hx4⟩:=hl.b4
    have b0:=hl.b7.cell (i:=0) (by simp)
    simp only[ja]at b0
    have hnb:=hl.nn
    have HTB:=zO (fun (V:World) (hV:Ext W V)=>tables_any (nb:=n) (hl.db.ext hV) hl.dbi.db (fun s e he=>⟨(hl.dbi.ok.ar s e he).2,(hl.dbi.ok.so s e he).2⟩) (by omega))
    have hgg:=hl.gg
    clear hl
    go_upto_region 10 with fail
    refine wp_then ?_
    intro KK hKK
    refine dbr_reg (Q':=fun v V=>TablesQ M n W v V) b0 hx4 hgg.1 (zO (fun V hV=>(HTB.out V hV).mono (by
     rintro e Z ⟨he,v,rfl,hq⟩
     refine⟨he,v,rfl,?_⟩
     obtain⟨A,c,l,rfl,k1,k2,k3⟩:=hq
     exact⟨A,c,l,rfl,k1,k2,k3.mono (by decide) (fun k _ hk=>js hV.size hk)⟩))) ?_
    intro v V hq hV
    rw[hKK]
    clear hKK KK
    have hf:Fr (fun k=>k=g4) V (V.setCell ⟨g4,0,none⟩ (.map (some b))):=(Fr.refl (fun k=>k=g4) V).setCell (p:=⟨g4,0,none⟩) (.inl rfl) _
    have q0:=((hx4.ext hV).set 0 (.map (some b))).cell (i:=0) (by simp)
    simp only[jh,ja]at q0
    have HQ:Hid (PP (.returned (.tuple #[.agg #[.map (some b)],v,.bool true])) (V.setCell ⟨g4,0,none⟩ (.map (some b)))):=zO (by
     have hl:=HL.out
     have hlt:=hx4.lt
     refine HYES.out _ b v (hf.new (hl.ext.trans hV) (fun q hq=>by rw[hq];exact hgg.2.1)) ⟨b,n,M,W,F,rfl,by omega,(hl.db.ext hV).fr hf hl.bb.1 (fun k hk e=>(hl.f4 k hk).1 e),hl.dbi.le (by omega),by rw[hl.eq,jo (by have:=HNU.out;omega)];rfl,hl.ext,hq.fr hf (fun k hk e=>by omega)⟩)
    generalize (V.setCell ⟨g4,0,none⟩ (.map (some b)))=Z at *
    clear hf hq hV hx4 b0 hgg hnb
    go_wp2_with fail
    exact bodyPost_ret (v:=.tuple #[.agg #[.map (some b)],v,.bool true]) (by simp[results,Tryz.results12,go_sem,q0]) rfl HQ.out
 ·have g0:(er != 0)=true:=bne_iff_ne.2 h0
  have hf:Fr (fun k=>k=g4) (w2.alloc (.cells #[.map mb] 33)) ((w2.alloc (.cells #[.map mb] 33)).setCell ⟨g4,0,none⟩ (.map mb)):=(Fr.refl (fun k=>k=g4) _).setCell (p:=⟨g4,0,none⟩) (.inl rfl) _
  have HP:=zO (HNO.out _ mb (hf.new (HX2.out.trans hx3) (fun q hq=>by rw[hq];exact HG4.out.1)) (by
   rcases HNEW.out with ⟨-,h⟩|⟨h,-⟩
   ·exact h
   ·exact absurd h h0))
  have q0:=((HKB2.out.ext hx3).set 0 (.map mb)).cell (i:=0) (by simp)
  simp only[jh,ja]at q0
  clear hf hx3 k7 h0
  go_wp2_with fail
  exact bodyPost_ret (v:=.tuple #[.agg #[.map mb],.slice none 0 0,.bool false]) (by simp[results,Tryz.results12,go_sem,q0]) rfl HP.out
end Go.Proofs.YtplldnnnhgnbjaaGreatDoor
namespace Go.Proofs.YtplldnnnhgnbjaaGreatDoor
open Go.RowKit Go.Maps
structure SmallI(ss:List Sc)(us:List Up)(q:Qy):Prop where
 s:ss.length≤3
 u:us.length≤40
 r:q.rs.length≤4
 h:q.hd.length≤8
 o:q.od.length≤8
 v:∀u∈us,∀v∈u.row,SmV v
 l:∀r∈q.rs,ShortR r
structure RlN(r:Rl):Prop where
 z:RlZ r
 t:∀a∈r.ats,a.terms.length≤9223372036854775807
 c:r.cds.length≤9223372036854775807
 a:r.ats.length≤9223372036854775807
set_option maxRecDepth 20000 in
set_option maxHeartbeats 6400000 in
theorem great_any{F G H:Nat→Prop}{w:World}{S U A B O:Option Addr}{ns cs nu cu ca cb co:Nat}{ss:List Sc}{us:List Up}{q:Qy}(hS:Sl rdSc F w (.slice S ns cs) ss)(hU:Sl rdUp G w (.slice U nu cu) us)(hQ:QyR H w A ca B cb O co q)(hN:∀r∈q.rs,RlN r)(hul:us.length≤9223372036854775807)(hur:∀u∈us,u.row.length≤9223372036854775807)(hrl:q.rs.length≤9223372036854775807) :
  Calls Tryz.prog 10 #[.slice S ns cs,.slice U nu cu,.agg #[.slice A q.hd.length ca,.int .i64 q.ag,.string q.av,.slice B q.rs.length cb,.slice O q.od.length co]] w (NoP (SmallI ss us q) w):=by
 have kb:=Bk.new w 28 [.slice A q.hd.length ca,.int .i64 q.ag,.string q.av,.slice B q.rs.length cb,.slice O q.od.length co]
 have hx:=(Ext.refl w).alloc (.cells #[.slice A q.hd.length ca,.int .i64 q.ag,.string q.av,.slice B q.rs.length cb,.slice O q.od.length co] 28)
 have HYES:Hid (∀V,Ext w V→NoP (SmallI ss us q) w (.returned (.bool true)) V):=zO (fun V hV=>⟨hV,true,rfl,fun h=>by cases h⟩)
 have HNO:Hid (∀V,Ext w V→SmallI ss us q→NoP (SmallI ss us q) w (.returned (.bool false)) V):=zO (fun V hV h=>⟨hV,false,rfl,fun _=>h⟩)
 obtain⟨PP,hPP⟩:∃P,P=NoP (SmallI ss us q) w:=⟨_,rfl⟩
 rw[←hPP]at HYES HNO ⊢
 have HNS:Hid (ns=ss.length):=zO hS.cap.1
 have HNU:Hid (nu=us.length):=zO hU.cap.1
 have hnu:nu≤9223372036854775807:=by rw[hU.cap.1];exact hul
 obtain⟨nh,hnh⟩:∃n,n=q.hd.length:=⟨_,rfl⟩
 obtain⟨nr,hnr⟩:∃n,n=q.rs.length:=⟨_,rfl⟩
 obtain⟨no,hno⟩:∃n,n=q.od.length:=⟨_,rfl⟩
 obtain⟨ag,hag⟩:∃n,n=q.ag:=⟨_,rfl⟩
 obtain⟨av,hav⟩:∃n,n=q.av:=⟨_,rfl⟩
 rw[←hnh,←hnr,←hno,←hag,←hav]at kb hx ⊢
 rw[←hnr]at hrl
 have HNH:=zO hnh;have HNR:=zO hnr;have HNOO:=zO hno
 have HQ:=zO hQ.rs;have HN:=zO hN;have HU:=zO hU;have HUR:=zO hur
 clear hS hU hQ hN hul hur hPP hnh hnr hno hag hav
 go_enter Tryz.func10,Tryz.ntmps10
 go_upto_region 1 with fail
 change Bk (w.alloc (.cells #[.slice A nh ca,.int .i64 ag,.string av,.slice B nr cb,.slice O no co] 28)) _ _ _ at kb
 generalize (w.alloc (.cells #[.slice A nh ca,.int .i64 ag,.string av,.slice B nr cb,.slice O no co] 28))=w1 at *
 have HKB:=zO kb;have HX:=zO hx
 have b0:=kb.cell (i:=0) (by simp);have b3:=kb.cell (i:=3) (by simp);have b4:=kb.cell (i:=4) (by simp)
 simp only[ja,je]at b0 b3 b4
 obtain⟨gb,hgb⟩:∃g,g=w.heap.size:=⟨_,rfl⟩
 rw[←hgb]at HKB b0 b3 b4 ⊢
 have HP:=zO (HYES.out w1 HX.out)
 clear kb hx hgb
 by_cases g1:ns≤3
 ·have g1':¬(3:Int)<(ns:Int):=by omega
  by_cases g2:nu≤40
  ·have g2':¬(40:Int)<(nu:Int):=by omega
   by_cases g3:nr≤4
   ·have g3':¬(4:Int)<(nr:Int):=by omega
    by_cases g4:nh≤8
    ·have g4':¬(8:Int)<(nh:Int):=by omega
     by_cases g5:no≤8
     ·have g5':¬(8:Int)<(no:Int):=by omega
      go_wp2_with fail
      go_loopw [7] (fun t wr=>∃i:Nat,i≤nu∧t=.int .i64 (i:Int)∧Hid (∀u∈us.take i,∀v∈u.row,SmV v)∧Hid (Ext w1 wr)) (fun t _=>nu-(intOf t).toNat)
      case atStart=>exact⟨0,jn _,rfl,zO (by simp),zO (Ext.refl _)⟩
      case round =>
       clear b0 b3 b4
       obtain⟨i,hi,rfl,HV,HE⟩:=hrel
       obtain⟨W,rfl⟩:∃W:World,W=wr:=⟨_,rfl⟩
       by_cases hlt:i<nu
       ·have i1:(0:Int)≤(i:Int):=by omega
        have i2:(i:Int)<(nu:Int):=by omega
        have hix:i<us.length:=by have:=HNU.out;omega
        obtain⟨ad,C,d,rfl,-,-,c2,hrow⟩:=HU.out.up hix
        have htk:us.take (i+1)=us.take i++[us[i]]:=jj hix
        have hrl2:=HUR.out _ (jg hix)
        obtain⟨u,hu⟩:∃u,u=us[i]:=⟨_,rfl⟩
        rw[←hu]at c2 hrow htk hrl2
        have HC2:=zO (HX.out.cell c2)
        have HROW:=zO (hrow.ext HX.out)
        obtain⟨nw,hnw⟩:∃n,n=u.row.length:=⟨_,rfl⟩
        rw[←hnw]at HC2 HROW hrl2
        have HNW:=zO hnw;have HTK:=zO htk
        clear c2 hrow htk hu hnw hix
        have c2:=HE.out.cell HC2.out
        go_wp2_with fail
        go_loopw [8] (fun t wr=>∃k:Nat,k≤nw∧t=.int .i64 (k:Int)∧Hid (∀v∈u.row.take k,SmV v)∧Hid (Ext w1 wr)) (fun t _=>nw-(intOf t).toNat)
        case atStart=>exact⟨0,jn _,rfl,zO (by simp),HE⟩
        case round =>
         clear c2 HE
         obtain⟨k,hk,rfl,HW,HE⟩:=hrel
         obtain⟨W2,rfl⟩:∃W:World,W=wr:=⟨_,rfl⟩
         have c2:=HE.out.cell HC2.out
         by_cases hkt:k<nw
         ·have j1:(0:Int)≤(k:Int):=by omega
          have j2:(k:Int)<(nw:Int):=by omega
          have hkx:k<u.row.length:=by have:=HNW.out;omega
          obtain⟨ae,rfl,-,e0,e1,e2⟩:=HROW.out.vl hkx
          replace e1:=HE.out.cell e1
          have htk:u.row.take (k+1)=u.row.take k++[u.row[k]]:=jj hkx
          obtain⟨v,hv⟩:∃v,v=u.row[k]:=⟨_,rfl⟩
          rw[←hv]at e1 htk
          obtain⟨m,hm⟩:∃m,m=v.int:=⟨_,rfl⟩
          rw[←hm]at e1
          have HTK2:=zO htk;have HM:=zO hm
          clear htk hv hm e0 e2 hkx
          have HP2:=zO (HYES.out W2 (HX.out.trans HE.out))
          by_cases m1:m≤1099511627776
          ·have m1':¬(1099511627776:Int)<m:=by omega
           by_cases m2 : -1099511627776≤m
           ·have m2':¬m<(-1099511627776:Int):=by omega
            have HW2:Hid (∀v∈u.row.take (k+1),SmV v):=zO (by
             rw[HTK2.out]
             intro x hx
             rcases jp.1 hx with hx|hx
             ·exact HW.out x hx
             ·rw[jt]at hx
              rw[hx]
              unfold SmV
              rw[←HM.out]
              exact⟨m2,m1⟩)
            go_wp2_with fail
            go_roundw
            case rel=>exact⟨k+1,by omega,by go_num,HW2,HE⟩
            case measure=>simp[intOf];omega
           ·have m2':m<(-1099511627776:Int):=by omega
            go_wp2_with fail
            exact HP2.out
          ·have m1':(1099511627776:Int)<m:=by omega
           go_wp2_with fail
           exact HP2.out
         ·obtain rfl:k=nw:=by omega
          have hdk:¬(k:Int)<(k:Int):=by omega
          have HV2:Hid (∀u∈us.take (i+1),∀v∈u.row,SmV v):=zO (by
           rw[HTK.out]
           intro x hx
           rcases jp.1 hx with hx|hx
           ·exact HV.out x hx
           ·rw[jt]at hx
            rw[hx]
            have h:=HW.out
            rw[jo (by have:=HNW.out;omega)]at h
            exact h)
          go_wp2_with fail
          go_roundw
          case rel=>exact⟨i+1,by omega,by go_num,HV2,HE⟩
          case measure=>simp[intOf];omega
       ·obtain rfl:i=nu:=by omega
        have hdi:¬(i:Int)<(i:Int):=by omega
        have HV2:Hid (∀u∈us,∀v∈u.row,SmV v):=zO (by
         have h:=HV.out
         rw[jo (by have:=HNU.out;omega)]at h
         exact h)
        clear HV
        go_wp2_with fail
        go_loopw [10] (fun t wr=>∃i:Nat,i≤nr∧t=.int .i64 (i:Int)∧Hid (∀r∈q.rs.take i,ShortR r)∧Hid (Ext w1 wr)) (fun t _=>nr-(intOf t).toNat)
        case atStart=>exact⟨0,jn _,rfl,zO (by simp),HE⟩
        case round =>
         clear HE
         obtain⟨k,hk,rfl,HL,HE⟩:=hrel
         obtain⟨W2,rfl⟩:∃W:World,W=wr:=⟨_,rfl⟩
         have b3:=(HKB.out.ext HE.out).cell (i:=3) (by simp)
         simp only[ja,je]at b3
         by_cases hkt:k<nr
         ·have j1:(0:Int)≤(k:Int):=by omega
          have j2:(k:Int)<(nr:Int):=by omega
          have hkx:k<q.rs.length:=by have:=HNR.out;omega
          obtain⟨ad,B1,d1,C1,e1,rfl,-,f0,f1,hA1,hC1⟩:=HQ.out.rl hkx
          replace f0:=HE.out.cell (HX.out.cell f0);replace f1:=HE.out.cell (HX.out.cell f1)
          have htk:q.rs.take (k+1)=q.rs.take k++[q.rs[k]]:=jj hkx
          have hn:=HN.out _ (jg hkx)
          have HLO:=zO (long_any (hA1.ext (HX.out.trans HE.out)) (hC1.ext (HX.out.trans HE.out)) hn.z hn.t hn.c hn.a)
          obtain⟨r,hr⟩:∃r,r=q.rs[k]:=⟨_,rfl⟩
          rw[←hr]at f0 f1 htk HLO
          obtain⟨n1,hn1⟩:∃n1,n1=r.ats.length:=⟨_,rfl⟩
          obtain⟨n2,hn2⟩:∃m1,m1=r.cds.length:=⟨_,rfl⟩
          rw[←hn1]at f0 HLO
          rw[←hn2]at f1 HLO
          have HTK:=zO htk
          clear htk hn hr hn1 hn2 hA1 hC1 hkx
          go_wp2_with fail
          refine HLO.out.mono ?_
          rintro e W3 ⟨he,z,rfl,hz⟩
          have HE3:=zO (HE.out.trans he)
          have HZ:=zO hz
          clear he hz f0 f1 b3
          rcases z with _|_
          ·have HL2:Hid (∀r∈q.rs.take (k+1),ShortR r):=zO (by
            rw[HTK.out]
            intro x hx
            rcases jp.1 hx with hx|hx
            ·exact HL.out x hx
            ·rw[jt]at hx
             rw[hx]
             exact HZ.out rfl)
           go_wp2_with fail
           go_roundw
           case rel=>exact⟨k+1,by omega,by go_num,HL2,HE3⟩
           case measure=>simp[intOf];omega
          ·have HP2:=zO (HYES.out W3 (HX.out.trans HE3.out))
           go_wp2_with fail
           exact HP2.out
         ·obtain rfl:k=nr:=by omega
          have hdk:¬(k:Int)<(k:Int):=by omega
          have HP2:=zO (HNO.out W2 (HX.out.trans HE.out) ⟨by have:=HNS.out;omega,by have:=HNU.out;omega,by have:=HNR.out;omega,by have:=HNH.out;omega,by have:=HNOO.out;omega,HV2.out,by
           have h:=HL.out
           rw[jo (by have:=HNR.out;omega)]at h
           exact h⟩)
          go_wp2_with fail
          exact HP2.out
     ·have g5':(8:Int)<(no:Int):=by omega
      go_wp2_with fail
      exact HP.out
    ·have g4':(8:Int)<(nh:Int):=by omega
     go_wp2_with fail
     exact HP.out
   ·have g3':(4:Int)<(nr:Int):=by omega
    go_wp2_with fail
    exact HP.out
  ·have g2':(40:Int)<(nu:Int):=by omega
   go_wp2_with fail
   exact HP.out
 ·have g1':(3:Int)<(ns:Int):=by omega
  go_wp2_with fail
  exact HP.out
end Go.Proofs.YtplldnnnhgnbjaaGreatDoor
