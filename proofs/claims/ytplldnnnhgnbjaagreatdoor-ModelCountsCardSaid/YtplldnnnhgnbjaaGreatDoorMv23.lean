/- packed -/
import Derived.Test.YtplldnnnhgnbjaaGreatDoorMv22
namespace Go.Proofs.YtplldnnnhgnbjaaGreatDoor
open Go.RowKit Go.Maps
structure NsV(W:World)(base g bm:Nat)(vk vb vf vr:Value)(s:NsT):Prop where
 box:Bk W g 229 [.map (some bm),vb,vf,vr,aB]
 ok:W.ownsRow base 3 1 vk s.key.length ((dw s.key).map I64)
 ob:W.ownsRow base 3 1 vb s.bound.length ((dw s.bound).map I64)
 of:W.ownsRow base 3 1 vf s.fresh.length ((dw s.fresh).map I64)
 or:W.ownsRow base 3 1 vr s.frm.length ((dw s.frm).map I64)
 kb:Dsj vk vb
 kf:Dsj vk vf
 kr:Dsj vk vr
 bf:Dsj vb vf
 br:Dsj vb vr
 fr:Dsj vf vr
theorem iF(l:List Nat)(v:Nat):(dw (l++[v])).map I64=(dw l).map I64++[.int .i64 (v:Int)]:=by simp[dw,I64]
section
variable {W wb w9:World} {base g bm:Nat} {vk vb vf vr v9:Value} {s:NsT} {v:Nat}
theorem NsV.ext(h:NsV W base g bm vk vb vf vr s)(he:Ext W wb):NsV wb base g bm vk vb vf vr s:=⟨h.box.ext he,aD h.ok he,aD h.ob he,aD h.of he,aD h.or he,h.kb,h.kf,h.kr,h.bf,h.br,h.fr⟩
theorem NsV.keep(h:NsV W base g bm vk vb vf vr s)(hg:W.grownBy w9 v9.ownBlock)(ho:∃n xs,W.ownsRow base 3 1 v9 n xs):Bk w9 g 229 [.map (some bm),vb,vf,vr,aB]:=by
 obtain⟨n,xs,ho⟩:=ho
 exact h.box.fr (am hg) (fun e=>aQ ho h.box (by decide) e rfl)
theorem dn{w:World}{b s n g:Nat}{e t:TypeId}{u:Value}{xs ys:List Value}{p:Addr}{y:Value}(h:w.ownsRow b e s u n xs)(hb:Bk w g t ys)(he:e≠t)(hp:p.block=g):(w.setCell p y).ownsRow b e s u n xs :=
 bo h ((Fr.refl (fun k=>k=g) w).setCell (p:=p) (.inl hp) y) (fun k hk e=>aQ h hb he hk e)
theorem NsV.appK(h:NsV W base g bm vk vb vf vr s)(hr:w9.ownsRow base 3 1 v9 (s.key.length+1) ((dw s.key).map I64++[.int .i64 (v:Int)]))(hg:W.grownBy w9 vk.ownBlock)(hl:df W vk v9):NsV w9 base g bm v9 vb vf vr ⟨s.bound,s.key++[v],s.fresh,s.frm⟩:=by
 have e0:=Ext.refl W
 refine⟨h.keep hg ⟨_,_,h.ok⟩,?_,bw h.ob e0 h.kb hg,bw h.of e0 h.kf hg,bw h.or e0 h.kr hg,h.kb.push (fun k hk=>aV h.ob hk) hl,h.kf.push (fun k hk=>aV h.of hk) hl,h.kr.push (fun k hk=>aV h.or hk) hl,h.bf,h.br,h.fr⟩
 show w9.ownsRow base 3 1 v9 (s.key++[v]).length ((dw (s.key++[v])).map I64)
 rw[iF,jm]
 exact hr
theorem NsV.appB(h:NsV W base g bm vk vb vf vr s)(hr:w9.ownsRow base 3 1 v9 (s.bound.length+1) ((dw s.bound).map I64++[.int .i64 (v:Int)]))(hg:W.grownBy w9 vb.ownBlock)(hl:df W vb v9):NsV (w9.setCell ⟨g,1,none⟩ v9) base g bm vk v9 vf vr ⟨s.bound++[v],s.key,s.fresh,s.frm⟩:=by
 have e0:=Ext.refl W
 have hb:=h.keep hg ⟨_,_,h.ob⟩
 refine⟨hb.set 1 v9,dn (bw h.ok e0 h.kb.symm hg) hb (by decide) rfl,?_,dn (bw h.of e0 h.bf hg) hb (by decide) rfl,dn (bw h.or e0 h.br hg) hb (by decide) rfl,(h.kb.symm.push (fun k hk=>aV h.ok hk) hl).symm,h.kf,h.kr,h.bf.push (fun k hk=>aV h.of hk) hl,h.br.push (fun k hk=>aV h.or hk) hl,h.fr⟩
 show (w9.setCell ⟨g,1,none⟩ v9).ownsRow base 3 1 v9 (s.bound++[v]).length ((dw (s.bound++[v])).map I64)
 rw[iF,jm]
 exact dn hr hb (by decide) rfl
theorem NsV.appF(h:NsV W base g bm vk vb vf vr s)(hr:w9.ownsRow base 3 1 v9 (s.fresh.length+1) ((dw s.fresh).map I64++[.int .i64 (v:Int)]))(hg:W.grownBy w9 vf.ownBlock)(hl:df W vf v9):NsV (w9.setCell ⟨g,2,none⟩ v9) base g bm vk vb v9 vr ⟨s.bound,s.key,s.fresh++[v],s.frm⟩:=by
 have e0:=Ext.refl W
 have hb:=h.keep hg ⟨_,_,h.of⟩
 refine⟨hb.set 2 v9,dn (bw h.ok e0 h.kf.symm hg) hb (by decide) rfl,dn (bw h.ob e0 h.bf.symm hg) hb (by decide) rfl,?_,dn (bw h.or e0 h.fr hg) hb (by decide) rfl,h.kb,(h.kf.symm.push (fun k hk=>aV h.ok hk) hl).symm,h.kr,(h.bf.symm.push (fun k hk=>aV h.ob hk) hl).symm,h.br,h.fr.push (fun k hk=>aV h.or hk) hl⟩
 show (w9.setCell ⟨g,2,none⟩ v9).ownsRow base 3 1 v9 (s.fresh++[v]).length ((dw (s.fresh++[v])).map I64)
 rw[iF,jm]
 exact dn hr hb (by decide) rfl
theorem NsV.appR(h:NsV W base g bm vk vb vf vr s)(hr:w9.ownsRow base 3 1 v9 (s.frm.length+1) ((dw s.frm).map I64++[.int .i64 (v:Int)]))(hg:W.grownBy w9 vr.ownBlock)(hl:df W vr v9):NsV (w9.setCell ⟨g,3,none⟩ v9) base g bm vk vb vf v9 ⟨s.bound,s.key,s.fresh,s.frm++[v]⟩:=by
 have e0:=Ext.refl W
 have hb:=h.keep hg ⟨_,_,h.or⟩
 refine⟨hb.set 3 v9,dn (bw h.ok e0 h.kr.symm hg) hb (by decide) rfl,dn (bw h.ob e0 h.br.symm hg) hb (by decide) rfl,dn (bw h.of e0 h.fr.symm hg) hb (by decide) rfl,?_,h.kb,h.kf,(h.kr.symm.push (fun k hk=>aV h.ok hk) hl).symm,h.bf,(h.br.symm.push (fun k hk=>aV h.ob hk) hl).symm,(h.fr.symm.push (fun k hk=>aV h.of hk) hl).symm⟩
 show (w9.setCell ⟨g,3,none⟩ v9).ownsRow base 3 1 v9 (s.frm++[v]).length ((dw (s.frm++[v])).map I64)
 rw[iF,jm]
 exact dn hr hb (by decide) rfl
theorem NsV.start(w:World)(bm g base:Nat)(h:Bk w g 229 [.map (some bm),aB,aB,aB,aB]):NsV w base g bm aB aB aB aB ⟨[],[],[],[]⟩:=
 ⟨h,World.ownsRow_nil _ _ _ _,World.ownsRow_nil _ _ _ _,World.ownsRow_nil _ _ _ _,World.ownsRow_nil _ _ _ _,Dsj.nil_left _ _ _,Dsj.nil_left _ _ _,Dsj.nil_left _ _ _,Dsj.nil_left _ _ _,Dsj.nil_left _ _ _,Dsj.nil_left _ _ _⟩
end
theorem nsStep_neg{B:List Nat}{s:NsT}{v:Int}{j:Nat}(h:v<0):dC B s v j=s:=if_pos h
theorem nsStep_bd{B:List Nat}{s:NsT}{u j:Nat}(h:u∈B):dC B s (u:Int) j=⟨s.bound++[u],s.key++[j],s.fresh,s.frm⟩:=by
 unfold dC
 rw[if_neg (by omega),jL,if_pos h]
theorem nsStep_old{B:List Nat}{s:NsT}{u j:Nat}(h:u ∉ B)(h2:u∈s.fresh):dC B s (u:Int) j=s:=by
 unfold dC
 rw[if_neg (by omega),jL,if_neg h,if_pos h2]
theorem nsStep_new{B:List Nat}{s:NsT}{u j:Nat}(h:u ∉ B)(h2:u ∉ s.fresh):dC B s (u:Int) j=⟨s.bound,s.key,s.fresh++[u],s.frm++[j]⟩:=by
 unfold dC
 rw[if_neg (by omega),jL,if_neg h,if_neg h2]
theorem ii(B:List Nat)(nv:List Int):∀j,(gG B nv j).bound.length≤j∧(gG B nv j).key.length≤j∧(gG B nv j).fresh.length≤j∧(gG B nv j).frm.length≤j
 | 0=>⟨jo _,jo _,jo _,jo _⟩
 | j+1=>by
  obtain⟨h1,h2,h3,h4⟩:=ii B nv j
  rw[show gG B nv (j+1)=dC B (gG B nv j) (nv.getD j (-1)) j from rfl]
  unfold dC
  split
  ·exact⟨by omega,by omega,by omega,by omega⟩
  ·split
   ·simp only[jm,jD,jQ]
    exact⟨by omega,by omega,by omega,by omega⟩
   ·split
    ·exact⟨by omega,by omega,by omega,by omega⟩
    ·simp only[jm,jD,jQ]
     exact⟨by omega,by omega,by omega,by omega⟩
theorem cJ(g i:Nat):(⟨g,0,none⟩:Addr).add i=⟨g,i,none⟩:=by
 unfold Addr.add
 split
 ·rename_i h
  rw[show i=0 by simpa using h]
 ·simp
theorem NsV.fr'{S:Nat→Prop}{W w9:World}{base g bm:Nat}{vk vb vf vr:Value}{s:NsT}(h:NsV W base g bm vk vb vf vr s)(hf:Fr S W w9)(hg:¬S g)(hs:∀v n xs k,W.ownsRow base 3 1 v n xs→v.ownBlock=some k→¬S k):NsV w9 base g bm vk vb vf vr s :=
 ⟨h.box.fr hf hg,bo h.ok hf (fun k hk=>hs _ _ _ k h.ok hk),bo h.ob hf (fun k hk=>hs _ _ _ k h.ob hk),bo h.of hf (fun k hk=>hs _ _ _ k h.of hk),bo h.or hf (fun k hk=>hs _ _ _ k h.or hk),h.kb,h.kf,h.kr,h.bf,h.br,h.fr⟩
theorem keyV_len{v:Vl}(h:VOk v):(nJ v).length≤1048700:=by
 unfold nJ
 have h1:=Lib.itoa_length_le v.kind h.k0 h.k1
 have h2:=Lib.itoa_length_le v.int h.i0 h.i1
 have h3:=Lib.itoa_length_le (v.str.size:Int) (by omega) (by have:=h.str;omega)
 have h4:=h.str
 have h5:=lI v.str
 simp only[jm,jD,jQ]
 omega
theorem fF:∀{xs:List Vl},(∀v∈xs,VOk v)→(eJ xs).length≤xs.length*1048700
 | [],_=>by simp[eJ]
 | v::xs,h=>by
  have h1:=keyV_len (h v (by simp))
  have h2:=fF (xs:=xs) (fun u hu=>h u (js _ hu))
  unfold eJ at h2 ⊢
  rw[jS,jm,jD,Nat.add_mul]
  omega
theorem fH(xs:List Vl):(di xs).size=(eJ xs).length:=by
 unfold di ByteArray.size
 simp
def mV(s:Sm)(w:World)(e:Ending)(w':World):Prop:=Ext w w'∧∃mb u1 u2 u3,e=.returned (.agg #[.map (some mb),u1,u2,u3,aB])∧fo.R (fun k=>w.heap.size≤k) w' [.map (some mb),u1,u2,u3,aB] s
set_option maxRecDepth 20000 in
set_option maxHeartbeats 6400000 in
theorem ro{F G H K:Nat→Prop}{w:World}{b n b2 n2 nc cc nb cb d:Nat}{m:Dm}{ng:Bool}{rl:ByteArray}{B C BD:Option Addr}{ts:List Tm}{vars:List ByteArray}{cds:List Cd}{Bl:List Nat}{bl:List Int}{x:En}(hD:DbB F w b n m)(hm:m rl=some x)(xl:rl.size≤maxLen)(hT:Cl G w B (dM ts))(hN:aI w b2 n2 (numF vars))(hC:Sl nQ K w (.slice C nc cc) ((List.range vars.length).map (bK vars cds)))(hB:Ins H w (.slice BD nb cb) bl)(vX:bl.length=vars.length)(vV:∀v (hv:v<bl.length),0<bl[v]↔v∈Bl)(hv:∀t∈ts,t.var≠⟨#[]⟩→t.var∈vars)(wk:∀t∈ts,t.var.size≤maxLen)(sJ:∀r∈x.rel.rows,r.length=ts.length∧∀v∈r,okV v=true∧VOk v)(xm:x.rel.rows.length≤1000000)(vY:∀c∈cds,eI c=0∧c.str.size≤maxLen)(vU:ts.length≤10000)(wX:cds.length≤1000000)(wY:vars.length≤1000000)(tX:eG w) :
  Calls Tryz.prog 183 #[.agg #[.bool ng,.string rl,.slice B ts.length d],.agg #[.map (some b)],.map (some b2),.slice C nc cc,.slice BD nb cb] w
   (mV ⟨x.rel.rows.filter (mtB vars ts cds (aR vars Bl ts)),(aR vars Bl ts).key,(aR vars Bl ts).bound,(aR vars Bl ts).fresh,(aR vars Bl ts).frm,[]⟩ w):=by
 obtain⟨nt,tq⟩:=sd ts.length
 obtain⟨ra,wf⟩:=sd x.rel.ar
 obtain⟨nr,tT⟩:=sd x.rel.rows.length
 have tH:=zN (fun (V:World) (hV:Ext w V)=>(gp (s:=rl) (hD.ext hV) xl).mono (R':=fun e w'=>Ext V w'∧∃A c,e=.returned (.tuple #[.agg #[.int .i64 ra,.slice A nr c],.bool true])∧Sl aG F w' (.slice A nr c) x.rel.rows) (by
  rintro e w' ⟨he,⟨h0,-⟩|⟨y,A,c,h0,rfl,xg⟩⟩
  ·rw[hm]at h0
   cases h0
  ·rw[hm]at h0
   injection h0 with h0
   subst h0
   rw[wf,tT]
   exact⟨he,A,c,rfl,xg⟩))
 have sq:=cA vars Bl ts
 obtain⟨NS,uk⟩:=sd (aR vars Bl ts)
 have td:NS=gG Bl (bg vars ts) nt:=by rw[uk,tq];rfl
 have sT:∀v∈NS.fresh,v<vars.length:=fun v wl=>by
  rw[uk]at wl
  obtain⟨-,t,ht,h1,rfl⟩:=(dJ hv).1 wl
  exact bR (hv t ht h1)
 have uY:=ii Bl (bg vars ts) nt
 rw[←td]at uY
 rw[←uk]at sq ⊢
 have wc:∀c∈NS.frm,c<nt:=fun c hc=>by
  obtain⟨i,hi,rfl⟩:=jx hc
  have hz:=zip_at (s:=NS) sq.l2 (i:=i) (by rw[sq.l2];exact hi)
  rw[tq]
  exact((sq.fr _ _).1 hz).1
 have wd:∀c∈NS.key,c<nt:=fun c hc=>by
  obtain⟨i,hi,rfl⟩:=jx hc
  have hz:=jf (l:=NS.bound.zip NS.key) (n:=i) (by rw[zu,sq.l1];omega)
  rw[zB]at hz
  rw[tq]
  exact((sq.bd _ _).1 hz).1
 rw[←tq]at vU ⊢
 rw[←tT]at xm
 obtain⟨xw,xB,e,-,vR⟩:=hB
 injection e with e1 e2 e3
 subst e1
 clear e3
 have HQ:=zN (fun (V:World) (mb:Nat) (u1 u2 u3:Value) (h0:Ext w V) (h1:fo.R (fun k=>w.heap.size≤k) V [.map (some mb),u1,u2,u3,aB] ⟨x.rel.rows.filter (mtB vars ts cds NS),NS.key,NS.bound,NS.fresh,NS.frm,[]⟩)=>(show mV ⟨x.rel.rows.filter (mtB vars ts cds NS),NS.key,NS.bound,NS.fresh,NS.frm,[]⟩ w (.returned (.agg #[.map (some mb),u1,u2,u3,aB])) V from ⟨h0,mb,u1,u2,u3,rfl,h1⟩))
 obtain⟨PP,vT⟩:=sd (mV ⟨x.rel.rows.filter (mtB vars ts cds NS),NS.key,NS.bound,NS.fresh,NS.frm,[]⟩ w)
 rw[←vT]at HQ ⊢
 obtain⟨rows,wg⟩:=sd x.rel.rows
 rw[←wg]at tH HQ sJ tT
 have HT:=zN hT;have HN:=zN hN;have HC:=zN hC;have wn:=zN vR;have ws:=zN vX;have wq:=zN vV;have HV:=zN hv;have vQ:=zN wk;have sP:=zN sJ;have wt:=zN vY;have uP:=zN tX;have sN:=zN tq;have vM:=zN tT;have wK:=zN td;have wy:=zN sT;have ww:=zN wc;have uI:=zN wd;have tG:=zN sq;have uD:=zN e2;have vC:=zN uY
 have k3:=dN w 49 33 229 [.bool ng,.string rl,.slice B nt d] [.map (some b)] [.map none,aB,aB,aB,aB]
 have hx:=((((Ext.refl w).alloc (.cells #[.bool ng,.string rl,.slice B nt d] 49)).alloc (.cells #[.map (some b)] 33)).alloc (.cells #[.map none,aB,aB,aB,aB] 229))
 have xh:=@run_makeMap Tryz.prog
 clear hD hm hT hN hC vR vX vV hv wk sJ vY tX tq wf tT wg uk td sT wc wd sq e2 uY vT
 obtain⟨i0,tO,tZ,ua,ub⟩:=info_parts ib
 have sr:=zN (And.intro tO (And.intro tZ (And.intro ua ub)));clear tO tZ ua ub
 go_enter Tryz.func183,Tryz.ntmps183
 go_upto_region 1 with fail
 change Bk (((w.alloc (.cells #[.bool ng,.string rl,.slice B nt d] 49)).alloc (.cells #[.map (some b)] 33)).alloc (.cells #[.map none,aB,aB,aB,aB] 229)) _ _ _∧Bk (((w.alloc (.cells #[.bool ng,.string rl,.slice B nt d] 49)).alloc (.cells #[.map (some b)] 33)).alloc (.cells #[.map none,aB,aB,aB,aB] 229)) _ _ _∧Bk (((w.alloc (.cells #[.bool ng,.string rl,.slice B nt d] 49)).alloc (.cells #[.map (some b)] 33)).alloc (.cells #[.map none,aB,aB,aB,aB] 229)) _ _ _ at k3
 generalize (((w.alloc (.cells #[.bool ng,.string rl,.slice B nt d] 49)).alloc (.cells #[.map (some b)] 33)).alloc (.cells #[.map none,aB,aB,aB,aB] 229))=w1 at *
 obtain⟨ka,kd,kr⟩:=k3
 have wQ:=zN hx;have wC:=zN ka;have wD:=zN kd;have wE:=zN kr
 have vd:=kr.lt
 clear hx ka kd kr
 go_upto_region 2 with fail
 obtain⟨bm,vW⟩:=sd w1.heap.size
 have we:=aI.made w1
 have kb:=Bk.new (w1.alloc (.map #[] 0)) 229 [.map (some w1.heap.size),aB,aB,aB,aB]
 rw[show (w1.alloc (.map #[] 0)).heap.size=w1.heap.size+1 by simp]at kb
 have hx2:Ext w1 ((w1.alloc (.map #[] 0)).alloc (.cells #[.map (some w1.heap.size),aB,aB,aB,aB] 229)):=((Ext.refl w1).alloc _).alloc _
 have ve:=we.ext ((Ext.refl (w1.alloc (.map #[] 0))).alloc (.cells #[.map (some w1.heap.size),aB,aB,aB,aB] 229))
 rw[←vW]at kb hx2 ve vd ⊢
 change Bk ((w1.alloc (.map #[] 0)).alloc (.cells #[.map (some bm),aB,aB,aB,aB] 229)) _ _ _ at kb
 generalize ((w1.alloc (.map #[] 0)).alloc (.cells #[.map (some bm),aB,aB,aB,aB] 229))=w5 at *
 have wR:=zN (wQ.out.trans hx2);have sZ:=zN (wC.out.ext hx2);have tz:=zN (wD.out.ext hx2);have tB:=zN (wE.out.ext hx2)
 obtain⟨g,hg⟩:=sd (bm+1)
 rw[←hg]at kb ⊢
 have xe:w.heap.size+1+1<bm:=vd
 have xH:g<w5.heap.size:=kb.lt
 have vN:=zN (NsV.start w5 bm g w5.heap.size kb);have vE:=zN ve
 have a2:=sZ.out.c2
 have xK:bm<g:=by omega
 clear we ve kb hx2 vW xh vd hg
 go_wp2_with fail
 clear a2
 go_loopw [26,12] (fun t k wr=>∃(j:Nat) (vb vf vr:Value),j≤nt∧t=.int .i64 (j:Int)∧Hid (NsV wr w5.heap.size g bm k vb vf vr (gG Bl (bg vars ts) j))∧Hid (Fr (fun b=>b=g) w5 wr)) (fun t _ _=>nt-(intOf t).toNat)
 case atStart=>exact⟨0,_,_,_,jn _,rfl,vN,zN (Fr.refl _ _)⟩
 case round =>
  obtain⟨j,vb,vf,vr,hj,rfl,HS,sY⟩:=hrel
  obtain⟨W,rfl⟩:∃W:World,W=wr:=⟨_,rfl⟩
  obtain⟨s,hs⟩:=sd (gG Bl (bg vars ts) j)
  rw[←hs]at HS
  have xy:=zN hs
  obtain⟨Ak,ck,rfl⟩:=af HS.out.ok
  obtain⟨Ab,sC,rfl⟩:=af HS.out.ob
  obtain⟨Af,cf,rfl⟩:=af HS.out.of
  obtain⟨Ar,cr,rfl⟩:=af HS.out.or
  have sR:=zN (sY.out.new wR.out (fun b hb=>by omega))
  have xt:w5.heap.size≤W.heap.size:=sY.out.size
  by_cases hjl:j<nt
  ·have j1:(0:Int)≤(j:Int):=by omega
   have j2:(j:Int)<(nt:Int):=by omega
   have tP:j<ts.length:=by have:=sN.out;omega
   obtain⟨xA,rfl,-,e0,e1,e2,e3⟩:=HT.out.term tP
   replace e0:=sR.out.cell e0;replace e1:=sR.out.cell e1;replace e2:=sR.out.cell e2;replace e3:=sR.out.cell e3
   have tt:=vQ.out _ (jf tP)
   have tY:=HV.out _ (jf tP)
   have sj:gG Bl (bg vars ts) (j+1)=dC Bl (gG Bl (bg vars ts) j) (dl vars ts[j].var) j:=by
    show dC Bl _ ((bg vars ts).getD j (-1)) j=_
    rw[jI,iG tP]
    rfl
   have sI:=lk vars ts[j].var
   have uZ:=ii Bl (bg vars ts) j
   obtain⟨t,ht⟩:=sd (ts[j])
   rw[←ht]at e0 e1 e2 e3 tt tY sj sI
   obtain⟨tv,tk,ti,ux⟩:=t
   simp only at e0 e1 e2 e3 tt tY sj sI
   obtain⟨v,uv⟩:=sd (dl vars tv)
   have xo:v<0∨∃u:Nat,v=(u:Int)∧u<vars.length:=by
    by_cases h0:tv=⟨#[]⟩
    ·left;rw[uv];unfold dl;rw[if_pos h0];omega
    ·right;exact⟨posN vars tv,by rw[uv,cE h0 (tY h0)],bR (tY h0)⟩
   rw[←uv]at sj sI
   rw[←hs]at sj uZ
   have sA:=zN sj;have sM:=zN sI;have sL:=zN uZ
   have kt:=Bk.new W 132 [.string tv,.int .i64 tk,.int .i64 ti,.string ux]
   change Bk (W.alloc (.cells #[.string tv,.int .i64 tk,.int .i64 ti,.string ux] 132)) _ _ _ at kt
   have hx6:Ext W (W.alloc (.cells #[.string tv,.int .i64 tk,.int .i64 ti,.string ux] 132)):=(Ext.refl W).alloc _
   clear ht tY sj sI hs uZ tP uv
   go_upto_region 6 with fail
   generalize (W.alloc (.cells #[.string tv,.int .i64 tk,.int .i64 ti,.string ux] 132))=W2 at *
   have t0:=kt.c0
   have sy:=zN (HS.out.ext hx6);have sW:=zN (sY.out.ext hx6)
   have ui:=zN (HN.out.ext (sR.out.trans hx6))
   have xu:w5.heap.size≤W2.heap.size:=by have:=hx6.size;omega
   have uQ:=zN (sR.out.trans hx6)
   clear kt hx6 e0 e1 e2 e3
   rcases xo with vm|⟨u,rfl,xM⟩
   ·have sg:=zN (sA.out.trans (nsStep_neg vm))
    go_wp2_with (first
     | (refine ao rfl _ _ 145 3 rfl Tryz.underlying145 (.int .i64 0) (aO _) b2 n2 _ rfl ui.out tv rfl tt (.int .i64 v) sM.out ?_))
    go_roundw
    case rel=>exact⟨j+1,_,_,_,by omega,by go_num,zN (by rw[sg.out];exact sy.out),sW⟩
    case measure=>simp[intOf];omega
   ·have u0:¬(u:Int)<0:=by omega
    have u1:(0:Int)≤(u:Int):=by omega
    have vu:u<bl.length:=by have:=ws.out;omega
    have xN:u<nb:=by have:=uD.out;omega
    have u2:(u:Int)<(nb:Int):=by omega
    obtain⟨xz,rfl,-,q0⟩:=wn.out.int vu
    replace q0:=uQ.out.cell q0
    have sG:=wq.out u vu
    obtain⟨bv,uV⟩:=sd (bl[u])
    rw[←uV]at q0 sG
    clear uV vu
    by_cases hb0 : 0<bv
    ·have sg:=zN (sA.out.trans (nsStep_bd (sG.1 hb0)))
     clear sG
     have y1:=sy.out.box.c1
     go_upto_region 10 with (first
      | (refine ao rfl _ _ 145 3 rfl Tryz.underlying145 (.int .i64 0) (aO _) b2 n2 _ rfl ui.out tv rfl tt (.int .i64 (u:Int)) sM.out ?_)
      | (at_builtin;refine aq rfl _ _ 63 rfl w5.heap.size 3 i0 (.int .i64 0) 1 8 Tryz.underlying63 sr.out.1 sr.out.2.1 sr.out.2.2.1 sr.out.2.2.2 rfl (by omega) (.slice Ab s.bound.length sC) s.bound.length ((dw s.bound).map I64) rfl (sy.out.ob.alloc _) ⟨W2.heap.size,0,none⟩ 1 1 [.int .i64 (u:Int)] rfl rfl (aE W2 _ _) (by simp[Value.oneCell']) (by have:=sL.out;simp only[maxLen];omega) (by have:=sL.out;omega) (by simp;omega) ?_;intro v9 w9 sp sh sB;obtain⟨A9,c9,rfl⟩:=af sp;have sx:=(Ext.refl W2).alloc (.cells #[.int .i64 (u:Int)] 3);have si:=sy.out.ext sx;have sH:=si.keep sh ⟨_,_,si.ob⟩;have q9:=sH.c1;have f9:=sH.free 1;have tp:=zN (NsV.appB si sp sh sB);have tu:=zN (((sW.out.ext sx).grown sh (fun b hb=>.inr (aw si.ob hb))).setCell (p:=⟨g,1,none⟩) (.inl rfl) (.slice A9 (s.bound.length+1) c9));clear sp sh sB sx si sH))
     have xp:w5.heap.size≤(w9.setCell ⟨g,1,none⟩ (.slice A9 (s.bound.length+1) c9)).heap.size:=tu.out.size
     generalize (w9.setCell ⟨g,1,none⟩ (.slice A9 (s.bound.length+1) c9))=W3 at *
     clear y1 q9 f9
     go_wp2_with (first
      | (at_builtin;refine aq rfl _ _ 63 rfl w5.heap.size 3 i0 (.int .i64 0) 1 8 Tryz.underlying63 sr.out.1 sr.out.2.1 sr.out.2.2.1 sr.out.2.2.2 rfl (by omega) (.slice Ak s.key.length ck) s.key.length ((dw s.key).map I64) rfl (tp.out.ok.alloc _) ⟨W3.heap.size,0,none⟩ 1 1 [.int .i64 (j:Int)] rfl rfl (aE W3 _ _) (by simp[Value.oneCell']) (by have:=sL.out;simp only[maxLen];omega) (by have:=sL.out;omega) (by simp;omega) ?_;intro v9 w9 sp sh sB;obtain⟨A9,c9,rfl⟩:=af sp;have sx:=(Ext.refl W3).alloc (.cells #[.int .i64 (j:Int)] 3);have si:=tp.out.ext sx;have sQ:=zN (NsV.appK si sp sh sB);have tj:=zN ((tu.out.ext sx).grown sh (fun b hb=>.inr (aw si.ok hb)));clear sp sh sB sx si))
     go_roundw
     case rel=>exact⟨j+1,_,_,_,by omega,by go_num,zN (by rw[sg.out];exact sQ.out),tj⟩
     case measure=>simp[intOf];omega
    ·have uo:u ∉ Bl:=fun h=>hb0 (sG.2 h)
     clear sG
     have vy:=zN (contains_z (v:=(u:Int)) (Ins.of_own sy.out.of) (by have:=sL.out;omega))
     have y2:=sy.out.box.c2;have y3:=sy.out.box.c3
     by_cases hold:u∈s.fresh
     ·have sg:=zN (sA.out.trans (nsStep_old uo hold))
      have uC:Hid (decide ((u:Int)∈dw s.fresh)=true):=zN (decide_eq_true (jG.2 ⟨u,hold,rfl⟩))
      clear hold uo
      go_wp2_with (first
      | (refine ao rfl _ _ 145 3 rfl Tryz.underlying145 (.int .i64 0) (aO _) b2 n2 _ rfl ui.out tv rfl tt (.int .i64 (u:Int)) sM.out ?_))
      refine vy.out.mono ?_
      rintro e w' ⟨rfl,rfl⟩
      rw[uC.out]
      clear y2 y3
      go_wp2_with fail
      go_roundw
      case rel=>exact⟨j+1,_,_,_,by omega,by go_num,zN (by rw[sg.out];exact sy.out),sW⟩
      case measure=>simp[intOf];omega
     ·have sg:=zN (sA.out.trans (nsStep_new uo hold))
      have uC:Hid (decide ((u:Int)∈dw s.fresh)=false):=zN (decide_eq_false (fun hm=>by
       obtain⟨k,hk,e⟩:=jG.1 hm
       have:k=u:=by omega
       exact hold (this ▸ hk)))
      clear hold uo
      go_wp2_with (first
      | (refine ao rfl _ _ 145 3 rfl Tryz.underlying145 (.int .i64 0) (aO _) b2 n2 _ rfl ui.out tv rfl tt (.int .i64 (u:Int)) sM.out ?_))
      refine vy.out.mono ?_
      rintro e w' ⟨rfl,rfl⟩
      rw[uC.out]
      go_upto_region 13 with (first
       | (at_builtin;refine aq rfl _ _ 63 rfl w5.heap.size 3 i0 (.int .i64 0) 1 8 Tryz.underlying63 sr.out.1 sr.out.2.1 sr.out.2.2.1 sr.out.2.2.2 rfl (by omega) (.slice Af s.fresh.length cf) s.fresh.length ((dw s.fresh).map I64) rfl (sy.out.of.alloc _) ⟨W2.heap.size,0,none⟩ 1 1 [.int .i64 (u:Int)] rfl rfl (aE W2 _ _) (by simp[Value.oneCell']) (by have:=sL.out;simp only[maxLen];omega) (by have:=sL.out;omega) (by simp;omega) ?_;intro v9 w9 sp sh sB;obtain⟨A9,c9,rfl⟩:=af sp;have sx:=(Ext.refl W2).alloc (.cells #[.int .i64 (u:Int)] 3);have si:=sy.out.ext sx;have sH:=si.keep sh ⟨_,_,si.of⟩;have q9:=sH.c2;have f9:=sH.free 2;have tp:=zN (NsV.appF si sp sh sB);have tu:=zN (((sW.out.ext sx).grown sh (fun b hb=>.inr (aw si.of hb))).setCell (p:=⟨g,2,none⟩) (.inl rfl) (.slice A9 (s.fresh.length+1) c9));clear sp sh sB sx si sH))
      have xp:w5.heap.size≤(w9.setCell ⟨g,2,none⟩ (.slice A9 (s.fresh.length+1) c9)).heap.size:=tu.out.size
      generalize (w9.setCell ⟨g,2,none⟩ (.slice A9 (s.fresh.length+1) c9))=W3 at *
      clear y2 y3 q9 f9
      have y3:=tp.out.box.c3
      go_wp2_with (first
       | (at_builtin;refine aq rfl _ _ 63 rfl w5.heap.size 3 i0 (.int .i64 0) 1 8 Tryz.underlying63 sr.out.1 sr.out.2.1 sr.out.2.2.1 sr.out.2.2.2 rfl (by omega) (.slice Ar s.frm.length cr) s.frm.length ((dw s.frm).map I64) rfl (tp.out.or.alloc _) ⟨W3.heap.size,0,none⟩ 1 1 [.int .i64 (j:Int)] rfl rfl (aE W3 _ _) (by simp[Value.oneCell']) (by have:=sL.out;simp only[maxLen];omega) (by have:=sL.out;omega) (by simp;omega) ?_;intro v9 w9 sp sh sB;obtain⟨A9,c9,rfl⟩:=af sp;have sx:=(Ext.refl W3).alloc (.cells #[.int .i64 (j:Int)] 3);have si:=tp.out.ext sx;have sH:=si.keep sh ⟨_,_,si.or⟩;have q9:=sH.c3;have f9:=sH.free 3;have sQ:=zN (NsV.appR si sp sh sB);have tj:=zN (((tu.out.ext sx).grown sh (fun b hb=>.inr (aw si.or hb))).setCell (p:=⟨g,3,none⟩) (.inl rfl) (.slice A9 (s.frm.length+1) c9));clear sp sh sB sx si sH))
      go_roundw
      case rel=>exact⟨j+1,_,_,_,by omega,by go_num,zN (by rw[sg.out];exact sQ.out),tj⟩
      case measure=>simp[intOf];omega
  ·obtain rfl:j=nt:=by omega
   have xG:¬(j:Int)<(j:Int):=by omega
   obtain rfl:NS=s:=by rw[wK.out];exact hs.symm
   obtain⟨nk,uq⟩:=sd NS.key.length
   obtain⟨sD,tS⟩:=sd NS.bound.length
   obtain⟨nf,vn⟩:=sd NS.fresh.length
   obtain⟨sK,th⟩:=sd NS.frm.length
   rw[←uq,←tS,←vn,←th]at HS
   have xL:nk≤j∧nf≤j:=by have:=vC.out;omega
   have vL:=zN uq;have wI:=zN vn;have wJ:=zN th
   rw[←uq]
   have ta:=zN (sZ.out.fr sY.out (by omega));have uJ:=zN (tz.out.fr sY.out (by omega));have tC:=zN (tB.out.fr sY.out (by omega))
   have vG:=zN (vE.out.fr sY.out (by omega))
   have a1:=ta.out.c1;have d0:=uJ.out.c0
   clear hs uq tS vn th vN vE sZ tz tB
   go_wp2_with fail
   refine(tH.out _ sR.out).mono ?_
   rintro e w6 ⟨tf,A,c,rfl,wh⟩
   have xJ:g<W.heap.size:=by omega
   have vO:=zN (HS.out.ext tf);have tw:=zN (ta.out.ext tf);have tD:=zN (tC.out.ext tf);have vH:=zN (vG.out.ext tf);have wS:=zN (sR.out.trans tf);have vP:=zN wh
   have xO:W.heap.size≤w6.heap.size:=tf.size
   clear tf wh a1 d0 ta tC vG
   go_upto_region 16 with fail
   have uc:=Bk.new w6 179 [.int .i64 ra,.slice A nr c]
   change Bk (w6.alloc (.cells #[.int .i64 ra,.slice A nr c] 179)) _ _ _ at uc
   have hx7:Ext w6 (w6.alloc (.cells #[.int .i64 ra,.slice A nr c] 179)):=(Ext.refl w6).alloc _
   generalize (w6.alloc (.cells #[.int .i64 ra,.slice A nr c] 179))=w7 at *
   have r0:=uc.c0;have r1:=uc.c1
   have uM:=zN (rA (a:=ra) (vP.out.ext hx7) (fun r hr=>by have:=(sP.out r hr).1;have:=sN.out;omega) (show nr≤1048576 by omega))
   have wU:=zN hx7
   have xP:w6.heap.size<w7.heap.size:=uc.lt
   clear uc hx7
   go_wp2_with fail
   refine uM.out.mono ?_
   rintro e w8 ⟨wa,gR,us,xI,rfl,sU⟩
   have hx8:=wU.out.trans wa
   have wP:=zN (vO.out.ext hx8);have uH:=zN (tw.out.ext hx8);have uK:=zN (tD.out.ext hx8);have wG:=zN (vH.out.ext hx8);have wV:=zN (wS.out.trans hx8)
   have tW:Sl aG (fun k=>gR≤k∧k<w8.heap.size) w8 (.slice (some ⟨gR,0,none⟩) nr nr) rows:=(sU.sl (G:=fun k=>gR≤k) (fun k hk=>aw sU.own hk) (fun k hk=>by omega)).mono (by decide) (fun k h1 h2=>⟨h2,h1⟩)
   have tK:=zN tW
   have wZ:gR<w8.heap.size:=aV sU.own rfl
   have uU:bm<gR:=by omega
   have uT:w5.heap.size≤w8.heap.size:=by omega
   have uB:=zN uU
   clear wa hx8 sU tW r0 r1 vO tw tD vH vP
   obtain⟨F8,uS⟩:∃F:Nat→Prop,F=fun k=>gR≤k∧k<w8.heap.size:=⟨_,rfl⟩
   rw[←uS]at tK
   have ue:=zN uS
   clear uS
   go_wp2_with fail
   go_loopw [83] (fun t wr=>∃(i k:Nat) (f:ByteArray→Option Value),i≤nr∧k≤i∧t=.int .i64 (i:Int)∧Hid (NsV wr w5.heap.size g bm (.slice Ak nk ck) (.slice Ab sD sC) (.slice Af nf cf) (.slice Ar sK cr) NS)∧Hid (aI wr bm k f)∧Hid (gM F8 wr w8.heap.size f (lh ((rows.take i).filter (mtB vars ts cds NS)) NS.key))∧Hid (Fr (fun b=>b=bm) w8 wr)) (fun t _=>nr-(intOf t).toNat)
   case atStart=>exact⟨0,0,_,jn _,jo _,rfl,wP,wG,zN (gM.nil _ _ _),zN (Fr.refl _ _)⟩
   case round =>
    obtain⟨i,k,f,hi,hk,rfl,su,vJ,uG,sX⟩:=hrel
    obtain⟨V,rfl⟩:∃V:World,V=wr:=⟨_,rfl⟩
    have tL:=zN (sX.out.new wV.out (fun b hb=>by omega))
    have xC:w8.heap.size≤V.heap.size:=sX.out.size
    by_cases hil:i<nr
    ·have i1:(0:Int)≤(i:Int):=by omega
     have i2:(i:Int)<(nr:Int):=by omega
     have um:i<rows.length:=by have:=vM.out;omega
     obtain⟨ad,BX,dx,uR,hF,c0,sw⟩:=tK.out.row um
     injection uR with uR
     subst uR
     have tM:∀q,F8 q→q≠bm:=fun q hq e=>by rw[ue.out]at hq;have:=uB.out;omega
     replace c0:=sX.out.cell c0 (by rw[aT];exact tM _ hF)
     replace sw:=sw.fr sX.out tM
     have ut:=sP.out _ (jf um)
     have sE:=zN (jj um)
     obtain⟨x,hx⟩:=sd (rows[i])
     rw[←hx]at c0 sw ut sE
     have uw:x.length=j:=by rw[ut.1,sN.out]
     rw[uw]at c0 sw
     replace c0:V.cell? ⟨gR,i,none⟩=some (.slice BX j dx):=by rw[cJ]at c0;exact c0
     have tI:=zN sw;have tn:=zN ut
     have xE:bm<V.heap.size:=by omega
     have k0:=su.out.box.c0;have k1:=su.out.box.c1;have k2:=su.out.box.c2;have k3:=su.out.box.c3;have k4:=su.out.box.c4
     have tc:=zN (uH.out.fr sX.out (by omega))
     have a0:=tc.out.c0;have a1:=tc.out.c1;have a2:=tc.out.c2
     have vK:=zN (rm (mb:=some bm) (u1:=.slice Ab sD sC) (u4:=aB) (ng:=ng) (rl:=rl) (d:=d) (Ins.of_own su.out.of) (Ins.of_own su.out.or) (HT.out.ext tL.out) sw (HN.out.ext tL.out) (HC.out.ext tL.out) tG.out.l2 tG.out.nd wy.out (fun c hc=>by rw[uw];exact ww.out c hc) (by rw[uw,sN.out]) vQ.out (fun v hv=>⟨(tn.out.2 v hv).1,by have:=(tn.out.2 v hv).2.str;simp only[maxLen];omega⟩) wt.out (by rw[←sN.out];omega) wX (by have:=vC.out;have:=wI.out;omega) wY)
     rw[←sN.out]at vK
     clear um hF sw ut hx uw
     go_wp2_with fail
     refine vK.out.mono ?_
     rintro e V2 ⟨y,rfl,sS,rfl⟩
     obtain⟨z,hz⟩:=sd (mtB vars ts cds NS x)
     have HZ:=zN hz
     rw[←hz]
     have uV:bm<V2.heap.size:=by have:=sS.size;omega
     have uD:=zN sS
     have sy:=zN (su.out.ext sS);have vD:=zN (vJ.out.ext sS);have vz:=zN (uG.out.ext sS);have sW:=zN (sX.out.ext sS);have tJ:=zN (tI.out.ext sS)
     clear hz sS c0 k0 k1 k2 k3 k4 a0 a1 a2
     rcases z with _|_
     ·have uf:Hid ((rows.take (i+1)).filter (mtB vars ts cds NS)=(rows.take i).filter (mtB vars ts cds NS)):=zN (by
       rw[sE.out,jK]
       simp[←HZ.out])
      go_wp2_with fail
      go_roundw
      case rel=>exact⟨i+1,k,f,by omega,by omega,by go_num,sy,vD,zN (by rw[uf.out];exact vz.out),sW⟩
      case measure=>simp[intOf];omega
     ·have uf:Hid (lh ((rows.take (i+1)).filter (mtB vars ts cds NS)) NS.key=addG (lh ((rows.take i).filter (mtB vars ts cds NS)) NS.key) (di (aJ x NS.key)) x):=zN (by
       rw[sE.out,jK]
       have e : [x].filter (mtB vars ts cds NS)=[x]:=by simp[←HZ.out]
       rw[e,grpL_add])
      have vp:=ll tJ.out (Ins.of_own sy.out.ok) (fun q hq=>by
       obtain⟨c,hc,rfl⟩:=jG.1 hq
       have:=uI.out c hc
       omega) (show nk≤1048576 by omega)
      rw[pm]at vp
      have wM:=zN vp
      clear vp
      go_wp2_with fail
      refine wM.out.mono ?_
      rintro e V3 ⟨uW,AP,cp,rfl,wj⟩
      have vq:(aJ x NS.key).length=nk:=by rw[aJ,jk,vL.out]
      have tA:=zN (eM wj (by rw[vq];omega) (fun v hv=>by
       obtain⟨c,hc,rfl⟩:=jG.1 hv
       have h1:=uI.out c hc
       have tN:c<x.length:=by rw[tn.out.1,←sN.out];exact h1
       rw[bA tN]
       exact(tn.out.2 _ (jf tN)).2) (uP.out.fore ((tL.out.trans uD.out).trans uW)))
      have wu:=zN uW
      rw[vq]at tA ⊢
      clear wj uW vq
      go_wp2_with fail
      refine tA.out.mono ?_
      rintro e V4 ⟨y,rfl,vZ,rfl⟩
      have hx4:=wu.out.trans vZ
      have sQ:=zN (sy.out.ext hx4);have uh:=zN (vD.out.ext hx4);have vA:=zN (vz.out.ext hx4);have tj:=zN (sW.out.ext hx4);have uN:=zN (tJ.out.ext hx4)
      have xD:bm<V4.heap.size:=by have:=hx4.size;omega
      have xq:w8.heap.size≤V4.heap.size:=tj.out.size
      obtain⟨ks,un⟩:=sd (di (aJ x NS.key))
      rw[show (⟨(eJ (aJ x NS.key)).toArray⟩:ByteArray)=ks from un.symm]
      rw[←un]at uf
      have tQ:ks.size≤maxLen:=by
       rw[un,fH]
       have h1:=fF (xs:=aJ x NS.key) (fun v hv=>by
        obtain⟨c,hc,rfl⟩:=jG.1 hv
        have h1:=uI.out c hc
        have tN:c<x.length:=by rw[tn.out.1,←sN.out];exact h1
        rw[bA tN]
        exact(tn.out.2 _ (jf tN)).2)
       have h2:(aJ x NS.key).length=nk:=by rw[aJ,jk,vL.out]
       rw[h2]at h1
       have h3:nk*1048700≤10000*1048700:=jW _ (by omega)
       simp only[maxLen]
       omega
      clear hx4 vZ un
      obtain⟨wm,ho⟩:=vA.out.at' ks
      obtain⟨Au,cu,eu⟩:=af ho.own
      have ud:=zN eu
      have sU:=ho.own
      rw[eu]at sU
      have k0:=sQ.out.box.c0
      have vB:=zN ho;have sO:=zN sU
      obtain⟨nu,vo⟩:=sd wm.length
      have xj:nu≤1000000:=by
       have h1:=vB.out.len
       have h2:(lh ((rows.take i).filter (mtB vars ts cds NS)) NS.key ks).length≤(rows.take i).length:=jr (jF _ _) (jF _ _)
       rw[jt]at h2
       omega
      rw[←vo]at sO ud
      have wL:=zN vo
      have tF:=zN (fun (X:World) (hX:Ext V4 X)=>(uh.out.ext hX).look Tryz.underlying227 (z:=aB) (by kernel_rfl) tQ ud.out)
      have l0:=tF.out V4 (Ext.refl V4)
      have l1:=tF.out V4.drew (Ext.refl V4).drew
      have l2:=tF.out _ ((Ext.refl V4).alloc (.cells #[.slice BX j dx] 74))
      have l3:=tF.out _ ((Ext.refl V4).alloc (.cells #[.slice BX j dx] 74)).drew
      have l4:=tF.out _ ((Ext.refl V4).drew.alloc (.cells #[.slice BX j dx] 74))
      have wB:=zN (fun (X:World) (hX:Fr (fun q=>(Value.slice Au nu cu).ownBlock=some q∨q=bm) V4 X)=>hX.cell k0 (fun hq=>by
       rcases hq with hq|hq
       ·exact aQ sO.out sQ.out.box (by decide) hq rfl
       ·simp only at hq;omega))
      clear ho sU eu vo
      obtain⟨j0,tO,tZ,ua,ub⟩:=info_parts fD
      have ug:=zN (And.intro tO (And.intro tZ (And.intro ua ub)));clear tO tZ ua ub
      go_upto_region 21 with fail
      go_region_held3 (fun X=>Fr (fun q=>(Value.slice Au nu cu).ownBlock=some q∨q=bm) V4 X∧X.cell? ⟨g,0,none⟩=some (.map (some bm)))
       ((refine(fun he=>⟨he,wB.out _ he⟩) ?_;repeat (first|exact Fr.refl _ _|exact(Fr.refl _ _).drew|exact wv.out|exact sV.out|assumption|refine Fr.drew ?_|refine Fr.alloc ?_ _ )))
       (first
        | (refine bO (by rfl) _ _ _ (by rfl) w8.heap.size 74 j0 aB 1 24 Tryz.underlying38 ug.out.1 ug.out.2.1 ug.out.2.2.1 ug.out.2.2.2 rfl (by omega) (.slice Au nu cu) nu wm (by rfl) (by first|exact aD sO.out ((Ext.refl V4).alloc _)|exact aD sO.out ((Ext.refl V4).alloc _).drew) ⟨V4.heap.size,0,none⟩ 1 1 [.slice BX j dx] (by rfl) (by rfl) (by exact aE V4 _ _) (by simp[Value.oneCell']) (by simp only[maxLen];omega) (by omega) (by simp;omega) ?_;intro v9 w9 sp sh sB;have uX:Fr (fun q=>(Value.slice Au nu cu).ownBlock=some q∨q=bm) V4 w9:=(((Ext.refl V4).alloc (.cells #[.slice BX j dx] 74)).drew.fr _).grown sh (fun q hq=>.inl (.inl hq));have wv:=zN uX;obtain⟨A9,c9,rfl⟩:=af sp;have vh:aI w9 bm k f:=(uh.out.ext ((Ext.refl V4).alloc (.cells #[.slice BX j dx] 74)).drew).fr (am sh) (fun e=>absurd rfl (uh.out.ne_own sO.out e));obtain⟨uy,vt,tR,tg⟩:=upd_run_t Tryz.underlying227 vh (by simp only[maxLen];omega) tQ (.slice A9 (nu+1) c9);have sF:Fr (fun q=>(Value.slice Au nu cu).ownBlock=some q∨q=bm) V4 uy:=uX.grown tg (fun q hq=>.inl (.inr (by injection hq with hq;exact hq.symm)));have sV:=zN sF;have wN:=zN sp;have wA:=zN sh;have wF:=zN sB;have wH:=zN vh;have uL:=zN tR;have uF:=zN tg;clear sp sh sB uX vh tR tg sF))
      all_goals
       have vw:Ext V4 (V4.alloc (.cells #[.slice BX j dx] 74)).drew:=((Ext.refl V4).alloc _).drew
       have te:gM F8 uy w8.heap.size (cI f ks (some (.slice A9 (nu+1) c9))) (addG (lh ((rows.take i).filter (mtB vars ts cds NS)) NS.key) ks x):=gM.push (b:=bm) vA.out vB.out vw (uN.out.ext vw) (fun q hq=>by rw[ue.out]at hq;exact hq.2) (by rw[←wL.out];exact wN.out) (by rw[ud.out];exact wA.out) (by rw[ud.out];exact wF.out) wH.out uF.out (fun hq=>by rw[ue.out]at hq;have:=uB.out;omega)
       rw[←uf.out]at te
       have tU:NsV uy w5.heap.size g bm (.slice Ak nk ck) (.slice Ab sD sC) (.slice Af nf cf) (.slice Ar sK cr) NS:=sQ.out.fr' sV.out (fun hq=>by
        rcases hq with hq|hq
        ·exact aQ sO.out sQ.out.box (by decide) hq rfl
        ·omega) (fun v n xs q ho hv hq=>by
        rcases hq with hq|hq
        ·exact nN ho sO.out (by decide) hv hq
        ·exact uh.out.ne_own ho hv hq)
       have sF:Fr (fun b=>b=bm) w8 uy:=tj.out.comp sV.out (fun q hq=>by
        rcases hq with hq|hq
        ·exact .inr (aw sO.out hq)
        ·exact .inl hq)
       have uA:=zN te;have uO:=zN tU;have uE:=zN sF
       clear vw te tU sF k0 l0 l1 l2 l3 l4 vt
       go_wp2_with fail
       go_roundw
       case rel=>exact⟨i+1,k+1,_,by omega,by omega,by go_num,uO,uL,uA,uE⟩
       case measure=>simp[intOf];omega
    ·obtain rfl:i=nr:=by omega
     have xF:¬(i:Int)<(i:Int):=by omega
     have et:rows.take i=rows:=jp (by have:=vM.out;omega)
     rw[et]at uG
     clear et
     have vU:=uB.out
     have se:=zN (uK.out.fr sX.out (by omega))
     obtain⟨r,hr⟩:=sd (w.heap.size+1+1)
     rw[←hr]at se xe ⊢
     have xQ:w.heap.size≤r:=by omega
     have k0:=su.out.box.c0;have k1:=su.out.box.c1;have k2:=su.out.box.c2;have k3:=su.out.box.c3;have k4:=su.out.box.c4
     have z0:=se.out.c0;have z1:=se.out.c1;have z2:=se.out.c2;have z3:=se.out.c3;have z4:=se.out.c4
     have f0:=se.out.free 0;have f1:=se.out.free 1;have f2:=se.out.free 2;have f3:=se.out.free 3;have f4:=se.out.free 4
     have kz:Bk (((((V.setCell ⟨r,0,none⟩ (.map (some bm))).setCell ⟨r,1,none⟩ (.slice Ab sD sC)).setCell ⟨r,2,none⟩ (.slice Af nf cf)).setCell ⟨r,3,none⟩ (.slice Ar sK cr)).setCell ⟨r,4,none⟩ (aB)) r 229 [.map (some bm),.slice Ab sD sC,.slice Af nf cf,.slice Ar sK cr,aB]:=(((((se.out.set 0 _).set 1 _).set 2 _).set 3 _).set 4 _)
     have sT:Fr (fun k=>k=r) V (((((V.setCell ⟨r,0,none⟩ (.map (some bm))).setCell ⟨r,1,none⟩ (.slice Ab sD sC)).setCell ⟨r,2,none⟩ (.slice Af nf cf)).setCell ⟨r,3,none⟩ (.slice Ar sK cr)).setCell ⟨r,4,none⟩ (aB)):=((((((Fr.refl (fun k=>k=r) V).setCell (p:=⟨r,0,none⟩) (.inl rfl) _).setCell (p:=⟨r,1,none⟩) (.inl rfl) _).setCell (p:=⟨r,2,none⟩) (.inl rfl) _).setCell (p:=⟨r,3,none⟩) (.inl rfl) _).setCell (p:=⟨r,4,none⟩) (.inl rfl) _)
     have tE:=zN kz;have xx:=zN sT
     have wO:Hid (fo.R (fun k=>w.heap.size≤k) (((((V.setCell ⟨r,0,none⟩ (.map (some bm))).setCell ⟨r,1,none⟩ (.slice Ab sD sC)).setCell ⟨r,2,none⟩ (.slice Af nf cf)).setCell ⟨r,3,none⟩ (.slice Ar sK cr)).setCell ⟨r,4,none⟩ (aB)) [.map (some bm),.slice Ab sD sC,.slice Af nf cf,.slice Ar sK cr,aB] ⟨rows.filter (mtB vars ts cds NS),NS.key,NS.bound,NS.fresh,NS.frm,[]⟩):=zN (by
      have xf:ot (fun k=>w.heap.size≤k∧k≠r) V bm (lh (rows.filter (mtB vars ts cds NS)) NS.key):=uG.out.read vJ.out (fun k hk=>by rw[ue.out]at hk;exact⟨by omega,by omega⟩) (fun k hk=>⟨by omega,by omega⟩)
      have hi:∀{v:Value} {l:List Nat} {n:Nat},V.ownsRow w5.heap.size 3 1 v n ((dw l).map I64)→Ins (fun k=>w.heap.size≤k) (((((V.setCell ⟨r,0,none⟩ (.map (some bm))).setCell ⟨r,1,none⟩ (.slice Ab sD sC)).setCell ⟨r,2,none⟩ (.slice Af nf cf)).setCell ⟨r,3,none⟩ (.slice Ar sK cr)).setCell ⟨r,4,none⟩ (aB)) v (dw l):=fun ho=>(((Ins.of_own ho).mono (G:=fun k=>w.heap.size≤k∧k≠r) (fun k _ hk=>⟨by omega,by omega⟩)).fr sT (fun k hk=>hk.2)).mono (fun k _ hk=>hk.1)
      exact⟨bm,_,_,_,_,rfl,by omega,(xf.fr sT (by omega) (fun k hk=>hk.2)).mono (fun k _ hk=>hk.1),hi su.out.ob,hi su.out.of,hi su.out.or,Sl.nil _ _ _⟩)
     have wW:Hid (Ext w (((((V.setCell ⟨r,0,none⟩ (.map (some bm))).setCell ⟨r,1,none⟩ (.slice Ab sD sC)).setCell ⟨r,2,none⟩ (.slice Af nf cf)).setCell ⟨r,3,none⟩ (.slice Ar sK cr)).setCell ⟨r,4,none⟩ (aB))):=zN (sT.new tL.out (fun k hk=>by omega))
     clear kz sT hr
     go_wp2_with fail
     generalize (((((V.setCell ⟨r,0,none⟩ (.map (some bm))).setCell ⟨r,1,none⟩ (.slice Ab sD sC)).setCell ⟨r,2,none⟩ (.slice Af nf cf)).setCell ⟨r,3,none⟩ (.slice Ar sK cr)).setCell ⟨r,4,none⟩ (aB))=wz at *
     have x0:=tE.out.c0;have x1:=tE.out.c1;have x2:=tE.out.c2;have x3:=tE.out.c3;have x4:=tE.out.c4
     exact bodyPost_ret (v:=.agg #[.map (some bm),.slice Ab sD sC,.slice Af nf cf,.slice Ar sK cr,aB]) (by simp[results,Tryz.results183,go_sem,x0,x1,x2,x3,x4]) rfl (HQ.out wz bm _ _ _ wW.out wO.out)
