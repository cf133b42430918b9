/- packed -/
import Derived.Test.YtplldnnnhgnbjaaGreatDoorMu23
namespace Go.Proofs.YtplldnnnhgnbjaaGreatDoor
open Go.RowKit Go.Maps
structure NsV(W:World)(base g bm:Nat)(vk vb vf vr:Value)(s:NsT):Prop where
 box:Bk W g 229 [.map (some bm),vb,vf,vr,nilS]
 ok:W.ownsRow base 3 1 vk s.key.length ((natI s.key).map I64)
 ob:W.ownsRow base 3 1 vb s.bound.length ((natI s.bound).map I64)
 of:W.ownsRow base 3 1 vf s.fresh.length ((natI s.fresh).map I64)
 or:W.ownsRow base 3 1 vr s.frm.length ((natI s.frm).map I64)
 kb:Dsj vk vb
 kf:Dsj vk vf
 kr:Dsj vk vr
 bf:Dsj vb vf
 br:Dsj vb vr
 fr:Dsj vf vr
theorem natI_snoc(l:List Nat)(v:Nat):(natI (l++[v])).map I64=(natI l).map I64++[.int .i64 (v:Int)]:=by simp[natI,I64]
section
variable {W wb w9:World} {base g bm:Nat} {vk vb vf vr v9:Value} {s:NsT} {v:Nat}
theorem NsV.ext(h:NsV W base g bm vk vb vf vr s)(he:Ext W wb):NsV wb base g bm vk vb vf vr s:=⟨h.box.ext he,own_ext' h.ok he,own_ext' h.ob he,own_ext' h.of he,own_ext' h.or he,h.kb,h.kf,h.kr,h.bf,h.br,h.fr⟩
theorem NsV.keep(h:NsV W base g bm vk vb vf vr s)(hg:W.grownBy w9 v9.ownBlock)(ho:∃n xs,W.ownsRow base 3 1 v9 n xs):Bk w9 g 229 [.map (some bm),vb,vf,vr,nilS]:=by
 obtain⟨n,xs,ho⟩:=ho
 exact h.box.fr (grown_fr hg) (fun e=>own_bk ho h.box (by decide) e rfl)
theorem own_set{w:World}{b s n g:Nat}{e t:TypeId}{u:Value}{xs ys:List Value}{p:Addr}{y:Value}(h:w.ownsRow b e s u n xs)(hb:Bk w g t ys)(he:e≠t)(hp:p.block=g):(w.setCell p y).ownsRow b e s u n xs :=
 own_fr h ((Fr.refl (fun k=>k=g) w).setCell (p:=p) (.inl hp) y) (fun k hk e=>own_bk h hb he hk e)
theorem NsV.appK(h:NsV W base g bm vk vb vf vr s)(hr:w9.ownsRow base 3 1 v9 (s.key.length+1) ((natI s.key).map I64++[.int .i64 (v:Int)]))(hg:W.grownBy w9 vk.ownBlock)(hl:Lands W vk v9):NsV w9 base g bm v9 vb vf vr ⟨s.bound,s.key++[v],s.fresh,s.frm⟩:=by
 have e0:=Ext.refl W
 refine⟨h.keep hg ⟨_,_,h.ok⟩,?_,own_beside h.ob e0 h.kb hg,own_beside h.of e0 h.kf hg,own_beside h.or e0 h.kr hg,h.kb.push (fun k hk=>own_lt h.ob hk) hl,h.kf.push (fun k hk=>own_lt h.of hk) hl,h.kr.push (fun k hk=>own_lt h.or hk) hl,h.bf,h.br,h.fr⟩
 show w9.ownsRow base 3 1 v9 (s.key++[v]).length ((natI (s.key++[v])).map I64)
 rw[natI_snoc,jl]
 exact hr
theorem NsV.appB(h:NsV W base g bm vk vb vf vr s)(hr:w9.ownsRow base 3 1 v9 (s.bound.length+1) ((natI s.bound).map I64++[.int .i64 (v:Int)]))(hg:W.grownBy w9 vb.ownBlock)(hl:Lands W vb v9):NsV (w9.setCell ⟨g,1,none⟩ v9) base g bm vk v9 vf vr ⟨s.bound++[v],s.key,s.fresh,s.frm⟩:=by
 have e0:=Ext.refl W
 have hb:=h.keep hg ⟨_,_,h.ob⟩
 refine⟨hb.set 1 v9,own_set (own_beside h.ok e0 h.kb.symm hg) hb (by decide) rfl,?_,own_set (own_beside h.of e0 h.bf hg) hb (by decide) rfl,own_set (own_beside h.or e0 h.br hg) hb (by decide) rfl,(h.kb.symm.push (fun k hk=>own_lt h.ok hk) hl).symm,h.kf,h.kr,h.bf.push (fun k hk=>own_lt h.of hk) hl,h.br.push (fun k hk=>own_lt h.or hk) hl,h.fr⟩
 show (w9.setCell ⟨g,1,none⟩ v9).ownsRow base 3 1 v9 (s.bound++[v]).length ((natI (s.bound++[v])).map I64)
 rw[natI_snoc,jl]
 exact own_set hr hb (by decide) rfl
theorem NsV.appF(h:NsV W base g bm vk vb vf vr s)(hr:w9.ownsRow base 3 1 v9 (s.fresh.length+1) ((natI s.fresh).map I64++[.int .i64 (v:Int)]))(hg:W.grownBy w9 vf.ownBlock)(hl:Lands W vf v9):NsV (w9.setCell ⟨g,2,none⟩ v9) base g bm vk vb v9 vr ⟨s.bound,s.key,s.fresh++[v],s.frm⟩:=by
 have e0:=Ext.refl W
 have hb:=h.keep hg ⟨_,_,h.of⟩
 refine⟨hb.set 2 v9,own_set (own_beside h.ok e0 h.kf.symm hg) hb (by decide) rfl,own_set (own_beside h.ob e0 h.bf.symm hg) hb (by decide) rfl,?_,own_set (own_beside h.or e0 h.fr hg) hb (by decide) rfl,h.kb,(h.kf.symm.push (fun k hk=>own_lt h.ok hk) hl).symm,h.kr,(h.bf.symm.push (fun k hk=>own_lt h.ob hk) hl).symm,h.br,h.fr.push (fun k hk=>own_lt h.or hk) hl⟩
 show (w9.setCell ⟨g,2,none⟩ v9).ownsRow base 3 1 v9 (s.fresh++[v]).length ((natI (s.fresh++[v])).map I64)
 rw[natI_snoc,jl]
 exact own_set hr hb (by decide) rfl
theorem NsV.appR(h:NsV W base g bm vk vb vf vr s)(hr:w9.ownsRow base 3 1 v9 (s.frm.length+1) ((natI s.frm).map I64++[.int .i64 (v:Int)]))(hg:W.grownBy w9 vr.ownBlock)(hl:Lands W vr v9):NsV (w9.setCell ⟨g,3,none⟩ v9) base g bm vk vb vf v9 ⟨s.bound,s.key,s.fresh,s.frm++[v]⟩:=by
 have e0:=Ext.refl W
 have hb:=h.keep hg ⟨_,_,h.or⟩
 refine⟨hb.set 3 v9,own_set (own_beside h.ok e0 h.kr.symm hg) hb (by decide) rfl,own_set (own_beside h.ob e0 h.br.symm hg) hb (by decide) rfl,own_set (own_beside h.of e0 h.fr.symm hg) hb (by decide) rfl,?_,h.kb,h.kf,(h.kr.symm.push (fun k hk=>own_lt h.ok hk) hl).symm,h.bf,(h.br.symm.push (fun k hk=>own_lt h.ob hk) hl).symm,(h.fr.symm.push (fun k hk=>own_lt h.of hk) hl).symm⟩
 show (w9.setCell ⟨g,3,none⟩ v9).ownsRow base 3 1 v9 (s.frm++[v]).length ((natI (s.frm++[v])).map I64)
 rw[natI_snoc,jl]
 exact own_set hr hb (by decide) rfl
theorem NsV.start(w:World)(bm g base:Nat)(h:Bk w g 229 [.map (some bm),nilS,nilS,nilS,nilS]):NsV w base g bm nilS nilS nilS nilS ⟨[],[],[],[]⟩:=
 ⟨h,World.ownsRow_nil _ _ _ _,World.ownsRow_nil _ _ _ _,World.ownsRow_nil _ _ _ _,World.ownsRow_nil _ _ _ _,Dsj.nil_left _ _ _,Dsj.nil_left _ _ _,Dsj.nil_left _ _ _,Dsj.nil_left _ _ _,Dsj.nil_left _ _ _,Dsj.nil_left _ _ _⟩
end
theorem nsStep_neg{B:List Nat}{s:NsT}{v:Int}{j:Nat}(h:v<0):nsStep B s v j=s:=if_pos h
theorem nsStep_bd{B:List Nat}{s:NsT}{u j:Nat}(h:u∈B):nsStep B s (u:Int) j=⟨s.bound++[u],s.key++[j],s.fresh,s.frm⟩:=by
 unfold nsStep
 rw[if_neg (by omega),jO,if_pos h]
theorem nsStep_old{B:List Nat}{s:NsT}{u j:Nat}(h:u ∉ B)(h2:u∈s.fresh):nsStep B s (u:Int) j=s:=by
 unfold nsStep
 rw[if_neg (by omega),jO,if_neg h,if_pos h2]
theorem nsStep_new{B:List Nat}{s:NsT}{u j:Nat}(h:u ∉ B)(h2:u ∉ s.fresh):nsStep B s (u:Int) j=⟨s.bound,s.key,s.fresh++[u],s.frm++[j]⟩:=by
 unfold nsStep
 rw[if_neg (by omega),jO,if_neg h,if_neg h2]
theorem nsAt_len(B:List Nat)(nv:List Int):∀j,(nsAt B nv j).bound.length≤j∧(nsAt B nv j).key.length≤j∧(nsAt B nv j).fresh.length≤j∧(nsAt B nv j).frm.length≤j
 | 0=>⟨jq _,jq _,jq _,jq _⟩
 | j+1=>by
  obtain⟨h1,h2,h3,h4⟩:=nsAt_len B nv j
  rw[show nsAt B nv (j+1)=nsStep B (nsAt B nv j) (nv.getD j (-1)) j from rfl]
  unfold nsStep
  split
  ·exact⟨by omega,by omega,by omega,by omega⟩
  ·split
   ·simp only[jl,jD,zn]
    exact⟨by omega,by omega,by omega,by omega⟩
   ·split
    ·exact⟨by omega,by omega,by omega,by omega⟩
    ·simp only[jl,jD,zn]
     exact⟨by omega,by omega,by omega,by omega⟩
theorem add_zero'(g i:Nat):(⟨g,0,none⟩:Addr).add i=⟨g,i,none⟩:=by
 unfold Addr.add
 split
 ·rename_i h
  rw[show i=0 by simpa using h]
 ·simp
theorem NsV.fr'{S:Nat→Prop}{W w9:World}{base g bm:Nat}{vk vb vf vr:Value}{s:NsT}(h:NsV W base g bm vk vb vf vr s)(hf:Fr S W w9)(hg:¬S g)(hs:∀v n xs k,W.ownsRow base 3 1 v n xs→v.ownBlock=some k→¬S k):NsV w9 base g bm vk vb vf vr s :=
 ⟨h.box.fr hf hg,own_fr h.ok hf (fun k hk=>hs _ _ _ k h.ok hk),own_fr h.ob hf (fun k hk=>hs _ _ _ k h.ob hk),own_fr h.of hf (fun k hk=>hs _ _ _ k h.of hk),own_fr h.or hf (fun k hk=>hs _ _ _ k h.or hk),h.kb,h.kf,h.kr,h.bf,h.br,h.fr⟩
theorem keyV_len{v:Vl}(h:VOk v):(keyV v).length≤1048700:=by
 unfold keyV
 have h1:=Lib.itoa_length_le v.kind h.k0 h.k1
 have h2:=Lib.itoa_length_le v.int h.i0 h.i1
 have h3:=Lib.itoa_length_le (v.str.size:Int) (by omega) (by have:=h.str;omega)
 have h4:=h.str
 have h5:=data_len' v.str
 simp only[jl,jD,zn]
 omega
theorem keyR_len:∀{xs:List Vl},(∀v∈xs,VOk v)→(keyR xs).length≤xs.length*1048700
 | [],_=>by simp[keyR]
 | v::xs,h=>by
  have h1:=keyV_len (h v (by simp))
  have h2:=keyR_len (xs:=xs) (fun u hu=>h u (jr _ hu))
  unfold keyR at h2 ⊢
  rw[jQ,jl,jD,zN]
  omega
theorem keyS_size(xs:List Vl):(keyS xs).size=(keyR xs).length:=by
 unfold keyS ByteArray.size
 simp
def StepPost(s:Sm)(w:World)(e:Ending)(w':World):Prop:=Ext w w'∧∃mb u1 u2 u3,e=.returned (.agg #[.map (some mb),u1,u2,u3,nilS])∧rdSm.R (fun k=>w.heap.size≤k) w' [.map (some mb),u1,u2,u3,nilS] s
set_option maxRecDepth 20000 in
set_option maxHeartbeats 6400000 in
theorem newstep_any{F G H K:Nat→Prop}{w:World}{b n b2 n2 nc cc nb cb d:Nat}{m:Dm}{ng:Bool}{rl:ByteArray}{B C BD:Option Addr}{ts:List Tm}{vars:List ByteArray}{cds:List Cd}{Bl:List Nat}{bl:List Int}{x:En}(hD:DbB F w b n m)(hm:m rl=some x)(hrl:rl.size≤maxLen)(hT:Cl G w B (tcells ts))(hN:MapV w b2 n2 (numF vars))(hC:Sl rdCds K w (.slice C nc cc) ((List.range vars.length).map (cdsAt vars cds)))(hB:Ins H w (.slice BD nb cb) bl)(hbn:bl.length=vars.length)(hbl:∀v (hv:v<bl.length),0<bl[v]↔v∈Bl)(hv:∀t∈ts,t.var≠⟨#[]⟩→t.var∈vars)(hts:∀t∈ts,t.var.size≤maxLen)(hrows:∀r∈x.rel.rows,r.length=ts.length∧∀v∈r,okV v=true∧VOk v)(hrn:x.rel.rows.length≤1000000)(hcd:∀c∈cds,condV c=0∧c.str.size≤maxLen)(hb1:ts.length≤10000)(hb2:cds.length≤1000000)(hb3:vars.length≤1000000)(htab:TabE w) :
  Calls Tryz.prog 183 #[.agg #[.bool ng,.string rl,.slice B ts.length d],.agg #[.map (some b)],.map (some b2),.slice C nc cc,.slice BD nb cb] w
   (StepPost ⟨x.rel.rows.filter (mtB vars ts cds (nsOf vars Bl ts)),(nsOf vars Bl ts).key,(nsOf vars Bl ts).bound,(nsOf vars Bl ts).fresh,(nsOf vars Bl ts).frm,[]⟩ w):=by
 obtain⟨nt,hnt⟩:∃nt,nt=ts.length:=⟨_,rfl⟩
 obtain⟨ra,hra⟩:∃k,k=x.rel.ar:=⟨_,rfl⟩
 obtain⟨nr,hnr⟩:∃k,k=x.rel.rows.length:=⟨_,rfl⟩
 have HREL:=zO (fun (V:World) (hV:Ext w V)=>(relation_any (s:=rl) (hD.ext hV) hrl).mono (R':=fun e w'=>Ext V w'∧∃A c,e=.returned (.tuple #[.agg #[.int .i64 ra,.slice A nr c],.bool true])∧Sl rdRow F w' (.slice A nr c) x.rel.rows) (by
  rintro e w' ⟨he,⟨h0,-⟩|⟨y,A,c,h0,rfl,hin⟩⟩
  ·rw[hm]at h0
   cases h0
  ·rw[hm]at h0
   injection h0 with h0
   subst h0
   rw[hra,hnr]
   exact⟨he,A,c,rfl,hin⟩))
 have hnok:=nsOf_ok vars Bl ts
 obtain⟨NS,hNS⟩:∃s,s=nsOf vars Bl ts:=⟨_,rfl⟩
 have hNS2:NS=nsAt Bl (numsN vars ts) nt:=by rw[hNS,hnt];rfl
 have hfr:∀v∈NS.fresh,v<vars.length:=fun v hvm=>by
  rw[hNS]at hvm
  obtain⟨-,t,ht,h1,rfl⟩:=(fresh_iff hv).1 hvm
  exact pos_lt (hv t ht h1)
 have hkl:=nsAt_len Bl (numsN vars ts) nt
 rw[←hNS2]at hkl
 rw[←hNS]at hnok ⊢
 have hfc:∀c∈NS.frm,c<nt:=fun c hc=>by
  obtain⟨i,hi,rfl⟩:=jv hc
  have hz:=zip_at (s:=NS) hnok.l2 (i:=i) (by rw[hnok.l2];exact hi)
  rw[hnt]
  exact((hnok.fr _ _).1 hz).1
 have hkc:∀c∈NS.key,c<nt:=fun c hc=>by
  obtain⟨i,hi,rfl⟩:=jv hc
  have hz:=jg (l:=NS.bound.zip NS.key) (n:=i) (by rw[zr,hnok.l1];omega)
  rw[zA]at hz
  rw[hnt]
  exact((hnok.bd _ _).1 hz).1
 rw[←hnt]at hb1 ⊢
 rw[←hnr]at hrn
 obtain⟨BD',cb',e,-,hBc⟩:=hB
 injection e with e1 e2 e3
 subst e1
 clear e3
 have HQ:=zO (fun (V:World) (mb:Nat) (u1 u2 u3:Value) (h0:Ext w V) (h1:rdSm.R (fun k=>w.heap.size≤k) V [.map (some mb),u1,u2,u3,nilS] ⟨x.rel.rows.filter (mtB vars ts cds NS),NS.key,NS.bound,NS.fresh,NS.frm,[]⟩)=>(show StepPost ⟨x.rel.rows.filter (mtB vars ts cds NS),NS.key,NS.bound,NS.fresh,NS.frm,[]⟩ w (.returned (.agg #[.map (some mb),u1,u2,u3,nilS])) V from ⟨h0,mb,u1,u2,u3,rfl,h1⟩))
 obtain⟨PP,hPP⟩:∃P,P=StepPost ⟨x.rel.rows.filter (mtB vars ts cds NS),NS.key,NS.bound,NS.fresh,NS.frm,[]⟩ w:=⟨_,rfl⟩
 rw[←hPP]at HQ ⊢
 obtain⟨rows,hrw⟩:∃l,l=x.rel.rows:=⟨_,rfl⟩
 rw[←hrw]at HREL HQ hrows hnr
 have HT:=zO hT;have HN:=zO hN;have HC:=zO hC;have HBC:=zO hBc;have HBN:=zO hbn;have HBL:=zO hbl;have HV:=zO hv;have HTS:=zO hts;have HROWS:=zO hrows;have HCD:=zO hcd;have HTAB:=zO htab;have HNT:=zO hnt;have HNR:=zO hnr;have HNS:=zO hNS2;have HFR:=zO hfr;have HFC:=zO hfc;have HKC:=zO hkc;have HNOK:=zO hnok;have HE2:=zO e2;have HKL:=zO hkl
 have k3:=three_blk w 49 33 229 [.bool ng,.string rl,.slice B nt d] [.map (some b)] [.map none,nilS,nilS,nilS,nilS]
 have hx:=((((Ext.refl w).alloc (.cells #[.bool ng,.string rl,.slice B nt d] 49)).alloc (.cells #[.map (some b)] 33)).alloc (.cells #[.map none,nilS,nilS,nilS,nilS] 229))
 have hmm:=@run_makeMap Tryz.prog
 clear hD hm hT hN hC hBc hbn hbl hv hts hrows hcd htab hnt hra hnr hrw hNS hNS2 hfr hfc hkc hnok e2 hkl hPP
 obtain⟨i0,hi0,hz0,hz1,hz2⟩:=info_parts info_i64
 have HI0:=zO (And.intro hi0 (And.intro hz0 (And.intro hz1 hz2)));clear hi0 hz0 hz1 hz2
 go_enter Tryz.func183,Tryz.ntmps183
 go_upto_region 1 with fail
 change Bk (((w.alloc (.cells #[.bool ng,.string rl,.slice B nt d] 49)).alloc (.cells #[.map (some b)] 33)).alloc (.cells #[.map none,nilS,nilS,nilS,nilS] 229)) _ _ _∧Bk (((w.alloc (.cells #[.bool ng,.string rl,.slice B nt d] 49)).alloc (.cells #[.map (some b)] 33)).alloc (.cells #[.map none,nilS,nilS,nilS,nilS] 229)) _ _ _∧Bk (((w.alloc (.cells #[.bool ng,.string rl,.slice B nt d] 49)).alloc (.cells #[.map (some b)] 33)).alloc (.cells #[.map none,nilS,nilS,nilS,nilS] 229)) _ _ _ at k3
 generalize (((w.alloc (.cells #[.bool ng,.string rl,.slice B nt d] 49)).alloc (.cells #[.map (some b)] 33)).alloc (.cells #[.map none,nilS,nilS,nilS,nilS] 229))=w1 at *
 obtain⟨ka,kd,kr⟩:=k3
 have HX1:=zO hx;have HKA:=zO ka;have HKD:=zO kd;have HKR:=zO kr
 have hlr:=kr.lt
 clear hx ka kd kr
 go_upto_region 2 with fail
 obtain⟨bm,hbm⟩:∃k,k=w1.heap.size:=⟨_,rfl⟩
 have hm1:=MapV.made w1
 have kb:=Bk.new (w1.alloc (.map #[] 0)) 229 [.map (some w1.heap.size),nilS,nilS,nilS,nilS]
 rw[show (w1.alloc (.map #[] 0)).heap.size=w1.heap.size+1 by simp]at kb
 have hx2:Ext w1 ((w1.alloc (.map #[] 0)).alloc (.cells #[.map (some w1.heap.size),nilS,nilS,nilS,nilS] 229)):=((Ext.refl w1).alloc _).alloc _
 have hm2:=hm1.ext ((Ext.refl (w1.alloc (.map #[] 0))).alloc (.cells #[.map (some w1.heap.size),nilS,nilS,nilS,nilS] 229))
 rw[←hbm]at kb hx2 hm2 hlr ⊢
 change Bk ((w1.alloc (.map #[] 0)).alloc (.cells #[.map (some bm),nilS,nilS,nilS,nilS] 229)) _ _ _ at kb
 generalize ((w1.alloc (.map #[] 0)).alloc (.cells #[.map (some bm),nilS,nilS,nilS,nilS] 229))=w5 at *
 have HX5:=zO (HX1.out.trans hx2);have HKA5:=zO (HKA.out.ext hx2);have HKD5:=zO (HKD.out.ext hx2);have HKR5:=zO (HKR.out.ext hx2)
 obtain⟨g,hg⟩:∃g,g=bm+1:=⟨_,rfl⟩
 rw[←hg]at kb ⊢
 have hgb:w.heap.size+1+1<bm:=hlr
 have hg5:g<w5.heap.size:=kb.lt
 have HNV:=zO (NsV.start w5 bm g w5.heap.size kb);have HM5:=zO hm2
 have a2:=HKA5.out.cell (i:=2) (by simp)
 simp only[ja,je]at a2
 have hgg:bm<g:=by omega
 clear hm1 hm2 kb hx2 hbm hmm hlr hg
 go_wp2_with fail
 clear a2
 go_loopw [26,12] (fun t k wr=>∃(j:Nat) (vb vf vr:Value),j≤nt∧t=.int .i64 (j:Int)∧Hid (NsV wr w5.heap.size g bm k vb vf vr (nsAt Bl (numsN vars ts) j))∧Hid (Fr (fun b=>b=g) w5 wr)) (fun t _ _=>nt-(intOf t).toNat)
 case atStart=>exact⟨0,_,_,_,jn _,rfl,HNV,zO (Fr.refl _ _)⟩
 case round =>
  obtain⟨j,vb,vf,vr,hj,rfl,HS,HFW⟩:=hrel
  obtain⟨W,rfl⟩:∃W:World,W=wr:=⟨_,rfl⟩
  obtain⟨s,hs⟩:∃s,s=nsAt Bl (numsN vars ts) j:=⟨_,rfl⟩
  rw[←hs]at HS
  have HSS:=zO hs
  obtain⟨Ak,ck,rfl⟩:=own_slice HS.out.ok
  obtain⟨Ab,cb2,rfl⟩:=own_slice HS.out.ob
  obtain⟨Af,cf,rfl⟩:=own_slice HS.out.of
  obtain⟨Ar,cr,rfl⟩:=own_slice HS.out.or
  have HXR:=zO (HFW.out.new HX5.out (fun b hb=>by omega))
  have hwr5:w5.heap.size≤W.heap.size:=HFW.out.size
  by_cases hjl:j<nt
  ·have j1:(0:Int)≤(j:Int):=by omega
   have j2:(j:Int)<(nt:Int):=by omega
   have hjt:j<ts.length:=by have:=HNT.out;omega
   obtain⟨adt,rfl,-,e0,e1,e2,e3⟩:=HT.out.term hjt
   replace e0:=HXR.out.cell e0;replace e1:=HXR.out.cell e1;replace e2:=HXR.out.cell e2;replace e3:=HXR.out.cell e3
   have hzt:=HTS.out _ (jg hjt)
   have hvt:=HV.out _ (jg hjt)
   have hstep:nsAt Bl (numsN vars ts) (j+1)=nsStep Bl (nsAt Bl (numsN vars ts) j) (numN vars ts[j].var) j:=by
    show nsStep Bl _ ((numsN vars ts).getD j (-1)) j=_
    rw[jF,nums_at hjt]
    rfl
   have hnum:=numF_get vars ts[j].var
   have hln:=nsAt_len Bl (numsN vars ts) j
   obtain⟨t,ht⟩:∃t,t=ts[j]:=⟨_,rfl⟩
   rw[←ht]at e0 e1 e2 e3 hzt hvt hstep hnum
   obtain⟨tv,tk,ti,tst⟩:=t
   simp only at e0 e1 e2 e3 hzt hvt hstep hnum
   obtain⟨v,hvn⟩:∃v,v=numN vars tv:=⟨_,rfl⟩
   have hvr:v<0∨∃u:Nat,v=(u:Int)∧u<vars.length:=by
    by_cases h0:tv=⟨#[]⟩
    ·left;rw[hvn];unfold numN;rw[if_pos h0];omega
    ·right;exact⟨posN vars tv,by rw[hvn,num_var h0 (hvt h0)],pos_lt (hvt h0)⟩
   rw[←hvn]at hstep hnum
   rw[←hs]at hstep hln
   have HSTEP:=zO hstep;have HNUM:=zO hnum;have HLN:=zO hln
   have kt:=Bk.new W 132 [.string tv,.int .i64 tk,.int .i64 ti,.string tst]
   change Bk (W.alloc (.cells #[.string tv,.int .i64 tk,.int .i64 ti,.string tst] 132)) _ _ _ at kt
   have hx6:Ext W (W.alloc (.cells #[.string tv,.int .i64 tk,.int .i64 ti,.string tst] 132)):=(Ext.refl W).alloc _
   clear ht hvt hstep hnum hs hln hjt hvn
   go_upto_region 6 with fail
   generalize (W.alloc (.cells #[.string tv,.int .i64 tk,.int .i64 ti,.string tst] 132))=W2 at *
   have t0:=kt.cell (i:=0) (by simp)
   simp only[ja,je]at t0
   have HS2:=zO (HS.out.ext hx6);have HF2:=zO (HFW.out.ext hx6)
   have HN2:=zO (HN.out.ext (HXR.out.trans hx6))
   have hwr6:w5.heap.size≤W2.heap.size:=by have:=hx6.size;omega
   have HXW2:=zO (HXR.out.trans hx6)
   clear kt hx6 e0 e1 e2 e3
   rcases hvr with hneg|⟨u,rfl,hul⟩
   ·have HNEXT:=zO (HSTEP.out.trans (nsStep_neg hneg))
    go_wp2_with (first
     | (refine wpList_lookup_V rfl _ _ 145 3 rfl Tryz.underlying145 (.int .i64 0) (zero_int _) b2 n2 _ rfl HN2.out tv rfl hzt (.int .i64 v) HNUM.out ?_))
    go_roundw
    case rel=>exact⟨j+1,_,_,_,by omega,by go_num,zO (by rw[HNEXT.out];exact HS2.out),HF2⟩
    case measure=>simp[intOf];omega
   ·have u0:¬(u:Int)<0:=by omega
    have u1:(0:Int)≤(u:Int):=by omega
    have hub:u<bl.length:=by have:=HBN.out;omega
    have hun:u<nb:=by have:=HE2.out;omega
    have u2:(u:Int)<(nb:Int):=by omega
    obtain⟨adb,rfl,-,q0⟩:=HBC.out.int hub
    replace q0:=HXW2.out.cell q0
    have hiff:=HBL.out u hub
    obtain⟨bv,hbv⟩:∃q,q=bl[u]:=⟨_,rfl⟩
    rw[←hbv]at q0 hiff
    clear hbv hub
    by_cases hb0 : 0<bv
    ·have HNEXT:=zO (HSTEP.out.trans (nsStep_bd (hiff.1 hb0)))
     clear hiff
     have y1:=HS2.out.box.cell (i:=1) (by simp)
     simp only[ja,je]at y1
     go_upto_region 10 with (first
      | (refine wpList_lookup_V rfl _ _ 145 3 rfl Tryz.underlying145 (.int .i64 0) (zero_int _) b2 n2 _ rfl HN2.out tv rfl hzt (.int .i64 (u:Int)) HNUM.out ?_)
      | (at_builtin;refine wpList_append_at rfl _ _ 63 rfl w5.heap.size 3 i0 (.int .i64 0) 1 8 Tryz.underlying63 HI0.out.1 HI0.out.2.1 HI0.out.2.2.1 HI0.out.2.2.2 rfl (by omega) (.slice Ab s.bound.length cb2) s.bound.length ((natI s.bound).map I64) rfl (HS2.out.ob.alloc _) ⟨W2.heap.size,0,none⟩ 1 1 [.int .i64 (u:Int)] rfl rfl (laid_news W2 _ _) (by simp[Value.oneCell']) (by have:=HLN.out;simp only[maxLen];omega) (by have:=HLN.out;omega) (by simp;omega) ?_;intro v9 w9 hr9 hg9 hl9;obtain⟨A9,c9,rfl⟩:=own_slice hr9;have hxg:=(Ext.refl W2).alloc (.cells #[.int .i64 (u:Int)] 3);have hnv:=HS2.out.ext hxg;have hk9:=hnv.keep hg9 ⟨_,_,hnv.ob⟩;have q9:=hk9.cell (i:=1) (by simp);have f9:=hk9.free 1;simp only[ja,je]at q9;have HS3:=zO (NsV.appB hnv hr9 hg9 hl9);have HF3:=zO (((HF2.out.ext hxg).grown hg9 (fun b hb=>.inr (own_ge hnv.ob hb))).setCell (p:=⟨g,1,none⟩) (.inl rfl) (.slice A9 (s.bound.length+1) c9));clear hr9 hg9 hl9 hxg hnv hk9))
     have hw3:w5.heap.size≤(w9.setCell ⟨g,1,none⟩ (.slice A9 (s.bound.length+1) c9)).heap.size:=HF3.out.size
     generalize (w9.setCell ⟨g,1,none⟩ (.slice A9 (s.bound.length+1) c9))=W3 at *
     clear y1 q9 f9
     go_wp2_with (first
      | (at_builtin;refine wpList_append_at rfl _ _ 63 rfl w5.heap.size 3 i0 (.int .i64 0) 1 8 Tryz.underlying63 HI0.out.1 HI0.out.2.1 HI0.out.2.2.1 HI0.out.2.2.2 rfl (by omega) (.slice Ak s.key.length ck) s.key.length ((natI s.key).map I64) rfl (HS3.out.ok.alloc _) ⟨W3.heap.size,0,none⟩ 1 1 [.int .i64 (j:Int)] rfl rfl (laid_news W3 _ _) (by simp[Value.oneCell']) (by have:=HLN.out;simp only[maxLen];omega) (by have:=HLN.out;omega) (by simp;omega) ?_;intro v9 w9 hr9 hg9 hl9;obtain⟨A9,c9,rfl⟩:=own_slice hr9;have hxg:=(Ext.refl W3).alloc (.cells #[.int .i64 (j:Int)] 3);have hnv:=HS3.out.ext hxg;have HS4:=zO (NsV.appK hnv hr9 hg9 hl9);have HF4:=zO ((HF3.out.ext hxg).grown hg9 (fun b hb=>.inr (own_ge hnv.ok hb)));clear hr9 hg9 hl9 hxg hnv))
     go_roundw
     case rel=>exact⟨j+1,_,_,_,by omega,by go_num,zO (by rw[HNEXT.out];exact HS4.out),HF4⟩
     case measure=>simp[intOf];omega
    ·have hnB:u ∉ Bl:=fun h=>hb0 (hiff.2 h)
     clear hiff
     have HCT:=zO (contains_z (v:=(u:Int)) (Ins.of_own HS2.out.of) (by have:=HLN.out;omega))
     have y2:=HS2.out.box.cell (i:=2) (by simp);have y3:=HS2.out.box.cell (i:=3) (by simp)
     simp only[ja,je]at y2 y3
     by_cases hold:u∈s.fresh
     ·have HNEXT:=zO (HSTEP.out.trans (nsStep_old hnB hold))
      have HDC:Hid (decide ((u:Int)∈natI s.fresh)=true):=zO (decide_eq_true (jE.2 ⟨u,hold,rfl⟩))
      clear hold hnB
      go_wp2_with (first
      | (refine wpList_lookup_V rfl _ _ 145 3 rfl Tryz.underlying145 (.int .i64 0) (zero_int _) b2 n2 _ rfl HN2.out tv rfl hzt (.int .i64 (u:Int)) HNUM.out ?_))
      refine HCT.out.mono ?_
      rintro e w' ⟨rfl,rfl⟩
      rw[HDC.out]
      clear y2 y3
      go_wp2_with fail
      go_roundw
      case rel=>exact⟨j+1,_,_,_,by omega,by go_num,zO (by rw[HNEXT.out];exact HS2.out),HF2⟩
      case measure=>simp[intOf];omega
     ·have HNEXT:=zO (HSTEP.out.trans (nsStep_new hnB hold))
      have HDC:Hid (decide ((u:Int)∈natI s.fresh)=false):=zO (decide_eq_false (fun hm=>by
       obtain⟨k,hk,e⟩:=jE.1 hm
       have:k=u:=by omega
       exact hold (this ▸ hk)))
      clear hold hnB
      go_wp2_with (first
      | (refine wpList_lookup_V rfl _ _ 145 3 rfl Tryz.underlying145 (.int .i64 0) (zero_int _) b2 n2 _ rfl HN2.out tv rfl hzt (.int .i64 (u:Int)) HNUM.out ?_))
      refine HCT.out.mono ?_
      rintro e w' ⟨rfl,rfl⟩
      rw[HDC.out]
      go_upto_region 13 with (first
       | (at_builtin;refine wpList_append_at rfl _ _ 63 rfl w5.heap.size 3 i0 (.int .i64 0) 1 8 Tryz.underlying63 HI0.out.1 HI0.out.2.1 HI0.out.2.2.1 HI0.out.2.2.2 rfl (by omega) (.slice Af s.fresh.length cf) s.fresh.length ((natI s.fresh).map I64) rfl (HS2.out.of.alloc _) ⟨W2.heap.size,0,none⟩ 1 1 [.int .i64 (u:Int)] rfl rfl (laid_news W2 _ _) (by simp[Value.oneCell']) (by have:=HLN.out;simp only[maxLen];omega) (by have:=HLN.out;omega) (by simp;omega) ?_;intro v9 w9 hr9 hg9 hl9;obtain⟨A9,c9,rfl⟩:=own_slice hr9;have hxg:=(Ext.refl W2).alloc (.cells #[.int .i64 (u:Int)] 3);have hnv:=HS2.out.ext hxg;have hk9:=hnv.keep hg9 ⟨_,_,hnv.of⟩;have q9:=hk9.cell (i:=2) (by simp);have f9:=hk9.free 2;simp only[ja,je]at q9;have HS3:=zO (NsV.appF hnv hr9 hg9 hl9);have HF3:=zO (((HF2.out.ext hxg).grown hg9 (fun b hb=>.inr (own_ge hnv.of hb))).setCell (p:=⟨g,2,none⟩) (.inl rfl) (.slice A9 (s.fresh.length+1) c9));clear hr9 hg9 hl9 hxg hnv hk9))
      have hw3:w5.heap.size≤(w9.setCell ⟨g,2,none⟩ (.slice A9 (s.fresh.length+1) c9)).heap.size:=HF3.out.size
      generalize (w9.setCell ⟨g,2,none⟩ (.slice A9 (s.fresh.length+1) c9))=W3 at *
      clear y2 y3 q9 f9
      have y3:=HS3.out.box.cell (i:=3) (by simp)
      simp only[ja,je]at y3
      go_wp2_with (first
       | (at_builtin;refine wpList_append_at rfl _ _ 63 rfl w5.heap.size 3 i0 (.int .i64 0) 1 8 Tryz.underlying63 HI0.out.1 HI0.out.2.1 HI0.out.2.2.1 HI0.out.2.2.2 rfl (by omega) (.slice Ar s.frm.length cr) s.frm.length ((natI s.frm).map I64) rfl (HS3.out.or.alloc _) ⟨W3.heap.size,0,none⟩ 1 1 [.int .i64 (j:Int)] rfl rfl (laid_news W3 _ _) (by simp[Value.oneCell']) (by have:=HLN.out;simp only[maxLen];omega) (by have:=HLN.out;omega) (by simp;omega) ?_;intro v9 w9 hr9 hg9 hl9;obtain⟨A9,c9,rfl⟩:=own_slice hr9;have hxg:=(Ext.refl W3).alloc (.cells #[.int .i64 (j:Int)] 3);have hnv:=HS3.out.ext hxg;have hk9:=hnv.keep hg9 ⟨_,_,hnv.or⟩;have q9:=hk9.cell (i:=3) (by simp);have f9:=hk9.free 3;simp only[ja,je]at q9;have HS4:=zO (NsV.appR hnv hr9 hg9 hl9);have HF4:=zO (((HF3.out.ext hxg).grown hg9 (fun b hb=>.inr (own_ge hnv.or hb))).setCell (p:=⟨g,3,none⟩) (.inl rfl) (.slice A9 (s.frm.length+1) c9));clear hr9 hg9 hl9 hxg hnv hk9))
      go_roundw
      case rel=>exact⟨j+1,_,_,_,by omega,by go_num,zO (by rw[HNEXT.out];exact HS4.out),HF4⟩
      case measure=>simp[intOf];omega
  ·obtain rfl:j=nt:=by omega
   have hdj:¬(j:Int)<(j:Int):=by omega
   obtain rfl:NS=s:=by rw[HNS.out];exact hs.symm
   obtain⟨nk,hnk⟩:∃k,k=NS.key.length:=⟨_,rfl⟩
   obtain⟨nbd,hnbd⟩:∃k,k=NS.bound.length:=⟨_,rfl⟩
   obtain⟨nf,hnf⟩:∃k,k=NS.fresh.length:=⟨_,rfl⟩
   obtain⟨nfm,hnfm⟩:∃k,k=NS.frm.length:=⟨_,rfl⟩
   rw[←hnk,←hnbd,←hnf,←hnfm]at HS
   have hkb:nk≤j∧nf≤j:=by have:=HKL.out;omega
   have HNK:=zO hnk;have HNF:=zO hnf;have HNFM:=zO hnfm
   rw[←hnk]
   have HKA6:=zO (HKA5.out.fr HFW.out (by omega));have HKD6:=zO (HKD5.out.fr HFW.out (by omega));have HKR6:=zO (HKR5.out.fr HFW.out (by omega))
   have HM6:=zO (HM5.out.fr HFW.out (by omega))
   have a1:=HKA6.out.cell (i:=1) (by simp);have d0:=HKD6.out.cell (i:=0) (by simp)
   simp only[ja,je]at a1 d0
   clear hs hnk hnbd hnf hnfm HNV HM5 HKA5 HKD5 HKR5
   go_wp2_with fail
   refine(HREL.out _ HXR.out).mono ?_
   rintro e w6 ⟨he6,A,c,rfl,hsl⟩
   have hgW:g<W.heap.size:=by omega
   have HS6:=zO (HS.out.ext he6);have HKA7:=zO (HKA6.out.ext he6);have HKR7:=zO (HKR6.out.ext he6);have HM7:=zO (HM6.out.ext he6);have HX6:=zO (HXR.out.trans he6);have HSL:=zO hsl
   have hw6:W.heap.size≤w6.heap.size:=he6.size
   clear he6 hsl a1 d0 HKA6 HKR6 HM6
   go_upto_region 16 with fail
   have kr2:=Bk.new w6 179 [.int .i64 ra,.slice A nr c]
   change Bk (w6.alloc (.cells #[.int .i64 ra,.slice A nr c] 179)) _ _ _ at kr2
   have hx7:Ext w6 (w6.alloc (.cells #[.int .i64 ra,.slice A nr c] 179)):=(Ext.refl w6).alloc _
   generalize (w6.alloc (.cells #[.int .i64 ra,.slice A nr c] 179))=w7 at *
   have r0:=kr2.cell (i:=0) (by simp);have r1:=kr2.cell (i:=1) (by simp)
   simp only[ja,je]at r0 r1
   have HROW:=zO (rows_any (a:=ra) (HSL.out.ext hx7) (fun r hr=>by have:=(HROWS.out r hr).1;have:=HNT.out;omega) (show nr≤1048576 by omega))
   have HX7:=zO hx7
   have hw7:w6.heap.size<w7.heap.size:=kr2.lt
   clear kr2 hx7
   go_wp2_with fail
   refine HROW.out.mono ?_
   rintro e w8 ⟨he8,gR,us,hgR,rfl,how⟩
   have hx8:=HX7.out.trans he8
   have HS8:=zO (HS6.out.ext hx8);have HKA8:=zO (HKA7.out.ext hx8);have HKR8:=zO (HKR7.out.ext hx8);have HM8:=zO (HM7.out.ext hx8);have HX8:=zO (HX6.out.trans hx8)
   have hsl8:Sl rdRow (fun k=>gR≤k∧k<w8.heap.size) w8 (.slice (some ⟨gR,0,none⟩) nr nr) rows:=(how.sl (G:=fun k=>gR≤k) (fun k hk=>own_ge how.own hk) (fun k hk=>by omega)).mono (by decide) (fun k h1 h2=>⟨h2,h1⟩)
   have HSL8:=zO hsl8
   have hgR8:gR<w8.heap.size:=own_lt how.own rfl
   have hbmR:bm<gR:=by omega
   have hbase8:w5.heap.size≤w8.heap.size:=by omega
   have HBM:=zO hbmR
   clear he8 hx8 how hsl8 r0 r1 HS6 HKA7 HKR7 HM7 HSL
   obtain⟨F8,hF8⟩:∃F:Nat→Prop,F=fun k=>gR≤k∧k<w8.heap.size:=⟨_,rfl⟩
   rw[←hF8]at HSL8
   have HF8:=zO hF8
   clear hF8
   go_wp2_with fail
   go_loopw [83] (fun t wr=>∃(i k:Nat) (f:ByteArray→Option Value),i≤nr∧k≤i∧t=.int .i64 (i:Int)∧Hid (NsV wr w5.heap.size g bm (.slice Ak nk ck) (.slice Ab nbd cb2) (.slice Af nf cf) (.slice Ar nfm cr) NS)∧Hid (MapV wr bm k f)∧Hid (GrpB F8 wr w8.heap.size f (grpL ((rows.take i).filter (mtB vars ts cds NS)) NS.key))∧Hid (Fr (fun b=>b=bm) w8 wr)) (fun t _=>nr-(intOf t).toNat)
   case atStart=>exact⟨0,0,_,jn _,jq _,rfl,HS8,HM8,zO (GrpB.nil _ _ _),zO (Fr.refl _ _)⟩
   case round =>
    obtain⟨i,k,f,hi,hk,rfl,HSI,HMI,HGI,HFI⟩:=hrel
    obtain⟨V,rfl⟩:∃V:World,V=wr:=⟨_,rfl⟩
    have HXV:=zO (HFI.out.new HX8.out (fun b hb=>by omega))
    have hV8:w8.heap.size≤V.heap.size:=HFI.out.size
    by_cases hil:i<nr
    ·have i1:(0:Int)≤(i:Int):=by omega
     have i2:(i:Int)<(nr:Int):=by omega
     have hir:i<rows.length:=by have:=HNR.out;omega
     obtain⟨ad,BX,dx,ead,hF,c0,hrow⟩:=HSL8.out.row hir
     injection ead with ead
     subst ead
     have hbne:∀q,F8 q→q≠bm:=fun q hq e=>by rw[HF8.out]at hq;have:=HBM.out;omega
     replace c0:=HFI.out.cell c0 (by rw[block_add];exact hbne _ hF)
     replace hrow:=hrow.fr HFI.out hbne
     have hro:=HROWS.out _ (jg hir)
     have HTAKE:=zO (jj hir)
     obtain⟨x,hx⟩:∃x,x=rows[i]:=⟨_,rfl⟩
     rw[←hx]at c0 hrow hro HTAKE
     have hxn:x.length=j:=by rw[hro.1,HNT.out]
     rw[hxn]at c0 hrow
     replace c0:V.cell? ⟨gR,i,none⟩=some (.slice BX j dx):=by rw[add_zero']at c0;exact c0
     have HROW2:=zO hrow;have HRO:=zO hro
     have hbx:bm<V.heap.size:=by omega
     have k0:=HSI.out.box.cell (i:=0) (by simp);have k1:=HSI.out.box.cell (i:=1) (by simp);have k2:=HSI.out.box.cell (i:=2) (by simp);have k3:=HSI.out.box.cell (i:=3) (by simp);have k4:=HSI.out.box.cell (i:=4) (by simp)
     have HKAI:=zO (HKA8.out.fr HFI.out (by omega))
     have a0:=HKAI.out.cell (i:=0) (by simp);have a1:=HKAI.out.cell (i:=1) (by simp);have a2:=HKAI.out.cell (i:=2) (by simp)
     simp only[ja,je]at k0 k1 k2 k3 k4 a0 a1 a2
     have HMT:=zO (matches_any (mb:=some bm) (u1:=.slice Ab nbd cb2) (u4:=nilS) (ng:=ng) (rl:=rl) (d:=d) (Ins.of_own HSI.out.of) (Ins.of_own HSI.out.or) (HT.out.ext HXV.out) hrow (HN.out.ext HXV.out) (HC.out.ext HXV.out) HNOK.out.l2 HNOK.out.nd HFR.out (fun c hc=>by rw[hxn];exact HFC.out c hc) (by rw[hxn,HNT.out]) HTS.out (fun v hv=>⟨(HRO.out.2 v hv).1,by have:=(HRO.out.2 v hv).2.str;simp only[maxLen];omega⟩) HCD.out (by rw[←HNT.out];omega) hb2 (by have:=HKL.out;have:=HNF.out;omega) hb3)
     rw[←HNT.out]at HMT
     clear hir hF hrow hro hx hxn
     go_wp2_with fail
     refine HMT.out.mono ?_
     rintro e V2 ⟨y,rfl,he2,rfl⟩
     obtain⟨z,hz⟩:∃z,z=mtB vars ts cds NS x:=⟨_,rfl⟩
     have HZ:=zO hz
     rw[←hz]
     have hbv:bm<V2.heap.size:=by have:=he2.size;omega
     have HE2:=zO he2
     have HS2:=zO (HSI.out.ext he2);have HM2:=zO (HMI.out.ext he2);have HG2:=zO (HGI.out.ext he2);have HF2:=zO (HFI.out.ext he2);have HRW2:=zO (HROW2.out.ext he2)
     clear hz he2 c0 k0 k1 k2 k3 k4 a0 a1 a2
     rcases z with _|_
     ·have HFT:Hid ((rows.take (i+1)).filter (mtB vars ts cds NS)=(rows.take i).filter (mtB vars ts cds NS)):=zO (by
       rw[HTAKE.out,jK]
       simp[←HZ.out])
      go_wp2_with fail
      go_roundw
      case rel=>exact⟨i+1,k,f,by omega,by omega,by go_num,HS2,HM2,zO (by rw[HFT.out];exact HG2.out),HF2⟩
      case measure=>simp[intOf];omega
     ·have HFT:Hid (grpL ((rows.take (i+1)).filter (mtB vars ts cds NS)) NS.key=addG (grpL ((rows.take i).filter (mtB vars ts cds NS)) NS.key) (keyS (pickN x NS.key)) x):=zO (by
       rw[HTAKE.out,jK]
       have e : [x].filter (mtB vars ts cds NS)=[x]:=by simp[←HZ.out]
       rw[e,grpL_add])
      have hpk:=pick_any HRW2.out (Ins.of_own HS2.out.ok) (fun q hq=>by
       obtain⟨c,hc,rfl⟩:=jE.1 hq
       have:=HKC.out c hc
       omega) (show nk≤1048576 by omega)
      rw[proj_pick]at hpk
      have HPK:=zO hpk
      clear hpk
      go_wp2_with fail
      refine HPK.out.mono ?_
      rintro e V3 ⟨he3,AP,cp,rfl,hsp⟩
      have hpl:(pickN x NS.key).length=nk:=by rw[pickN,jm,HNK.out]
      have HKEY:=zO (rowkey_any hsp (by rw[hpl];omega) (fun v hv=>by
       obtain⟨c,hc,rfl⟩:=jE.1 hv
       have h1:=HKC.out c hc
       have hcx:c<x.length:=by rw[HRO.out.1,←HNT.out];exact h1
       rw[getD_at hcx]
       exact(HRO.out.2 _ (jg hcx)).2) (HTAB.out.fore ((HXV.out.trans HE2.out).trans he3)))
      have HE3:=zO he3
      rw[hpl]at HKEY ⊢
      clear hsp he3 hpl
      go_wp2_with fail
      refine HKEY.out.mono ?_
      rintro e V4 ⟨y,rfl,he4,rfl⟩
      have hx4:=HE3.out.trans he4
      have HS4:=zO (HS2.out.ext hx4);have HM4:=zO (HM2.out.ext hx4);have HG4:=zO (HG2.out.ext hx4);have HF4:=zO (HF2.out.ext hx4);have HRW4:=zO (HRW2.out.ext hx4)
      have hb4:bm<V4.heap.size:=by have:=hx4.size;omega
      have hw84:w8.heap.size≤V4.heap.size:=HF4.out.size
      obtain⟨ks,hks⟩:∃s,s=keyS (pickN x NS.key):=⟨_,rfl⟩
      rw[show (⟨(keyR (pickN x NS.key)).toArray⟩:ByteArray)=ks from hks.symm]
      rw[←hks]at HFT
      have hksz:ks.size≤maxLen:=by
       rw[hks,keyS_size]
       have h1:=keyR_len (xs:=pickN x NS.key) (fun v hv=>by
        obtain⟨c,hc,rfl⟩:=jE.1 hv
        have h1:=HKC.out c hc
        have hcx:c<x.length:=by rw[HRO.out.1,←HNT.out];exact h1
        rw[getD_at hcx]
        exact(HRO.out.2 _ (jg hcx)).2)
       have h2:(pickN x NS.key).length=nk:=by rw[pickN,jm,HNK.out]
       rw[h2]at h1
       have h3:nk*1048700≤10000*1048700:=zg _ (by omega)
       simp only[maxLen]
       omega
      clear hx4 he4 hks
      obtain⟨uss,ho⟩:=HG4.out.at' ks
      obtain⟨Au,cu,eu⟩:=own_slice ho.own
      have HEU:=zO eu
      have how:=ho.own
      rw[eu]at how
      have k0:=HS4.out.box.cell (i:=0) (by simp)
      simp only[ja,je]at k0
      have HHO:=zO ho;have HOW:=zO how
      obtain⟨nu,hnu⟩:∃k,k=uss.length:=⟨_,rfl⟩
      have hnub:nu≤1000000:=by
       have h1:=HHO.out.len
       have h2:(grpL ((rows.take i).filter (mtB vars ts cds NS)) NS.key ks).length≤(rows.take i).length:=js (jG _ _) (jG _ _)
       rw[ju]at h2
       omega
      rw[←hnu]at HOW HEU
      have HNU:=zO hnu
      have HLK:=zO (fun (X:World) (hX:Ext V4 X)=>(HM4.out.ext hX).look Tryz.underlying227 (z:=nilS) (by kernel_rfl) hksz HEU.out)
      have l0:=HLK.out V4 (Ext.refl V4)
      have l1:=HLK.out V4.drew (Ext.refl V4).drew
      have l2:=HLK.out _ ((Ext.refl V4).alloc (.cells #[.slice BX j dx] 74))
      have l3:=HLK.out _ ((Ext.refl V4).alloc (.cells #[.slice BX j dx] 74)).drew
      have l4:=HLK.out _ ((Ext.refl V4).drew.alloc (.cells #[.slice BX j dx] 74))
      have HK0:=zO (fun (X:World) (hX:Fr (fun q=>(Value.slice Au nu cu).ownBlock=some q∨q=bm) V4 X)=>hX.cell k0 (fun hq=>by
       rcases hq with hq|hq
       ·exact own_bk HOW.out HS4.out.box (by decide) hq rfl
       ·simp only at hq;omega))
      clear ho how eu hnu
      obtain⟨j0,hi0,hz0,hz1,hz2⟩:=info_parts info_row
      have HJ0:=zO (And.intro hi0 (And.intro hz0 (And.intro hz1 hz2)));clear hi0 hz0 hz1 hz2
      go_upto_region 21 with fail
      go_region_held3 (fun X=>Fr (fun q=>(Value.slice Au nu cu).ownBlock=some q∨q=bm) V4 X∧X.cell? ⟨g,0,none⟩=some (.map (some bm)))
       ((refine(fun he=>⟨he,HK0.out _ he⟩) ?_;repeat (first|exact Fr.refl _ _|exact(Fr.refl _ _).drew|exact HF9.out|exact HF10.out|assumption|refine Fr.drew ?_|refine Fr.alloc ?_ _ )))
       (first
        | (refine step_append_at (by rfl) _ _ _ (by rfl) w8.heap.size 74 j0 nilS 1 24 Tryz.underlying38 HJ0.out.1 HJ0.out.2.1 HJ0.out.2.2.1 HJ0.out.2.2.2 rfl (by omega) (.slice Au nu cu) nu uss (by rfl) (by first|exact own_ext' HOW.out ((Ext.refl V4).alloc _)|exact own_ext' HOW.out ((Ext.refl V4).alloc _).drew) ⟨V4.heap.size,0,none⟩ 1 1 [.slice BX j dx] (by rfl) (by rfl) (by exact laid_news V4 _ _) (by simp[Value.oneCell']) (by simp only[maxLen];omega) (by omega) (by simp;omega) ?_;intro v9 w9 hr9 hg9 hl9;have hf9:Fr (fun q=>(Value.slice Au nu cu).ownBlock=some q∨q=bm) V4 w9:=(((Ext.refl V4).alloc (.cells #[.slice BX j dx] 74)).drew.fr _).grown hg9 (fun q hq=>.inl (.inl hq));have HF9:=zO hf9;obtain⟨A9,c9,rfl⟩:=own_slice hr9;have hm9:MapV w9 bm k f:=(HM4.out.ext ((Ext.refl V4).alloc (.cells #[.slice BX j dx] 74)).drew).fr (grown_fr hg9) (fun e=>absurd rfl (HM4.out.ne_own HOW.out e));obtain⟨w10,hrun,hm10,hg10⟩:=upd_run_t Tryz.underlying227 hm9 (by simp only[maxLen];omega) hksz (.slice A9 (nu+1) c9);have hf10:Fr (fun q=>(Value.slice Au nu cu).ownBlock=some q∨q=bm) V4 w10:=hf9.grown hg10 (fun q hq=>.inl (.inr (by injection hq with hq;exact hq.symm)));have HF10:=zO hf10;have HR9:=zO hr9;have HG9:=zO hg9;have HL9:=zO hl9;have HM9:=zO hm9;have HM10:=zO hm10;have HG10:=zO hg10;clear hr9 hg9 hl9 hf9 hm9 hm10 hg10 hf10))
      all_goals
       have hxa:Ext V4 (V4.alloc (.cells #[.slice BX j dx] 74)).drew:=((Ext.refl V4).alloc _).drew
       have hb10:GrpB F8 w10 w8.heap.size (updV f ks (some (.slice A9 (nu+1) c9))) (addG (grpL ((rows.take i).filter (mtB vars ts cds NS)) NS.key) ks x):=GrpB.push (b:=bm) HG4.out HHO.out hxa (HRW4.out.ext hxa) (fun q hq=>by rw[HF8.out]at hq;exact hq.2) (by rw[←HNU.out];exact HR9.out) (by rw[HEU.out];exact HG9.out) (by rw[HEU.out];exact HL9.out) HM9.out HG10.out (fun hq=>by rw[HF8.out]at hq;have:=HBM.out;omega)
       rw[←HFT.out]at hb10
       have hs10:NsV w10 w5.heap.size g bm (.slice Ak nk ck) (.slice Ab nbd cb2) (.slice Af nf cf) (.slice Ar nfm cr) NS:=HS4.out.fr' HF10.out (fun hq=>by
        rcases hq with hq|hq
        ·exact own_bk HOW.out HS4.out.box (by decide) hq rfl
        ·omega) (fun v n xs q ho hv hq=>by
        rcases hq with hq|hq
        ·exact own_ne ho HOW.out (by decide) hv hq
        ·exact HM4.out.ne_own ho hv hq)
       have hf10:Fr (fun b=>b=bm) w8 w10:=HF4.out.comp HF10.out (fun q hq=>by
        rcases hq with hq|hq
        ·exact .inr (own_ge HOW.out hq)
        ·exact .inl hq)
       have HB11:=zO hb10;have HS11:=zO hs10;have HF11:=zO hf10
       clear hxa hb10 hs10 hf10 k0 l0 l1 l2 l3 l4 hrun
       go_wp2_with fail
       go_roundw
       case rel=>exact⟨i+1,k+1,_,by omega,by omega,by go_num,HS11,HM10,HB11,HF11⟩
       case measure=>simp[intOf];omega
    ·obtain rfl:i=nr:=by omega
     have hdi:¬(i:Int)<(i:Int):=by omega
     have et:rows.take i=rows:=jo (by have:=HNR.out;omega)
     rw[et]at HGI
     clear et
     have hb1:=HBM.out
     have HKRV:=zO (HKR8.out.fr HFI.out (by omega))
     obtain⟨r,hr⟩:∃r,r=w.heap.size+1+1:=⟨_,rfl⟩
     rw[←hr]at HKRV hgb ⊢
     have hwr:w.heap.size≤r:=by omega
     have k0:=HSI.out.box.cell (i:=0) (by simp);have k1:=HSI.out.box.cell (i:=1) (by simp);have k2:=HSI.out.box.cell (i:=2) (by simp);have k3:=HSI.out.box.cell (i:=3) (by simp);have k4:=HSI.out.box.cell (i:=4) (by simp)
     have z0:=HKRV.out.cell (i:=0) (by simp);have z1:=HKRV.out.cell (i:=1) (by simp);have z2:=HKRV.out.cell (i:=2) (by simp);have z3:=HKRV.out.cell (i:=3) (by simp);have z4:=HKRV.out.cell (i:=4) (by simp)
     have f0:=HKRV.out.free 0;have f1:=HKRV.out.free 1;have f2:=HKRV.out.free 2;have f3:=HKRV.out.free 3;have f4:=HKRV.out.free 4
     simp only[ja,je]at k0 k1 k2 k3 k4 z0 z1 z2 z3 z4
     have kz:Bk (((((V.setCell ⟨r,0,none⟩ (.map (some bm))).setCell ⟨r,1,none⟩ (.slice Ab nbd cb2)).setCell ⟨r,2,none⟩ (.slice Af nf cf)).setCell ⟨r,3,none⟩ (.slice Ar nfm cr)).setCell ⟨r,4,none⟩ (nilS)) r 229 [.map (some bm),.slice Ab nbd cb2,.slice Af nf cf,.slice Ar nfm cr,nilS]:=(((((HKRV.out.set 0 _).set 1 _).set 2 _).set 3 _).set 4 _)
     have hfr:Fr (fun k=>k=r) V (((((V.setCell ⟨r,0,none⟩ (.map (some bm))).setCell ⟨r,1,none⟩ (.slice Ab nbd cb2)).setCell ⟨r,2,none⟩ (.slice Af nf cf)).setCell ⟨r,3,none⟩ (.slice Ar nfm cr)).setCell ⟨r,4,none⟩ (nilS)):=((((((Fr.refl (fun k=>k=r) V).setCell (p:=⟨r,0,none⟩) (.inl rfl) _).setCell (p:=⟨r,1,none⟩) (.inl rfl) _).setCell (p:=⟨r,2,none⟩) (.inl rfl) _).setCell (p:=⟨r,3,none⟩) (.inl rfl) _).setCell (p:=⟨r,4,none⟩) (.inl rfl) _)
     have HKZ:=zO kz;have HFZ:=zO hfr
     have HRD:Hid (rdSm.R (fun k=>w.heap.size≤k) (((((V.setCell ⟨r,0,none⟩ (.map (some bm))).setCell ⟨r,1,none⟩ (.slice Ab nbd cb2)).setCell ⟨r,2,none⟩ (.slice Af nf cf)).setCell ⟨r,3,none⟩ (.slice Ar nfm cr)).setCell ⟨r,4,none⟩ (nilS)) [.map (some bm),.slice Ab nbd cb2,.slice Af nf cf,.slice Ar nfm cr,nilS] ⟨rows.filter (mtB vars ts cds NS),NS.key,NS.bound,NS.fresh,NS.frm,[]⟩):=zO (by
      have hgr:GrpR (fun k=>w.heap.size≤k∧k≠r) V bm (grpL (rows.filter (mtB vars ts cds NS)) NS.key):=HGI.out.read HMI.out (fun k hk=>by rw[HF8.out]at hk;exact⟨by omega,by omega⟩) (fun k hk=>⟨by omega,by omega⟩)
      have hi:∀{v:Value} {l:List Nat} {n:Nat},V.ownsRow w5.heap.size 3 1 v n ((natI l).map I64)→Ins (fun k=>w.heap.size≤k) (((((V.setCell ⟨r,0,none⟩ (.map (some bm))).setCell ⟨r,1,none⟩ (.slice Ab nbd cb2)).setCell ⟨r,2,none⟩ (.slice Af nf cf)).setCell ⟨r,3,none⟩ (.slice Ar nfm cr)).setCell ⟨r,4,none⟩ (nilS)) v (natI l):=fun ho=>(((Ins.of_own ho).mono (G:=fun k=>w.heap.size≤k∧k≠r) (fun k _ hk=>⟨by omega,by omega⟩)).fr hfr (fun k hk=>hk.2)).mono (fun k _ hk=>hk.1)
      exact⟨bm,_,_,_,_,rfl,by omega,(hgr.fr hfr (by omega) (fun k hk=>hk.2)).mono (fun k _ hk=>hk.1),hi HSI.out.ob,hi HSI.out.of,hi HSI.out.or,Sl.nil _ _ _⟩)
     have hX9:Hid (Ext w (((((V.setCell ⟨r,0,none⟩ (.map (some bm))).setCell ⟨r,1,none⟩ (.slice Ab nbd cb2)).setCell ⟨r,2,none⟩ (.slice Af nf cf)).setCell ⟨r,3,none⟩ (.slice Ar nfm cr)).setCell ⟨r,4,none⟩ (nilS))):=zO (hfr.new HXV.out (fun k hk=>by omega))
     clear kz hfr hr
     go_wp2_with fail
     generalize (((((V.setCell ⟨r,0,none⟩ (.map (some bm))).setCell ⟨r,1,none⟩ (.slice Ab nbd cb2)).setCell ⟨r,2,none⟩ (.slice Af nf cf)).setCell ⟨r,3,none⟩ (.slice Ar nfm cr)).setCell ⟨r,4,none⟩ (nilS))=wz at *
     have x0:=HKZ.out.cell (i:=0) (by simp);have x1:=HKZ.out.cell (i:=1) (by simp);have x2:=HKZ.out.cell (i:=2) (by simp);have x3:=HKZ.out.cell (i:=3) (by simp);have x4:=HKZ.out.cell (i:=4) (by simp)
     simp only[ja,je]at x0 x1 x2 x3 x4
     exact bodyPost_ret (v:=.agg #[.map (some bm),.slice Ab nbd cb2,.slice Af nf cf,.slice Ar nfm cr,nilS]) (by simp[results,Tryz.results183,go_sem,x0,x1,x2,x3,x4]) rfl (HQ.out wz bm _ _ _ hX9.out HRD.out)
