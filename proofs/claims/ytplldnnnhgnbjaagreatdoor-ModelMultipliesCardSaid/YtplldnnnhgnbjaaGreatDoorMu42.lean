/- packed -/
import Derived.Test.YtplldnnnhgnbjaaGreatDoorMu41
namespace Go.Proofs.YtplldnnnhgnbjaaGreatDoor
open Go.RowKit Go.Maps
def NewOk(ss:List Sc):Prop:=(∀x∈ss,ScOk x)∧(ss.map Sc.name).Nodup
theorem dup_bad{ss:List Sc}{i:Nat}(hi:i<ss.length)(h:findS (ss.take i) ss[i].name≠none):¬NewOk ss:=fun hok=>by
 rcases hf:findS (ss.take i) ss[i].name with _|y
 ·exact h hf
 ·obtain⟨hm,hn⟩:=findS_mem hf
  obtain⟨j,hj,e⟩:=zy.1 hm
  have hji:j<i:=by omega
  have h1:=zk.1 hok.2 j i (by rw[jm];omega) (by rw[jm];exact hi) hji
  rw[jy,jy]at h1
  exact h1 (by rw[e,hn])
theorem dm_some{ss:List Sc}{s:ByteArray}{e:En}(h:dmL ss s=some e):findS ss s≠none:=fun h0=>by
 unfold dmL at h
 rw[h0]at h
 cases h
def NewPost2(ss:List Sc)(w:World)(e:Ending)(w':World):Prop :=
 Ext w w'∧∃(mb:Option Nat) (c:Int),e=.returned (.tuple #[.agg #[.map mb],.int .i64 c])∧((c≠0∧¬NewOk ss)∨c=0∧∃b n,mb=some b∧w.heap.size≤b∧n≤ss.length∧DbB (fun k=>w.heap.size<k∧k≠b) w' b n (dmL ss)∧∀x∈ss,ScOk x)
set_option maxRecDepth 20000 in
set_option maxHeartbeats 6400000 in
theorem new_any2{F:Nat→Prop}{w:World}{S:Option Addr}{n c:Nat}{ss:List Sc}(hS:Sl rdSc F w (.slice S n c) ss)(hn:n≤16)(hz:∀x∈ss,x.name.size≤maxLen)(hk:∀x∈ss,x.kinds.length≤maxLen) :
  Calls Tryz.prog 32 #[.slice S n c] w (NewPost2 ss w):=by
 have hnm:=hS.cap.1
 have HS:=zO hS;have HNM:=zO hnm;have HZ:=zO hz;have HK:=zO hk
 have hmm:=run_makeMap_hint
 have gn:¬(16:Int)<(n:Int):=by omega
 clear hS hnm hz hk
 go_enter Tryz.func32,Tryz.ntmps32
 go_upto_region 3 with fail
 have kd:=Bk.new w 33 [.map none]
 change Bk (w.alloc (.cells #[.map none] 33)) _ _ _ at kd
 have hx1:Ext w (w.alloc (.cells #[.map none] 33)):=(Ext.refl w).alloc _
 generalize (w.alloc (.cells #[.map none] 33))=w1 at *
 have hlt1:w.heap.size<w1.heap.size:=kd.lt
 have HKD:=zO kd;have HX1:=zO hx1
 clear kd hx1
 go_upto_region 4 with fail
 have hx2:Ext w1 (w1.alloc (.map #[] 0)):=(Ext.refl w1).alloc _
 have hd2:=DbB.made (fun k=>w.heap.size<k∧k≠w1.heap.size) w1
 generalize (w1.alloc (.map #[] 0))=w2 at *
 obtain⟨mb,hmb⟩:∃b,b=w1.heap.size:=⟨_,rfl⟩
 rw[←hmb]at hd2 ⊢
 have hmb1:w.heap.size<mb:=by omega
 have HD2:=zO hd2;have HX2:=zO (HX1.out.trans hx2);have HKD2:=zO (HKD.out.ext hx2)
 have hmb2:mb<w2.heap.size:=hd2.lt
 clear hd2 hx2 hmm hmb
 go_wp2_with fail
 go_loopw [21] (fun t wr=>∃i:Nat,i≤n∧t=.int .i64 (i:Int)∧DbB (fun k=>w.heap.size<k∧k≠mb) wr mb i (dmL (ss.take i))∧Hid (∀x∈ss.take i,ScOk x)∧Fr (fun b=>b=mb) w2 wr) (fun t _=>n-(intOf t).toNat)
 case atStart=>exact⟨0,jn _,rfl,HD2.out,zO (fun x hx=>by simp at hx),Fr.refl _ _⟩
 case round =>
  obtain⟨i,hi,rfl,hD,HOK,hfr⟩:=hrel
  obtain⟨W,rfl⟩:∃W:World,W=wr:=⟨_,rfl⟩
  have hx:Ext w W:=hfr.new HX2.out (fun b hb=>by omega)
  have HX:=zO hx;have HFR:=zO hfr;have HD:=zO hD
  have HKW:=zO (HKD2.out.fr hfr (by omega))
  have hmW:mb<W.heap.size:=hD.lt
  by_cases hlt:i<n
  ·have i1:(0:Int)≤(i:Int):=by omega
   have i2:(i:Int)<(n:Int):=by omega
   have hit:i<ss.length:=by have:=HNM.out;omega
   obtain⟨ad,B,d,rfl,-,d0,d1,hk⟩:=HS.out.sc hit
   replace d0:=hx.cell d0;replace d1:=hx.cell d1
   have hmem:=jg hit
   have hz0:=HZ.out _ hmem;have hk0:=HK.out _ hmem
   have htk:=jj hit
   have hdup:=fun h=>dup_bad hit h
   have hbad:=fun (h:¬ScOk ss[i]) (hok:NewOk ss)=>h (hok.1 _ hmem)
   obtain⟨x,hx0⟩:∃x,x=ss[i]:=⟨_,rfl⟩
   rw[←hx0]at d0 d1 hk hz0 hk0 htk hdup hbad
   obtain⟨xn,xk⟩:=x
   simp only at d0 d1 hk hz0 hk0
   have HBAD:=zO hbad;have HDUP:=zO hdup
   clear hbad hdup
   obtain⟨nk,hnk⟩:∃nk,nk=xk.length:=⟨_,rfl⟩
   rw[←hnk]at d1 hk hk0
   have HKS:=zO hk;have HNK:=zO hnk;have HTK:=zO htk
   have hk9:nk≤9223372036854775807:=by simpa [maxLen] using hk0
   clear hx0 hk htk hnk hmem hk0 hx hfr hD
   go_upto_region 8 with fail
   have kx:=Bk.new W 92 [.string xn,.slice B nk d]
   change Bk (W.alloc (.cells #[.string xn,.slice B nk d] 92)) _ _ _ at kx
   have hxa:Ext W (W.alloc (.cells #[.string xn,.slice B nk d] 92)):=(Ext.refl W).alloc _
   generalize (W.alloc (.cells #[.string xn,.slice B nk d] 92))=W1 at *
   have hW1:W.heap.size<W1.heap.size:=kx.lt
   have HKX:=zO kx;have HXA:=zO (HX.out.trans hxa);have HXW:=zO hxa
   obtain⟨f,hM,hF⟩:=HD.out
   have HM:=zO (hM.ext hxa);have HFF:=zO hF
   have x0:=kx.cell (i:=0) (by simp)
   simp only[ja]at x0
   clear kx hxa hM d0 d1
   rcases hF xn with ⟨hno,hfn⟩|⟨e9,u9,hyes,hfy,hv9⟩
   ·have HU1:Hid ((f xn).getD (.agg #[.slice none 0 0,.int .i64 0,.slice none 0 0])=.agg #[.slice none 0 0,.int .i64 0,.slice none 0 0]):=zO (by rw[hfn];rfl)
    have HU2:Hid ((f xn).isSome=false):=zO (by rw[hfn];rfl)
    have HNO:=zO hno
    clear hF hno hfn
    go_upto_region 9 with (first
     | (refine wpList_lookup_okV rfl _ _ 31 181 rfl Tryz.underlying31 (.agg #[.slice none 0 0,.int .i64 0,.slice none 0 0]) (zero_entry _) mb i f rfl HM.out xn rfl hz0 _ HU1.out false HU2.out ?_))
    have hxb:Ext W1 (W1.alloc (.cells #[.slice none 0 0,.int .i64 0,.slice none 0 0] 181)):=(Ext.refl W1).alloc _
    generalize (W1.alloc (.cells #[.slice none 0 0,.int .i64 0,.slice none 0 0] 181))=W2 at *
    have HXB:=zO (HXA.out.trans hxb);have HXW2:=zO (HXW.out.trans hxb);have HKX2:=zO (HKX.out.ext hxb);have HKD3:=zO (HKW.out.ext HXW2.out);have HM2:=zO (HM.out.ext hxb)
    have hW2:W1.heap.size≤W2.heap.size:=hxb.size
    replace x0:=hxb.cell x0
    have x1:=HKX2.out.cell (i:=1) (by simp)
    have b0:=HKD3.out.cell (i:=0) (by simp);have bf0:=HKD3.out.free 0
    simp only[ja,je]at x1 b0
    have kz:Bk (W2.setCell ⟨w.heap.size,0,none⟩ (.map none)) w.heap.size 33 [.map none]:=HKD3.out.set 0 _
    have hez:Ext w (W2.setCell ⟨w.heap.size,0,none⟩ (.map none)):=HXB.out.setCell (p:=⟨w.heap.size,0,none⟩) (jq _) _
    have z0:=kz.cell (i:=0) (by simp)
    simp only[ja]at z0
    have HEZ:=zO (And.intro z0 hez)
    clear hxb kz hez z0
    go_wp2_with fail
    refine(cvalid_any xn _ hz0).mono ?_
    rintro e w3 ⟨rfl,rfl⟩
    rcases hcat:catB xn with _|_
    ·have HCF:=zO hcat
     clear hcat
     go_wp2_with fail
     obtain⟨z0,hez⟩:=HEZ.out
     generalize (W2.setCell ⟨w.heap.size,0,none⟩ (.map none))=wz at *
     exact bodyPost_ret (v:=.tuple #[.agg #[.map none],.int .i64 7]) (by simp[results,Tryz.results32,go_sem,z0]) rfl ⟨hez,_,_,rfl,.inl ⟨by decide,HBAD.out (fun h=>by have h1:=h.1;rw[HCF.out]at h1;cases h1)⟩⟩
    have HCAT:=zO hcat
    clear hcat
    by_cases h6:¬nk≤6
    ·have g6:(6:Int)<(nk:Int):=by omega
     have HN6:=zO h6
     clear h6
     go_wp2_with fail
     obtain⟨z0,hez⟩:=HEZ.out
     generalize (W2.setCell ⟨w.heap.size,0,none⟩ (.map none))=wz at *
     exact bodyPost_ret (v:=.tuple #[.agg #[.map none],.int .i64 6]) (by simp[results,Tryz.results32,go_sem,z0]) rfl ⟨hez,_,_,rfl,.inl ⟨by decide,HBAD.out (fun h=>HN6.out (by rw[HNK.out];exact h.2.1))⟩⟩
    have hk6:nk≤6:=by omega
    have g6:¬(6:Int)<(nk:Int):=by omega
    clear h6
    go_wp2_with fail
    go_loopw [53] (fun t wr=>∃j:Nat,j≤nk∧t=.int .i64 (j:Int)∧Hid (∀k∈xk.take j,k=1∨k=2)∧W2=wr) (fun t _=>nk-(intOf t).toNat)
    case atStart=>exact⟨0,jn _,rfl,zO (fun k hk=>by simp at hk),rfl⟩
    case round =>
     obtain⟨j,hj,rfl,HKJ,rfl⟩:=hrel
     by_cases hjl:j<nk
     ·have j1:(0:Int)≤(j:Int):=by omega
      have j2:(j:Int)<(nk:Int):=by omega
      have hjk:j<xk.length:=by have:=HNK.out;omega
      have HKX12:Hid (∀z,z=xk[j]→z≠1→z≠2→¬ScOk ⟨xn,xk⟩):=zO (fun z hz h1 h2 h=>(h.2.2 _ (jg hjk)).elim (fun e=>h1 (hz.trans e)) (fun e=>h2 (hz.trans e)))
      obtain⟨adk,rfl,hjc⟩:∃adk,B=some adk∧W2.cell? (adk.add j)=some (.int .i64 xk[j]):=by
       obtain⟨B',d',e,-,hcl⟩:=HKS.out
       injection e with e1
       subst e1
       obtain⟨adk,rfl,-,h1⟩:=hcl.int hjk
       exact⟨adk,rfl,HXB.out.cell h1⟩
      have hgo:=scok_kinds hjk HKJ.out
      obtain⟨kk,hkk⟩:∃k,k=xk[j]:=⟨_,rfl⟩
      have HKXZ:=zO (HKX12.out kk hkk)
      rw[←hkk]at hjc hgo
      have HGO:=zO hgo
      clear hkk hgo
      by_cases h1:kk=1
      ·have HG:=zO (HGO.out (.inl h1))
       have e1:(kk != 1)=false:=by rw[h1];rfl
       clear h1
       go_wp2_with fail
       go_roundw
       case rel=>exact⟨j+1,by omega,by go_num,HG,trivial⟩
       case measure=>simp[intOf];omega
      by_cases h2:kk=2
      ·have HG:=zO (HGO.out (.inr h2))
       have e1:(kk != 1)=true:=by rw[h2];rfl
       have e2:(kk != 2)=false:=by rw[h2];rfl
       clear h1 h2
       go_wp2_with fail
       go_roundw
       case rel=>exact⟨j+1,by omega,by go_num,HG,trivial⟩
       case measure=>simp[intOf];omega
      have e1:(kk != 1)=true:=by rw[bne_iff_ne];exact h1
      have e2:(kk != 2)=true:=by rw[bne_iff_ne];exact h2
      have HK12:Hid (¬ScOk ⟨xn,xk⟩):=zO (HKXZ.out h1 h2)
      clear h1 h2
      go_wp2_with fail
      obtain⟨z0,hez⟩:=HEZ.out
      generalize (W2.setCell ⟨w.heap.size,0,none⟩ (.map none))=wz at *
      exact bodyPost_ret (v:=.tuple #[.agg #[.map none],.int .i64 2]) (by simp[results,Tryz.results32,go_sem,z0]) rfl ⟨hez,_,_,rfl,.inl ⟨by decide,HBAD.out HK12.out⟩⟩
     ·obtain rfl:j=nk:=by omega
      have hdj:¬(j:Int)<(j:Int):=by omega
      have et:xk.take j=xk:=jo (by have:=HNK.out;omega)
      rw[et]at HKJ
      clear et
      go_wp2_with fail
      refine(relnew_ok (a:=(j:Int)) (by omega) (by omega)).mono ?_
      rintro e w4 ⟨he4,rfl⟩
      replace x0:=he4.cell x0;replace x1:=he4.cell x1
      have HM4:=zO (HM2.out.ext he4);have HX4:=zO (HXW2.out.trans he4)
      clear he4 b0 bf0
      go_upto_region 22 with fail
      have kr:=Bk.new w4 179 [.int .i64 (j:Int),.slice none 0 0]
      change Bk (w4.alloc (.cells #[.int .i64 (j:Int),.slice none 0 0] 179)) _ _ _ at kr
      have hx5:Ext w4 (w4.alloc (.cells #[.int .i64 (j:Int),.slice none 0 0] 179)):=(Ext.refl w4).alloc _
      generalize (w4.alloc (.cells #[.int .i64 (j:Int),.slice none 0 0] 179))=w5 at *
      replace x0:=hx5.cell x0;replace x1:=hx5.cell x1
      have r0:=kr.cell (i:=0) (by simp);have r1:=kr.cell (i:=1) (by simp)
      simp only[ja,je]at r0 r1
      have HM5:=zO (HM4.out.ext hx5);have HX5:=zO (HX4.out.trans hx5)
      have hw5:W.heap.size≤w5.heap.size:=HX5.out.size
      obtain⟨B',d',e',-,hcl⟩:=HKS.out
      injection e' with e1 e2 e3
      subst e1
      have HCLK:=zO hcl
      have HCLN:=zO (fun (V:World) (hV:Ext w5 V)=>clone_ints (w:=V) (n:=j) (c:=d) (HCLK.out.ext (HX.out.trans (HX5.out.trans hV))) (by rw[jm];have:=HNK.out;omega) (by simp[Value.oneCell']) (by omega))
      clear e2 e3 hcl
      clear kr hx5
      have hn0:W.heap.size≠mb:=by omega
      have hn4:w4.heap.size≠mb:=by have:=HX4.out.size;omega
      go_region_held3 (fun V=>Fr (fun k=>k=mb) w5 V∧V.cell? ⟨W.heap.size,0,none⟩=some (.string xn)∧V.cell? ⟨W.heap.size,1,none⟩=some (.slice B j d)∧V.cell? ⟨w4.heap.size,0,none⟩=some (.int .i64 (j:Int))∧V.cell? ⟨w4.heap.size,1,none⟩=some (.slice none 0 0))
       ((refine(fun he=>⟨he,Fr.cell he x0 hn0,Fr.cell he x1 hn0,Fr.cell he r0 hn4,Fr.cell he r1 hn4⟩) ?_;repeat (first|exact Fr.refl _ _|assumption|refine Fr.drew ?_|refine Fr.ext ?_ (by assumption))))
       (first
        | (go_at_call 85;(with_reducible refine(HCLN.out _ (by repeat (first|exact Ext.refl _|refine Ext.drew ?_|refine Ext.drewN ?_ _))).mono ?_);rintro e wi ⟨yv,rfl,hei,hown⟩;obtain⟨A9,c9,rfl⟩:=own_slice hown;have HOWN:=zO hown;have hen:Ext w5 wi:=Ext.trans (by repeat (first|exact Ext.refl _|refine Ext.drew ?_|refine Ext.drewN ?_ _)) hei;obtain⟨w9,hrun9,HM9⟩:=upd_run (HM5.out.ext hen) (by simp only[maxLen];omega) (s:=xn) hz0 (.agg #[.slice A9 j c9,.int .i64 (j:Int),.slice none 0 0]);have hf9:Fr (fun k=>k=mb) w5 w9:=(hen.fr _).grown HM9.out.2 (fun k hk=>.inl (by injection hk with hk;exact hk.symm));have HEN:=zO hen;clear hown hen))
      have HW9:Hid (DbB (fun k=>w.heap.size<k∧k≠mb) w9 mb (i+1) (dmL (ss.take (i+1)))∧Fr (fun b=>b=mb) w2 w9∧∀x∈ss.take (i+1),ScOk x):=zO (by
       have hwi:Ext W wi:=HX5.out.trans HEN.out
       refine⟨?_,HFR.out.trans ((Fr.ext (Fr.refl _ _) hwi).grown HM9.out.2 (fun k hk=>.inl (by injection hk with hk;exact hk.symm))),?_⟩
       ·have hD9:=DbB.put (m:=dmL (ss.take i)) (e:=⟨xk,⟨(xk.length:Int),[]⟩⟩) (F:=fun k=>w.heap.size<k∧k≠mb) (fun s=>by
         rcases HFF.out s with h|⟨e',u',h3,h4,h5⟩
         ·exact .inl h
         ·exact .inr ⟨e',u',h3,h4,h5.ext hwi⟩) HM9.out.1 HM9.out.2 (fun k hk=>hk.2) ⟨.slice A9 j c9,.slice none 0 0,by rw[HNK.out],(Ins.of_own HOWN.out).mono (fun k _ hk=>by
          have h1:w5.heap.size≤k:=hk.2
          have h2:=HX.out.size
          exact⟨by omega,by omega⟩),(fun n c e=>by injection e with _ _ h;exact h.symm),Sl.nil _ _ _⟩
        rw[HTK.out,dmL_app (dmL_none HNO.out)]
        exact hD9
       ·intro x hx
        rw[HTK.out]at hx
        rcases jp.1 hx with hx|hx
        ·exact HOK.out x hx
        ·rw[jt.1 hx]
         exact⟨HCAT.out,by rw[←HNK.out];exact hk6,HKJ.out⟩)
      clear hei hrun9 hf9 x0 x1 r0 r1
      go_wp2_with fail
      go_roundw
      case rel=>exact⟨i+1,by omega,by go_num,HW9.out.1,zO HW9.out.2.2,HW9.out.2.1⟩
      case measure=>simp[intOf];omega
   ·obtain⟨ku,ru,rfl,hku,-,hru⟩:=hv9
    obtain⟨Ka,kc,rfl⟩:∃A c,ku=.slice A e9.kinds.length c:=let ⟨A,c,e,_⟩:=hku;⟨A,c,e⟩
    obtain⟨Ra,rc,rfl⟩:=hru.sl
    generalize e9.kinds.length=kn at *
    generalize e9.rel.rows.length=rn at *
    have HU1:Hid ((f xn).getD (.agg #[.slice none 0 0,.int .i64 0,.slice none 0 0])=.agg #[.slice Ka kn kc,.int .i64 e9.rel.ar,.slice Ra rn rc]):=zO (by rw[hfy];rfl)
    have HU2:Hid ((f xn).isSome=true):=zO (by rw[hfy];rfl)
    obtain⟨ea,hea⟩:∃a,a=e9.rel.ar:=⟨_,rfl⟩
    rw[←hea]at HU1
    have HYE:=zO hyes
    clear hF hyes hfy hea hku hru
    go_upto_region 9 with (first
     | (refine wpList_lookup_okV rfl _ _ 31 181 rfl Tryz.underlying31 (.agg #[.slice none 0 0,.int .i64 0,.slice none 0 0]) (zero_entry _) mb i f rfl HM.out xn rfl hz0 _ HU1.out true HU2.out ?_))
    have hxb:Ext W1 (W1.alloc (.cells #[.slice Ka kn kc,.int .i64 ea,.slice Ra rn rc] 181)):=(Ext.refl W1).alloc _
    generalize (W1.alloc (.cells #[.slice Ka kn kc,.int .i64 ea,.slice Ra rn rc] 181))=W2 at *
    have HXB:=zO (HXA.out.trans hxb);have HKD3:=zO (HKW.out.ext (HXW.out.trans hxb))
    replace x0:=hxb.cell x0
    have b0:=HKD3.out.cell (i:=0) (by simp);have bf0:=HKD3.out.free 0
    simp only[ja,je]at b0
    have kz:Bk (W2.setCell ⟨w.heap.size,0,none⟩ (.map none)) w.heap.size 33 [.map none]:=HKD3.out.set 0 _
    have hez:Ext w (W2.setCell ⟨w.heap.size,0,none⟩ (.map none)):=HXB.out.setCell (p:=⟨w.heap.size,0,none⟩) (jq _) _
    have z0:=kz.cell (i:=0) (by simp)
    simp only[ja]at z0
    have HEZ:=zO (And.intro z0 hez)
    clear hxb kz hez z0
    go_wp2_with fail
    refine(cvalid_any xn _ hz0).mono ?_
    rintro e w3 ⟨rfl,rfl⟩
    rcases hcat:catB xn with _|_
    ·have HCF:=zO hcat
     clear hcat
     go_wp2_with fail
     obtain⟨z0,hez⟩:=HEZ.out
     generalize (W2.setCell ⟨w.heap.size,0,none⟩ (.map none))=wz at *
     exact bodyPost_ret (v:=.tuple #[.agg #[.map none],.int .i64 7]) (by simp[results,Tryz.results32,go_sem,z0]) rfl ⟨hez,_,_,rfl,.inl ⟨by decide,HBAD.out (fun h=>by have h1:=h.1;rw[HCF.out]at h1;cases h1)⟩⟩
    ·clear hcat
     go_wp2_with fail
     obtain⟨z0,hez⟩:=HEZ.out
     generalize (W2.setCell ⟨w.heap.size,0,none⟩ (.map none))=wz at *
     exact bodyPost_ret (v:=.tuple #[.agg #[.map none],.int .i64 8]) (by simp[results,Tryz.results32,go_sem,z0]) rfl ⟨hez,_,_,rfl,.inl ⟨by decide,HDUP.out (dm_some HYE.out)⟩⟩
  ·obtain rfl:i=n:=by omega
   have hdi:¬(i:Int)<(i:Int):=by omega
   have et:ss.take i=ss:=jo (by have:=HNM.out;omega)
   rw[et]at HD HOK
   have b0:=HKW.out.cell (i:=0) (by simp);have bf0:=HKW.out.free 0
   simp only[ja]at b0
   clear et hfr hx hD
   go_wp2_with fail
   have kz:Bk (W.setCell ⟨w.heap.size,0,none⟩ (.map (some mb))) w.heap.size 33 [.map (some mb)]:=HKW.out.set 0 _
   have hez:Ext w (W.setCell ⟨w.heap.size,0,none⟩ (.map (some mb))):=HX.out.setCell (p:=⟨w.heap.size,0,none⟩) (jq _) _
   have hdz:DbB (fun k=>w.heap.size<k∧k≠mb) (W.setCell ⟨w.heap.size,0,none⟩ (.map (some mb))) mb i (dmL ss):=HD.out.fr ((Fr.refl (fun k=>k=w.heap.size) W).setCell (p:=⟨w.heap.size,0,none⟩) (.inl rfl) _) (by omega) (fun k hk e=>by omega)
   generalize (W.setCell ⟨w.heap.size,0,none⟩ (.map (some mb)))=wz at *
   have z0:=kz.cell (i:=0) (by simp)
   simp only[ja]at z0
   exact bodyPost_ret (v:=.tuple #[.agg #[.map (some mb)],.int .i64 0]) (by simp[results,Tryz.results32,go_sem,z0]) rfl ⟨hez,_,_,rfl,.inr ⟨rfl,mb,i,rfl,by omega,by have:=HNM.out;omega,hdz,HOK.out⟩⟩
