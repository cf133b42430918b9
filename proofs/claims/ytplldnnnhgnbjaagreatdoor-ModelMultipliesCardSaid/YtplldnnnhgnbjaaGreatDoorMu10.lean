/- packed -/
import Derived.Test.YtplldnnnhgnbjaaGreatDoorMu09
import Derived.Maps.RangeWalk
namespace Go.Proofs.YtplldnnnhgnbjaaGreatDoor
open Go.RowKit Go.Maps
theorem key_str2{key:Value}{kl:Lit}(h:keyOf Tryz.prog 9 key=some kl):∃s:ByteArray,key=.string s∧kl=.string s.data.toList:=by
 rw[keyOf_string Tryz.underlying9]at h
 cases key <;> simp[mapKey,Tryz.underlying9]at h
 obtain⟨-,rfl⟩:=h
 exact⟨_,rfl,rfl⟩
def RngV(w:World)(b r n:Nat)(f:ByteArray→Option Value)(sn:List ByteArray)(cnt:Nat):Prop :=
 ∃(D:DataW Value) (left:Lit→Bool),w.ranges Tryz.prog 9 Rv b r n D left cnt∧(∀s:ByteArray,∀zd,D.atKey (.string s.data.toList) zd=match f s with|some v=>.held v|none=>zd) ∧
  ∀s:ByteArray,left (.string s.data.toList)=((f s).isSome && !decide (s∈sn))
theorem wpList_range_V{w:World}{ops:Array Oper}{rest:List Oper}{o:Oper}{a:Act}{Q:Exit→Act→World→Prop}(hg:o.guard=none)(m:Operand)(t e:TypeId)(hop:o.op=Op.range t m)(ht:Tryz.prog.underlying t=some (.map 9 e))(b n:Nat)(f:ByteArray→Option Value)(hm:a.eval m=.map (some b))(hown:MapV w b n f)(hK:∀w' cnt,RngV w' b w.heap.size n f [] cnt→w.grownBy w' none→w'.heap.size=w.heap.size+1→wpList Tryz.prog ops Q rest (a.put o.dst (.pointer (some ⟨w.heap.size,0,none⟩))) w'):wpList Tryz.prog ops Q (o::rest) a w:=by
 obtain⟨D,hD,-,hat,hhas⟩:=hown
 refine wpList_range_own w hg m t hop 9 e law_str ht Rv b n D hm hD (fun w' h1 h2 h3=>hK w' _ ⟨D,_,h1,hat,fun s=>?_⟩ h2 h3)
 rw[hhas s]
 simp
theorem same_str(s x:ByteArray):(Lit.string s.data.toList).sameKey (.string x.data.toList)=decide (s=x):=by
 show (s.data.toList == x.data.toList)=_
 by_cases h:s=x
 ·subst h;simp
 ·rw[decide_eq_false h]
  have:s.data.toList≠x.data.toList:=fun e=>h (Go.WideShapes.bytes_inj e)
  simpa using this
theorem wpList_next_V{w:World}{ops:Array Oper}{rest:List Oper}{o:Oper}{a:Act}{Q:Exit→Act→World→Prop}(hg:o.guard=none)(it:Operand)(hop:o.op=Op.next it false)(b r n:Nat)(f:ByteArray→Option Value)(sn:List ByteArray)(cnt:Nat)(hit:a.eval it=.pointer (some ⟨r,0,none⟩))(h:RngV w b r n f sn cnt)(hDone:(∀s,(f s).isSome=true→s∈sn)→wpList Tryz.prog ops Q rest (a.put o.dst (.tuple #[.bool false])) w)(hMore:∀(s:ByteArray) (v:Value) (w':World) (cnt':Nat),f s=some v→s ∉ sn→RngV w' b r n f (sn++[s]) cnt'→cnt'<cnt→w.grownBy w' (some r)→w'.heap.size=w.heap.size →
   (Instr.entry (.pointer (some ⟨r,0,none⟩))).run Tryz.prog w'=.ok (.tuple #[.string s,v]) w'→wpList Tryz.prog ops Q rest (a.put o.dst (.tuple #[.bool true,.string s,v])) w'):wpList Tryz.prog ops Q (o::rest) a w:=by
 obtain⟨D,left,hrg,hat,hleft⟩:=h
 refine wpList_next_ranges w hg it hop 9 law_str Rv Value.string (fun v:Value=>v) (fun key kl hk=>let ⟨s,h1,_⟩:=key_str2 hk;⟨s,h1⟩) (fun v y _=>⟨v,rfl⟩) b r n D left cnt hit hrg ?_ ?_
 ·intro _ hl
  refine hDone (fun s hs=>?_)
  have h1:=hleft s
  rw[hl,hs]at h1
  simpa using h1
 ·intro x c kl y w' cnt' hkey hlk hv hyat hrg' hlt hgr hsz hen
  obtain⟨s,e1,rfl⟩:=key_str2 hkey
  injection e1 with e1
  subst e1
  rw[hleft x]at hlk
  simp only[Bool.and_eq_true,Bool.not_eq_true',decide_eq_false_iff_not]at hlk
  have hfx:f x=some c:=by
   have h1:=hyat (.held (.bool false))
   rw[hat x]at h1
   simp only[Rv,Option.some.injEq]at hv
   rw[←hv]at h1
   rcases hf:f x with _|u
   ·rw[hf]at hlk;simp at hlk
   ·rw[hf]at h1
    simp only[DataW.held.injEq]at h1
    rw[h1]
  refine hMore x c w' cnt' hfx hlk.2 ⟨D,_,hrg',hat,fun s=>?_⟩ hlt hgr hsz hen
  rw[hleft s,same_str]
  by_cases h1:s=x
  ·subst h1;simp
  ·simp[h1]
end Go.Proofs.YtplldnnnhgnbjaaGreatDoor
namespace Go.Proofs.YtplldnnnhgnbjaaGreatDoor
open Go.RowKit Go.Maps
theorem covB_iff{a b:At}:covB a b=true↔∀s,hasV a.terms s=true→hasV b.terms s=true:=by
 unfold covB
 rw[jz]
 constructor
 ·intro h s hs
  obtain⟨h1,t,ht,rfl⟩:=hasV_iff.1 hs
  have h2:=h t ht
  rw[Bool.or_eq_true,decide_eq_true_iff,jL]at h2
  rcases h2 with h2|⟨u,hu,h2⟩
  ·exact absurd h2 h1
  ·exact hasV_iff.2 ⟨h1,u,hu,of_decide_eq_true h2⟩
 ·intro h t ht
  rw[Bool.or_eq_true,decide_eq_true_iff,jL]
  by_cases hv:t.var=⟨#[]⟩
  ·exact .inl hv
  ·obtain⟨-,u,hu,e⟩:=hasV_iff.1 (h t.var (hasV_iff.2 ⟨hv,t,ht,rfl⟩))
   exact .inr ⟨u,hu,decide_eq_true e⟩
def gdB(a b:At):Bool:=!b.neg && covB a b
theorem guard_here{xs:List At}{a:At}{i:Nat}(hi:i<xs.length)(h0:∀j (_:j<i) (_:j<xs.length),gdB a xs[j]=false)(h1:gdB a xs[i]=true):guardI xs a=some i:=by
 unfold guardI
 rw[List.findIdx?_eq_some_iff_getElem]
 exact⟨hi,h1,fun j hj=>by have:=h0 j hj (by omega);unfold gdB at this;simp only[this];decide⟩
theorem guard_none{xs:List At}{a:At}(h0:∀j (_:j<xs.length),gdB a xs[j]=false):guardI xs a=none:=by
 unfold guardI
 rw[List.findIdx?_eq_none_iff]
 intro x hx
 obtain⟨j,hj,rfl⟩:=jv hx
 exact h0 j hj
def GuardPost(xs:List At)(a:At)(w:World)(e:Ending)(w':World):Prop :=
 Ext w w'∧((∃g:Nat,guardI xs a=some g∧e=.returned (.tuple #[.int .i64 (g:Int),.int .i64 0]))∨(guardI xs a=none∧e=.returned (.tuple #[.int .i64 0,.int .i64 23])))
theorem hasF_some{l:List Tm}{s:ByteArray}:(hasF l s).isSome=hasV l s:=by
 unfold hasF
 by_cases h:hasV l s=true
 ·rw[if_pos h,h];rfl
 ·rw[if_neg h]
  rw[Bool.not_eq_true]at h
  rw[h];rfl
theorem hasV_size{l:List Tm}{s:ByteArray}(hz:TmZ l)(h:hasV l s=true):s.size≤maxLen:=by
 obtain⟨-,t,ht,rfl⟩:=hasV_iff.1 h
 exact(hz t ht).1
set_option maxRecDepth 20000 in
set_option maxHeartbeats 3200000 in
theorem guard_any{F:Nat→Prop}{w:World}{A C:Option Addr}{n c nc cc:Nat}{xs:List At}{k:Nat}(hA:Ats F w (.slice A n c) xs)(hz:∀a∈xs,TmZ a.terms)(hl:∀a∈xs,a.terms.length≤1048576)(hk:k<xs.length)(hneg:xs[k].neg=true)(hn:n≤1048576) :
  Calls Tryz.prog 141 #[.agg #[.slice A n c,.slice C nc cc],.int .i64 (k:Int)] w (GuardPost xs xs[k] w):=by
 have hnx:n=xs.length:=by
  obtain⟨A',c',e⟩:=hA.sl
  injection e
 obtain⟨a,ha⟩:∃a,a=xs[k]:=⟨_,rfl⟩
 obtain⟨ad,Bk0,dk0,rfl,-,c0,c1,c2,hTk⟩:=hA.at2 k hk
 rw[←ha]at hneg c0 c1 c2 hTk ⊢
 have hza:=hz _ (jg hk);have hla:=hl _ (jg hk)
 rw[←ha]at hza hla
 have HA:=zO hA.at2;have HZ:=zO hz;have HL:=zO hl;have HN:=zO hnx;have HTK:Hid (Ts F w (.slice Bk0 a.terms.length dk0) a.terms):=zO ⟨Bk0,dk0,rfl,hTk.1,hTk.2⟩
 have HZA:=zO hza;have HLA:=zO hla
 have k0:(0:Int)≤(k:Int):=by omega
 have k1:(k:Int)<(n:Int):=by omega
 have k2:¬(k:Int)<0:=by omega
 have k3:¬(n:Int)≤(k:Int):=by omega
 have kn:k<n:=by omega
 rw[hneg]at c0
 obtain⟨ntk,hntk⟩:∃m,m=a.terms.length:=⟨_,rfl⟩
 rw[←hntk]at c2 HTK
 have HV:=zO (fun (V:World) (hV:Ext w V)=>variables_any (a:=a) (HTK.out.ext hV) HZA.out HLA.out)
 rw[hneg]at HV
 obtain⟨ar,har⟩:∃r,r=a.rel:=⟨_,rfl⟩
 rw[←har]at c1 HV
 clear hA hz hl hnx hTk hza hla ha hneg hntk har
 go_enter Tryz.func141,Tryz.ntmps141
 go_wp2_with fail
 have hx:Ext w (w.alloc (.cells #[.slice (some ad) n c,.slice C nc cc] 46)):=(Ext.refl w).alloc _
 have kb:=Bk.new w 46 [.slice (some ad) n c,.slice C nc cc]
 change Bk (w.alloc (.cells #[.slice (some ad) n c,.slice C nc cc] 46)) _ _ _ at kb
 generalize (w.alloc (.cells #[.slice (some ad) n c,.slice C nc cc] 46))=w1 at *
 have b0:=kb.cell (i:=0) (by simp)
 simp only[ja]at b0
 replace c0:=hx.cell c0;replace c1:=hx.cell c1;replace c2:=hx.cell c2
 have HX1:=zO hx
 clear kb hx
 go_step3
 go_wp2_with fail
 refine(HV.out _ HX1.out).mono ?_
 rintro e w2 ⟨bn,mn,rfl,he2,hbn,hmn,hM⟩
 replace b0:=he2.cell b0
 have HX2:=zO (HX1.out.trans he2);have HM:=zO hM
 have hbn2:w.heap.size≤bn:=js HX1.out.size hbn
 have hbl2:bn<w2.heap.size:=hM.lt
 clear he2 hM c0 c1 c2 hmn hbn
 go_wp2_with fail
 go_step3
 go_wp2_with fail
 clear b0
 go_loopg [7,8,38] n (fun fu g e p wr=>∃i:Nat,i+fu=n∧g=.int .i64 0∧e=.int .i64 23∧p=.int .i64 (i:Int)∧Hid (∀j (_:j<i) (_:j<xs.length),gdB a xs[j]=false)∧Ext w2 wr)
 case atStart=>exact⟨0,by omega,rfl,rfl,rfl,zO (fun j hj=>by omega),Ext.refl _⟩
 case round =>
  obtain⟨i,hin,rfl,rfl,rfl,H,hxr⟩:=hrel
  obtain⟨N,rfl⟩:∃N,N=gk:=⟨_,rfl⟩
  obtain⟨W,rfl⟩:∃W:World,W=wr:=⟨_,rfl⟩
  have HX:=zO (HX2.out.trans hxr);have HXR:=zO hxr
  have hW2:w2.heap.size≤W.heap.size:=hxr.size
  have hi:i≤n:=by omega
  by_cases hlt:i<n
  ·have i1:(0:Int)≤(i:Int):=by omega
   have i2:(i:Int)<(n:Int):=by omega
   have hit:i<xs.length:=by have:=HN.out;omega
   obtain⟨ad',B1,d1,e1,-,d0,d1',d2,hT⟩:=HA.out i hit
   injection e1 with e1
   subst e1
   replace d0:=HX.out.cell d0;replace d1':=HX.out.cell d1';replace d2:=HX.out.cell d2
   have hz1:=HZ.out _ (jg hit);have hl1:=HL.out _ (jg hit)
   have hgo:gdB a xs[i]=false→∀j (_:j<i+1) (_:j<xs.length),gdB a xs[j]=false:=fun h j hj hl=>by
    rcases jB j i with h2|h2
    ·exact H.out j h2 hl
    ·have:j=i:=by omega
     subst this;exact h
   have hhere:=fun h=>guard_here (a:=a) hit H.out h
   obtain⟨b,hb⟩:∃b,b=xs[i]:=⟨_,rfl⟩
   rw[←hb]at d0 d1' d2 hz1 hl1 hgo hhere hT
   have HT:Hid (Ts F w (.slice B1 b.terms.length d1) b.terms):=zO ⟨B1,d1,rfl,hT.1,hT.2⟩
   have HGO:=zO hgo;have HH:=zO hhere
   have HV1:=zO (fun (V:World) (hV:Ext w V)=>variables_any (a:=b) (HT.out.ext hV) hz1 hl1)
   obtain⟨ng,rl,ts⟩:=b
   simp only at d0 d1' d2 HT HV1
   obtain⟨nt,hnt⟩:∃m,m=ts.length:=⟨_,rfl⟩
   rw[←hnt]at d2 HT HV1
   clear hb hz1 hl1 hgo hhere hT hnt hxr
   rcases ng with _|_
   ·go_wp2_with fail
    refine(HV1.out _ (HX.out.alloc _)).mono ?_
    rintro e w4 ⟨bp,mp,rfl,he4,hbp,hmp,hM4⟩
    have HX4:=zO ((Ext.alloc (Ext.refl W) _).trans he4);have HM4:=zO hM4
    have HMN:=zO (HM.out.ext (HXR.out.trans HX4.out))
    have hbp2:W.heap.size<bp:=by have:=(Ext.alloc (Ext.refl W) (.cells #[.bool false,.string rl,.slice B1 nt d1] 49)).size;simp at hbp;omega
    have hbp4:bp<w4.heap.size:=hM4.lt
    clear he4 hM4 d0 d1' d2 hmp hbp
    go_wp2_with (first
     | (at_range;refine wpList_range_V rfl _ 121 4 rfl Tryz.underlying121 bn mn (hasF a.terms) rfl HMN.out ?_;intro w5 cnt hr5 hg5 hs5))
    have he5:Ext w4 w5:=(Ext.refl w4).grown hg5 (fun k e=>by cases e)
    have HR5:=zO hr5;have HE5:=zO he5
    have hs5':w5.heap.size=w4.heap.size+1:=hs5
    clear hr5 hg5 hs5 he5
    go_frame
    go_loopg [12] cnt (fun fu (v:Value) wr=>∃(sn:List ByteArray),RngV wr bn w4.heap.size mn (hasF a.terms) sn fu∧Hid (∀s∈sn,hasV ts s=true)∧Fr (fun b=>b=w4.heap.size) w5 wr)
    case atStart=>exact⟨[],HR5.out,zO (fun s hs=>by simp at hs),Fr.refl _ _⟩
    case round =>
     obtain⟨sn,hrng,HSN,hfr⟩:=hrel
     have HRG:=zO hrng;have HFR:=zO hfr
     have hxw:Ext w4 wr:=hfr.new HE5.out (fun b hb=>by omega)
     have HXW:=zO hxw
     have HMP:=zO ((HM4.out.ext HE5.out).fr hfr (by omega))
     clear hrng hfr hxw
     go_wp2_with (first
      | (at_next;refine wpList_next_V rfl _ rfl bn w4.heap.size mn (hasF a.terms) sn gk rfl HRG.out ?_ ?_))
     ·intro hdone
      have hcov:gdB a ⟨false,rl,ts⟩=true:=by
       unfold gdB
       rw[Bool.and_eq_true]
       exact⟨rfl,covB_iff.2 (fun s hs=>HSN.out s (hdone s (by rw[hasF_some];exact hs)))⟩
      have HQ:=zO (HH.out hcov)
      clear hdone hcov
      go_wp2_with fail
      go_ret2
      exact⟨HX.out.trans (HX4.out.trans HXW.out),.inl ⟨i,HQ.out,rfl⟩⟩
     ·intro s v w6 cnt6 hfs hsn hrg6 hlt6 hgr6 hsz6 hen6
      have hva:hasV a.terms s=true:=by rw[←hasF_some,hfs];rfl
      have hss:=hasV_size HZA.out hva
      have HVA:=zO hva
      have HM6:=zO (HMP.out.fr (grown_fr hgr6) (fun e=>by injection e with e;omega))
      have HR6:=zO hrg6
      have hf6:Fr (fun b=>b=w4.heap.size) w5 w6:=HFR.out.grown hgr6 (fun k e=>.inl (by injection e with e;exact e.symm))
      have HF6:=zO hf6
      have HX6:Hid (Ext w4 w6):=zO (hf6.new HE5.out (fun b hb=>by omega))
      have hget:=hasF_get ts s
      obtain⟨b,hb⟩:∃b,b=hasV ts s:=⟨_,rfl⟩
      rw[←hb]at hget
      have HGET:=zO hget;have HB:=zO hb
      clear hfs hsn hrg6 hgr6 hsz6 hf6 hget hb hva
      rcases b with _|_
      ·have HG:=zO (HGO.out (by
        have h1:¬gdB a ⟨false,rl,ts⟩=true:=fun h=>by
         unfold gdB at h
         rw[Bool.and_eq_true]at h
         have h2:=covB_iff.1 h.2 s HVA.out
         have h3:=HB.out
         simp only at h2
         rw[h2]at h3
         cases h3
        simpa using h1))
       go_wp2_with (first|(refine wpList_lookup_V rfl _ _ 121 4 rfl Tryz.underlying121 (.bool false) (zero_bool _) bp mp _ rfl HM6.out s rfl hss (.bool false) HGET.out ?_))
       go_roundg (N-1)
       case measure=>omega
       case rel=>exact⟨i+1,by omega,rfl,rfl,by go_num,HG,HXR.out.trans (HX4.out.trans HX6.out)⟩
      ·have HG:Hid (∀x∈sn++[s],hasV ts x=true):=zO (fun x hx=>by
        rcases jp.1 hx with hx|hx
        ·exact HSN.out x hx
        ·rw[jt.1 hx];exact HB.out.symm)
       go_wp2_with (first|(refine wpList_lookup_V rfl _ _ 121 4 rfl Tryz.underlying121 (.bool false) (zero_bool _) bp mp _ rfl HM6.out s rfl hss (.bool true) HGET.out ?_))
       go_roundg cnt6
       case measure=>omega
       case rel=>exact⟨sn++[s],HR6.out,HG,HF6.out⟩
   ·have HG:=zO (HGO.out rfl)
    go_wp2_with fail
    go_roundg (N-1)
    case measure=>omega
    case rel=>exact⟨i+1,by omega,rfl,rfl,by go_num,HG,HXR.out.alloc _⟩
  ·obtain rfl:i=n:=by omega
   have hdi:¬(i:Int)<(i:Int):=by omega
   have HQ:=zO (guard_none (a:=a) (xs:=xs) (fun j hj=>H.out j (by have:=HN.out;omega) hj))
   go_wp2_with fail
   go_ret2
   exact⟨HX.out,.inr ⟨HQ.out,rfl⟩⟩
end Go.Proofs.YtplldnnnhgnbjaaGreatDoor
namespace Go.Proofs.YtplldnnnhgnbjaaGreatDoor
open Go.RowKit Go.Maps
set_option maxRecDepth 20000 in
set_option maxHeartbeats 1600000 in
theorem verify_any{F G:Nat→Prop}{w:World}{va vc:Value}{r:Rl}{b m:Nat}{km:Km}(hA:Ats F w va r.ats)(hC:Sl rdCd G w vc r.cds)(hM:MapV w b m (kmF km))(hz:RlZ r)(hl:∀a∈r.ats,a.terms.length≤1048576)(hl1:r.ats.length≤1048576)(hl2:r.cds.length≤1048576) :
  Calls Tryz.prog 65 #[.agg #[va,vc],.map (some b)] w (Ret (fun x _=>x=.int .i64 (verifyE km r)) w):=by
 obtain⟨A,c,rfl⟩:=hA.sl
 obtain⟨C,d,rfl⟩:=hC.sl
 obtain⟨n,hn⟩:∃n,n=r.ats.length:=⟨_,rfl⟩
 obtain⟨nc,hnc⟩:∃m,m=r.cds.length:=⟨_,rfl⟩
 rw[←hn]at hA hl1 ⊢
 rw[←hnc]at hC hl2 ⊢
 have HA0:=zO hA;have HA:=zO hA.at2;have HC:=zO hC;have HN:=zO hn;have HNC:=zO hnc;have HZ:=zO hz;have HM:=zO hM;have HL:=zO hl
 have hE1:firstE (kindE km) r.cds=0→verifyE km r=firstE (negE r.ats) r.ats:=fun h=>if_pos h
 have hE2:firstE (kindE km) r.cds≠0→verifyE km r=firstE (kindE km) r.cds:=fun h=>if_neg h
 have HE1:=zO hE1;have HE2:=zO hE2
 clear hn hnc hA hC hz hM hl hE1 hE2
 go_enter Tryz.func65,Tryz.ntmps65
 go_wp2_with fail
 have hx:Ext w (w.alloc (.cells #[.slice A n c,.slice C nc d] 46)):=(Ext.refl w).alloc _
 have kb:=Bk.new w 46 [.slice A n c,.slice C nc d]
 change Bk (w.alloc (.cells #[.slice A n c,.slice C nc d] 46)) _ _ _ at kb
 generalize (w.alloc (.cells #[.slice A n c,.slice C nc d] 46))=w1 at *
 have HKB:=zO kb
 clear kb
 go_loopw [14] (fun t wr=>∃i:Nat,i≤nc∧t=.int .i64 (i:Int)∧Hid (∀j (_:j<i) (_:j<r.cds.length),kindE km r.cds[j]=0)∧Ext w1 wr) (fun t _=>nc-(intOf t).toNat)
 case atStart=>exact⟨0,jn _,rfl,zO (fun j hj=>by omega),Ext.refl _⟩
 case round =>
  obtain⟨i,hi,rfl,H,hxr⟩:=hrel
  obtain⟨W,rfl⟩:∃W:World,W=wr:=⟨_,rfl⟩
  have HX:=zO (hx.trans hxr);have HX1:=zO hxr
  by_cases hlt:i<nc
  ·have i1:(0:Int)≤(i:Int):=by omega
   have i2:(i:Int)<(nc:Int):=by omega
   have hit:i<r.cds.length:=by have:=HNC.out;omega
   obtain⟨ad,rfl,-,d0,d1,d2,d3,d4⟩:=HC.out.cd hit
   replace d0:=HX.out.cell d0;replace d1:=HX.out.cell d1;replace d2:=HX.out.cell d2;replace d3:=HX.out.cell d3;replace d4:=HX.out.cell d4
   have hgo:=take_ok (f:=kindE km) hit H.out
   have hst:=firstE_at (f:=kindE km) hit H.out
   have hz1:=HZ.out.var _ (jg hit)
   obtain⟨x,hx⟩:∃x,x=r.cds[i]:=⟨_,rfl⟩
   rw[←hx]at d0 d1 d2 d3 d4 hgo hst hz1
   obtain⟨xv,op,kd,it,st⟩:=x
   simp only at d0 d1 d2 d3 d4 hz1
   have HGO:=zO hgo;have HST:=zO hst
   have hget:=kmF_get km xv
   obtain⟨kv,hkv⟩:∃kv,kv=(km xv).getD 0:=⟨_,rfl⟩
   rw[←hkv]at hget
   have HGET:=zO hget
   have hke:kindE km ⟨xv,op,kd,it,st⟩=if kd=kv then 0 else 5:=by rw[hkv];rfl
   have HKE:=zO hke
   clear hgo hst hx hkv hget hke hxr
   by_cases hk:kd=kv
   ·have HG:=zO (HGO.out (by rw[HKE.out,if_pos hk]))
    have hb:(kd != kv)=false:=by rw[hk];simp
    clear hk
    go_wp2_with (first|(refine wpList_lookup_V rfl _ _ 145 3 rfl Tryz.underlying145 (.int .i64 0) (zero_int _) b m _ rfl (HM.out.ext (HX.out.alloc _)) xv rfl hz1 (.int .i64 kv) HGET.out ?_))
    go_roundw
    case rel=>exact⟨i+1,by omega,by go_num,HG,HX1.out.alloc _⟩
    case measure=>simp[intOf];omega
   ·have h5:kindE km ⟨xv,op,kd,it,st⟩=5:=by rw[HKE.out,if_neg hk]
    have hf5:=HST.out (by rw[h5];decide)
    have HQ:Hid (verifyE km r=5):=zO (by rw[HE2.out (by rw[hf5,h5];decide),hf5,h5])
    have hb:(kd != kv)=true:=by rw[bne_iff_ne];exact hk
    clear hk h5 hf5
    go_wp2_with (first|(refine wpList_lookup_V rfl _ _ 145 3 rfl Tryz.underlying145 (.int .i64 0) (zero_int _) b m _ rfl (HM.out.ext (HX.out.alloc _)) xv rfl hz1 (.int .i64 kv) HGET.out ?_))
    go_ret
    exact Ret.mk (HX.out.alloc _) (ret_i HQ.out)
  ·obtain rfl:i=nc:=by omega
   have hdi:¬(i:Int)<(i:Int):=by omega
   have HV:=zO (HE1.out (firstE_all (fun j hj=>H.out j (by have:=HNC.out;omega) hj)))
   have b0:=(HKB.out.ext hxr).cell (i:=0) (by simp)
   simp only[ja,je]at b0
   go_wp2_with fail
   have HKW:=zO (HKB.out.ext HX1.out)
   clear b0
   go_loopw [30] (fun t wr=>∃i:Nat,i≤n∧t=.int .i64 (i:Int)∧Hid (∀j (_:j<i) (_:j<r.ats.length),negE r.ats r.ats[j]=0)∧Ext W wr) (fun t _=>n-(intOf t).toNat)
   case atStart=>exact⟨0,jn _,rfl,zO (fun j hj=>by omega),Ext.refl _⟩
   case round =>
    obtain⟨k,hk,rfl,H2,hxk⟩:=hrel
    have HY:=zO (HX.out.trans hxk);have HY1:=zO hxk
    by_cases hkm:k<n
    ·have j1:(0:Int)≤(k:Int):=by omega
     have j2:(k:Int)<(n:Int):=by omega
     have hit:k<r.ats.length:=by have:=HN.out;omega
     have b0:=(HKW.out.ext hxk).cell (i:=0) (by simp);have b1:=(HKW.out.ext hxk).cell (i:=1) (by simp)
     simp only[ja,je]at b0 b1
     have hkb:w.heap.size<wr.heap.size:=(HKW.out.ext hxk).lt
     obtain⟨ad,Bt,dt,rfl,-,d0,d1,d2,-⟩:=HA.out k hit
     replace d0:=HY.out.cell d0;replace d1:=HY.out.cell d1;replace d2:=HY.out.cell d2
     have hgo:=take_ok (f:=negE r.ats) hit H2.out
     have hst:=firstE_at (f:=negE r.ats) hit H2.out
     have hgd:=fun (V:World) (hV:Ext w V) (hng:r.ats[k].neg=true)=>guard_any (C:=C) (nc:=i) (cc:=d) (k:=k) (HA0.out.ext hV) HZ.out.tms HL.out hit hng hl1
     obtain⟨x,hx⟩:∃x,x=r.ats[k]:=⟨_,rfl⟩
     rw[←hx]at d0 d1 d2 hgo hst hgd
     have HGO:=zO hgo;have HST:=zO hst
     have HGD:=zO hgd
     have HNE:Hid (negE r.ats x=if x.neg=true then (if (guardI r.ats x).isSome=true then 0 else 23) else 0):=zO rfl
     obtain⟨ng,hng⟩:∃ng,ng=x.neg:=⟨_,rfl⟩
     rw[←hng]at d0 HNE HGD
     clear hx hgo hst hgd hxk hng
     rcases ng with _|_
     ·have HG:=zO (HGO.out (by rw[HNE.out];rfl))
      go_wp2_with fail
      go_roundw
      case rel=>exact⟨k+1,by omega,by go_num,HG,HY1.out.alloc _⟩
      case measure=>simp[intOf];omega
     ·go_wp2_with fail
      refine(HGD.out _ (HY.out.alloc _) (by trivial)).mono ?_
      rintro e w5 ⟨he5,hpost⟩
      have HX5:=zO he5
      clear he5 d0 d1 d2 b0 b1
      rcases hpost with ⟨g,hg,rfl⟩|⟨hg,rfl⟩
      ·have HG:=zO (HGO.out (by rw[HNE.out,if_pos (by trivial),hg];rfl))
       clear hg
       go_wp2_with fail
       go_roundw
       case rel=>exact⟨k+1,by omega,by go_num,HG,(HY1.out.alloc _).trans HX5.out⟩
       case measure=>simp[intOf];omega
      ·have h23:negE r.ats x=23:=by rw[HNE.out,if_pos (by trivial),hg];rfl
       have HQ:Hid (verifyE km r=23):=zO (by rw[HV.out,HST.out (by rw[h23];decide),h23])
       clear hg h23
       go_wp2_with fail
       go_ret
       exact Ret.mk ((HY.out.alloc _).trans HX5.out) (ret_i HQ.out)
    ·obtain rfl:k=n:=by omega
     have hdk:¬(k:Int)<(k:Int):=by omega
     have HQ:Hid (verifyE km r=0):=zO (by rw[HV.out];exact firstE_all (fun j hj=>H2.out j (by have:=HN.out;omega) hj))
     go_wp2_with fail
     go_ret
     exact Ret.mk HY.out (ret_i HQ.out)
end Go.Proofs.YtplldnnnhgnbjaaGreatDoor
namespace Go.Proofs.YtplldnnnhgnbjaaGreatDoor
open Go.RowKit Go.Maps
def orderL(hd:List ByteArray)(od:List Ky):List Ky:=od++(hd.filter (fun v=>!decide (v∈od.map Ky.var))).map (fun v=>⟨v,false⟩)
def kcells(l:List Ky):List Value:=l.flatMap Ky.cells
theorem kcells_len(l:List Ky):(kcells l).length=l.length*2:=by
 induction l with
 | nil=>rfl
 | cons a l ih=>simp[kcells,Ky.cells]at ih ⊢;omega
theorem kcells_one(l:List Ky):∀u∈kcells l,u.oneCell'=true:=by
 intro u hu
 obtain⟨k,-,h⟩:=zB.1 hu
 simp only[Ky.cells,jC,zz,or_false]at h
 rcases h with rfl|rfl <;> rfl
theorem kcells_get:∀{l:List Ky} {i:Nat} (hi:i<l.length) (j:Nat),j<2→(kcells l)[i*2+j]?=(l[i].cells)[j]?
 | t::ts,0,_,j,hj=>by
  simp only[kcells,jQ,Nat.zero_mul,jW,ja]
  rw[zi (by simpa [Ky.cells] using hj)]
 | t::ts,i+1,hi,j,hj=>by
  have ih:=kcells_get (l:=ts) (i:=i) (by simpa using hi) j hj
  simp only[kcells,jQ,je]at ih ⊢
  rw[ze (by simp[Ky.cells];omega),←ih]
  congr 1
  simp[Ky.cells];omega
theorem Sl.kcl{F:Nat→Prop}{w:World}{A:Option Addr}{n c:Nat}{l:List Ky}(h:Sl rdKy F w (.slice A n c) l):Cl F w A (kcells l):=by
 rcases l with _|⟨k,l⟩
 ·exact .inl rfl
 ·have h0:=h
  obtain⟨A',c',e,-,hh⟩:=h
  injection e with e1
  subst e1
  obtain⟨ad,cs,rfl,hF,-⟩:=hh 0 (by simp)
  refine .inr ⟨ad,rfl,hF,fun j hj=>?_⟩
  rw[kcells_len]at hj
  obtain⟨ad',cs',e,-,hr,hc⟩:=hh (j / 2) (by omega)
  injection e with e
  subst e
  have e2:cs'=((k::l)[j / 2]'(by omega)).cells:=hr
  subst e2
  have h1:=hc (j % 2) (by simp[Ky.cells];omega)
  have h2:=kcells_get (l:=k::l) (i:=j / 2) (by omega) (j % 2) (by omega)
  rw[show rdKy.sz=2 from rfl,show j / 2*2+j % 2=j by omega]at h1
  rw[show j / 2*2+j % 2=j by omega]at h2
  exact(h1.trans (jk _).symm).trans (h2.symm.trans (jk _))
set_option maxRecDepth 20000 in
set_option maxHeartbeats 3200000 in
theorem order_any{F:Nat→Prop}{w:World}{A B O:Option Addr}{ca cb co nb:Nat}{ag:Int}{av:ByteArray}{hd:List ByteArray}{od:List Ky}(hH:Strs F w (.slice A hd.length ca) hd)(hO:Sl rdKy F w (.slice O od.length co) od)(hhz:∀s∈hd,s.size≤maxLen)(hoz:∀k∈od,k.var.size≤maxLen)(hlh:hd.length≤500000)(hlo:od.length≤500000) :
  Calls Tryz.prog 124 #[.agg #[.slice A hd.length ca,.int .i64 ag,.string av,.slice B nb cb,.slice O od.length co]] w (Ret (fun x w'=>w'.ownsRow w.heap.size 208 2 x (orderL hd od).length (kcells (orderL hd od))) w):=by
 have HCL:=zO (fun (V:World) (hV:Ext w V)=>clone_keys (c:=co) (hO.kcl.ext hV) (kcells_len od) (kcells_one od) (by omega))
 obtain⟨nh,hnh⟩:∃n,n=hd.length:=⟨_,rfl⟩
 obtain⟨no,hno⟩:∃n,n=od.length:=⟨_,rfl⟩
 rw[←hnh]at hH hlh
 rw[←hno]at hO hlo HCL
 rw[←hnh,←hno]
 obtain⟨ns,hns⟩:∃ns,ns=od.map Ky.var:=⟨_,rfl⟩
 have hord:∀i,orderL hd od=od++((hd.take i).filter (fun v=>!decide (v∈ns))).map (fun v=>⟨v,false⟩)++((hd.drop i).filter (fun v=>!decide (v∈ns))).map (fun v=>⟨v,false⟩):=fun i=>by
  unfold orderL
  rw[zq,←jI,←jK,za,hns]
 have HORD:=zO hord;have HNS:=zO hns;have HNH:=zO hnh;have HNO:=zO hno;have HH:=zO hH;have HO:=zO hO;have HHZ:=zO hhz;have HOZ:=zO hoz
 obtain⟨i0,hi0,hz0,hz1,hz2⟩:=info_parts info_key
 have HI0:=zO (And.intro hi0 (And.intro hz0 (And.intro hz1 hz2)));clear hi0 hz0 hz1 hz2
 have hmm:=@run_makeMap Tryz.prog
 clear hord hns hnh hno hH hO hhz hoz
 go_enter Tryz.func124,Tryz.ntmps124
 go_wp2_with fail
 have hx:Ext w (w.alloc (.cells #[.slice A nh ca,.int .i64 ag,.string av,.slice B nb cb,.slice O no co] 28)):=(Ext.refl w).alloc _
 have kb:=Bk.new w 28 [.slice A nh ca,.int .i64 ag,.string av,.slice B nb cb,.slice O no co]
 change Bk (w.alloc (.cells #[.slice A nh ca,.int .i64 ag,.string av,.slice B nb cb,.slice O no co] 28)) _ _ _ at kb
 generalize (w.alloc (.cells #[.slice A nh ca,.int .i64 ag,.string av,.slice B nb cb,.slice O no co] 28))=w1 at *
 refine(HCL.out _ hx).mono ?_
 rintro e w2 ⟨v2,rfl,he,hown⟩
 obtain⟨A2,c2,rfl⟩:=own_slice hown
 have hk2:=kb.ext he
 have b4:=hk2.cell (i:=4) (by simp)
 simp only[ja,je]at b4
 have HX2:=zO (hx.trans he);have HOWN:=zO hown;have HK2:=zO hk2
 have hw01:w.heap.size≤w1.heap.size:=hx.size
 have hw2:w.heap.size<w2.heap.size:=hk2.lt
 clear hown he hx kb hk2
 go_wp2_with fail
 have hm1:=MapV.made w2
 rw[←inF_nil]at hm1
 have hx3:Ext w2 (w2.alloc (.map #[] 0)):=(Ext.refl w2).alloc _
 obtain⟨bm,hbm⟩:∃b,b=w2.heap.size:=⟨_,rfl⟩
 rw[←hbm]at hm1 ⊢
 have hbm2:w.heap.size<bm:=by omega
 have hbm3:w2.heap.size≤bm:=by omega
 generalize (w2.alloc (.map #[] 0))=w3 at *
 have HM3:=zO hm1;have HX3:=zO hx3
 clear hm1 hx3 hbm hmm b4
 go_loopw [16] (fun t wr=>∃i m:Nat,i≤no∧m≤i∧t=.int .i64 (i:Int)∧MapV wr bm m (inF (ns.take i))∧Ext w2 wr) (fun t _=>no-(intOf t).toNat)
 case atStart=>exact⟨0,0,jn _,jq _,rfl,HM3.out,HX3.out⟩
 case round =>
  obtain⟨i,m,hi,hmi,rfl,hM,hxr⟩:=hrel
  obtain⟨W,rfl⟩:∃W:World,W=wr:=⟨_,rfl⟩
  have HX:=zO (HX2.out.trans hxr);have HXR:=zO hxr;have HMM:=zO hM
  clear hM
  by_cases hlt:i<no
  ·have i1:(0:Int)≤(i:Int):=by omega
   have i2:(i:Int)<(no:Int):=by omega
   have hit:i<od.length:=by have:=HNO.out;omega
   have hin:i<ns.length:=by rw[HNS.out,jm];exact hit
   obtain⟨ad,rfl,-,d0,d1⟩:=HO.out.ky hit
   replace d0:=HX.out.cell d0;replace d1:=HX.out.cell d1
   have hzi:=HOZ.out _ (jg hit)
   have htk:ns.take (i+1)=ns.take i++[od[i].var]:=by rw[jj hin];simp[HNS.out]
   obtain⟨⟨xv,xd⟩,hx⟩:∃x,x=od[i]:=⟨_,rfl⟩
   rw[←hx]at d0 d1 hzi htk
   simp only at d0 d1 hzi htk
   have HTK:=zO htk
   clear hx htk hxr
   go_wp2_with (first
    | (refine wpList_update_V rfl _ _ _ 121 4 rfl Tryz.underlying121 bm m (inF (ns.take i)) rfl (HMM.out.ext ((Ext.refl W).alloc _)) (by simp only[maxLen];omega) xv (.bool true) rfl hzi rfl ?_;intro w5 hm5 hg5;have HM5:=zO hm5;have HG5:=zO hg5;clear hm5 hg5))
   go_roundw
   case rel=>exact⟨i+1,m+1,by omega,by omega,by go_num,by rw[HTK.out,←inF_add];exact HM5.out,(HXR.out.alloc _).grown HG5.out (fun k e=>by injection e with e;omega)⟩
   case measure=>simp[intOf];omega
  ·obtain rfl:i=no:=by omega
   have hdi:¬(i:Int)<(i:Int):=by omega
   have et:ns.take i=ns:=jo (by rw[HNS.out,jm];have:=HNO.out;omega)
   rw[et]at HMM
   have b0:=(HK2.out.ext hxr).cell (i:=0) (by simp)
   simp only[ja,je]at b0
   have HR0:Hid (W.ownsRow w.heap.size 208 2 (.slice A2 i c2) i (kcells od)):=zO (by
    have h:=own_ext' HOWN.out hxr
    exact⟨h.1,h.2.imp id (fun ⟨g,cap,cur,e1,e2,e3⟩=>⟨g,cap,cur,e1,js hw01 e2,e3⟩)⟩)
   clear et hxr
   go_wp2_with fail
   clear b0
   go_loopw [3,27] (fun p t wr=>∃(y k:Nat) (ks:List Ky),y≤nh∧t=.int .i64 (y:Int)∧Hid (ks=od++((hd.take y).filter (fun v=>!decide (v∈ns))).map (fun v=>⟨v,false⟩))∧k≤i+y∧wr.ownsRow w.heap.size 208 2 p k (kcells ks)∧Ext w wr∧MapV wr bm i (inF ns)) (fun _ t _=>nh-(intOf t).toNat)
   case atStart=>exact⟨0,i,od,jn _,rfl,zO (by simp),by omega,HR0.out,HX.out,HMM.out.mono hmi⟩
   case round =>
    obtain⟨y,k,ks,hyh,rfl,HKS,hky,hrow,hxy,hm⟩:=hrel
    obtain⟨Ap,cp,rfl⟩:=own_slice hrow
    have HROW:=zO hrow;have HXY:=zO hxy;have HMY:=zO hm
    have hwy:w.heap.size≤wr.heap.size:=hxy.size
    clear hrow hm
    by_cases hyl:y<nh
    ·have y1:(0:Int)≤(y:Int):=by omega
     have y2:(y:Int)<(nh:Int):=by omega
     have hyr:y<hd.length:=by have:=HNH.out;omega
     obtain⟨A',c',e,-,hcl⟩:=HH.out
     injection e with e1 e2 e3
     subst e1
     obtain⟨adh,rfl,-,f0⟩:=hcl.str hyr
     replace f0:=hxy.cell f0
     have hzs:=HHZ.out _ (jg hyr)
     have htk:hd.take (y+1)=hd.take y++[hd[y]]:=jj hyr
     obtain⟨v,hv⟩:∃v,v=hd[y]:=⟨_,rfl⟩
     rw[←hv]at f0 hzs htk
     have HTK:=zO htk
     clear hv htk hcl e2 e3 hxy
     by_cases hin:v∈ns
     ·have HGET:Hid ((inF ns v).getD (.bool false)=.bool true):=zO (by rw[inF_get,decide_eq_true hin])
      have HG:Hid (ks=od++((hd.take (y+1)).filter (fun v=>!decide (v∈ns))).map (fun v=>⟨v,false⟩)):=zO (by rw[HTK.out,jK];simp[hin,HKS.out])
      clear hin
      go_wp2_with (first|(refine wpList_lookup_V rfl _ _ 121 4 rfl Tryz.underlying121 (.bool false) (zero_bool _) bm i _ rfl HMY.out v rfl hzs (.bool true) HGET.out ?_))
      go_roundw
      case rel=>exact⟨y+1,k,ks,by omega,by go_num,HG,by omega,HROW.out,HXY.out,HMY.out⟩
      case measure=>simp[intOf];omega
     ·have HGET:Hid ((inF ns v).getD (.bool false)=.bool false):=zO (by rw[inF_get,decide_eq_false hin])
      have HG:Hid (ks++[⟨v,false⟩]=od++((hd.take (y+1)).filter (fun v=>!decide (v∈ns))).map (fun v=>⟨v,false⟩)):=zO (by rw[HTK.out,jK];simp[hin,HKS.out])
      clear hin
      go_wp2_with (first
       | (refine wpList_lookup_V rfl _ _ 121 4 rfl Tryz.underlying121 (.bool false) (zero_bool _) bm i _ rfl HMY.out v rfl hzs (.bool false) HGET.out ?_)
       | (at_builtin;refine wpList_append_at rfl _ _ 26 rfl w.heap.size 208 i0 (.agg #[.string ⟨#[]⟩,.bool false]) 2 24 Tryz.underlying26 HI0.out.1 HI0.out.2.1 HI0.out.2.2.1 HI0.out.2.2.2 rfl (by omega) (.slice Ap k cp) k (kcells ks) rfl (HROW.out.alloc _) ⟨wr.heap.size,0,none⟩ 1 1 [.string v,.bool false] rfl rfl (laid_news wr _ _) (by simp[Value.oneCell']) (by simp only[maxLen];omega) (by omega) (by simp;omega) ?_;intro v8 w8 hr8 hg8 hl8;obtain⟨A8,c8,rfl⟩:=own_slice hr8;have HR8:Hid (w8.ownsRow w.heap.size 208 2 (.slice A8 (k+1) c8) (k+1) (kcells (ks++[⟨v,false⟩]))):=zO (by unfold kcells at hr8 ⊢;rw[zx];exact hr8);have HX8:Hid (Ext w w8):=zO ((HXY.out.alloc _).grown hg8 (fun q hq=>own_ge HROW.out hq));have HM8:Hid (MapV w8 bm i (inF ns)):=zO ((HMY.out.ext ((Ext.refl wr).alloc _)).fr (grown_fr hg8) (fun e=>HMY.out.ne_own HROW.out e rfl));clear hr8 hg8 hl8))
      go_roundw
      case rel=>exact⟨y+1,k+1,ks++[⟨v,false⟩],by omega,by go_num,HG,by omega,HR8.out,HX8.out,HM8.out⟩
      case measure=>simp[intOf];omega
    ·obtain rfl:y=nh:=by omega
     have hdy:¬(y:Int)<(y:Int):=by omega
     have hks:ks=orderL hd od:=by
      rw[HKS.out,HORD.out y,zu (by have:=HNH.out;omega)]
      simp
     have hk:k=(orderL hd od).length:=by
      have h1:=HROW.out.1
      rw[kcells_len,hks]at h1
      omega
     have HQ:Hid (wr.ownsRow w.heap.size 208 2 (.slice Ap k cp) (orderL hd od).length (kcells (orderL hd od))):=zO (by rw[←hks,←show k=ks.length by rw[hks];exact hk];exact HROW.out)
     clear hks hk
     go_wp2_with fail
     go_ret
     exact Ret.mk HXY.out HQ.out
end Go.Proofs.YtplldnnnhgnbjaaGreatDoor
