/- packed -/
import Derived.Test.YtplldnnnhgnbjaaGreatDoorMu10
namespace Go.Proofs.YtplldnnnhgnbjaaGreatDoor
open Go.RowKit Go.Maps
theorem make_row{P:Program}(t e:TypeId)(z:Value)(b:Nat)(ht:P.underlying t=some (.slice e))(hi:(P.info? e).map (fun i=>(i.zero,i.size,i.bytes))=some (some z,1,b))(hz:z.cells=#[z])(n:Nat)(hb:b*n≤281474976710656)(hn:n≤281474976710656)(w:World) :
  (Instr.makeSlice t (.int .i64 (n:Int)) (.int .i64 (n:Int))).run P w=.ok (.slice (some ⟨w.heap.size,0,none⟩) n n) (w.alloc (.cells (List.replicate n z).toArray e)):=by
 obtain⟨i,hi,h1,h2,h3⟩:=info_parts hi
 have hr:=run_make (P:=P) w t e i z ht hi h1 .i64 .i64 n n (by omega) (by omega) (by rw[h3,←Int.natCast_mul];exact Int.ofNat_le.2 hb) (by omega)
 rw[hr,jO,h2,hz,Nat.mul_one]
 have:madeCells #[z] n=(List.replicate n z).toArray:=by
  unfold madeCells
  apply Array.ext
  ·simp
  ·intro j h1 h2
   simp[Nat.mod_one]
 rw[this]
theorem info_kmap:(Tryz.prog.info? 145).map (fun i=>(i.zero,i.size,i.bytes))=some (some (.map none),1,8):=by kernel_rfl
theorem info_var:(Tryz.prog.info? 151).map (fun i=>(i.zero,i.size,i.bytes))=some (some (.agg #[.string ⟨#[]⟩,.int .i64 0]),2,24):=by kernel_rfl
theorem info_vars:(Tryz.prog.info? 149).map (fun i=>(i.zero,i.size,i.bytes))=some (some (.slice none 0 0),1,24):=by kernel_rfl
def CheckPost(x:Int)(w:World)(e:Ending)(w':World):Prop:=Ext w w'∧∃A n c B m d,e=.returned (.tuple #[.agg #[.slice A n c,.slice B m d],.int .i64 x])
structure KmI(w0 w:World)(g n:Nat)(bs:List Nat)(ms:List Km):Prop where
 bk:Bk w g 145 (bs.map (fun b=>Value.map (some b))++List.replicate (n-bs.length) (Value.map none))
 ge:w0.heap.size≤g
 len:ms.length=bs.length
 le:bs.length≤n
 at':∀i (h:i<bs.length) (h':i<ms.length),w0.heap.size≤bs[i]∧MapV w bs[i] 1048576 (kmF ms[i])
theorem KmI.ext{w0 w w':World}{g n:Nat}{bs:List Nat}{ms:List Km}(h:KmI w0 w g n bs ms)(he:Ext w w'):KmI w0 w' g n bs ms:=⟨h.bk.ext he,h.ge,h.len,h.le,fun i hi h'=>⟨(h.at' i hi h').1,(h.at' i hi h').2.ext he⟩⟩
theorem KmI.add{w0 w w1:World}{g n b:Nat}{bs:List Nat}{ms:List Km}{m:Km}(h:KmI w0 w g n bs ms)(he:Ext w w1)(hb:w0.heap.size≤b)(hM:MapV w1 b 1048576 (kmF m))(hn:bs.length<n):KmI w0 (w1.setCell ⟨g,bs.length,none⟩ (Value.map (some b))) g n (bs++[b]) (ms++[m]):=by
 have h1:=h.ext he
 have hf:Fr (fun k=>k=g) w1 (w1.setCell ⟨g,bs.length,none⟩ (Value.map (some b))):=(Fr.refl (fun k=>k=g) w1).setCell (p:=⟨g,bs.length,none⟩) (.inl rfl) _
 refine⟨?_,h.ge,by simp[h.len],by simp;omega,fun i hi h'=>?_⟩
 ·have h2:=h1.bk.set bs.length (Value.map (some b))
  have e:(bs.map (fun b=>Value.map (some b))++List.replicate (n-bs.length) (Value.map none)).set bs.length (Value.map (some b))=(bs++[b]).map (fun b=>Value.map (some b))++List.replicate (n-(bs++[b]).length) (Value.map none):=by
   have e1:n-bs.length=(n-(bs++[b]).length)+1:=by simp;omega
   rw[e1,List.replicate_succ,List.set_append_right _ _ (by simp),jI]
   simp
  rwa [e]at h2
 ·have hne:∀k mk,MapV w1 k 1048576 (kmF mk)→k≠g:=fun k mk hk e=>(hk.ne h1.bk) e.symm
  rcases jB i bs.length with hx|hx
  ·rw[jx hx,jx (by rw[h.len];exact hx)]
   obtain⟨k1,k2⟩:=h1.at' i hx (by rw[h.len];exact hx)
   exact⟨k1,k2.fr hf (hne _ _ k2)⟩
  ·have e:i=bs.length:=by simp at hi;omega
   subst e
   rw[jw (jq _),jw (by rw[h.len];exact jq _)]
   simp only[h.len,zC,ja]
   exact⟨hb,hM.fr hf (hne _ _ hM)⟩
theorem KmI.cell{w0 w:World}{g n:Nat}{bs:List Nat}{ms:List Km}(h:KmI w0 w g n bs ms){i:Nat}(hi:i<bs.length):w.cell? ⟨g,i,none⟩=some (.map (some bs[i])):=by
 have h1:=h.bk.cell (i:=i) (by simp;omega)
 rw[h1,jx (by simpa using hi)]
 simp
theorem kmOf_ok{ss:List Sc}{r:Rl}{m:Km}(h:inferX ss r=.ok m):kmOf ss r=m:=by unfold kmOf;rw[h]
theorem checkE_ast{ss:List Sc}{q:Qy}(h:astE q≠0):checkE ss q=astE q:=if_neg h
theorem checkE_inf{ss:List Sc}{q:Qy}(h:astE q=0)(h1:firstE (fun r=>errX (inferX ss r)) q.rs≠0):checkE ss q=firstE (fun r=>errX (inferX ss r)) q.rs:=(if_pos h).trans (if_neg h1)
theorem checkE_ver{ss:List Sc}{q:Qy}(h:astE q=0)(h1:firstE (fun r=>errX (inferX ss r)) q.rs=0)(h2:firstE (fun r=>verifyE (kmOf ss r) r) q.rs≠0):checkE ss q=firstE (fun r=>verifyE (kmOf ss r) r) q.rs:=(if_pos h).trans ((if_pos h1).trans (if_neg h2))
theorem headD_get{l:List Rl}{d:Rl}(h : 0<l.length):l.headD d=l[0]:=by
 cases l with
 | nil=>simp at h
 | cons a l=>rfl
theorem checkE_hd{ss:List Sc}{q:Qy}(h:astE q=0)(h1:firstE (fun r=>errX (inferX ss r)) q.rs=0)(h2:firstE (fun r=>verifyE (kmOf ss r) r) q.rs=0)(h3:¬q.rs.all (fun r=>q.hd.all (fun v=>decide ((kmOf ss r v).getD 0=(kmOf ss (q.rs.headD ⟨[],[]⟩) v).getD 0)))=true):checkE ss q=5:=(if_pos h).trans ((if_pos h1).trans ((if_pos h2).trans (if_neg h3)))
theorem checkE_sum{ss:List Sc}{q:Qy}(h:astE q=0)(h1:firstE (fun r=>errX (inferX ss r)) q.rs=0)(h2:firstE (fun r=>verifyE (kmOf ss r) r) q.rs=0)(h3:q.rs.all (fun r=>q.hd.all (fun v=>decide ((kmOf ss r v).getD 0=(kmOf ss (q.rs.headD ⟨[],[]⟩) v).getD 0)))=true)(h4:q.ag=2∧(kmOf ss (q.rs.headD ⟨[],[]⟩) q.av).getD 0≠1):checkE ss q=5:=(if_pos h).trans ((if_pos h1).trans ((if_pos h2).trans ((if_pos h3).trans (if_pos h4))))
theorem checkE_fine{ss:List Sc}{q:Qy}(h:astE q=0)(h1:firstE (fun r=>errX (inferX ss r)) q.rs=0)(h2:firstE (fun r=>verifyE (kmOf ss r) r) q.rs=0)(h3:q.rs.all (fun r=>q.hd.all (fun v=>decide ((kmOf ss r v).getD 0=(kmOf ss (q.rs.headD ⟨[],[]⟩) v).getD 0)))=true)(h4:¬(q.ag=2∧(kmOf ss (q.rs.headD ⟨[],[]⟩) q.av).getD 0≠1)):checkE ss q=0:=(if_pos h).trans ((if_pos h1).trans ((if_pos h2).trans ((if_pos h3).trans (if_neg h4))))
theorem ast_ok{q:Qy}(h:astE q=0):q.rs≠[]∧q.rs.length≤3∧(q.rs.length≤1∨q.ag=0)∧headE q.hd=0∧aggE q.ag q.av=0∧(∀r∈q.rs,ruleE (needV q.hd q.av) r=0)∧orderE q.hd q.od=0:=by
 unfold astE at h
 split at h
 ·cases h
 rename_i h0
 split at h
 ·rename_i h1
  split at h
  ·rename_i h2
   split at h
   ·rename_i h3
    split at h
    ·rename_i h4
     exact⟨h0,h1.1,h1.2,h2,h3,firstE_zero.1 h4,h⟩
    ·rename_i h4;exact absurd h h4
   ·rename_i h3;exact absurd h h3
  ·rename_i h2;exact absurd h h2
 ·cases h
theorem rule_ok{nd:List ByteArray}{r:Rl}(h:ruleE nd r=0):itemsE r=0∧(varsC r).length≤8∧∀v∈nd++varsC r,boundB r v=true:=by
 unfold ruleE at h
 split at h
 ·rename_i h0
  split at h
  ·rename_i h1
   split at h
   ·rename_i h2
    exact⟨h0,h1,jz.1 h2⟩
   ·cases h
  ·cases h
 ·rename_i h0;exact absurd h h0
set_option maxRecDepth 100000 in
set_option maxHeartbeats 12800000 in
theorem check_any{F G:Nat→Prop}{w:World}{A B O S:Option Addr}{ca cb co nS cs:Nat}{q:Qy}{ss:List Sc}(h:QyR F w A ca B cb O co q)(hS:Sl rdSc G w (.slice S nS cs) ss)(hz:QyZ q)(hlo:q.od.length≤1048576)(hls:ss.length≤maxLen) :
  Calls Tryz.prog 22 #[.agg #[.slice A q.hd.length ca,.int .i64 q.ag,.string q.av,.slice B q.rs.length cb,.slice O q.od.length co],.slice S nS cs] w (CheckPost (checkE ss q) w):=by
 have HA:=zO (fun (V:World) (hV:Ext w V)=>astCheck_any (h.ext hV) hz hlo)
 have HS:=zO hS;have HLS:=zO hls;have HZ:=zO hz;have HR:=zO h.rs;have HH:=zO h.hd
 have HC1:=zO (checkE_ast (ss:=ss) (q:=q));have HC2:=zO (checkE_inf (ss:=ss) (q:=q));have HC3:=zO (checkE_ver (ss:=ss) (q:=q))
 have HC4:=zO (checkE_hd (ss:=ss) (q:=q));have HC5:=zO (checkE_sum (ss:=ss) (q:=q));have HC6:=zO (checkE_fine (ss:=ss) (q:=q))
 have HOK:=zO (ast_ok (q:=q))
 obtain⟨k0,hk0,hz0,hz1,hz2⟩:=info_parts info_var
 have HK0:=zO (And.intro hk0 (And.intro hz0 (And.intro hz1 hz2)))
 obtain⟨l0,hl0,hu0,hu1,hu2⟩:=info_parts info_vars
 have HL0:=zO (And.intro hl0 (And.intro hu0 (And.intro hu1 hu2)))
 clear hk0 hz0 hz1 hz2 hl0 hu0 hu1 hu2
 obtain⟨j0,hj0,hy0,hy1,hy2⟩:=info_parts info_int
 have HJ0:=zO (And.intro hj0 (And.intro hy0 (And.intro hy1 hy2)))
 clear hj0 hy0 hy1 hy2
 have hl3:astE q=0→q.rs.length≤3∧0<q.rs.length∧q.hd.length≤6:=fun h=>by
  obtain⟨h1,h2,-,h3,-⟩:=ast_ok h
  exact⟨h2,by rcases hq:q.rs with _|_;exact absurd hq h1;simp,head_len h3⟩
 have HL3:=zO hl3
 obtain⟨nh,hnh⟩:∃n,n=q.hd.length:=⟨_,rfl⟩
 obtain⟨nr,hnr⟩:∃n,n=q.rs.length:=⟨_,rfl⟩
 obtain⟨no,hno⟩:∃n,n=q.od.length:=⟨_,rfl⟩
 obtain⟨ag,hag⟩:∃n,n=q.ag:=⟨_,rfl⟩
 obtain⟨av,hav⟩:∃n,n=q.av:=⟨_,rfl⟩
 rw[←hnh,←hnr,←hno,←hag,←hav]at HA
 rw[←hnh]at HH
 rw[←hnr]at HR
 rw[←hnh,←hnr]at HL3
 rw[←hnh,←hnr,←hno,←hag,←hav]
 have HNH:=zO hnh;have HNR:=zO hnr;have HAG:=zO hag;have HAV:=zO hav
 clear hnh hnr hno hag hav h hS hz hls hl3 hlo
 go_enter Tryz.func22,Tryz.ntmps22
 go_wp2_with fail
 have hx:Ext w ((w.alloc (.cells #[.slice A nh ca,.int .i64 ag,.string av,.slice B nr cb,.slice O no co] 28)).alloc (.cells #[.slice none 0 0,.slice none 0 0] 66)):=((Ext.refl w).alloc _).alloc _
 have kb:=(Bk.new w 28 [.slice A nh ca,.int .i64 ag,.string av,.slice B nr cb,.slice O no co]).alloc (.cells #[.slice none 0 0,.slice none 0 0] 66)
 have kt:=Bk.new (w.alloc (.cells #[.slice A nh ca,.int .i64 ag,.string av,.slice B nr cb,.slice O no co] 28)) 66 [.slice none 0 0,.slice none 0 0]
 rw[show (w.alloc (.cells #[.slice A nh ca,.int .i64 ag,.string av,.slice B nr cb,.slice O no co] 28)).heap.size=w.heap.size+1 by simp]at kt
 change Bk ((w.alloc (.cells #[.slice A nh ca,.int .i64 ag,.string av,.slice B nr cb,.slice O no co] 28)).alloc (.cells #[.slice none 0 0,.slice none 0 0] 66)) _ _ _ at kb
 change Bk ((w.alloc (.cells #[.slice A nh ca,.int .i64 ag,.string av,.slice B nr cb,.slice O no co] 28)).alloc (.cells #[.slice none 0 0,.slice none 0 0] 66)) _ _ _ at kt
 generalize ((w.alloc (.cells #[.slice A nh ca,.int .i64 ag,.string av,.slice B nr cb,.slice O no co] 28)).alloc (.cells #[.slice none 0 0,.slice none 0 0] 66))=w1 at *
 refine(HA.out _ hx).mono ?_
 rintro e w2 ⟨y,rfl,he,rfl⟩
 have HX2:=zO (hx.trans he);have HKB:=zO (kb.ext he);have HKT:=zO (kt.ext he)
 have hw2:w.heap.size+1<w2.heap.size:=HKT.out.lt
 have hw2':w.heap.size<w2.heap.size:=by omega
 clear kb kt hx he
 have b3:=HKB.out.cell (i:=3) (by simp)
 have t0:=HKT.out.cell (i:=0) (by simp);have t1:=HKT.out.cell (i:=1) (by simp);have tf0:=HKT.out.free 0;have tf1:=HKT.out.free 1
 simp only[ja,je]at b3 t0 t1
 by_cases e1:¬astE q=0
 ·obtain⟨ev,hev⟩:∃ev,ev=astE q:=⟨_,rfl⟩
  have HEQ:=zO (HC1.out e1)
  rw[←hev]at e1 HEQ ⊢
  have hne:(ev != 0)=true:=by rw[bne_iff_ne];exact e1
  clear hev e1 b3
  go_wp2_with fail
  have kz:Bk ((w2.setCell ⟨w.heap.size+1,0,none⟩ (.slice none 0 0)).setCell ⟨w.heap.size+1,1,none⟩ (.slice none 0 0)) (w.heap.size+1) 66 [.slice none 0 0,.slice none 0 0]:=((HKT.out).set 0 _).set 1 _
  have hez:Ext w ((w2.setCell ⟨w.heap.size+1,0,none⟩ (.slice none 0 0)).setCell ⟨w.heap.size+1,1,none⟩ (.slice none 0 0)):=((HX2.out).setCell (p:=⟨w.heap.size+1,0,none⟩) (jP _) _).setCell (p:=⟨w.heap.size+1,1,none⟩) (jP _) _
  generalize ((w2.setCell ⟨w.heap.size+1,0,none⟩ (.slice none 0 0)).setCell ⟨w.heap.size+1,1,none⟩ (.slice none 0 0))=wz at *
  have z0:=kz.cell (i:=0) (by simp);have z1:=kz.cell (i:=1) (by simp)
  simp only[ja,je]at z0 z1
  refine bodyPost_ret (v:=.tuple #[.agg #[.slice none 0 0,.slice none 0 0],.int .i64 ev]) (by simp[results,Tryz.results22,go_sem,z0,z1]) rfl ⟨hez,none,0,0,none,0,0,?_⟩
  rw[HEQ.out]
 rw[Decidable.not_not]at e1
 obtain⟨hn3,hn0,hh6⟩:=HL3.out e1
 have HOK2:=zO (HOK.out e1);have H1:=zO e1
 rw[e1]
 clear e1 t0 t1 tf0 tf1
 have hmk:=make_row 144 145 (.map none) 8 Tryz.underlying144 info_kmap rfl nr (by omega) (by omega)
 go_wp2_with fail
 have hx3:Ext w2 (w2.alloc (.cells (List.replicate nr (Value.map none)).toArray 145)):=(Ext.refl w2).alloc _
 have kk:=Bk.new w2 145 (List.replicate nr (Value.map none))
 have hkm:KmI w (w2.alloc (.cells (List.replicate nr (Value.map none)).toArray 145)) w2.heap.size nr [] []:=⟨kk,by omega,rfl,jn _,fun i hi=>by simp at hi⟩
 rw[show (List.replicate nr (Value.map none)).toArray=Array.replicate nr (Value.map none) by simp]at hx3 hkm
 obtain⟨gK,hgK⟩:∃g,g=w2.heap.size:=⟨_,rfl⟩
 rw[←hgK]at hkm ⊢
 have hgk1:w.heap.size+1<gK:=by omega
 clear hmk kk
 generalize (w2.alloc (.cells (Array.replicate nr (Value.map none)) 145))=w3 at *
 have HX3:=zO (HX2.out.trans hx3);have HKM:=zO hkm;have HKB3:=zO (HKB.out.ext hx3);have HKT3:=zO (HKT.out.ext hx3)
 clear hkm hgK hx3 b3
 go_loopw [38] (fun t wr=>∃(i:Nat) (bs:List Nat),i≤nr∧bs.length=i∧t=.int .i64 (i:Int)∧Hid (∀j (_:j<i) (_:j<q.rs.length),errX (inferX ss q.rs[j])=0)∧KmI w wr gK nr bs ((q.rs.take i).map (kmOf ss))∧Fr (fun b=>b=gK) w3 wr) (fun t _=>nr-(intOf t).toNat)
 case atStart=>exact⟨0,[],jn _,rfl,rfl,zO (fun j hj=>by omega),HKM.out,Fr.refl _ _⟩
 case round =>
  obtain⟨i,bs,hi,hbs,rfl,H,hkm,hfr⟩:=hrel
  obtain⟨W,rfl⟩:∃W:World,W=wr:=⟨_,rfl⟩
  have hxw:Ext w W:=hfr.new HX3.out (fun b hb=>by omega)
  have HX:=zO hxw;have HKW:=zO hkm;have HFR:=zO hfr;have HBS:=zO hbs
  have HKBW:=zO (HKB3.out.fr hfr (by omega));have HKTW:=zO (HKT3.out.fr hfr (by omega))
  have hgW:gK<W.heap.size:=hkm.bk.lt
  clear hkm hfr hbs
  by_cases hlt:i<nr
  ·have i1:(0:Int)≤(i:Int):=by omega
   have i2:(i:Int)<(nr:Int):=by omega
   have hit:i<q.rs.length:=by have:=HNR.out;omega
   obtain⟨ad,B1,d1,C1,e1,rfl,-,f0,f1,hA1,hC1⟩:=HR.out.rl hit
   replace f0:=hxw.cell f0;replace f1:=hxw.cell f1
   have hz1:=HZ.out.rs _ (jg hit)
   have hro:=rule_ok (HOK2.out.2.2.2.2.2.1 _ (jg hit))
   obtain⟨hbd,hal⟩:=items_bd hro.1 hz1
   have hgo:=take_ok (f:=fun r=>errX (inferX ss r)) hit H.out
   have hst:=firstE_at (f:=fun r=>errX (inferX ss r)) hit H.out
   have htk:(q.rs.take (i+1)).map (kmOf ss)=(q.rs.take i).map (kmOf ss)++[kmOf ss q.rs[i]]:=by rw[jj hit,jI];rfl
   have hinf:=fun (V:World) (hV:Ext w V)=>infer_any (hA1.ext hV) (hC1.ext hV) (HS.out.ext hV) hz1 (by have:=hbd.al;omega) hbd.tl HLS.out
   obtain⟨r,hr⟩:∃r,r=q.rs[i]:=⟨_,rfl⟩
   rw[←hr]at f0 f1 hgo hst htk hinf
   obtain⟨n1,hn1⟩:∃n1,n1=r.ats.length:=⟨_,rfl⟩
   obtain⟨m1,hm1⟩:∃m1,m1=r.cds.length:=⟨_,rfl⟩
   rw[←hn1]at f0 hinf
   rw[←hm1]at f1 hinf
   have HGO:=zO hgo;have HST:=zO hst;have HTK:=zO htk;have HINF:=zO hinf
   clear hr hn1 hm1 hA1 hC1 hz1 hgo hst htk hinf hro hbd hal hxw
   go_wp2_with fail
   refine(HINF.out _ (HX.out.alloc _)).mono ?_
   rintro e w4 ⟨he4,hpost⟩
   have HE4:=zO ((Ext.alloc (Ext.refl W) _).trans he4)
   have hw4:W.heap.size≤w4.heap.size:=HE4.out.size
   clear f0 f1 he4
   have hcell:=(HKW.out.ext HE4.out).bk
   have hgc:∃v,w4.cell? ⟨gK,i,none⟩=some v:=⟨_,hcell.cell (i:=i) (by have:=HBS.out;simp;omega)⟩
   obtain⟨vg,hvg⟩:=hgc
   have hvf:w4.frozen? ⟨gK,i,none⟩=false:=hcell.free i
   clear hcell
   rcases hpost with ⟨km,bm,mm,hkm,rfl,hbm,hmm,hM⟩|⟨x,hx5,hx0,rfl⟩
   ·have HG:=zO (HGO.out (by simp only[hkm,errX]))
    have HKO:=zO (kmOf_ok hkm)
    have hadd:=(HKW.out).add HE4.out (by have:=HX.out.size;simp at hbm;omega) (hM.mono hmm) (by have:=HBS.out;omega)
    rw[HBS.out,←HKO.out,←HTK.out]at hadd
    have HADD:=zO hadd
    have HF4:Hid (Fr (fun b=>b=gK) w3 (w4.setCell ⟨gK,i,none⟩ (Value.map (some bm)))):=zO ((HFR.out.ext HE4.out).setCell (p:=⟨gK,i,none⟩) (.inl rfl) _)
    clear hkm hM hmm hbm hadd
    go_wp2_with fail
    go_roundw
    case rel=>exact⟨i+1,bs++[bm],by omega,by have:=HBS.out;simp;omega,by go_num,HG,HADD.out,HF4.out⟩
    case measure=>simp[intOf];omega
   ·have hex:errX (inferX ss r)=x:=by rw[hx5];rfl
    have HQ:Hid (checkE ss q=x):=zO (by
     have h1:=HST.out (by simp only[hex];exact hx0)
     simp only[hex]at h1
     rw[HC2.out H1.out (by rw[h1];exact hx0),h1])
    have hne:(x != 0)=true:=by rw[bne_iff_ne];exact hx0
    have hkt4:Bk (w4.setCell ⟨gK,i,none⟩ (Value.map none)) (w.heap.size+1) 66 [.slice none 0 0,.slice none 0 0]:=(HKTW.out.ext HE4.out).fr ((Fr.refl (fun b=>b=gK) w4).setCell (p:=⟨gK,i,none⟩) (.inl rfl) _) (by omega)
    have hx4:Ext w (w4.setCell ⟨gK,i,none⟩ (Value.map none)):=(HX.out.trans HE4.out).setCell (p:=⟨gK,i,none⟩) (by show _≤gK;omega) _
    have HX4:=zO hx4;have HKT4:=zO hkt4
    have t0:=hkt4.cell (i:=0) (by simp);have t1:=hkt4.cell (i:=1) (by simp);have tf0:=hkt4.free 0;have tf1:=hkt4.free 1
    simp only[ja,je]at t0 t1
    clear hx5 hx0 hex hkt4 hx4
    go_wp2_with fail
    have kz:Bk (((w4.setCell ⟨gK,i,none⟩ (Value.map none)).setCell ⟨w.heap.size+1,0,none⟩ (.slice none 0 0)).setCell ⟨w.heap.size+1,1,none⟩ (.slice none 0 0)) (w.heap.size+1) 66 [.slice none 0 0,.slice none 0 0]:=((HKT4.out).set 0 _).set 1 _
    have hez:Ext w (((w4.setCell ⟨gK,i,none⟩ (Value.map none)).setCell ⟨w.heap.size+1,0,none⟩ (.slice none 0 0)).setCell ⟨w.heap.size+1,1,none⟩ (.slice none 0 0)):=((HX4.out).setCell (p:=⟨w.heap.size+1,0,none⟩) (jP _) _).setCell (p:=⟨w.heap.size+1,1,none⟩) (jP _) _
    generalize (((w4.setCell ⟨gK,i,none⟩ (Value.map none)).setCell ⟨w.heap.size+1,0,none⟩ (.slice none 0 0)).setCell ⟨w.heap.size+1,1,none⟩ (.slice none 0 0))=wz at *
    have z0:=kz.cell (i:=0) (by simp);have z1:=kz.cell (i:=1) (by simp)
    simp only[ja,je]at z0 z1
    refine bodyPost_ret (v:=.tuple #[.agg #[.slice none 0 0,.slice none 0 0],.int .i64 x]) (by simp[results,Tryz.results22,go_sem,z0,z1]) rfl ⟨hez,none,0,0,none,0,0,?_⟩
    rw[HQ.out]
  ·obtain rfl:i=nr:=by omega
   have hdi:¬(i:Int)<(i:Int):=by omega
   have H2:=zO (firstE_all (f:=fun r=>errX (inferX ss r)) (l:=q.rs) (fun j hj=>H.out j (by have:=HNR.out;omega) hj))
   have et:q.rs.take i=q.rs:=by rw[HNR.out];exact jV
   rw[et]at HKW
   have b3:=HKBW.out.cell (i:=3) (by simp)
   simp only[ja,je]at b3
   clear et hxw
   go_wp2_with fail
   clear b3
   go_loopw [60] (fun t wr=>∃k:Nat,k≤i∧t=.int .i64 (k:Int)∧Hid (∀j (_:j<k) (_:j<q.rs.length),verifyE (kmOf ss q.rs[j]) q.rs[j]=0)∧Ext W wr) (fun t _=>i-(intOf t).toNat)
   case atStart=>exact⟨0,jn _,rfl,zO (fun j hj=>by omega),Ext.refl _⟩
   case round =>
    obtain⟨k,hk,rfl,HK2,hxk⟩:=hrel
    obtain⟨V,rfl⟩:∃V:World,V=wr:=⟨_,rfl⟩
    have HY:=zO (HX.out.trans hxk);have HYW:=zO hxk
    by_cases hkm:k<i
    ·have j1:(0:Int)≤(k:Int):=by omega
     have j2:(k:Int)<(i:Int):=by omega
     have hit:k<q.rs.length:=by have:=HNR.out;omega
     have hkb:k<bs.length:=by have:=HBS.out;omega
     obtain⟨ad,B1,d1,C1,e1,rfl,-,f0,f1,hA1,hC1⟩:=HR.out.rl hit
     replace f0:=HY.out.cell f0;replace f1:=HY.out.cell f1
     have hz1:=HZ.out.rs _ (jg hit)
     have hro:=rule_ok (HOK2.out.2.2.2.2.2.1 _ (jg hit))
     obtain⟨-,hi1,hi2,hi3,-⟩:=items_ok hro.1
     have hgo:=take_ok (f:=fun r=>verifyE (kmOf ss r) r) hit HK2.out
     have hst:=firstE_at (f:=fun r=>verifyE (kmOf ss r) r) hit HK2.out
     obtain⟨-,hMk⟩:=HKW.out.at' k hkb (by rw[jm];exact hit)
     rw[jy]at hMk
     have hkc:=HYW.out.cell (HKW.out.cell hkb)
     have hver:=fun (U:World) (hU:Ext W U)=>verify_any (hA1.ext (HX.out.trans hU)) (hC1.ext (HX.out.trans hU)) (hMk.ext hU) hz1 (fun a ha=>by have:=(atom_ok (hi3 a ha)).2.1;omega) (by omega) (by omega)
     obtain⟨r,hr⟩:∃r,r=q.rs[k]:=⟨_,rfl⟩
     rw[←hr]at f0 f1 hgo hst hver
     obtain⟨n1,hn1⟩:∃n1,n1=r.ats.length:=⟨_,rfl⟩
     obtain⟨m1,hm1⟩:∃m1,m1=r.cds.length:=⟨_,rfl⟩
     obtain⟨bk,hbk⟩:∃bk,bk=bs[k]:=⟨_,rfl⟩
     rw[←hn1]at f0 hver
     rw[←hm1]at f1 hver
     rw[←hbk]at hkc hver
     have HGO:=zO hgo;have HST:=zO hst;have HVER:=zO hver
     clear hr hn1 hm1 hbk hA1 hC1 hz1 hgo hst hver hro hi1 hi2 hi3 hMk hxk
     go_upto_region 16 with fail
     have hx5:Ext V (V.alloc (.cells #[.slice B1 n1 d1,.slice C1 m1 e1] 46)):=(Ext.refl V).alloc _
     have k5:=Bk.new V 46 [.slice B1 n1 d1,.slice C1 m1 e1]
     change Bk (V.alloc (.cells #[.slice B1 n1 d1,.slice C1 m1 e1] 46)) _ _ _ at k5
     generalize (V.alloc (.cells #[.slice B1 n1 d1,.slice C1 m1 e1] 46))=w5 at *
     have g0:=k5.cell (i:=0) (by simp);have g1:=k5.cell (i:=1) (by simp)
     simp only[ja,je]at g0 g1
     replace hkc:=hx5.cell hkc
     have HX5:=zO hx5
     clear f0 f1 k5 hx5
     go_region_held3 (fun U=>Ext w5 U∧U.cell? ⟨V.heap.size,0,none⟩=some (.slice B1 n1 d1)∧U.cell? ⟨V.heap.size,1,none⟩=some (.slice C1 m1 e1)∧U.cell? ⟨gK,k,none⟩=some (.map (some bk)))
      ((refine(fun he=>⟨he,Ext.cell he g0,Ext.cell he g1,Ext.cell he hkc⟩) ?_;repeat (first|exact Ext.refl _|exact(Ext.refl _).drew|refine Ext.drew ?_|refine Ext.trans ?_ (by assumption))))
      (first
       | (go_at_call 65;(with_reducible refine(HVER.out _ (HYW.out.trans (HX5.out.trans (And.left (by assumption))))).mono ?_);rintro e wi ⟨yv,rfl,hei,rfl⟩))
     have HFIN:=zO (And.left (b:=_∧_) (by assumption))
     clear g0 g1 hkc
     by_cases hz0:verifyE (kmOf ss r) r=0
     ·have HG:=zO (HGO.out hz0)
      rw[hz0]
      clear hz0
      go_wp2_with fail
      go_roundw
      case rel=>exact⟨k+1,by omega,by go_num,HG,HYW.out.trans (HX5.out.trans HFIN.out)⟩
      case measure=>simp[intOf];omega
     ·have h1:=HST.out hz0
      have HQ:Hid (checkE ss q=verifyE (kmOf ss r) r):=zO (by rw[HC3.out H1.out H2.out (by rw[h1];exact hz0),h1])
      obtain⟨ev,hev⟩:∃ev,ev=verifyE (kmOf ss r) r:=⟨_,rfl⟩
      rw[←hev]at hz0 HQ ⊢
      have hne:(ev != 0)=true:=by rw[bne_iff_ne];exact hz0
      have hX9:=HX.out.trans (HYW.out.trans (HX5.out.trans HFIN.out))
      have hkt9:=HKTW.out.ext (HYW.out.trans (HX5.out.trans HFIN.out))
      have t0:=hkt9.cell (i:=0) (by simp);have t1:=hkt9.cell (i:=1) (by simp);have tf0:=hkt9.free 0;have tf1:=hkt9.free 1
      simp only[ja,je]at t0 t1
      have HX9:=zO hX9;have HKT9:=zO hkt9
      clear hev hz0 h1 hX9 hkt9
      go_wp2_with fail
      have kz:Bk ((wi.setCell ⟨w.heap.size+1,0,none⟩ (.slice none 0 0)).setCell ⟨w.heap.size+1,1,none⟩ (.slice none 0 0)) (w.heap.size+1) 66 [.slice none 0 0,.slice none 0 0]:=((HKT9.out).set 0 _).set 1 _
      have hez:Ext w ((wi.setCell ⟨w.heap.size+1,0,none⟩ (.slice none 0 0)).setCell ⟨w.heap.size+1,1,none⟩ (.slice none 0 0)):=((HX9.out).setCell (p:=⟨w.heap.size+1,0,none⟩) (jP _) _).setCell (p:=⟨w.heap.size+1,1,none⟩) (jP _) _
      generalize ((wi.setCell ⟨w.heap.size+1,0,none⟩ (.slice none 0 0)).setCell ⟨w.heap.size+1,1,none⟩ (.slice none 0 0))=wz at *
      have z0:=kz.cell (i:=0) (by simp);have z1:=kz.cell (i:=1) (by simp)
      simp only[ja,je]at z0 z1
      refine bodyPost_ret (v:=.tuple #[.agg #[.slice none 0 0,.slice none 0 0],.int .i64 ev]) (by simp[results,Tryz.results22,go_sem,z0,z1]) rfl ⟨hez,none,0,0,none,0,0,?_⟩
      rw[HQ.out]
    ·obtain rfl:k=i:=by omega
     have hdk:¬(k:Int)<(k:Int):=by omega
     have H3:=zO (firstE_all (f:=fun r=>verifyE (kmOf ss r) r) (l:=q.rs) (fun j hj=>HK2.out j (by have:=HNR.out;omega) hj))
     have b3:=(HKBW.out.ext HYW.out).cell (i:=3) (by simp)
     simp only[ja,je]at b3
     have HKV:=zO (HKW.out.ext HYW.out);have HKBV:=zO (HKBW.out.ext HYW.out);have HKTV:=zO (HKTW.out.ext HYW.out)
     clear hxk
     go_wp2_with fail
     clear b3
     go_loopw [79] (fun t wr=>∃x:Nat,x≤k∧t=.int .i64 (x:Int)∧Hid (∀j (_:j<x) (_:j<q.rs.length),∀v∈q.hd,(kmOf ss q.rs[j] v).getD 0=(kmOf ss (q.rs.headD ⟨[],[]⟩) v).getD 0)∧Ext V wr) (fun t _=>k-(intOf t).toNat)
     case atStart=>exact⟨0,jn _,rfl,zO (fun j hj=>by omega),Ext.refl _⟩
     case round =>
      obtain⟨x,hxk,rfl,HK4,hxv⟩:=hrel
      obtain⟨U,rfl⟩:∃U:World,U=wr:=⟨_,rfl⟩
      have HU:=zO (HY.out.trans hxv);have HUV:=zO hxv
      by_cases hxl:x<k
      ·have b0:=(HKBV.out.ext hxv).cell (i:=0) (by simp)
       simp only[ja,je]at b0
       have x1:(0:Int)≤(x:Int):=by omega
       have x2:(x:Int)<(k:Int):=by omega
       have hxr:x<q.rs.length:=by have:=HNR.out;omega
       go_wp2_with fail
       clear b0
       have hkbx:x<bs.length:=by have:=HBS.out;omega
       have hkb0 : 0<bs.length:=by omega
       obtain⟨-,hMx⟩:=(HKV.out.ext hxv).at' x hkbx (by rw[jm];exact hxr)
       obtain⟨-,hM0⟩:=(HKV.out.ext hxv).at' 0 hkb0 (by rw[jm];omega)
       rw[jy]at hMx hM0
       have hcx:=(HKV.out.ext hxv).cell hkbx
       have hc0:=(HKV.out.ext hxv).cell hkb0
       have hhd:q.rs.headD ⟨[],[]⟩=q.rs[0]'(by omega):=by
        exact headD_get _
       rw[←hhd]at hM0
       obtain⟨rx,hrx⟩:∃r,r=q.rs[x]:=⟨_,rfl⟩
       obtain⟨r0,hr0⟩:∃r,r=q.rs.headD ⟨[],[]⟩:=⟨_,rfl⟩
       obtain⟨bx,hbx⟩:∃b,b=bs[x]:=⟨_,rfl⟩
       obtain⟨b0,hb0⟩:∃b,b=bs[0]:=⟨_,rfl⟩
       rw[←hrx,←hbx]at hMx
       rw[←hr0,←hb0]at hM0
       rw[←hbx]at hcx
       rw[←hb0]at hc0
       have HMX:=zO hMx;have HM0:=zO hM0;have HRX:=zO hrx;have HR0:=zO hr0;have HCX:=zO hcx;have HC0:=zO hc0
       clear hMx hM0 hcx hc0 hhd hrx hr0 hbx hb0 hxv hkbx hkb0
       go_loopw [85] (fun t wr=>∃y:Nat,y≤nh∧t=.int .i64 (y:Int)∧Hid (∀j (_:j<y) (_:j<q.hd.length),(kmOf ss rx q.hd[j]).getD 0=(kmOf ss r0 q.hd[j]).getD 0)∧Ext U wr) (fun t _=>nh-(intOf t).toNat)
       case atStart=>exact⟨0,jn _,rfl,zO (fun j hj=>by omega),Ext.refl _⟩
       case round =>
        obtain⟨y,hyh,rfl,HK5,hxy⟩:=hrel
        obtain⟨Y,rfl⟩:∃Y:World,Y=wr:=⟨_,rfl⟩
        have HYU:=zO hxy;have HY5:=zO (HU.out.trans hxy)
        by_cases hyl:y<nh
        ·have y1:(0:Int)≤(y:Int):=by omega
         have y2:(y:Int)<(nh:Int):=by omega
         have hyr:y<q.hd.length:=by have:=HNH.out;omega
         obtain⟨A',c',e,-,hcl⟩:=HH.out
         injection e with e1 e2 e3
         subst e1
         obtain⟨adh,rfl,-,f0⟩:=hcl.str hyr
         replace f0:=HY5.out.cell f0
         have hzs:=HZ.out.hd _ (jg hyr)
         have hgo:(kmOf ss rx q.hd[y]).getD 0=(kmOf ss r0 q.hd[y]).getD 0→∀j (_:j<y+1) (_:j<q.hd.length),(kmOf ss rx q.hd[j]).getD 0=(kmOf ss r0 q.hd[j]).getD 0:=fun h j hj hl=>by
          rcases jB j y with h1|h1
          ·exact HK5.out j h1 hl
          ·have:j=y:=by omega
           subst this;exact h
         have hno:(kmOf ss rx q.hd[y]).getD 0≠(kmOf ss r0 q.hd[y]).getD 0→checkE ss q=5:=fun h=>HC4.out H1.out H2.out H3.out (fun h2=>h (by
          rw[HRX.out,HR0.out]
          exact of_decide_eq_true (jz.1 (jz.1 h2 _ (jg hxr)) _ (jg hyr))))
         obtain⟨v,hv⟩:∃v,v=q.hd[y]:=⟨_,rfl⟩
         rw[←hv]at f0 hzs hgo hno
         have l1:=fun n=>(HMX.out.ext (hxy.drewN n)).look (e:=3) Tryz.underlying145 (zero_int _) hzs (kmF_get _ v)
         have l0:=fun n=>(HM0.out.ext (hxy.drewN n)).look (e:=3) Tryz.underlying145 (zero_int _) hzs (kmF_get _ v)
         obtain⟨vx,hvx⟩:∃vx,vx=(kmOf ss rx v).getD 0:=⟨_,rfl⟩
         obtain⟨v0,hv0⟩:∃v0,v0=(kmOf ss r0 v).getD 0:=⟨_,rfl⟩
         simp only[←hvx]at l1
         simp only[←hv0]at l0
         rw[←hvx,←hv0]at hgo hno
         have hcx:=hxy.cell HCX.out;have hc0:=hxy.cell HC0.out
         have HGO:=zO hgo;have HNO:=zO hno
         clear hv hvx hv0 hgo hno hcl e2 e3 hxy
         by_cases hvv:vx=v0
         ·have HG:=zO (HGO.out hvv)
          have hb:(vx != v0)=false:=by rw[hvv];simp
          clear hvv
          go_upto_region 26 with fail
          go_quiet (fail)
          go_wp2_with fail
          go_roundw
          case rel=>exact⟨y+1,by omega,by go_num,HG,HYU.out.drewN _⟩
          case measure=>simp[intOf];omega
         ·have HQ:=zO (HNO.out hvv)
          have hb:(vx != v0)=true:=by rw[bne_iff_ne];exact hvv
          clear hvv
          go_upto_region 26 with fail
          go_quiet (fail)
          have hX9:∀n,Ext w (Y.drewN n):=fun n=>HY5.out.drewN n
          have hkt9:∀n,Bk (Y.drewN n) (w.heap.size+1) 66 [.slice none 0 0,.slice none 0 0]:=fun n=>HKTV.out.ext (HUV.out.trans (HYU.out.drewN n))
          have hX8:=hX9 nq
          have hkt8:=hkt9 nq
          obtain⟨wi,hwi⟩:∃u:World,u=Y.drewN nq:=⟨_,rfl⟩
          rw[←hwi]at hX8 hkt8 ⊢
          have t0:=hkt8.cell (i:=0) (by simp);have t1:=hkt8.cell (i:=1) (by simp);have tf0:=hkt8.free 0;have tf1:=hkt8.free 1
          simp only[ja,je]at t0 t1
          have HX9:=zO hX8;have HKT9:=zO hkt8
          clear hwi hX9 hkt9 hX8 hkt8 l1 l0 hcx hc0 f0
          go_wp2_with fail
          have kz:Bk ((wi.setCell ⟨w.heap.size+1,0,none⟩ (.slice none 0 0)).setCell ⟨w.heap.size+1,1,none⟩ (.slice none 0 0)) (w.heap.size+1) 66 [.slice none 0 0,.slice none 0 0]:=((HKT9.out).set 0 _).set 1 _
          have hez:Ext w ((wi.setCell ⟨w.heap.size+1,0,none⟩ (.slice none 0 0)).setCell ⟨w.heap.size+1,1,none⟩ (.slice none 0 0)):=((HX9.out).setCell (p:=⟨w.heap.size+1,0,none⟩) (jP _) _).setCell (p:=⟨w.heap.size+1,1,none⟩) (jP _) _
          generalize ((wi.setCell ⟨w.heap.size+1,0,none⟩ (.slice none 0 0)).setCell ⟨w.heap.size+1,1,none⟩ (.slice none 0 0))=wz at *
          have z0:=kz.cell (i:=0) (by simp);have z1:=kz.cell (i:=1) (by simp)
          simp only[ja,je]at z0 z1
          refine bodyPost_ret (v:=.tuple #[.agg #[.slice none 0 0,.slice none 0 0],.int .i64 5]) (by simp[results,Tryz.results22,go_sem,z0,z1]) rfl ⟨hez,none,0,0,none,0,0,?_⟩
          rw[HQ.out]
        ·obtain rfl:y=nh:=by omega
         have hdy:¬(y:Int)<(y:Int):=by omega
         have HG:Hid (∀j (_:j<x+1) (_:j<q.rs.length),∀v∈q.hd,(kmOf ss q.rs[j] v).getD 0=(kmOf ss (q.rs.headD ⟨[],[]⟩) v).getD 0):=zO (fun j hj hl v hv=>by
          rcases jB j x with h1|h1
          ·exact HK4.out j h1 hl v hv
          ·have:j=x:=by omega
           subst this
           obtain⟨t,ht,rfl⟩:=jv hv
           rw[←HRX.out,←HR0.out]
           exact HK5.out t (by have:=HNH.out;omega) ht)
         go_wp2_with fail
         go_roundw
         case rel=>exact⟨x+1,by omega,by go_num,HG,HUV.out.trans HYU.out⟩
         case measure=>simp[intOf];omega
      ·obtain rfl:x=k:=by omega
       have hdx:¬(x:Int)<(x:Int):=by omega
       have hall:q.rs.all (fun r=>q.hd.all (fun v=>decide ((kmOf ss r v).getD 0=(kmOf ss (q.rs.headD ⟨[],[]⟩) v).getD 0)))=true:=jz.2 (fun r hr=>jz.2 (fun v hv=>by
        obtain⟨j,hj,rfl⟩:=jv hr
        exact decide_eq_true (HK4.out j (by have:=HNR.out;omega) hj v hv)))
       have H4:=zO hall
       have hkb0 : 0<bs.length:=by have:=HBS.out;omega
       have hrl0 : 0<q.rs.length:=by have:=HNR.out;omega
       obtain⟨-,hM0⟩:=(HKV.out.ext hxv).at' 0 hkb0 (by rw[jm];exact hrl0)
       rw[jy]at hM0
       have hc0:=(HKV.out.ext hxv).cell hkb0
       rw[←headD_get (d:=⟨[],[]⟩) hrl0]at hM0
       have HKU:=zO (HKV.out.ext hxv);have HKBU:=zO (HKBV.out.ext hxv);have HKTU:=zO (HKTV.out.ext hxv)
       obtain⟨r0,hr0⟩:∃r,r=q.rs.headD ⟨[],[]⟩:=⟨_,rfl⟩
       obtain⟨bm0,hb0⟩:∃b,b=bs[0]:=⟨_,rfl⟩
       rw[←hr0,←hb0]at hM0
       rw[←hb0]at hc0
       have HC00:=zO hc0
       have l0:=fun n=>(hM0.ext ((Ext.refl U).drewN n)).look (e:=3) Tryz.underlying145 (zero_int _) HZ.out.av (kmF_get _ q.av)
       rw[←HAV.out]at l0
       obtain⟨va,hva⟩:∃va,va=(kmOf ss r0 av).getD 0:=⟨_,rfl⟩
       simp only[←hva]at l0
       have HVA:Hid ((kmOf ss (q.rs.headD ⟨[],[]⟩) q.av).getD 0=va):=zO (by rw[←hr0,←HAV.out,hva])
       have HM0:=zO hM0;have HR0:=zO hr0;have HC0:=zO hc0
       clear hall hkb0 hrl0 hM0 hr0 hb0 hva hxv
       have q1:=HKBU.out.cell (i:=1) (by simp);have q2:=HKBU.out.cell (i:=2) (by simp)
       simp only[ja,je]at q1 q2
       by_cases hsum:ag=2∧va≠1
       ·have HQ:=zO (HC5.out H1.out H2.out H3.out H4.out ⟨by rw[←HAG.out];exact hsum.1,by rw[HVA.out];exact hsum.2⟩)
        obtain⟨rfl,hv1⟩:=hsum
        have hb:(va != 1)=true:=by rw[bne_iff_ne];exact hv1
        clear hv1
        go_upto_region 30 with fail
        go_quiet (fail)
        have hX8:Ext w (U.drewN nq):=HU.out.drewN nq
        have hkt8:Bk (U.drewN nq) (w.heap.size+1) 66 [.slice none 0 0,.slice none 0 0]:=HKTU.out.ext ((Ext.refl U).drewN nq)
        obtain⟨wi,hwi⟩:∃u:World,u=U.drewN nq:=⟨_,rfl⟩
        rw[←hwi]at hX8 hkt8 ⊢
        have t0:=hkt8.cell (i:=0) (by simp);have t1:=hkt8.cell (i:=1) (by simp);have tf0:=hkt8.free 0;have tf1:=hkt8.free 1
        simp only[ja,je]at t0 t1
        have HX9:=zO hX8;have HKT9:=zO hkt8
        clear hwi hX8 hkt8 l0 hc0 q1 q2
        go_wp2_with fail
        have kz:Bk ((wi.setCell ⟨w.heap.size+1,0,none⟩ (.slice none 0 0)).setCell ⟨w.heap.size+1,1,none⟩ (.slice none 0 0)) (w.heap.size+1) 66 [.slice none 0 0,.slice none 0 0]:=((HKT9.out).set 0 _).set 1 _
        have hez:Ext w ((wi.setCell ⟨w.heap.size+1,0,none⟩ (.slice none 0 0)).setCell ⟨w.heap.size+1,1,none⟩ (.slice none 0 0)):=((HX9.out).setCell (p:=⟨w.heap.size+1,0,none⟩) (jP _) _).setCell (p:=⟨w.heap.size+1,1,none⟩) (jP _) _
        generalize ((wi.setCell ⟨w.heap.size+1,0,none⟩ (.slice none 0 0)).setCell ⟨w.heap.size+1,1,none⟩ (.slice none 0 0))=wz at *
        have z0:=kz.cell (i:=0) (by simp);have z1:=kz.cell (i:=1) (by simp)
        simp only[ja,je]at z0 z1
        refine bodyPost_ret (v:=.tuple #[.agg #[.slice none 0 0,.slice none 0 0],.int .i64 5]) (by simp[results,Tryz.results22,go_sem,z0,z1]) rfl ⟨hez,none,0,0,none,0,0,?_⟩
        rw[HQ.out]
       have HQ:=zO (HC6.out H1.out H2.out H3.out H4.out (fun h=>hsum ⟨by rw[HAG.out];exact h.1,by rw[←HVA.out];exact h.2⟩))
       by_cases hag2:ag=2
       case' pos =>
        have hv1:va=1:=Decidable.of_not_not (fun h=>hsum ⟨hag2,h⟩)
        have hb:(va != 1)=false:=by rw[hv1];rfl
        subst hag2
        clear hsum hv1
       case' neg =>
        have hb:(ag == 2)=false:=beq_false_of_ne hag2
        clear hsum hag2
       all_goals
        go_upto_region 30 with fail
        go_quiet (fail)
        have hX8:Ext w (U.drewN nq):=HU.out.drewN nq
        have hkm8:=HKU.out.ext ((Ext.refl U).drewN nq)
        have hkt8:=HKTU.out.ext ((Ext.refl U).drewN nq)
        have hkb8:=HKBU.out.ext ((Ext.refl U).drewN nq)
        have hm8:=HM0.out.ext ((Ext.refl U).drewN nq)
        have hc8:=((Ext.refl U).drewN nq).cell HC00.out
        obtain⟨wi,hwi⟩:∃u:World,u=U.drewN nq:=⟨_,rfl⟩
        rw[←hwi]at hX8 hkt8 hkm8 hkb8 hm8 hc8 ⊢
        have HC08:=zO hc8
        have HX8:=zO hX8;have HKT8:=zO hkt8;have HKM8:=zO hkm8;have HKB8:=zO hkb8;have HM8:=zO hm8
        have b0:=hkb8.cell (i:=0) (by simp)
        simp only[ja]at b0
        have hwb:w.heap.size<wi.heap.size:=hkb8.lt
        clear hwi hX8 hkt8 hkm8 hkb8 hm8 hc8 l0 hc0 q1 q2
        go_wp2_with fail
        have k17:=Bk.new wi 66 [.slice none 0 0,.slice none 0 0]
        change Bk (wi.alloc (.cells #[.slice none 0 0,.slice none 0 0] 66)) _ _ _ at k17
        have hx6:Ext wi (wi.alloc (.cells #[.slice none 0 0,.slice none 0 0] 66)):=(Ext.refl wi).alloc _
        have hz6:wi.heap.size<(wi.alloc (.cells #[.slice none 0 0,.slice none 0 0] 66)).heap.size:=k17.lt
        generalize (wi.alloc (.cells #[.slice none 0 0,.slice none 0 0] 66))=w6 at *
        have HK17:=zO k17;have HX6:=zO hx6
        clear k17 hx6 b0
        go_loopw [120] (fun t wr=>∃(y:Nat) (u:Value) (zs:List Int),y≤nh∧t=.int .i64 (y:Int)∧Bk wr wi.heap.size 66 [u,.slice none 0 0]∧wr.ownsRow w6.heap.size 3 1 u y (zs.map I64)∧Fr (fun b=>b=wi.heap.size) w6 wr) (fun t _=>nh-(intOf t).toNat)
        case atStart=>exact⟨0,_,[],jn _,rfl,HK17.out,World.ownsRow_nil _ _ _ _,Fr.refl _ _⟩
        case round =>
         obtain⟨y,u,zs,hyh,rfl,hbk,hrow,hfr⟩:=hrel
         obtain⟨Au,cu,rfl⟩:=own_slice hrow
         have hxr:Ext wi wr:=hfr.new HX6.out (fun b hb=>by omega)
         have HBK:=zO hbk;have HROW:=zO hrow;have HFR:=zO hfr;have HXR:=zO hxr
         have hwr6:w6.heap.size≤wr.heap.size:=hfr.size
         have hbl:wi.heap.size<wr.heap.size:=hbk.lt
         have g0:=hbk.cell (i:=0) (by simp);have gf:=hbk.free 0
         simp only[ja,je]at g0
         clear hbk hrow hfr
         by_cases hyl:y<nh
         ·have y1:(0:Int)≤(y:Int):=by omega
          have y2:(y:Int)<(nh:Int):=by omega
          have hyr:y<q.hd.length:=by have:=HNH.out;omega
          obtain⟨A',c',e,-,hcl⟩:=HH.out
          injection e with e1 e2 e3
          subst e1
          obtain⟨adh,rfl,-,f0⟩:=hcl.str hyr
          replace f0:=hxr.cell (HX8.out.cell f0)
          have hzs:=HZ.out.hd _ (jg hyr)
          obtain⟨v,hv⟩:∃v,v=q.hd[y]:=⟨_,rfl⟩
          rw[←hv]at f0 hzs
          have l0:=fun n=>(HM8.out.ext (hxr.drewN n)).look (e:=3) Tryz.underlying145 (zero_int _) hzs (kmF_get _ v)
          have l1:=(HM8.out.ext hxr).look (e:=3) Tryz.underlying145 (zero_int _) hzs (kmF_get _ v)
          have l2:=(HM8.out.ext hxr.drew).look (e:=3) Tryz.underlying145 (zero_int _) hzs (kmF_get _ v)
          obtain⟨va9,hva9⟩:∃va9,va9=(kmOf ss r0 v).getD 0:=⟨_,rfl⟩
          simp only[←hva9]at l0 l1 l2
          have hc00:wr.cell? ⟨gK,0,none⟩=some (.map (some bm0)):=hxr.cell HC08.out
          clear hv hva9 hcl e2 e3 hxr
          go_upto_region 36 with fail
          go_region_law (first
           | (refine step_append_at (by rfl) _ _ _ (by rfl) w6.heap.size 3 j0 (.int .i64 0) 1 8 Tryz.underlying63 HJ0.out.1 HJ0.out.2.1 HJ0.out.2.2.1 HJ0.out.2.2.2 rfl (by omega) (.slice Au y cu) y (zs.map I64) (by rfl) (by exact own_ext' HROW.out ((Ext.refl wr).alloc _).drew) ⟨wr.heap.size,0,none⟩ 1 1 [.int .i64 va9] (by rfl) (by rfl) (by exact laid_news wr _ _) (by simp[Value.oneCell']) (by simp only[maxLen];omega) (by omega) (by simp;omega) ?_;intro v9 w9 hr9 hg9 hl9;obtain⟨A9,c9,rfl⟩:=own_slice hr9;have hb9:Bk w9 wi.heap.size 66 [.slice Au y cu,.slice none 0 0]:=Bk.fr (HBK.out.ext ((Ext.refl wr).alloc _).drew) (grown_fr hg9) (fun e=>own_bk HROW.out HBK.out (by decide) e rfl);have q9:=hb9.cell (i:=0) (by simp);have f9:=hb9.free 0;simp only[ja,je]at q9;have HB9:=zO hb9;have HR9:=zO hr9;have HG9:=zO hg9;clear hb9 hr9 hg9 hl9))
          all_goals
           have HBB:=zO (HB9.out.set 0 (.slice A9 (y+1) c9))
           have hfz:Fr (fun b=>b=wi.heap.size) w9 (w9.setCell ⟨wi.heap.size,0,none⟩ (.slice A9 (y+1) c9)):=(Fr.refl (fun b=>b=wi.heap.size) w9).setCell (p:=⟨wi.heap.size,0,none⟩) (.inl rfl) _
           have HFF:Hid (Fr (fun b=>b=wi.heap.size) w6 (w9.setCell ⟨wi.heap.size,0,none⟩ (.slice A9 (y+1) c9))):=zO (((HFR.out.ext ((Ext.refl wr).alloc _).drew).grown HG9.out (fun b hb=>.inr (own_ge HROW.out hb))).trans hfz)
           have HRR:=zO (own_fr HR9.out hfz (fun b hb e=>by have:=own_ge HR9.out hb;omega))
           clear hfz q9 f9 g0 gf l0 l1 l2 hc00 f0
           go_wp2_with fail
           go_roundw
           case rel=>exact⟨y+1,.slice A9 (y+1) c9,zs++[va9],by omega,by go_num,HBB.out,by rw[jI];exact HRR.out,HFF.out⟩
           case measure=>simp[intOf];omega
         ·obtain rfl:y=nh:=by omega
          have hdy:¬(y:Int)<(y:Int):=by omega
          have b3:=(HKB8.out.ext hxr).cell (i:=3) (by simp)
          simp only[ja,je]at b3
          obtain⟨w7,rfl⟩:∃W:World,W=wr:=⟨_,rfl⟩
          clear hxr
          go_wp2_with fail
          clear g0 gf b3
          go_loopw [138] (fun t wr=>∃(j:Nat) (u:Value) (vs:List Value),j≤x∧t=.int .i64 (j:Int)∧Bk wr wi.heap.size 66 [.slice Au y cu,u]∧wr.ownsRow w7.heap.size 149 1 u j vs∧Fr (fun b=>b=wi.heap.size) w7 wr) (fun t _=>x-(intOf t).toNat)
          case atStart=>exact⟨0,_,[],jn _,rfl,HBK.out,World.ownsRow_nil _ _ _ _,Fr.refl _ _⟩
          case round =>
           obtain⟨j,u,vs,hjx,rfl,hbk,hrow,hfr⟩:=hrel
           obtain⟨Ar,cr,rfl⟩:=own_slice hrow
           obtain⟨J,rfl⟩:∃J:World,J=wr:=⟨_,rfl⟩
           have hxr:Ext wi J:=hfr.new HXR.out (fun b hb=>by omega)
           have HBK2:=zO hbk;have HROW2:=zO hrow;have HFR2:=zO hfr;have HXR2:=zO hxr
           have hw7:w7.heap.size≤J.heap.size:=hfr.size
           have hbl2:wi.heap.size<J.heap.size:=hbk.lt
           clear hbk hrow hfr
           by_cases hjl:j<x
           ·have y1:(0:Int)≤(j:Int):=by omega
            have y2:(j:Int)<(x:Int):=by omega
            have hjr:j<q.rs.length:=by have:=HNR.out;omega
            have hjb:j<bs.length:=by have:=HBS.out;omega
            obtain⟨ad,B1,d1,C1,e1,rfl,-,f0,f1,hA1,hC1⟩:=HR.out.rl hjr
            replace f0:=hxr.cell (HX8.out.cell f0);replace f1:=hxr.cell (HX8.out.cell f1)
            have hz1:=HZ.out.rs _ (jg hjr)
            have hro:=rule_ok (HOK2.out.2.2.2.2.2.1 _ (jg hjr))
            obtain⟨hbd,-⟩:=items_bd hro.1 hz1
            have hvz:=rlB_vars hz1
            have hv8:=hro.2.1
            obtain⟨-,hMj⟩:=HKM8.out.at' j hjb (by rw[jm];exact hjr)
            rw[jy]at hMj
            have hkc:=HKM8.out.cell hjb
            have hvars:=fun (V:World) (hV:Ext wi V)=>vars_any (hA1.ext (HX8.out.trans hV)) (hC1.ext (HX8.out.trans hV)) hbd
            obtain⟨r,hr⟩:∃r,r=q.rs[j]:=⟨_,rfl⟩
            rw[←hr]at f0 f1 hvz hv8 hvars hMj
            obtain⟨n1,hn1⟩:∃n1,n1=r.ats.length:=⟨_,rfl⟩
            obtain⟨m1,hm1⟩:∃m1,m1=r.cds.length:=⟨_,rfl⟩
            obtain⟨bj,hbj⟩:∃bj,bj=bs[j]:=⟨_,rfl⟩
            rw[←hn1]at f0 hvars
            rw[←hm1]at f1 hvars
            rw[←hbj]at hkc hMj
            have HVZ:=zO hvz;have HV8:=zO hv8;have HVARS:=zO hvars;have HMJ:=zO hMj;have HKC:=zO hkc
            clear hr hn1 hm1 hbj hA1 hC1 hz1 hro hbd hvz hv8 hMj hkc hvars hxr
            go_wp2_with fail
            refine(HVARS.out _ (HXR2.out.alloc _)).mono ?_
            rintro e w9 ⟨yv,rfl,he9,hrow9⟩
            obtain⟨A9,c9,rfl⟩:=own_slice hrow9
            have hx9:=(Ext.alloc (Ext.refl J) (.cells #[.slice B1 n1 d1,.slice C1 m1 e1] 46)).trans he9
            have HX9:=zO hx9
            obtain⟨nv,hnv⟩:∃nv,nv=(varsC r).length:=⟨_,rfl⟩
            rw[←hnv]at hrow9 ⊢
            have HS9:=zO (Strs.ofn hrow9 (Ext.refl w9));have HNV:=zO hnv
            have hnv8:nv≤8:=by have:=HV8.out;omega
            clear he9 hx9 hrow9 hnv f0 f1
            go_wp2_with fail
            go_loopw [22,146] (fun p t wr=>∃(y:Nat) (zs:List Value),y≤nv∧t=.int .i64 (y:Int)∧wr.ownsRow w9.heap.size 151 2 p y zs∧Ext w9 wr) (fun _ t _=>nv-(intOf t).toNat)
            case atStart=>exact⟨0,[],jn _,rfl,World.ownsRow_nil _ _ _ _,Ext.refl _⟩
            case round =>
             obtain⟨p,zs2,hpn,rfl,hrp,hxp⟩:=hrel
             obtain⟨Ap,cp,rfl⟩:=own_slice hrp
             have HRP:=zO hrp;have HXP:=zO hxp
             have hxi:=(HXR2.out.trans HX9.out).trans hxp
             have HXI:=zO hxi
             have hwp:w9.heap.size≤wr.heap.size:=hxp.size
             by_cases hpl:p<nv
             ·have p1:(0:Int)≤(p:Int):=by omega
              have p2:(p:Int)<(nv:Int):=by omega
              have hpr:p<(varsC r).length:=by have:=HNV.out;omega
              obtain⟨A',c',e,-,hcl⟩:=HS9.out
              injection e with e1 e2 e3
              subst e1
              obtain⟨adv,rfl,-,f0⟩:=hcl.str hpr
              replace f0:=hxp.cell f0
              have hzs:=HVZ.out _ (jg hpr)
              obtain⟨v,hv⟩:∃v,v=(varsC r)[p]:=⟨_,rfl⟩
              rw[←hv]at f0 hzs
              have hkc:=hxi.cell HKC.out
              have HMW:=zO (HMJ.out.ext hxi)
              have hget:=kmF_get (kmOf ss r) v
              obtain⟨va9,hva9⟩:∃va9,va9=(kmOf ss r v).getD 0:=⟨_,rfl⟩
              rw[←hva9]at hget
              have HGET:=zO hget
              clear hv hva9 hget hcl e2 e3 hxp hxi hrp
              go_wp2_with (first
               | (refine wpList_lookup_V rfl _ _ 145 3 rfl Tryz.underlying145 (.int .i64 0) (zero_int _) bj 1048576 _ rfl HMW.out v rfl hzs (.int .i64 va9) HGET.out ?_)
               | (at_builtin;refine wpList_append_at rfl _ _ 149 rfl w9.heap.size 151 k0 (.agg #[.string ⟨#[]⟩,.int .i64 0]) 2 24 Tryz.underlying149 HK0.out.1 HK0.out.2.1 HK0.out.2.2.1 HK0.out.2.2.2 rfl (by omega) (.slice Ap p cp) p zs2 rfl (HRP.out.alloc _) ⟨wr.heap.size,0,none⟩ 1 1 [.string v,.int .i64 va9] rfl rfl (laid_news wr _ _) (by simp[Value.oneCell']) (by simp only[maxLen];omega) (by omega) (by simp;omega) ?_;intro v8 w8 hr8 hg8 hl8;obtain⟨A8,c8,rfl⟩:=own_slice hr8;have HR8:=zO hr8;have HX8':Hid (Ext w9 w8):=zO ((HXP.out.alloc _).grown hg8 (fun q hq=>own_ge HRP.out hq));clear hr8 hg8 hl8))
              go_roundw
              case rel=>exact⟨p+1,_,by omega,by go_num,HR8.out,HX8'.out⟩
              case measure=>simp[intOf];omega
             ·obtain rfl:p=nv:=by omega
              have hdp:¬(p:Int)<(p:Int):=by omega
              have hx79:=HX9.out.trans hxp
              have hbk3:=HBK2.out.ext hx79
              have HBK3:=zO hbk3;have HROW3:=zO (own_ext' HROW2.out hx79);have HFR3:=zO (HFR2.out.ext hx79)
              have g1:=hbk3.cell (i:=1) (by simp);have gf1:=hbk3.free 1
              simp only[ja,je]at g1
              have hbl3:wi.heap.size<wr.heap.size:=hbk3.lt
              have hw79:w7.heap.size≤wr.heap.size:=js hw7 hx79.size
              clear hx79 hbk3 hxp hxi hrp
              go_wp2_with (first
               | (at_builtin;refine wpList_append_at rfl _ _ 64 rfl w7.heap.size 149 l0 (.slice none 0 0) 1 24 Tryz.underlying64 HL0.out.1 HL0.out.2.1 HL0.out.2.2.1 HL0.out.2.2.2 rfl (by omega) (.slice Ar j cr) j vs rfl (HROW3.out.alloc _) ⟨wr.heap.size,0,none⟩ 1 1 [.slice Ap p cp] rfl rfl (laid_news wr _ _) (by simp[Value.oneCell']) (by simp only[maxLen];omega) (by omega) (js hw79 ((Ext.refl wr).alloc _).size) ?_;intro v8 w8 hr8 hg8 hl8;obtain⟨A8,c8,rfl⟩:=own_slice hr8;have hb8:Bk w8 wi.heap.size 66 [.slice Au y cu,.slice Ar j cr]:=Bk.fr (HBK3.out.alloc _) (grown_fr hg8) (fun e=>own_bk HROW3.out HBK3.out (by decide) e rfl);have q8:=hb8.cell (i:=1) (by simp);have f8:=hb8.free 1;simp only[ja,je]at q8;have HB8:=zO hb8;have HR8:=zO hr8;have HF8:Hid (Fr (fun b=>b=wi.heap.size) w7 w8):=zO ((HFR3.out.alloc _).grown hg8 (fun b hb=>.inr (own_ge HROW3.out hb)));clear hb8 hr8 hg8 hl8))
              have HBB:=zO (HB8.out.set 1 (.slice A8 (j+1) c8))
              have hfz:Fr (fun b=>b=wi.heap.size) w8 (w8.setCell ⟨wi.heap.size,1,none⟩ (.slice A8 (j+1) c8)):=(Fr.refl (fun b=>b=wi.heap.size) w8).setCell (p:=⟨wi.heap.size,1,none⟩) (.inl rfl) _
              have HFF:=zO (HF8.out.trans hfz)
              have HRR:=zO (own_fr HR8.out hfz (fun b hb e=>by have:=own_ge HR8.out hb;omega))
              clear hfz q8 f8 g1 gf1
              go_roundw
              case rel=>exact⟨j+1,.slice A8 (j+1) c8,_,by omega,by go_num,HBB.out,HRR.out,HFF.out⟩
              case measure=>simp[intOf];omega
           ·obtain rfl:j=x:=by omega
            have hdj:¬(j:Int)<(j:Int):=by omega
            have hkt9:=HKT8.out.ext hxr
            have t0:=hkt9.cell (i:=0) (by simp);have t1:=hkt9.cell (i:=1) (by simp);have tf0:=hkt9.free 0;have tf1:=hkt9.free 1
            have g0:=HBK2.out.cell (i:=0) (by simp);have g1:=HBK2.out.cell (i:=1) (by simp)
            simp only[ja,je]at t0 t1 g0 g1
            have HX9:=zO (HX8.out.trans hxr);have HKT9:=zO hkt9
            clear hkt9 hxr
            go_wp2_with fail
            have kz:Bk ((J.setCell ⟨w.heap.size+1,0,none⟩ (.slice Au y cu)).setCell ⟨w.heap.size+1,1,none⟩ (.slice Ar j cr)) (w.heap.size+1) 66 [.slice Au y cu,.slice Ar j cr]:=(HKT9.out.set 0 _).set 1 _
            have hez:Ext w ((J.setCell ⟨w.heap.size+1,0,none⟩ (.slice Au y cu)).setCell ⟨w.heap.size+1,1,none⟩ (.slice Ar j cr)):=(HX9.out.setCell (p:=⟨w.heap.size+1,0,none⟩) (jP _) _).setCell (p:=⟨w.heap.size+1,1,none⟩) (jP _) _
            generalize ((J.setCell ⟨w.heap.size+1,0,none⟩ (.slice Au y cu)).setCell ⟨w.heap.size+1,1,none⟩ (.slice Ar j cr))=wz at *
            have z0:=kz.cell (i:=0) (by simp);have z1:=kz.cell (i:=1) (by simp)
            simp only[ja,je]at z0 z1
            refine bodyPost_ret (v:=.tuple #[.agg #[.slice Au y cu,.slice Ar j cr],.int .i64 0]) (by simp[results,Tryz.results22,go_sem,z0,z1]) rfl ⟨hez,Au,y,cu,Ar,j,cr,?_⟩
            rw[HQ.out]
