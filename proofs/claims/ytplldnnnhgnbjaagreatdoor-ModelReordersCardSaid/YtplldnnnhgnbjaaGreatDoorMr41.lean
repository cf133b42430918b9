/- packed -/
import Derived.Test.YtplldnnnhgnbjaaGreatDoorMr40
namespace Go.Proofs.YtplldnnnhgnbjaaGreatDoor
open Go.RowKit Go.Maps
def TablesQ (M:Dm) (nb:Nat) (w:World) (v:Value) (w':World):Prop :=
 ∃ A c l,v = .slice A (tbsOf M l).length c∧NamesOf M l∧l.length≤nb∧Sl rdTb (fun k=>w.heap.size≤k) w' (.slice A (tbsOf M l).length c) (tbsOf M l)
theorem tbsOf_len (M:Dm) (l:List ByteArray):(tbsOf M l).length=l.length:=List.length_map ..
set_option maxRecDepth 20000 in
set_option maxHeartbeats 6400000 in
theorem tables_any {H:Nat→Prop} {w:World} {b nb:Nat} {M:Dm} (hD:DbB H w b nb M) (hO:DbOk M) (hA:∀ s e,M s=some e→e.kinds.length≤6∧e.rel.rows.length≤4096) (hnb:nb≤1000000) :
  Calls Tryz.prog 45 #[.agg #[.map (some b)]] w (fun e w'=>Ext w w'∧∃ v,e = .returned v∧TablesQ M nb w v w'):=by
 have kb:=Bk.new w 33 [.map (some b)]
 have hx:=(Ext.refl w).alloc (.cells #[.map (some b)] 33)
 have hD2:=hD.mono (G:=fun k=>H k∧k < w.heap.size) (fun k h1 h2=>⟨h2,h1⟩)
 have HSC:=Lib.hid (fun (V:World) (hV:Ext w V)=>schemas_any (hD.ext hV) hnb hO.key)
 have HRL:=Lib.hid (fun (V:World) (s:ByteArray) (hV:Ext w V) (hs:s.size≤maxLen)=>relation_any (s:=s) (hD2.ext hV) hs)
 have HRO:=Lib.hid (fun (V:World) (F:Nat→Prop) (A:Option Addr) (n c:Nat) (a:Int) (rows:List (List Vl)) (h:Sl rdRow F V (.slice A n c) rows) (h1:∀ x ∈ rows,x.length≤1048576) (h2:n≤1048576)=>rows_any (a:=a) h h1 h2)
 obtain ⟨PP,hPP⟩:∃ P:Ending→World→Prop,P=(fun e w'=>Ext w w'∧∃ v,e = .returned v∧TablesQ M nb w v w'):=⟨_,rfl⟩
 have HPP:=Lib.hid hPP
 rw [← hPP]
 have HO:=Lib.hid hO;have HA:=Lib.hid hA
 clear hD hD2 hO hA hPP
 go_enter Tryz.func45,Tryz.ntmps45
 go_upto_region 1 with fail
 change Bk (w.alloc (.cells #[.map (some b)] 33)) _ _ _ at kb
 generalize (w.alloc (.cells #[.map (some b)] 33))=w1 at *
 have HKB:=Lib.hid kb;have HX:=Lib.hid hx
 have b0:=kb.cell (i:=0) (by simp)
 simp only [List.getElem_cons_zero] at b0
 obtain ⟨gb,hgb⟩:∃ g,g=w.heap.size:=⟨_,rfl⟩
 rw [← hgb] at HKB b0 ⊢
 have HGB:Hid (w.heap.size≤gb):=Lib.hid (by omega)
 clear kb hx hgb
 go_wp2_with fail
 refine (HSC.out _ HX.out).mono ?_
 rintro e w2 ⟨v,l,rfl,he,hsl,hl1,hl2,hl3⟩
 obtain ⟨S,cs,hv⟩:=hsl.sl
 subst hv
 have hsn:(schL M l).length=l.length:=by unfold schL;rw [List.length_map]
 have HSL:=Lib.hid hsl;have HNM:Hid (NamesOf M l):=Lib.hid ⟨hl1,hl3⟩
 have HX2:=Lib.hid (HX.out.trans he);have HKB2:=Lib.hid (HKB.out.ext he)
 obtain ⟨n,hn⟩:∃ n,n=(schL M l).length:=⟨_,rfl⟩
 rw [← hn] at HSL ⊢
 have hnb2:n≤1000000:=by omega
 have HN:Hid (n=l.length):=Lib.hid (by omega)
 have HL2:=Lib.hid hl2
 clear he hsl hl1 hl2 hl3 hsn b0 hn HSC
 go_wp2_with fail
 go_loopw [3,5] (fun v t wr=>∃ (i:Nat) (P:Option Addr) (cp:Nat) (css:List (List Value)),i≤n∧t = .int .i64 (i:Int)∧v = .slice P i cp∧Hid (Rw rdTb wr w2.heap.size 120 (.slice P i cp) i ((tbsOf M l).take i) css)∧Hid (Ext w2 wr)) (fun _ t _=>n - (intOf t).toNat)
 case atStart=>exact ⟨0,none,0,[],Nat.zero_le _,rfl,rfl,Lib.hid (Rw.empty _ _ _ _),Lib.hid (Ext.refl _)⟩
 case round =>
  obtain ⟨i,P,cp,css,hi,rfl,rfl,HR,HE⟩:=hrel
  obtain ⟨W,rfl⟩:∃ W:World,W=wr:=⟨_,rfl⟩
  by_cases hlt:i < n
  ·have i1:(0:Int)≤(i:Int):=by omega
   have i2:(i:Int) < (n:Int):=by omega
   have hil:i < l.length:=by have:=HN.out;omega
   have his:i < (schL M l).length:=by unfold schL;rw [List.length_map];exact hil
   obtain ⟨ad,B,d,rfl,hadk,c0,c1,hks⟩:=HSL.out.sc his
   have es:(schL M l)[i]=⟨l[i],kdsOf M l[i]⟩:=List.getElem_map _
   rw [es] at c0 c1 hks
   have hadl:=World.block_lt_of_cell? _ _ c0
   rw [block_add] at hadl
   replace c0:=HE.out.cell c0;replace c1:=HE.out.cell c1
   have hsome:(M l[i]).isSome=true:=(HNM.out.2 _).1 (List.getElem_mem hil)
   obtain ⟨x,hx⟩:=Option.isSome_iff_exists.1 hsome
   have hkl:kdsOf M l[i]=x.kinds:=by unfold kdsOf;rw [hx];rfl
   have hrw:rowsD M l[i]=x.rel.rows:=rowsD_some hx
   have hsz:l[i].size≤maxLen:=by have:=(HO.out.key _ _ hx).1;unfold maxLen;omega
   have htk:(tbsOf M l).take (i + 1)=(tbsOf M l).take i ++ [tbOf M l[i]]:=by
    unfold tbsOf
    rw [List.take_succ_eq_append_getElem (by rw [List.length_map];exact hil),List.getElem_map]
   have htb:tbOf M l[i]=⟨l[i],((x.kinds.length:Nat):Int),x.rel.rows⟩:=by unfold tbOf;rw [hkl,hrw]
   rw [hkl] at c1
   rw [htb] at htk
   have hbd:=HA.out _ _ hx
   have hro:=fun r hr=>(HO.out.row _ _ hx r hr).1
   have HREL:Hid (∀ V,Ext W V→Calls Tryz.prog 110 #[.agg #[.map (some b)],.string l[i]] V (fun e Z=>Ext V Z∧∃ A c,e = .returned (.tuple #[.agg #[.int .i64 x.rel.ar,.slice A x.rel.rows.length c],.bool true])∧Sl rdRow (fun k=>H k∧k < w.heap.size) Z (.slice A x.rel.rows.length c) x.rel.rows)):=Lib.hid (fun V hV=>(HRL.out V l[i] (HX2.out.trans (HE.out.trans hV)) hsz).mono (by
    rintro e Z ⟨he,⟨h0,-⟩ | ⟨y,A,c,h1,h2,h3⟩⟩
    ·rw [hx] at h0
     cases h0
    ·rw [hx] at h1
     injection h1 with h1
     subst h1
     exact ⟨he,A,c,h2,h3⟩))
   obtain ⟨s,hs⟩:∃ s,s=l[i]:=⟨_,rfl⟩
   rw [← hs] at c0 htk HREL
   obtain ⟨nk,hnk⟩:∃ k,k=x.kinds.length:=⟨_,rfl⟩
   rw [← hnk] at c1 htk
   obtain ⟨rows,hrows⟩:∃ r,r=x.rel.rows:=⟨_,rfl⟩
   rw [← hrows] at htk HREL hbd hro
   obtain ⟨ar,har⟩:∃ r,r=x.rel.ar:=⟨_,rfl⟩
   rw [← har] at HREL
   have hrl:∀ r ∈ rows,r.length≤1048576:=fun r hr=>by rw [hro r hr];omega
   have HTK:=Lib.hid htk;have HRLN:=Lib.hid hrl
   have hrn:rows.length≤1048576:=by omega
   have b0:=(HKB2.out.ext HE.out).cell (i:=0) (by simp)
   simp only [List.getElem_cons_zero] at b0
   clear hks es hsome hx hkl hrw hsz htk htb hbd hro hs hnk hrows har hrl his hil
   go_upto_region 6 with fail
   refine wp_then ?_
   intro KK hKK
   refine tbs_reg b0 i1 i2 c0 (fun k hk=>by have:=hk.2;have:=HX2.out.size;have:=HE.out.size;omega) HREL ?_
   intro g t7 t16 t23 t24 t25 A1 c1' W2 hx2 hg hb hsl
   have d0:=hb.cell (i:=0) (by simp);have d1:=hb.cell (i:=1) (by simp)
   simp only [List.getElem_cons_zero,List.getElem_cons_succ] at d0 d1
   replace c0:=hx2.cell c0;replace c1:=hx2.cell c1
   have hs2:=hx2.size;have hsE:=HE.out.size
   have hrw2:=HR.out.ext hx2
   have hnown:∀ k,(k < w2.heap.size ∨ W.heap.size≤k)→¬ (Value.slice P i cp).ownBlock=some k:=fun k hk e=>by
    have h1:=own_ge HR.out.own e
    have h2:=own_lt HR.out.own e
    omega
   have HROW:Hid (∀ V,Ext W2 V→Calls Tryz.prog 111 #[.agg #[.int .i64 ar,.slice A1 rows.length c1']] V (fun e Z=>Ext V Z∧∃ A c,e = .returned (.slice A rows.length c)∧Sl rdRow (fun k=>W2.heap.size≤k) Z (.slice A rows.length c) rows)):=Lib.hid (fun V hV=>(HRO.out V _ A1 _ c1' ar rows (hsl.ext hV) HRLN.out hrn).mono (by
    rintro e Z ⟨he,g9,us,hg9,rfl,how⟩
    have hsV:=hV.size
    exact ⟨he,_,_,rfl,how.sl (fun k hk=>by have e2:g9=k:=(by injection hk);have:V.heap.size < g9:=hg9;omega) (fun k hk=>by have h8:g9 < k:=hk;have:V.heap.size < g9:=hg9;omega)⟩))
   clear hsl hb
   rw [hKK]
   clear hKK KK
   have hgn:=hnown g (.inr hg)
   have han:=hnown ad.block (.inl hadl)
   have HK6:Hid (w2.heap.size≤g):=Lib.hid (by omega)
   have HS2:Hid (w2.heap.size≤W2.heap.size∧Ext w2 W2):=Lib.hid ⟨by omega,HE.out.trans hx2⟩
   clear hx2
   go_upto_region 7 with fail
   refine wp_then ?_
   intro KK hKK
   refine tba_reg (x:=⟨s,(nk:Int),rows⟩) i1 i2 c0 c1 d0 d1 rfl han hgn hrw2 HS2.out.1 (by omega) HROW ?_
   intro A9 c9 cs t39 t40 t41 t42 W3 hfr hrw3
   have HRW3:Hid (Rw rdTb W3 w2.heap.size 120 (.slice A9 (i + 1) c9) (i + 1) ((tbsOf M l).take (i + 1)) (css ++ [cs])):=Lib.hid (by rw [HTK.out];exact hrw3)
   have HE3:=Lib.hid (hfr.new HS2.out.2 (fun k hk=>own_ge HR.out.own hk))
   clear hfr hrw3 hrw2 c0 c1 d0 d1 b0
   rw [hKK]
   clear hKK KK
   go_wp2_with fail
   go_roundw
   case rel=>exact ⟨i + 1,A9,c9,_,by omega,by go_num,rfl,HRW3,HE3⟩
   case measure=>simp [intOf];omega
  ·obtain rfl:i=n:=by omega
   have hdi:¬ (i:Int) < (i:Int):=by omega
   have HQ:Hid (PP (.returned (.slice P i cp)) W):=Lib.hid (by
    rw [HPP.out]
    have h:=HR.out
    have hn2:(tbsOf M l).length=i:=by rw [tbsOf_len];exact HN.out.symm
    rw [List.take_of_length_le (by omega)] at h
    have h2:=h.sl (by decide)
    refine ⟨HX2.out.trans HE.out,_,rfl,P,cp,l,by rw [hn2],HNM.out,HL2.out,?_⟩
    rw [hn2]
    exact h2.mono (by decide) (fun k _ hk=>by have:=HX2.out.size;omega))
   go_wp2_with fail
   exact HQ.out
end Go.Proofs.YtplldnnnhgnbjaaGreatDoor
