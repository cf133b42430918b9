/- packed -/
import Derived.Test.YtplldnnnhgnbjaaGreatDoorMv35
namespace Go.Proofs.YtplldnnnhgnbjaaGreatDoor
open Go.RowKit Go.Maps Go.Sort Go.Shelf Go.Lib
open Go.Proofs (Row1 SW CmpLays1 OneCell)
section
variable {α : Type} [Inhabited α] {enc : α→Value} {w0:World} {blk off:Nat} {d0:Array α}
set_option maxRecDepth 100000 in
set_option maxHeartbeats 6400000 in
theorem symB{w:World}{cap cg a m b:Nat}{cb:Array Value}{cf : α→α→Int}(R:Row1 enc w0 blk off d0)(eg:∀args w,(callFunc cg args).run Tryz.prog w=.ok (.enter cg args) w)(hC:CmpLays1 Tryz.prog cg cb enc cf blk off d0.size w0)(sA:d0.size≤1048576)(hS:SP enc w0 blk off d0 w)(hm:b=m+1)(sB:a<m)(sy:m≠a+1)(hb:b≤d0.size) :
  Calls Tryz.prog 248 #[.slice (some ⟨blk,off,none⟩) d0.size cap,.int .i64 (a:Int),.int .i64 (m:Int),.int .i64 (b:Int),.func (.func cg) #[] cb] w (fun e w'=>e=.returned (.tuple #[])∧SP enc w0 blk off d0 w'):=by
 obtain⟨sz,se⟩:=sd d0.size
 have HB:Hid (b≤d0.size):=zN hb
 rw[←se]at hb sA ⊢
 have HS:=zN hS;have HQ:=zN se;have HC:=zN hC
 have sj:=R.hO.cells
 simp only[Value.cells]at sj
 have sE:=R.hO.store Tryz.prog
 have mixed:Tryz.prog.follows .mixedOrders=true:=by kernel_rfl
 clear hS se hC
 subst hm
 have t1:(((m:Int)-(a:Int)) == 1)=false:=by rw[beq_eq_false_iff_ne];omega
 have t2:((((m+1:Nat):Int)-(m:Int)) == 1)=true:=by rw[beq_iff_eq];omega
 have sw:((m+1:Nat):Int)=(m:Int)+1:=by omega
 rw[sw]at t2 ⊢
 clear sw sy
 go_enter Tryz.func248,Tryz.ntmps248
 go_wp2_with fail
 go_loopw [14,15] (fun s t wr=>∃i j:Nat,a≤i∧i≤j∧j≤m∧s=.int .i64 (i:Int)∧t=.int .i64 (j:Int)∧Hid (SP enc w0 blk off d0 wr)) (fun s t _=>(intOf t-intOf s).toNat)
 case atStart=>exact⟨a,m,by omega,by omega,by omega,rfl,rfl,HS⟩
 case round =>
  obtain⟨i,j,hi,sx,sC,rfl,rfl,HP⟩:=hrel
  obtain⟨W,rfl⟩:∃W:World,W=wr:=⟨_,rfl⟩
  clear HS
  by_cases hlt:i<j
  ·
   obtain⟨dk,hs,hp,S⟩:=HP.out
   obtain⟨iN,sp⟩:=sd m
   obtain⟨jN,sq⟩:=sd ((i+j) / 2)
   have sr:=HQ.out
   have pi:iN<d0.size:=by omega
   have pj:jN<d0.size:=by omega
   have ea:((m:Int)).toNat=iN:=by omega
   have pa:(0:Int)≤(m:Int):=by omega
   have ba:(m:Int)<(sz:Int):=by omega
   have ra:IntKind.i64.wrap ((m:Int))=(m:Int):=by rw[IntKind.wrap_i64];omega
   have eb:(((i:Int)+(j:Int)) / 2).toNat=jN:=by omega
   have pb:(0:Int)≤((i:Int)+(j:Int)) / 2:=by omega
   have bb:((i:Int)+(j:Int)) / 2<(sz:Int):=by omega
   have rb:IntKind.i64.wrap (((i:Int)+(j:Int)) / 2)=((i:Int)+(j:Int)) / 2:=by rw[IntKind.wrap_i64];omega
   have la:=S.cl R (by omega) iN (by omega)
   have lb:=S.cl R (by omega) jN (by omega)
   obtain⟨x,hx⟩:=sd (dk[iN]!)
   obtain⟨y,hy⟩:=sd (dk[jN]!)
   rw[←hx]at la
   rw[←hy]at lb
   have hc:=S.cmp HC.out hs x y
   have sg:=zN S;have sh:=zN hs;have si:=zN hp
   obtain⟨z,hz⟩:=sd (cf x y)
   rw[←hz]at hc
   clear S hs hp hx hy hz sp sq sr pi pj HP
   by_cases hv:z<0
   ·have hd:decide (z<0)=true:=decide_eq_true hv
    go_upto_region 17 with fail
    go_quiet_grown (first|(go_at_fn cg;refine Calls.grown_of (hc _ _)))
    have S3:Hid (SP enc w0 blk off d0 (grow (W.drewN nq) osq)):=zN ⟨dk,sh.out,si.out,sg.out.grown nq osq⟩
    clear la lb hc sg sh si
    generalize grow (W.drewN nq) osq=w3 at S3 ⊢
    clear nq osq ea eb ra rb pa pb ba bb
    go_wp2_with fail
    go_roundw
    case rel=>exact⟨i,(i+j) / 2,by omega,by omega,by omega,rfl,by first|rfl|go_num|(congr 1;omega),S3⟩
    case measure=>simp[intOf];omega
   ·have hd:decide (z<0)=false:=decide_eq_false hv
    go_upto_region 17 with fail
    go_quiet_grown (first|(go_at_fn cg;refine Calls.grown_of (hc _ _)))
    have S3:Hid (SP enc w0 blk off d0 (grow (W.drewN nq) osq)):=zN ⟨dk,sh.out,si.out,sg.out.grown nq osq⟩
    clear la lb hc sg sh si
    generalize grow (W.drewN nq) osq=w3 at S3 ⊢
    clear nq osq ea eb ra rb pa pb ba bb
    go_wp2_with fail
    go_roundw
    case rel=>exact⟨(i+j) / 2+1,j,by omega,by omega,by omega,by first|rfl|go_num|(congr 1;omega),rfl,S3⟩
    case measure=>simp[intOf];omega
  ·obtain rfl:i=j:=by omega
   clear sx
   go_wp2_with fail
   go_loopw [17] (fun t wr=>∃k:Nat,i≤k∧k≤m∧t=.int .i64 (k:Int)∧Hid (SP enc w0 blk off d0 wr)) (fun t _=>(intOf t).toNat)
   case atStart=>exact⟨m,by omega,jo _,rfl,HP⟩
   case round =>
    obtain⟨k,hk,sD,rfl,HP⟩:=hrel
    obtain⟨W2,rfl⟩:∃W:World,W=wr:=⟨_,rfl⟩
    obtain⟨W,rfl⟩:∃V:World,V=W2:=⟨_,rfl⟩
    by_cases hlt2:(i:Int)<(k:Int)
    ·
     obtain⟨dk,hs,hp,S⟩:=HP.out
     obtain⟨iN,sp⟩:=sd k
     obtain⟨jN,sq⟩:=sd (k-1)
     have sr:=HQ.out
     have pi:iN<d0.size:=by omega
     have pj:jN<d0.size:=by omega
     have ea:((k:Int)).toNat=iN:=by omega
     have pa:(0:Int)≤(k:Int):=by omega
     have ba:(k:Int)<(sz:Int):=by omega
     have ra:IntKind.i64.wrap ((k:Int))=(k:Int):=by rw[IntKind.wrap_i64];omega
     have eb:((k:Int)-1).toNat=jN:=by omega
     have pb:(0:Int)≤(k:Int)-1:=by omega
     have bb:(k:Int)-1<(sz:Int):=by omega
     have rb:IntKind.i64.wrap ((k:Int)-1)=(k:Int)-1:=by rw[IntKind.wrap_i64];omega
     have S3:Hid (SP enc w0 blk off d0 ((W.setCell ⟨blk,off+iN,none⟩ (enc dk[jN]!)).setCell ⟨blk,off+jN,none⟩ (enc dk[iN]!)).drew):=zN (SP.swap R hs hp S pi pj)
     have ca:=S.c1 R (by omega) iN (by omega)
     have su:=S.c1 R (by omega) jN (by omega)
     have fa:=S.f1 R (by omega) iN (by omega)
     have fb:=S.f1 R (by omega) jN (by omega)
     obtain⟨x,hx⟩:=sd (dk[iN]!)
     obtain⟨y,hy⟩:=sd (dk[jN]!)
     obtain⟨u,cc⟩:=S.c2 R (by omega) iN jN (by omega) (by omega) (enc y)
     rw[←hx]at ca S3
     rw[←hy]at su S3
     clear S hs hp hx hy sp sq sr pi pj HP
     go_upto_region 23 with fail
     go_big_region_o
     clear ca su cc fa fb
     generalize ((W.setCell ⟨blk,off+iN,none⟩ (enc y)).setCell ⟨blk,off+jN,none⟩ (enc x)).drew=w3 at S3 ⊢
     clear ea eb ra rb pa pb ba bb
     go_wp2_with fail
     go_roundw
     case rel=>exact⟨k-1,by omega,by omega,by first|go_num|(congr 1;omega),S3⟩
     case measure=>simp[intOf];omega
    ·go_wp2_with fail
     refine bodyPost_ret (results_none rfl _ _ _) rfl ?_
     exact⟨rfl,HP.out⟩
end
