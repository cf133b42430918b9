/- packed -/
import Derived.Test.YtplldnnnhgnbjaaGreatDoorMu34
namespace Go.Proofs.YtplldnnnhgnbjaaGreatDoor
open Go.RowKit Go.Maps Go.Sort Go.Shelf Go.Lib
open Go.Proofs (Row1 SW CmpLays1 OneCell)
section
variable {α : Type} [Inhabited α] {enc : α→Value} {w0:World} {blk off:Nat} {d0:Array α}
set_option maxRecDepth 100000 in
set_option maxHeartbeats 6400000 in
theorem symC1{w:World}{cap cg a m b md n:Nat}{cb:Array Value}{cf : α→α→Int}(R:Row1 enc w0 blk off d0)(eg:∀args w,(callFunc cg args).run Tryz.prog w=.ok (.enter cg args) w)(hC:CmpLays1 Tryz.prog cg cb enc cf blk off d0.size w0)(hsz:d0.size≤1048576)(hS:SP enc w0 blk off d0 w)(ham:a<m)(hmb:m<b)(hb:b≤d0.size)(h1:m≠a+1)(h2:b≠m+1)(hmI:((a:Int)+(b:Int)) / 2=(md:Int))(b1:a<md)(b2:md<b)(b3 : 2*md≤a+b)(b4:a+b≤2*md+1)(hmm:md<m)(hn:n=md+m)(HREC:Hid (∀(V:World) (a2 m2 b2:Nat),b2-a2<b-a→SP enc w0 blk off d0 V→a2<m2→m2<b2→b2≤d0.size→Calls Tryz.prog 248 #[.slice (some ⟨blk,off,none⟩) d0.size cap,.int .i64 (a2:Int),.int .i64 (m2:Int),.int .i64 (b2:Int),.func (.func cg) #[] cb] V (fun e w'=>e=.returned (.tuple #[])∧SP enc w0 blk off d0 w')))(HROT:Hid (∀(V:World) (a2 m2 b2:Nat),SP enc w0 blk off d0 V→a2<m2→m2<b2→b2≤d0.size→Calls Tryz.prog 277 #[.slice (some ⟨blk,off,none⟩) d0.size cap,.int .i64 (a2:Int),.int .i64 (m2:Int),.int .i64 (b2:Int),.func (.func cg) #[] cb] V (fun e w'=>e=.returned (.tuple #[])∧SP enc w0 blk off d0 w'))) :
  Calls Tryz.prog 248 #[.slice (some ⟨blk,off,none⟩) d0.size cap,.int .i64 (a:Int),.int .i64 (m:Int),.int .i64 (b:Int),.func (.func cg) #[] cb] w (fun e w'=>e=.returned (.tuple #[])∧SP enc w0 blk off d0 w'):=by
 obtain⟨sz,hszq⟩:∃q,q=d0.size:=⟨_,rfl⟩
 have HB:Hid (b≤d0.size):=zO hb
 rw[←hszq]at hb hsz ⊢
 have HS:=zO hS;have HQ:=zO hszq;have HC:=zO hC
 have hcl0:=R.hO.cells
 simp only[Value.cells]at hcl0
 have hst:=R.hO.store Tryz.prog
 have mixed:Tryz.prog.follows .mixedOrders=true:=by kernel_rfl
 clear hS hszq hC
 rw[show d0.size=sz from HQ.out.symm]at HREC HROT
 have t1:(((m:Int)-(a:Int)) == 1)=false:=by rw[beq_eq_false_iff_ne];omega
 have t2:(((b:Int)-(m:Int)) == 1)=false:=by rw[beq_eq_false_iff_ne];omega
 have hnI:(md:Int)+(m:Int)=(n:Int):=by omega
 have HN:=zO hn
 clear h1 h2
 obtain⟨lo,hlo⟩:∃lo,lo=n-b:=⟨_,rfl⟩
 have hloI:(n:Int)-(b:Int)=(lo:Int):=by omega
 have c1:a≤lo:=by omega
 have c2:lo≤md:=by omega
 have c3:n≤b+lo:=by omega
 clear hlo hn
 have hmI2:(md:Int)<(m:Int):=by omega
 go_enter Tryz.func248,Tryz.ntmps248
 go_wp2_with fail
 go_loopw [20,21] (fun s t wr=>∃i j:Nat,lo≤i∧i≤j∧j≤md∧s=.int .i64 (i:Int)∧t=.int .i64 (j:Int)∧Hid (SP enc w0 blk off d0 wr)) (fun s t _=>(intOf t-intOf s).toNat)
 case atStart=>exact⟨lo,md,by omega,by omega,by omega,rfl,rfl,HS⟩
 case round =>
  obtain⟨i,j,hi,hij,hjb,rfl,rfl,HP⟩:=hrel
  obtain⟨W,rfl⟩:∃W:World,W=wr:=⟨_,rfl⟩
  clear HS
  have hnn:=HN.out
  by_cases hlt:i<j
  ·
   have pa2:((i:Int)+(j:Int)) / 2≤(n:Int)-1:=by omega
   obtain⟨dk,hs,hp,S⟩:=HP.out
   obtain⟨iN,hiN⟩:∃q,q=n-1-(i+j) / 2:=⟨_,rfl⟩
   obtain⟨jN,hjN⟩:∃q,q=(i+j) / 2:=⟨_,rfl⟩
   have hsq:=HQ.out
   have pi:iN<d0.size:=by omega
   have pj:jN<d0.size:=by omega
   have ea:((n:Int)-1-((i:Int)+(j:Int)) / 2).toNat=iN:=by omega
   have pa:(0:Int)≤(n:Int)-1-((i:Int)+(j:Int)) / 2:=by omega
   have ba:(n:Int)-1-((i:Int)+(j:Int)) / 2<(sz:Int):=by omega
   have ra:IntKind.i64.wrap ((n:Int)-1-((i:Int)+(j:Int)) / 2)=(n:Int)-1-((i:Int)+(j:Int)) / 2:=by rw[IntKind.wrap_i64];omega
   have eb:(((i:Int)+(j:Int)) / 2).toNat=jN:=by omega
   have pb:(0:Int)≤((i:Int)+(j:Int)) / 2:=by omega
   have bb:((i:Int)+(j:Int)) / 2<(sz:Int):=by omega
   have rb:IntKind.i64.wrap (((i:Int)+(j:Int)) / 2)=((i:Int)+(j:Int)) / 2:=by rw[IntKind.wrap_i64];omega
   have la:=S.cl R (by omega) iN (by omega)
   have lb:=S.cl R (by omega) jN (by omega)
   obtain⟨x,hx⟩:∃x,x=dk[iN]!:=⟨_,rfl⟩
   obtain⟨y,hy⟩:∃x,x=dk[jN]!:=⟨_,rfl⟩
   rw[←hx]at la
   rw[←hy]at lb
   have hc:=S.cmp HC.out hs x y
   have HS1:=zO S;have HS2:=zO hs;have HS3:=zO hp
   obtain⟨z,hz⟩:∃z,z=cf x y:=⟨_,rfl⟩
   rw[←hz]at hc
   clear S hs hp hx hy hz hiN hjN hsq pi pj HP
   clear hnn
   by_cases hv:z<0
   ·have hd:decide (z<0)=true:=decide_eq_true hv
    go_upto_region 35 with fail
    go_quiet_grown (first|(go_at_fn cg;refine Calls.grown_of (hc _ _)))
    have S3:Hid (SP enc w0 blk off d0 (grow (W.drewN nq) osq)):=zO ⟨dk,HS2.out,HS3.out,HS1.out.grown nq osq⟩
    clear la lb hc HS1 HS2 HS3
    generalize grow (W.drewN nq) osq=w3 at S3 ⊢
    clear nq osq ea eb ra rb pa pb ba bb
    go_wp2_with fail
    go_roundw
    case rel=>exact⟨i,(i+j) / 2,by omega,by omega,by omega,rfl,by first|rfl|go_num|(congr 1;omega),S3⟩
    case measure=>simp[intOf];omega
   ·have hd:decide (z<0)=false:=decide_eq_false hv
    go_upto_region 35 with fail
    go_quiet_grown (first|(go_at_fn cg;refine Calls.grown_of (hc _ _)))
    have S3:Hid (SP enc w0 blk off d0 (grow (W.drewN nq) osq)):=zO ⟨dk,HS2.out,HS3.out,HS1.out.grown nq osq⟩
    clear la lb hc HS1 HS2 HS3
    generalize grow (W.drewN nq) osq=w3 at S3 ⊢
    clear nq osq ea eb ra rb pa pb ba bb
    go_wp2_with fail
    go_roundw
    case rel=>exact⟨(i+j) / 2+1,j,by omega,by omega,by omega,by first|rfl|go_num|(congr 1;omega),rfl,S3⟩
    case measure=>simp[intOf];omega
  ·obtain rfl:i=j:=by omega
   clear hij
   obtain⟨en,hen⟩:∃en,en=n-i:=⟨_,rfl⟩
   have henI:(n:Int)-(i:Int)=(en:Int):=by omega
   have d1:en≤b:=by omega
   have d2:a≤i:=by omega
   have d3:i≤m:=by omega
   clear hnn hen
   by_cases hx0:i<m
   ·have hX0:decide (i<m)=true:=decide_eq_true hx0
    have hXI0:(i:Int)<(m:Int):=by omega
    by_cases hy0:m<en
    ·have hY0:decide (m<en)=true:=decide_eq_true hy0
     have hYI0:(m:Int)<(en:Int):=by omega
     by_cases hx1:a<i
     ·have hX1:decide (a<i)=true:=decide_eq_true hx1
      have hXI1:(a:Int)<(i:Int):=by omega
      by_cases hy1:i<md
      ·have hY1:decide (i<md)=true:=decide_eq_true hy1
       have hYI1:(i:Int)<(md:Int):=by omega
       by_cases hx2:md<en
       ·have hX2:decide (md<en)=true:=decide_eq_true hx2
        have hXI2:(md:Int)<(en:Int):=by omega
        by_cases hy2:en<b
        ·have hY2:decide (en<b)=true:=decide_eq_true hy2
         have hYI2:(en:Int)<(b:Int):=by omega
         go_wp2_with fail
         refine(HROT.out _ i m en HP.out (by omega) (by omega) (by omega)).mono ?_
         rintro e w1 ⟨rfl,hq⟩
         have HP1:=zO hq
         clear hq
         go_wp2_with fail
         refine(HREC.out _ a i md (by omega) HP1.out (by omega) (by omega) (by omega)).mono ?_
         rintro e w2 ⟨rfl,hq⟩
         have HP2:=zO hq
         clear hq
         go_wp2_with fail
         refine(HREC.out _ md en b (by omega) HP2.out (by omega) (by omega) (by omega)).mono ?_
         rintro e w3 ⟨rfl,hq⟩
         have HP3:=zO hq
         clear hq
         go_wp2_with fail
         go_end0
         exact⟨rfl,HP3.out⟩
        ·have hY2:decide (en<b)=false:=decide_eq_false hy2
         have hYI2:¬(en:Int)<(b:Int):=by omega
         go_wp2_with fail
         refine(HROT.out _ i m en HP.out (by omega) (by omega) (by omega)).mono ?_
         rintro e w1 ⟨rfl,hq⟩
         have HP1:=zO hq
         clear hq
         go_wp2_with fail
         refine(HREC.out _ a i md (by omega) HP1.out (by omega) (by omega) (by omega)).mono ?_
         rintro e w2 ⟨rfl,hq⟩
         have HP2:=zO hq
         clear hq
         go_wp2_with fail
         go_end0
         exact⟨rfl,HP2.out⟩
       ·have hX2:decide (md<en)=false:=decide_eq_false hx2
        have hXI2:¬(md:Int)<(en:Int):=by omega
        go_wp2_with fail
        refine(HROT.out _ i m en HP.out (by omega) (by omega) (by omega)).mono ?_
        rintro e w1 ⟨rfl,hq⟩
        have HP1:=zO hq
        clear hq
        go_wp2_with fail
        refine(HREC.out _ a i md (by omega) HP1.out (by omega) (by omega) (by omega)).mono ?_
        rintro e w2 ⟨rfl,hq⟩
        have HP2:=zO hq
        clear hq
        go_wp2_with fail
        go_end0
        exact⟨rfl,HP2.out⟩
      ·have hY1:decide (i<md)=false:=decide_eq_false hy1
       have hYI1:¬(i:Int)<(md:Int):=by omega
       by_cases hx2:md<en
       ·have hX2:decide (md<en)=true:=decide_eq_true hx2
        have hXI2:(md:Int)<(en:Int):=by omega
        by_cases hy2:en<b
        ·have hY2:decide (en<b)=true:=decide_eq_true hy2
         have hYI2:(en:Int)<(b:Int):=by omega
         go_wp2_with fail
         refine(HROT.out _ i m en HP.out (by omega) (by omega) (by omega)).mono ?_
         rintro e w1 ⟨rfl,hq⟩
         have HP1:=zO hq
         clear hq
         go_wp2_with fail
         refine(HREC.out _ md en b (by omega) HP1.out (by omega) (by omega) (by omega)).mono ?_
         rintro e w3 ⟨rfl,hq⟩
         have HP3:=zO hq
         clear hq
         go_wp2_with fail
         go_end0
         exact⟨rfl,HP3.out⟩
        ·have hY2:decide (en<b)=false:=decide_eq_false hy2
         have hYI2:¬(en:Int)<(b:Int):=by omega
         go_wp2_with fail
         refine(HROT.out _ i m en HP.out (by omega) (by omega) (by omega)).mono ?_
         rintro e w1 ⟨rfl,hq⟩
         have HP1:=zO hq
         clear hq
         go_wp2_with fail
         go_end0
         exact⟨rfl,HP1.out⟩
       ·have hX2:decide (md<en)=false:=decide_eq_false hx2
        have hXI2:¬(md:Int)<(en:Int):=by omega
        go_wp2_with fail
        refine(HROT.out _ i m en HP.out (by omega) (by omega) (by omega)).mono ?_
        rintro e w1 ⟨rfl,hq⟩
        have HP1:=zO hq
        clear hq
        go_wp2_with fail
        go_end0
        exact⟨rfl,HP1.out⟩
     ·have hX1:decide (a<i)=false:=decide_eq_false hx1
      have hXI1:¬(a:Int)<(i:Int):=by omega
      by_cases hx2:md<en
      ·have hX2:decide (md<en)=true:=decide_eq_true hx2
       have hXI2:(md:Int)<(en:Int):=by omega
       by_cases hy2:en<b
       ·have hY2:decide (en<b)=true:=decide_eq_true hy2
        have hYI2:(en:Int)<(b:Int):=by omega
        go_wp2_with fail
        refine(HROT.out _ i m en HP.out (by omega) (by omega) (by omega)).mono ?_
        rintro e w1 ⟨rfl,hq⟩
        have HP1:=zO hq
        clear hq
        go_wp2_with fail
        refine(HREC.out _ md en b (by omega) HP1.out (by omega) (by omega) (by omega)).mono ?_
        rintro e w3 ⟨rfl,hq⟩
        have HP3:=zO hq
        clear hq
        go_wp2_with fail
        go_end0
        exact⟨rfl,HP3.out⟩
       ·have hY2:decide (en<b)=false:=decide_eq_false hy2
        have hYI2:¬(en:Int)<(b:Int):=by omega
        go_wp2_with fail
        refine(HROT.out _ i m en HP.out (by omega) (by omega) (by omega)).mono ?_
        rintro e w1 ⟨rfl,hq⟩
        have HP1:=zO hq
        clear hq
        go_wp2_with fail
        go_end0
        exact⟨rfl,HP1.out⟩
      ·have hX2:decide (md<en)=false:=decide_eq_false hx2
       have hXI2:¬(md:Int)<(en:Int):=by omega
       go_wp2_with fail
       refine(HROT.out _ i m en HP.out (by omega) (by omega) (by omega)).mono ?_
       rintro e w1 ⟨rfl,hq⟩
       have HP1:=zO hq
       clear hq
       go_wp2_with fail
       go_end0
       exact⟨rfl,HP1.out⟩
    ·have hY0:decide (m<en)=false:=decide_eq_false hy0
     have hYI0:¬(m:Int)<(en:Int):=by omega
     by_cases hx1:a<i
     ·have hX1:decide (a<i)=true:=decide_eq_true hx1
      have hXI1:(a:Int)<(i:Int):=by omega
      by_cases hy1:i<md
      ·have hY1:decide (i<md)=true:=decide_eq_true hy1
       have hYI1:(i:Int)<(md:Int):=by omega
       by_cases hx2:md<en
       ·have hX2:decide (md<en)=true:=decide_eq_true hx2
        have hXI2:(md:Int)<(en:Int):=by omega
        by_cases hy2:en<b
        ·have hY2:decide (en<b)=true:=decide_eq_true hy2
         have hYI2:(en:Int)<(b:Int):=by omega
         go_wp2_with fail
         refine(HREC.out _ a i md (by omega) HP.out (by omega) (by omega) (by omega)).mono ?_
         rintro e w2 ⟨rfl,hq⟩
         have HP2:=zO hq
         clear hq
         go_wp2_with fail
         refine(HREC.out _ md en b (by omega) HP2.out (by omega) (by omega) (by omega)).mono ?_
         rintro e w3 ⟨rfl,hq⟩
         have HP3:=zO hq
         clear hq
         go_wp2_with fail
         go_end0
         exact⟨rfl,HP3.out⟩
        ·have hY2:decide (en<b)=false:=decide_eq_false hy2
         have hYI2:¬(en:Int)<(b:Int):=by omega
         go_wp2_with fail
         refine(HREC.out _ a i md (by omega) HP.out (by omega) (by omega) (by omega)).mono ?_
         rintro e w2 ⟨rfl,hq⟩
         have HP2:=zO hq
         clear hq
         go_wp2_with fail
         go_end0
         exact⟨rfl,HP2.out⟩
       ·have hX2:decide (md<en)=false:=decide_eq_false hx2
        have hXI2:¬(md:Int)<(en:Int):=by omega
        go_wp2_with fail
        refine(HREC.out _ a i md (by omega) HP.out (by omega) (by omega) (by omega)).mono ?_
        rintro e w2 ⟨rfl,hq⟩
        have HP2:=zO hq
        clear hq
        go_wp2_with fail
        go_end0
        exact⟨rfl,HP2.out⟩
      ·have hY1:decide (i<md)=false:=decide_eq_false hy1
       have hYI1:¬(i:Int)<(md:Int):=by omega
       by_cases hx2:md<en
       ·have hX2:decide (md<en)=true:=decide_eq_true hx2
        have hXI2:(md:Int)<(en:Int):=by omega
        by_cases hy2:en<b
        ·have hY2:decide (en<b)=true:=decide_eq_true hy2
         have hYI2:(en:Int)<(b:Int):=by omega
         go_wp2_with fail
         refine(HREC.out _ md en b (by omega) HP.out (by omega) (by omega) (by omega)).mono ?_
         rintro e w3 ⟨rfl,hq⟩
         have HP3:=zO hq
         clear hq
         go_wp2_with fail
         go_end0
         exact⟨rfl,HP3.out⟩
        ·have hY2:decide (en<b)=false:=decide_eq_false hy2
         have hYI2:¬(en:Int)<(b:Int):=by omega
         go_wp2_with fail
         go_end0
         exact⟨rfl,HP.out⟩
       ·have hX2:decide (md<en)=false:=decide_eq_false hx2
        have hXI2:¬(md:Int)<(en:Int):=by omega
        go_wp2_with fail
        go_end0
        exact⟨rfl,HP.out⟩
     ·have hX1:decide (a<i)=false:=decide_eq_false hx1
      have hXI1:¬(a:Int)<(i:Int):=by omega
      by_cases hx2:md<en
      ·have hX2:decide (md<en)=true:=decide_eq_true hx2
       have hXI2:(md:Int)<(en:Int):=by omega
       by_cases hy2:en<b
       ·have hY2:decide (en<b)=true:=decide_eq_true hy2
        have hYI2:(en:Int)<(b:Int):=by omega
        go_wp2_with fail
        refine(HREC.out _ md en b (by omega) HP.out (by omega) (by omega) (by omega)).mono ?_
        rintro e w3 ⟨rfl,hq⟩
        have HP3:=zO hq
        clear hq
        go_wp2_with fail
        go_end0
        exact⟨rfl,HP3.out⟩
       ·have hY2:decide (en<b)=false:=decide_eq_false hy2
        have hYI2:¬(en:Int)<(b:Int):=by omega
        go_wp2_with fail
        go_end0
        exact⟨rfl,HP.out⟩
      ·have hX2:decide (md<en)=false:=decide_eq_false hx2
       have hXI2:¬(md:Int)<(en:Int):=by omega
       go_wp2_with fail
       go_end0
       exact⟨rfl,HP.out⟩
   ·have hX0:decide (i<m)=false:=decide_eq_false hx0
    have hXI0:¬(i:Int)<(m:Int):=by omega
    by_cases hx1:a<i
    ·have hX1:decide (a<i)=true:=decide_eq_true hx1
     have hXI1:(a:Int)<(i:Int):=by omega
     by_cases hy1:i<md
     ·have hY1:decide (i<md)=true:=decide_eq_true hy1
      have hYI1:(i:Int)<(md:Int):=by omega
      by_cases hx2:md<en
      ·have hX2:decide (md<en)=true:=decide_eq_true hx2
       have hXI2:(md:Int)<(en:Int):=by omega
       by_cases hy2:en<b
       ·have hY2:decide (en<b)=true:=decide_eq_true hy2
        have hYI2:(en:Int)<(b:Int):=by omega
        go_wp2_with fail
        refine(HREC.out _ a i md (by omega) HP.out (by omega) (by omega) (by omega)).mono ?_
        rintro e w2 ⟨rfl,hq⟩
        have HP2:=zO hq
        clear hq
        go_wp2_with fail
        refine(HREC.out _ md en b (by omega) HP2.out (by omega) (by omega) (by omega)).mono ?_
        rintro e w3 ⟨rfl,hq⟩
        have HP3:=zO hq
        clear hq
        go_wp2_with fail
        go_end0
        exact⟨rfl,HP3.out⟩
       ·have hY2:decide (en<b)=false:=decide_eq_false hy2
        have hYI2:¬(en:Int)<(b:Int):=by omega
        go_wp2_with fail
        refine(HREC.out _ a i md (by omega) HP.out (by omega) (by omega) (by omega)).mono ?_
        rintro e w2 ⟨rfl,hq⟩
        have HP2:=zO hq
        clear hq
        go_wp2_with fail
        go_end0
        exact⟨rfl,HP2.out⟩
      ·have hX2:decide (md<en)=false:=decide_eq_false hx2
       have hXI2:¬(md:Int)<(en:Int):=by omega
       go_wp2_with fail
       refine(HREC.out _ a i md (by omega) HP.out (by omega) (by omega) (by omega)).mono ?_
       rintro e w2 ⟨rfl,hq⟩
       have HP2:=zO hq
       clear hq
       go_wp2_with fail
       go_end0
       exact⟨rfl,HP2.out⟩
     ·have hY1:decide (i<md)=false:=decide_eq_false hy1
      have hYI1:¬(i:Int)<(md:Int):=by omega
      by_cases hx2:md<en
      ·have hX2:decide (md<en)=true:=decide_eq_true hx2
       have hXI2:(md:Int)<(en:Int):=by omega
       by_cases hy2:en<b
       ·have hY2:decide (en<b)=true:=decide_eq_true hy2
        have hYI2:(en:Int)<(b:Int):=by omega
        go_wp2_with fail
        refine(HREC.out _ md en b (by omega) HP.out (by omega) (by omega) (by omega)).mono ?_
        rintro e w3 ⟨rfl,hq⟩
        have HP3:=zO hq
        clear hq
        go_wp2_with fail
        go_end0
        exact⟨rfl,HP3.out⟩
       ·have hY2:decide (en<b)=false:=decide_eq_false hy2
        have hYI2:¬(en:Int)<(b:Int):=by omega
        go_wp2_with fail
        go_end0
        exact⟨rfl,HP.out⟩
      ·have hX2:decide (md<en)=false:=decide_eq_false hx2
       have hXI2:¬(md:Int)<(en:Int):=by omega
       go_wp2_with fail
       go_end0
       exact⟨rfl,HP.out⟩
    ·have hX1:decide (a<i)=false:=decide_eq_false hx1
     have hXI1:¬(a:Int)<(i:Int):=by omega
     by_cases hx2:md<en
     ·have hX2:decide (md<en)=true:=decide_eq_true hx2
      have hXI2:(md:Int)<(en:Int):=by omega
      by_cases hy2:en<b
      ·have hY2:decide (en<b)=true:=decide_eq_true hy2
       have hYI2:(en:Int)<(b:Int):=by omega
       go_wp2_with fail
       refine(HREC.out _ md en b (by omega) HP.out (by omega) (by omega) (by omega)).mono ?_
       rintro e w3 ⟨rfl,hq⟩
       have HP3:=zO hq
       clear hq
       go_wp2_with fail
       go_end0
       exact⟨rfl,HP3.out⟩
      ·have hY2:decide (en<b)=false:=decide_eq_false hy2
       have hYI2:¬(en:Int)<(b:Int):=by omega
       go_wp2_with fail
       go_end0
       exact⟨rfl,HP.out⟩
     ·have hX2:decide (md<en)=false:=decide_eq_false hx2
      have hXI2:¬(md:Int)<(en:Int):=by omega
      go_wp2_with fail
      go_end0
      exact⟨rfl,HP.out⟩
end
