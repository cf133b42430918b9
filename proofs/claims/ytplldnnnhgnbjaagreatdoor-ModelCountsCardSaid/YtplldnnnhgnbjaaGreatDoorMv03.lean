/- packed -/
import Derived.Test.YtplldnnnhgnbjaaGreatDoorMv02
set_option maxRecDepth 20000
set_option maxHeartbeats 1000000
namespace Go.Proofs.YtplldnnnhgnbjaaGreatDoor
open Go.RowKit Go.Maps
theorem mz{a b:Bool}(h:a=b):Ending.returned (.bool b)=.returned (.bool a):=by rw[h]
theorem chB_at{s:ByteArray}{i:Nat}(hi:i<s.size):chB s i=(letB s[i] || (decide (i≠0) && rW s[i])):=by
 unfold chB
 have e:s.data.toList.getD i 0=s[i]:=by
  rw[jI,jl (by simpa using hi)];rfl
 rw[e]
theorem ch_let{s:ByteArray}{i:Nat}(hi:i<s.size)(h:letB s[i]=true):chB s i=true:=by rw[chB_at hi,h];rfl
theorem ch_tail{s:ByteArray}{i:Nat}(hi:i<s.size)(h0:¬i=0)(h:rW s[i]=true):chB s i=true:=by rw[chB_at hi,h,decide_eq_true h0];simp
theorem ch_no{s:ByteArray}{i:Nat}(hi:i<s.size)(h1:¬letB s[i]=true)(h:i=0∨¬rW s[i]=true):chB s i=false:=by
 rw[chB_at hi]
 rw[Bool.not_eq_true]at h1
 rw[h1]
 rcases h with h|h
 ·subst h;simp
 ·rw[Bool.not_eq_true]at h
  rw[h];simp
theorem cat_no{s:ByteArray}{i:Nat}(hi:i<s.size)(h:chB s i=false):iL s=false:=by
 unfold iL
 rw[Bool.and_eq_false_iff]
 right
 rw[List.all_eq_false]
 exact⟨i,by simpa using hi,by rw[h];simp⟩
theorem cat_yes{s:ByteArray}(h0:s≠⟨#[]⟩)(h1:s.size≤16)(h:∀j,j<s.size→chB s j=true):iL s=true:=by
 unfold iL
 rw[decide_eq_true h0,decide_eq_true h1]
 simp only[Bool.true_and,jA,List.mem_range]
 exact h
theorem ki(s:ByteArray)(w:World)(hs:s.size≤maxLen) :
  Calls Tryz.prog 83 #[.string s] w (fun e w'=>e=.returned (.bool (iL s))∧w=w'):=by
 have su:s.size≤9223372036854775807:=by simpa [maxLen] using hs
 by_cases h0:s=⟨#[]⟩
 ·have HR:=zN (show iL s=false by unfold iL;rw[decide_eq_false (fun h=>h h0)];rfl)
  have hz:=gw h0
  rw[HR.out]
  clear h0
  go_enter Tryz.func83,Tryz.ntmps83
  go_wp2_with fail
  go_ret
  exact⟨rfl,rfl⟩
 have hz:=gy h0
 by_cases h16:¬s.size≤16
 ·have HR:=zN (show iL s=false by unfold iL;rw[decide_eq_false h16];simp)
  have h17:(16:Int)<(s.size:Int):=by omega
  rw[HR.out]
  clear h0 h16
  go_enter Tryz.func83,Tryz.ntmps83
  go_wp2_with fail
  go_ret
  exact⟨rfl,rfl⟩
 have h17:¬(16:Int)<(s.size:Int):=by omega
 have H0:=zN h0
 clear h0
 go_enter Tryz.func83,Tryz.ntmps83
 go_wp2_with fail
 go_loop [15] (fun t=>∃i:Nat,i≤s.size∧t=.int .i64 (i:Int)∧Hid (∀j,j<i→chB s j=true)) (fun t=>s.size-(intOf t).toNat)
 case atStart=>exact⟨0,jn _,rfl,zN (fun j hj=>by omega)⟩
 case round =>
  obtain⟨i,hi,rfl,H⟩:=hrel
  by_cases hlt:i<s.size
  ·have i2:(i:Int)<(s.size:Int):=by omega
   have hb:=UInt8.toNat_lt s[i]
   have se:chB s i=true→∀j,j<i+1→chB s j=true:=fun h j hj=>by
    rcases jz j i with h1|h1
    ·exact H.out j h1
    ·have:j=i:=by omega
     subst this;exact h
   by_cases hl : 97≤s[i].toNat∧s[i].toNat≤122
   ·obtain⟨ha,sj⟩:=hl
    have k1:(97:Int)≤(s[i].toNat:Int):=by omega
    have k2:(s[i].toNat:Int)≤122:=by omega
    have HG:=zN (se (ch_let hlt (decide_eq_true (.inl ⟨ha,sj⟩))))
    clear se
    go_wp2_with fail
    go_round
    case rel=>exact⟨i+1,by omega,by go_num,HG⟩
    case measure=>simp[intOf];omega
   by_cases hu : 65≤s[i].toNat∧s[i].toNat≤90
   ·obtain⟨ha,sj⟩:=hu
    have k1:¬(97:Int)≤(s[i].toNat:Int):=by omega
    have k2:(65:Int)≤(s[i].toNat:Int):=by omega
    have k3:(s[i].toNat:Int)≤90:=by omega
    have HG:=zN (se (ch_let hlt (decide_eq_true (.inr ⟨ha,sj⟩))))
    clear se hl
    go_wp2_with fail
    go_round
    case rel=>exact⟨i+1,by omega,by go_num,HG⟩
    case measure=>simp[intOf];omega
   have sq:¬letB s[i]=true:=fun h=>by
    have:=of_decide_eq_true h
    omega
   have sp:=zN sq
   have hA:s[i].toNat<65∨(90<s[i].toNat∧s[i].toNat<97)∨122<s[i].toNat:=by omega
   clear sq hl hu
   by_cases hi0:i=0
   ·subst hi0
    have HR:=zN (cat_no hlt (ch_no hlt sp.out (.inl rfl)))
    clear se
    rcases hA with hA|hA|hA
    ·have k1:¬(97:Int)≤(s[0].toNat:Int):=by omega
     have k2:¬(65:Int)≤(s[0].toNat:Int):=by omega
     go_wp2_with fail
     go_ret
     exact⟨mz HR.out,rfl⟩
    ·have k1:¬(97:Int)≤(s[0].toNat:Int):=by omega
     have k2:(65:Int)≤(s[0].toNat:Int):=by omega
     have k3:¬(s[0].toNat:Int)≤90:=by omega
     go_wp2_with fail
     go_ret
     exact⟨mz HR.out,rfl⟩
    ·have k1:(97:Int)≤(s[0].toNat:Int):=by omega
     have k2:¬(s[0].toNat:Int)≤122:=by omega
     have k3:(65:Int)≤(s[0].toNat:Int):=by omega
     have k4:¬(s[0].toNat:Int)≤90:=by omega
     go_wp2_with fail
     go_ret
     exact⟨mz HR.out,rfl⟩
   ·have sr:((i:Int) == 0)=false:=beq_false_of_ne (by omega)
    by_cases ht:rW s[i]=true
    ·have HG:=zN (se (ch_tail hlt hi0 ht))
     clear se
     have si:=of_decide_eq_true ht
     clear ht
     by_cases sg:s[i].toNat=95
     ·have k1:¬(97:Int)≤(s[i].toNat:Int):=by omega
      have k2:(65:Int)≤(s[i].toNat:Int):=by omega
      have k3:¬(s[i].toNat:Int)≤90:=by omega
      have k4:((s[i].toNat:Int) != 95)=false:=by rw[sg];rfl
      clear si hA sg
      go_wp2_with fail
      go_round
      case rel=>exact⟨i+1,by omega,by go_num,HG⟩
      case measure=>simp[intOf];omega
     ·have k1:¬(97:Int)≤(s[i].toNat:Int):=by omega
      have k2:¬(65:Int)≤(s[i].toNat:Int):=by omega
      have k3:((s[i].toNat:Int) != 95)=true:=by rw[bne_iff_ne];omega
      have k4:¬(s[i].toNat:Int)<48:=by omega
      have k5:¬(57:Int)<(s[i].toNat:Int):=by omega
      clear si hA sg
      go_wp2_with fail
      go_round
      case rel=>exact⟨i+1,by omega,by go_num,HG⟩
      case measure=>simp[intOf];omega
    ·have HR:=zN (cat_no hlt (ch_no hlt sp.out (.inr ht)))
     clear se
     have si:s[i].toNat≠95∧(s[i].toNat<48∨57<s[i].toNat):=by
      have h1:¬(s[i].toNat=95∨48≤s[i].toNat∧s[i].toNat≤57):=fun h=>ht (decide_eq_true h)
      omega
     obtain⟨sg,sh⟩:=si
     have k3:((s[i].toNat:Int) != 95)=true:=by rw[bne_iff_ne];omega
     clear ht sg
     rcases hA with hA|hA|hA
     ·have k1:¬(97:Int)≤(s[i].toNat:Int):=by omega
      have k2:¬(65:Int)≤(s[i].toNat:Int):=by omega
      rcases sh with sh|sh
      ·have k4:(s[i].toNat:Int)<48:=by omega
       go_wp2_with fail
       go_ret
       exact⟨mz HR.out,rfl⟩
      ·have k4:¬(s[i].toNat:Int)<48:=by omega
       have k5:(57:Int)<(s[i].toNat:Int):=by omega
       go_wp2_with fail
       go_ret
       exact⟨mz HR.out,rfl⟩
     ·have k1:¬(97:Int)≤(s[i].toNat:Int):=by omega
      have k2:(65:Int)≤(s[i].toNat:Int):=by omega
      have k6:¬(s[i].toNat:Int)≤90:=by omega
      have k4:¬(s[i].toNat:Int)<48:=by omega
      have k5:(57:Int)<(s[i].toNat:Int):=by omega
      clear sh
      go_wp2_with fail
      go_ret
      exact⟨mz HR.out,rfl⟩
     ·have k1:(97:Int)≤(s[i].toNat:Int):=by omega
      have k7:¬(s[i].toNat:Int)≤122:=by omega
      have k2:(65:Int)≤(s[i].toNat:Int):=by omega
      have k6:¬(s[i].toNat:Int)≤90:=by omega
      have k4:¬(s[i].toNat:Int)<48:=by omega
      have k5:(57:Int)<(s[i].toNat:Int):=by omega
      clear sh
      go_wp2_with fail
      go_ret
      exact⟨mz HR.out,rfl⟩
  ·obtain rfl:i=s.size:=by omega
   have HR:=zN (cat_yes H0.out (by omega) H.out)
   go_wp2_with fail
   go_ret
   exact⟨mz HR.out,rfl⟩
theorem eK{s:ByteArray}{l:List UInt8}(h:s=⟨l.toArray⟩):(s.toList == l)=true:=by rw[h,ByteArray.toList_eq];simp
theorem dL{s:ByteArray}{l:List UInt8}(h:¬s=⟨l.toArray⟩):(s.toList == l)=false:=by
 have:s.toList≠l:=fun e=>h (by
  rw[ByteArray.toList_eq]at e
  rw[←e])
 simpa using this
theorem nK{s:ByteArray}(h:s∈pX):cO s=false:=by
 unfold cO
 rw[decide_eq_true h];rfl
theorem kw_yes{s:ByteArray}(h:s ∉ pX):cO s=iL s:=by
 unfold cO
 rw[decide_eq_false h];rfl
theorem bz(s:ByteArray)(w:World)(hs:s.size≤maxLen) :
  Calls Tryz.prog 205 #[.string s] w (fun e w'=>e=.returned (.bool (cO s))∧w=w'):=by
 by_cases h0:s=⟨[99,111,117,110,116].toArray⟩
 ·have HR:=zN (nK (s:=s) (by rw[h0];decide))
  have t0:=eK h0
  rw[HR.out]
  clear h0
  go_enter Tryz.func205,Tryz.ntmps205
  go_wp2_with fail
  go_ret
  exact⟨rfl,rfl⟩
 have t0:=dL h0
 by_cases h1:s=⟨[100,101,115,99].toArray⟩
 ·have HR:=zN (nK (s:=s) (by rw[h1];decide))
  have t1:=eK h1
  rw[HR.out]
  clear h1
  go_enter Tryz.func205,Tryz.ntmps205
  go_wp2_with fail
  go_ret
  exact⟨rfl,rfl⟩
 have t1:=dL h1
 by_cases h2:s=⟨[109,97,120].toArray⟩
 ·have HR:=zN (nK (s:=s) (by rw[h2];decide))
  have t2:=eK h2
  rw[HR.out]
  clear h2
  go_enter Tryz.func205,Tryz.ntmps205
  go_wp2_with fail
  go_ret
  exact⟨rfl,rfl⟩
 have t2:=dL h2
 by_cases h3:s=⟨[109,105,110].toArray⟩
 ·have HR:=zN (nK (s:=s) (by rw[h3];decide))
  have t3:=eK h3
  rw[HR.out]
  clear h3
  go_enter Tryz.func205,Tryz.ntmps205
  go_wp2_with fail
  go_ret
  exact⟨rfl,rfl⟩
 have t3:=dL h3
 by_cases h4:s=⟨[110,111,116].toArray⟩
 ·have HR:=zN (nK (s:=s) (by rw[h4];decide))
  have t4:=eK h4
  rw[HR.out]
  clear h4
  go_enter Tryz.func205,Tryz.ntmps205
  go_wp2_with fail
  go_ret
  exact⟨rfl,rfl⟩
 have t4:=dL h4
 by_cases h5:s=⟨[111,114,100,101,114].toArray⟩
 ·have HR:=zN (nK (s:=s) (by rw[h5];decide))
  have t5:=eK h5
  rw[HR.out]
  clear h5
  go_enter Tryz.func205,Tryz.ntmps205
  go_wp2_with fail
  go_ret
  exact⟨rfl,rfl⟩
 have t5:=dL h5
 by_cases h6:s=⟨[115,117,109].toArray⟩
 ·have HR:=zN (nK (s:=s) (by rw[h6];decide))
  have t6:=eK h6
  rw[HR.out]
  clear h6
  go_enter Tryz.func205,Tryz.ntmps205
  go_wp2_with fail
  go_ret
  exact⟨rfl,rfl⟩
 have t6:=dL h6
 have HR:=zN (kw_yes (s:=s) (fun h=>by
  unfold pX at h
  simp only[jB,zJ,or_false]at h
  rcases h with h|h|h|h|h|h|h
  ·exact h0 h
  ·exact h1 h
  ·exact h2 h
  ·exact h3 h
  ·exact h4 h
  ·exact h5 h
  ·exact h6 h))
 clear h0 h1 h2 h3 h4 h5 h6
 rw[HR.out]
 go_enter Tryz.func205,Tryz.ntmps205
 go_wp2_with fail
 refine(ki s _ hs).mono ?_
 rintro e w' ⟨rfl,rfl⟩
 go_wp2_with fail
 go_ret
 exact⟨rfl,rfl⟩
