/- package sums by its contract: ThirtyTwo. -/
import Derived.Test.YtklocammllljiaaGreatDoorMg19
import Derived.Test.YtklocammllljiaaGreatDoorMg04
import Derived.Laws.BitsAllLaws
set_option linter.unusedVariables false
set_option linter.unusedSimpArgs false
set_option maxHeartbeats 1000000
set_option maxRecDepth 100000
namespace Go.Proofs.YtklocammllljiaaGreatDoor
open Go.RowKit
theorem crcSteps_snoc (k s:Nat):crcSteps (k+1) s=crcStep (crcSteps k s):=crcSteps_add k 1 s
theorem thirtyTwo_ok (w:World) (A:Option Addr) (cap:Nat) (ds:List Nat) (hc:Cells b8 w A ds) (hd:∀ d∈ds,d<256) (hl:ds.length<=4611686018427387904) :
  Calls Tryz.prog 68 #[.slice A ds.length cap] w fun e w'=>e=.returned (.int .u32 (crcN ds:Int))/\w=w':=by
 obtain ⟨n,hn⟩:=zX (ds.length)
 rw [<-hn] at hl ⊢
 have HN:=hid hn
 have HD:=hid hd
 have HC:=hid hc
 clear hn hd hc
 go_enter Tryz.func68,Tryz.ntmps68
 go_wp2_with fail
 go_loopg [3,5,6,9,17] n (fun j v3 v5 v6 v9 v17 wr=>∃ i s:Nat,v3=.int .u32 s/\v9=.int .i64 i/\i+j=n/\Hid (s=crcGo 4294967295 (ds.take i))/\s<4294967296/\w=wr)
 case atStart=>exact ⟨0,4294967295,rfl,rfl,by omega,hid rfl,by decide,rfl⟩
 case round =>
  obtain ⟨i,s,rfl,rfl,ap,HS,hs,rfl⟩:=hrel
  rcases gk with _ | j
  ·obtain rfl:i=n:=by omega
   have t1:decide (i<i)=false:=by simp
   have hx:=u32_xor_nat s 4294967295 hs (by decide)
   have al:=u32_xor_nat 4294967295 s (by decide) hs
   have an:bits .xor .u32 IntKind.u32.max (s:Int)=((s ^^^ 4294967295:Nat):Int):=by
    rw [Nat.xor_comm,<-al]
    rfl
   have hf:Hid (((s ^^^ 4294967295:Nat):Int)=(crcN ds:Int)):=by
    refine hid ?_
    have h:=HS.out
    rw [zT (by rw [<-HN.out];exact zQ _)] at h
    rw [h]
    rfl
   generalize ((s ^^^ 4294967295:Nat):Int)=z at *
   go_wp2
   go_ret
   exact ⟨by rw [<-hf.out];rfl,rfl⟩
  ·have hi:i<n:=by omega
   have ah:i<ds.length:=by rw [<-HN.out];exact hi
   obtain ⟨g,o,rfl,ab⟩:=HC.out.at_ ah
   obtain ⟨x,hx⟩:=zX (ds[i])
   rw [<-hx] at ab
   have ar:w.cell? ⟨g,o+i,none⟩=some (.int .u8 x):=ab
   have ao:x<256:=by rw [hx];exact HD.out _ (zG _)
   have ac:Hid (crcGo 4294967295 (ds.take (i+1))=crcSteps 8 (s ^^^ x)):=by
    refine hid ?_
    rw [List.take_succ_eq_append_getElem ah,crcGo_append,<-HS.out,<-hx]
    rfl
   have hw:IntKind.u32.wrap (x:Int)=(x:Int):=by rw [IntKind.wrap_u32'];omega
   have ag:=u32_xor_nat s x hs (by omega)
   obtain ⟨s0,af⟩:=zX (s ^^^ x)
   have ae:s0<4294967296:=by rw [af];exact Nat.xor_lt_two_pow (n:=32) hs (by omega)
   rw [<-af] at ag ac
   clear ab hx af ah
   go_wp2_with fail
   go_loopg [3,6,17] 8 (fun j2 v3 v6 v17 wr=>∃ k u:Nat,v3=.int .u32 u/\v17=.int .i64 k/\k+j2=8/\Hid (u=crcSteps k s0)/\u<4294967296/\w=wr)
   case atStart=>exact ⟨0,s0,rfl,rfl,rfl,hid rfl,ae,rfl⟩
   case round =>
    obtain ⟨k,u,rfl,rfl,aq,HU,hu,rfl⟩:=hrel
    rcases gk with _ | j2
    ·obtain rfl:k=8:=by omega
     go_wp2
     go_roundg j
     case measure=>omega
     case rel=>exact ⟨i+1,u,rfl,by go_num,by omega,hid (by rw [ac.out,HU.out]),hu,rfl⟩
    ·have hk:decide ((k:Int)<8)=true:=zB (by omega)
     have ha:bits .and .u32 (u:Int) 1=((u%2:Nat):Int):=by
      have:=u32_and_nat u 1 hu (by decide)
      rw [Nat.and_one_is_mod] at this
      exact this
     have aj:(u:Int) / 2=((u / 2:Nat):Int):=by omega
     have ai:Hid (crcSteps (k+1) s0=crcStep u):=hid (by rw [crcSteps_snoc,<-HU.out])
     by_cases h2:u%2=1
     ·rw [h2] at ha
      have ad:bits .xor .u32 ((u / 2:Nat):Int) 3988292384=(((u / 2) ^^^ 3988292384:Nat):Int):=u32_xor_nat (u / 2) 3988292384 (by omega) (by decide)
      have ak:(u / 2) ^^^ 3988292384<4294967296:=Nat.xor_lt_two_pow (n:=32) (by omega) (by decide)
      have aa:Hid ((u / 2) ^^^ 3988292384=crcStep u):=hid (by unfold crcStep;rw [if_pos h2])
      obtain ⟨v,hv⟩:=zX ((u / 2) ^^^ 3988292384)
      rw [<-hv] at ad ak aa
      obtain ⟨h,hh⟩:=zX (u / 2)
      rw [<-hh] at ad aj
      have am:h<2147483648:=by omega
      clear hv hh h2 ag
      go_wp2
      go_roundg j2
      case measure=>omega
      case rel=>exact ⟨k+1,v,rfl,by go_num,by omega,hid (by rw [ai.out,aa.out]),ak,rfl⟩
     ·have h0:u%2=0:=by omega
      rw [h0] at ha
      have aa:Hid (u / 2=crcStep u):=hid (by unfold crcStep;rw [if_neg h2])
      obtain ⟨h,hh⟩:=zX (u / 2)
      rw [<-hh] at aj aa
      have am:h<2147483648:=by omega
      clear hh h2 h0 ag
      go_wp2
      go_roundg j2
      case measure=>omega
      case rel=>exact ⟨k+1,h,rfl,by go_num,by omega,hid (by rw [ai.out,aa.out]),by omega,rfl⟩
end Go.Proofs.YtklocammllljiaaGreatDoor
