/- Bytes as strings: the conversion, and when two are one. -/
import Derived.Test.YtepjepkgcdfboaaGreatDoorMg48
set_option linter.unusedVariables false
set_option linter.unusedSimpArgs false
set_option maxHeartbeats 1000000
set_option maxRecDepth 100000
namespace Go.Proofs.YtepjepkgcdfboaaGreatDoor
open Go.RowKit
def e0p (ds:List Nat):ByteArray:=strOfNums (ds.map Int.ofNat)
theorem b6c {w:World} {A:Option Addr} {cap n:Nat} {ds:List Nat} (hc:a0d b8 w A ds) (h0:0<n) (hn:n=ds.length):(Go.convert 39 9 (.slice A n cap)).run Tryz.prog w=.ok (.string (e0p ds)) w:=by
 subst hn
 obtain ⟨g,o,rfl,ab,aa⟩:=hc.ex h0
 exact run_convert_bytes_arg w 39 5 Tryz.underlying39 Tryz.underlying5 g o _ cap (ds.map Int.ofNat) (by simp) (fun i hi=>by
  have h1:=aa i _ (zF hi)
  rw [h1]
  have e:(ds.map Int.ofNat).getD i 0=(ds[i]:Nat):=by
   rw [zD,zW,zF hi]
   rfl
  rw [e]
  rfl) 9 Tryz.underlying9
theorem f6i (w:World) (A:Option Addr) (cap:Nat) (ds:List Nat) (hc:a0d b8 w A ds) (hd:∀ d∈ds,d<256) (hl:ds.length<=4611686018427387904) :
  Calls Tryz.prog 55 #[.slice A ds.length cap] w fun e w'=>e=.returned (.int .u32 (c3g ds:Int))/\w=w':=by
 obtain ⟨n,hn⟩:=zX (ds.length)
 rw [<-hn] at hl ⊢
 have HN:=hid hn
 have HD:=hid hd
 have HC:=hid hc
 clear hn hd hc
 go_enter Tryz.func55,Tryz.ntmps55
 go_wp2_with fail
 go_loopg [3,4,5] n (fun j v3 v4 v5 wr=>∃ i s:Nat,v3=.int .u32 s/\v4=.int .i64 i/\i+j=n/\Hid (s=b8x 4294967295 (ds.take i))/\s<4294967296/\w=wr)
 case atStart=>exact ⟨0,4294967295,rfl,rfl,by omega,hid rfl,by decide,rfl⟩
 case round =>
  obtain ⟨i,s,rfl,rfl,aq,HS,hs,rfl⟩:=hrel
  rcases gk with _ | j
  ·obtain rfl:i=n:=by omega
   have t1:decide (i<i)=false:=by simp
   have hx:=u32_xor_nat s 4294967295 hs (by decide)
   have al:=u32_xor_nat 4294967295 s (by decide) hs
   have ar:bits .xor .u32 IntKind.u32.max (s:Int)=((s ^^^ 4294967295:Nat):Int):=by
    rw [Nat.xor_comm,<-al]
    rfl
   have hf:Hid (((s ^^^ 4294967295:Nat):Int)=(c3g ds:Int)):=by
    refine hid ?_
    have h:=HS.out
    rw [zT (by rw [<-HN.out];exact zQ _)] at h
    rw [h]
    rfl
   generalize ((s ^^^ 4294967295:Nat):Int)=z at *
   go_wp2
   go_ret
   exact ⟨by rw [<-hf.out];rfl,rfl⟩
  ·have hi:i<n:=by omega
   have ah:i<ds.length:=by rw [<-HN.out];exact hi
   obtain ⟨g,o,rfl,aa⟩:=HC.out.at_ ah
   obtain ⟨x,hx⟩:=zX (ds[i])
   rw [<-hx] at aa
   have ap:w.cell? ⟨g,o+i,none⟩=some (.int .u8 x):=aa
   have ao:x<256:=by rw [hx];exact HD.out _ (zG _)
   have ac:Hid (b8x 4294967295 (ds.take (i+1))=a1g 8 (s ^^^ x)):=by
    refine hid ?_
    rw [List.take_succ_eq_append_getElem ah,c9y,<-HS.out,<-hx]
    rfl
   have hw:IntKind.u32.wrap (x:Int)=(x:Int):=by rw [IntKind.wrap_u32'];omega
   have ag:=u32_xor_nat s x hs (by omega)
   obtain ⟨s0,ae⟩:=zX (s ^^^ x)
   have af:s0<4294967296:=by rw [ae];exact Nat.xor_lt_two_pow (n:=32) hs (by omega)
   rw [<-ae] at ag ac
   clear aa hx ae ah
   go_wp2_with fail
   go_loopg [3,5] 8 (fun j2 v3 v5 wr=>∃ k u:Nat,v3=.int .u32 u/\v5=.int .i64 k/\k+j2=8/\Hid (u=a1g k s0)/\u<4294967296/\w=wr)
   case atStart=>exact ⟨0,s0,rfl,rfl,rfl,hid rfl,af,rfl⟩
   case round =>
    obtain ⟨k,u,rfl,rfl,an,HU,hu,rfl⟩:=hrel
    rcases gk with _ | j2
    ·obtain rfl:k=8:=by omega
     go_wp2
     go_roundg j
     case measure=>omega
     case rel=>exact ⟨i+1,u,rfl,by go_num,by omega,hid (by rw [ac.out,HU.out]),hu,rfl⟩
    ·have hk:decide ((k:Int)<8)=true:=zB (by omega)
     have ha:bits .and .u32 (u:Int) 1=((u%2:Nat):Int):=by
      have:=u32_and_nat u 1 hu (by decide)
      rw [Nat.and_one_is_mod] at this
      exact this
     have ai:(u:Int) / 2=((u / 2:Nat):Int):=by omega
     have ak:Hid (a1g (k+1) s0=a3g u):=hid (by rw [c6q,<-HU.out])
     by_cases h2:u%2=1
     ·rw [h2] at ha
      have ad:bits .xor .u32 ((u / 2:Nat):Int) 3988292384=(((u / 2) ^^^ 3988292384:Nat):Int):=u32_xor_nat (u / 2) 3988292384 (by omega) (by decide)
      have aj:(u / 2) ^^^ 3988292384<4294967296:=Nat.xor_lt_two_pow (n:=32) (by omega) (by decide)
      have ab:Hid ((u / 2) ^^^ 3988292384=a3g u):=hid (by unfold a3g;rw [if_pos h2])
      obtain ⟨v,hv⟩:=zX ((u / 2) ^^^ 3988292384)
      rw [<-hv] at ad aj ab
      obtain ⟨h,hh⟩:=zX (u / 2)
      rw [<-hh] at ad ai
      have am:h<2147483648:=by omega
      clear hv hh h2 ag
      go_wp2
      go_roundg j2
      case measure=>omega
      case rel=>exact ⟨k+1,v,rfl,by go_num,by omega,hid (by rw [ak.out,ab.out]),aj,rfl⟩
     ·have h0:u%2=0:=by omega
      rw [h0] at ha
      have ab:Hid (u / 2=a3g u):=hid (by unfold a3g;rw [if_neg h2])
      obtain ⟨h,hh⟩:=zX (u / 2)
      rw [<-hh] at ai ab
      have am:h<2147483648:=by omega
      clear hh h2 h0 ag
      go_wp2
      go_roundg j2
      case measure=>omega
      case rel=>exact ⟨k+1,h,rfl,by go_num,by omega,hid (by rw [ak.out,ab.out]),by omega,rfl⟩
theorem f6d (n:Nat) (hn:n<4294967296) (w:World) :
  Calls Tryz.prog 54 #[.int .u64 n,.int .i64 4] w fun e w'=>∃ (g cap:Nat),e=.returned (.slice (some ⟨g,0,none⟩) 4 cap)/\Row w' 5 (.slice (some ⟨g,0,none⟩) 4 cap) g ((d8f n).map b8)/\Chg [] w w'/\w.heap.size<=g:=by
 go_enter Tryz.func54,Tryz.ntmps54
 go_wp2_with fail
 go_loopg [5,6] 4 (fun j v5 v6 wr=>∃ (k:Nat) (F:List Nat),k+j=4/\v6=.int .i64 (3-(k:Int))/\Hid (Own wr 5 v5 F (((d8f n).take k).map b8))/\Hid (Chg [] w wr)/\Hid (∀ x∈F,w.heap.size<=x))
 case atStart=>exact ⟨0,[],rfl,rfl,hid (Own.nil _ _),hid (zR _ _),hid (by simp)⟩
 case round =>
  obtain ⟨k,F,ak,rfl,HO,HC,HF⟩:=hrel
  rcases gk with _ | j
  ·obtain rfl:k=4:=by omega
   have ho:=HO.out
   rw [zT (by simp [d8f])] at ho
   obtain ⟨g,c,rfl,ag,hF⟩:=e4j (N:=4) ho (by simp [d8f]) (by decide)
   have aj:=hid ag
   have HG:Hid (w.heap.size<=g):=hid (HF.out g (by rw [hF];simp))
   clear ho ag hF
   go_wp2_with fail
   go_ret
   exact ⟨g,c,rfl,aj.out,HC.out,HG.out⟩
  ·have hx:∃ x m:Nat,(d8f n).take (k+1)=(d8f n).take k++[x]/\x<256/\m%256=x/\(k=0/\m=n / 16777216\/k=1/\m=n / 65536\/k=2/\m=n / 256\/k=3/\m=n):=by
    rcases (by omega:k=0\/k=1\/k=2\/k=3) with rfl | rfl | rfl | rfl
    ·exact ⟨n / 16777216%256,_,rfl,by omega,rfl,by simp⟩
    ·exact ⟨n / 65536%256,_,rfl,by omega,rfl,by simp⟩
    ·exact ⟨n / 256%256,_,rfl,by omega,rfl,by simp⟩
    ·exact ⟨n%256,_,rfl,by omega,rfl,by simp⟩
   obtain ⟨x,m,ai,ap,an,aa⟩:=hx
   have hm:m<4294967296:=by omega
   have am:(k=0->(n:Int) / 16777216=(m:Int))/\(k=1->(n:Int) / 65536=(m:Int))/\(k=2->(n:Int) / 256=(m:Int))/\(k=3->n=m):=by
    refine ⟨fun h => ?_,fun h => ?_,fun h => ?_,fun h => ?_⟩<;>omega
   have ao:IntKind.u8.wrap (m:Int)=(x:Int):=by rw [IntKind.wrap_u8];omega
   obtain ⟨l,hl⟩:=zX ((d8f n).take k)
   have ab:=HO.out.alloc (.cells #[.int .u8 x] 5)
   have ad:Hid (l.length=k):=hid (by rw [hl,zI];simp [d8f];omega)
   rw [<-hl] at ab ai
   have ah:=hid ai
   clear hl
   have al:=hid ak
   obtain ⟨d0,d1,d2,d3⟩:=am
   clear ai an
   have hk:k=0\/k=1\/k=2\/k=3:=by omega
   clear ak
   obtain rfl:j=3-k:=by have:=al.out;omega
   rcases hk with rfl | rfl | rfl | rfl
   ·have hd:=d0 rfl
    clear d0 d1 d2 d3 aa
    go_wp2_with (at_builtin;refine a0f rfl rfl b2h rfl rfl ab (.int .u8 x) rfl ?e01 ?e02 ?e03 ?e04 ?_)
    case e02=>rfl
    case e03=>simp [ad.out]
    case e04=>simp [ad.out]
    intro g2 af w2 ae ac
    go_wp2_with fail
    go_roundg 3
    case measure=>omega
    case rel =>
     refine ⟨1,[g2],rfl,by go_num,hid ?_,hid ?_,hid ?_⟩
     ·rw [ah.out,zM]
      exact ae.toOwn
     ·exact (HC.out.tq ((zR [] wr).alloc _)).trans ac.chg fun x hx => .inr (HF.out x hx)
     ·intro x hx
      rcases ac.new x hx with h | h
      ·exact HF.out x h
      ·have:=HC.out.size;rw [d2s] at h;omega
   ·have hd:=d1 rfl
    clear d0 d1 d2 d3 aa
    go_wp2_with (at_builtin;refine a0f rfl rfl b2h rfl rfl ab (.int .u8 x) rfl ?e11 ?e12 ?e13 ?e14 ?_)
    case e12=>rfl
    case e13=>simp [ad.out]
    case e14=>simp [ad.out]
    intro g2 af w2 ae ac
    go_wp2_with fail
    go_roundg 2
    case measure=>omega
    case rel =>
     refine ⟨2,[g2],rfl,by go_num,hid ?_,hid ?_,hid ?_⟩
     ·rw [ah.out,zM]
      exact ae.toOwn
     ·exact (HC.out.tq ((zR [] wr).alloc _)).trans ac.chg fun x hx => .inr (HF.out x hx)
     ·intro x hx
      rcases ac.new x hx with h | h
      ·exact HF.out x h
      ·have:=HC.out.size;rw [d2s] at h;omega
   ·have hd:=d2 rfl
    clear d0 d1 d2 d3 aa
    go_wp2_with (at_builtin;refine a0f rfl rfl b2h rfl rfl ab (.int .u8 x) rfl ?e21 ?e22 ?e23 ?e24 ?_)
    case e22=>rfl
    case e23=>simp [ad.out]
    case e24=>simp [ad.out]
    intro g2 af w2 ae ac
    go_wp2_with fail
    go_roundg 1
    case measure=>omega
    case rel =>
     refine ⟨3,[g2],rfl,by go_num,hid ?_,hid ?_,hid ?_⟩
     ·rw [ah.out,zM]
      exact ae.toOwn
     ·exact (HC.out.tq ((zR [] wr).alloc _)).trans ac.chg fun x hx => .inr (HF.out x hx)
     ·intro x hx
      rcases ac.new x hx with h | h
      ·exact HF.out x h
      ·have:=HC.out.size;rw [d2s] at h;omega
   ·obtain rfl:=d3 rfl
    clear d0 d1 d2 d3 aa
    go_wp2_with (at_builtin;refine a0f rfl rfl b2h rfl rfl ab (.int .u8 x) rfl ?e31 ?e32 ?e33 ?e34 ?_)
    case e32=>rfl
    case e33=>simp [ad.out]
    case e34=>simp [ad.out]
    intro g2 af w2 ae ac
    go_wp2_with fail
    go_roundg 0
    case measure=>omega
    case rel =>
     refine ⟨4,[g2],rfl,by go_num,hid ?_,hid ?_,hid ?_⟩
     ·rw [ah.out,zM]
      exact ae.toOwn
     ·exact (HC.out.tq ((zR [] wr).alloc _)).trans ac.chg fun x hx => .inr (HF.out x hx)
     ·intro x hx
      rcases ac.new x hx with h | h
      ·exact HF.out x h
      ·have:=HC.out.size;rw [d2s] at h;omega
theorem f6g {w:World} {A:Option Addr} {cap:Nat} {ds:List Nat} (hc:a0d b8 w A ds) (hd:∀ d∈ds,d<256) (hl:ds.length<=1000000000) :
  Calls Tryz.prog 18 #[.slice A ds.length cap] w fun e w'=>∃ v G,e=.returned v/\Own w' 5 v G ((ds++d8f (c3g ds)).map b8)/\Chg [] w w'/\∀ x∈G,w.heap.size<=x:=by
 have hz:Own (w.alloc (.cells #[] 5)) 5 (.slice (some ⟨w.heap.size,0,none⟩) 0 0) [w.heap.size] []:=(Row.made w 5 [] (by simp [maxLen])).toOwn
 have ah:a0d (fun u=>u) (w.alloc (.cells #[] 5)) A (ds.map b8):=(hc.same ((zR [] w).alloc (.cells #[] 5))).raw_b8
 have ad:=fun w' (h':Chg [] w w')=>f6i w' A cap ds (hc.same h') hd (by omega)
 have aj:=c6p hd
 have af:=fun w'=>f6d (c3g ds) aj w'
 obtain ⟨S,hS⟩:=zX (c3g ds)
 rw [<-hS] at ad aj af ⊢
 obtain ⟨n,hn⟩:=zX (ds.length)
 rw [<-hn] at ad hl ⊢
 have aw:IntKind.u64.wrap (S:Int)=(S:Int):=IntWalk.u64_in _ (by omega)
 have HN:=hid hn
 have ao:=hid ah
 have an:=hid ad
 have au:=hid af
 have HL:=hid hl
 clear ah ad af hn hS hc hd
 go_enter Tryz.func18,Tryz.ntmps18
 go_wp2_with (at_builtin;refine a1m rfl rfl b2h rfl rfl hz (ds.map b8) n rfl ?c1 ?c2 ?c3 ?c4 ?c5 ?_)
 case c1=>rw [zE];exact HN.out
 case c2=>exact ao.out
 case c3=>exact c4s _
 case c4=>rw [zE,List.length_nil,<-HN.out];omega
 case c5=>rw [zE,List.length_nil,<-HN.out];omega
 intro v1 F1 w1 h2 h3
 try rw [List.nil_append] at h2
 have ac:Chg [] w w1:=((zR [] w).alloc _).trans h3.chg fun x hx => .inr (by simp at hx;omega)
 have ai:=hid ac
 have ag:Hid (∀ x∈F1,w.heap.size<=x):=hid (fun x hx=>by
  rcases h3.new x hx with h | h
  ·simp at h;omega
  ·have:(w.alloc (.cells #[] 5)).heap.size=w.heap.size+1:=Array.size_push _
   omega)
 have av:=hid h2
 clear h2 h3 ac hz
 go_wp2_with fail
 refine (an.out w1 ai.out).mono ?_
 rintro e w2 ⟨rfl,rfl⟩
 go_wp2_with fail
 refine (au.out w1).mono ?_
 rintro e w3 ⟨g3,c3,rfl,aa,ae,ar⟩
 have ab:=av.out.same ae
 have al:=Row.cellsB aa
 have ap:=hid al
 have ak:=hid (ai.out.tq ae)
 clear aa ae ar al
 go_wp2_with (at_builtin;refine a1m rfl rfl b2h rfl rfl ab ((d8f S).map b8) 4 rfl ?k1 ?k2 ?k3 ?k4 ?k5 ?_)
 case k1=>rfl
 case k2=>exact ap.out
 case k3=>exact c4s _
 case k4=>rw [zE,zE,<-HN.out];simp [d8f];have := HL.out;omega
 case k5=>rw [zE,zE,<-HN.out];simp [d8f];have := HL.out;omega
 intro v4 F4 w4 h4 g4
 have aq:=hid h4
 have am:=hid g4
 clear h4 g4 ab
 go_wp2_with fail
 go_ret
 refine ⟨v4,F4,rfl,by rw [zM];exact aq.out,ak.out.trans am.out.chg (fun x hx => .inr (ag.out x hx)),fun x hx => ?_⟩
 rcases am.out.new x hx with h | h
 ·exact ag.out x h
 ·have:=ak.out.size;omega
end Go.Proofs.YtepjepkgcdfboaaGreatDoor
