/- slices.Clone and slices.Equal of bytes and of numbers, by their contracts. -/
import Derived.Test.YtklocammllljiaaGreatDoorMg04
import Derived.Lib.SliceRun
set_option linter.unusedVariables false
set_option linter.unusedSimpArgs false
set_option maxHeartbeats 1000000
set_option maxRecDepth 100000
namespace Go.Proofs.YtklocammllljiaaGreatDoor
open Go.RowKit
theorem clone_b_ok (w:World) (A:Option Addr) (cap:Nat) (ds:List Nat) (hc:Cells b8 w A ds) (h0:0<ds.length) (hl:ds.length<1099511627776) :
  Calls Tryz.prog 126 #[.slice A ds.length cap] w fun e w'=>∃ v g,e=.returned v/\Row w' 5 v g (ds.map b8)/\Chg [] w w'/\w.heap.size<=g:=by
 obtain ⟨bA,oA,rfl,ae,-⟩:=hc.ex h0
 have hz:Own (w.alloc (.cells #[] 5)) 5 (.slice (some ⟨w.heap.size,0,none⟩) 0 0) [w.heap.size] []:=(Row.made w 5 [] (by simp [maxLen])).toOwn
 have ab:Cells (fun u=>u) (w.alloc (.cells #[] 5)) (some ⟨bA,oA,none⟩) (ds.map b8):=⟨fun h=>by
  obtain ⟨b,o,e1,e2,e3⟩:=(hc.same ((zR [] w).alloc (.cells #[] 5))).ex h0
  refine ⟨b,o,e1,e2,fun i a ha => ?_⟩
  rw [zW] at ha
  obtain ⟨x,hx,rfl⟩:=Option.map_eq_some_iff.1 ha
  exact e3 i x hx⟩
 have ac:=hid ab
 obtain ⟨n,hn⟩:=zX (ds.length)
 rw [<-hn] at h0 hl ⊢
 have HN:=hid hn
 have hq:∀ (w:World) (a:Option Addr) (n c n' c':Nat),(binOp .eql 52 (.slice a n c) (.slice none n' c')).run Tryz.prog w=.ok (.bool a.isNone) w:=fun w a n c n' c'=>Lib.run_eql_slice_nil w _ _ a n c n' c' Tryz.underlying52
 clear ab hc hn
 go_enter Tryz.func126,Tryz.ntmps126
 go_wp2_with (at_builtin;refine wpList_append_s rfl rfl u8_elem rfl rfl hz (ds.map b8) n rfl ?c1 ?c2 ?c3 ?c4 ?c5 ?_)
 case c1=>rw [zE];exact HN.out
 case c2=>exact ac.out
 case c3=>exact b8_one _
 case c4=>rw [zE,List.length_nil,<-HN.out];omega
 case c5=>rw [zE,List.length_nil,<-HN.out];omega
 intro v' F' w' h2 h3
 try rw [List.nil_append] at h2
 have ad:Chg [] w w':=((zR [] w).alloc _).trans h3.chg fun x hx => .inr (by simp at hx;omega)
 rcases h2.cases with ⟨_,he,_⟩ | ⟨g,aa,hF⟩
 ·have:=HN.out
  rw [List.map_eq_nil_iff.1 he] at this
  simp at this
  omega
 ·have hg:w.heap.size<=g:=by
   rcases h3.new g (by rw [hF];simp) with h | h
   ·simp at h;omega
   ·have:(w.alloc (.cells #[] 5)).heap.size=w.heap.size+1:=Array.size_push _
    omega
  clear h2 h3
  go_wp2
  go_ret
  exact ⟨v',g,rfl,aa,ad,hg⟩
theorem clone_i_ok (w:World) (A:Option Addr) (cap:Nat) (ds:List Int) (hc:Cells vi w A ds) (h0:0<ds.length) (hl:ds.length<1099511627776) :
  Calls Tryz.prog 72 #[.slice A ds.length cap] w fun e w'=>∃ v g,e=.returned v/\Row w' 3 v g (ds.map vi)/\Chg [] w w'/\w.heap.size<=g:=by
 obtain ⟨bA,oA,rfl,ae,-⟩:=hc.ex h0
 have hz:Own (w.alloc (.cells #[] 3)) 3 (.slice (some ⟨w.heap.size,0,none⟩) 0 0) [w.heap.size] []:=(Row.made w 3 [] (by simp [maxLen])).toOwn
 have ab:Cells (fun u=>u) (w.alloc (.cells #[] 3)) (some ⟨bA,oA,none⟩) (ds.map vi):=⟨fun h=>by
  obtain ⟨b,o,e1,e2,e3⟩:=(hc.same ((zR [] w).alloc (.cells #[] 3))).ex h0
  refine ⟨b,o,e1,e2,fun i a ha => ?_⟩
  rw [zW] at ha
  obtain ⟨x,hx,rfl⟩:=Option.map_eq_some_iff.1 ha
  exact e3 i x hx⟩
 have ac:=hid ab
 obtain ⟨n,hn⟩:=zX (ds.length)
 rw [<-hn] at h0 hl ⊢
 have HN:=hid hn
 have hq:∀ (w:World) (a:Option Addr) (n c n' c':Nat),(binOp .eql 22 (.slice a n c) (.slice none n' c')).run Tryz.prog w=.ok (.bool a.isNone) w:=fun w a n c n' c'=>Lib.run_eql_slice_nil w _ _ a n c n' c' Tryz.underlying22
 clear ab hc hn
 go_enter Tryz.func72,Tryz.ntmps72
 go_wp2_with (at_builtin;refine wpList_append_s rfl rfl int_elem rfl rfl hz (ds.map vi) n rfl ?c1 ?c2 ?c3 ?c4 ?c5 ?_)
 case c1=>rw [zE];exact HN.out
 case c2=>exact ac.out
 case c3=>exact vi_one _
 case c4=>rw [zE,List.length_nil,<-HN.out];omega
 case c5=>rw [zE,List.length_nil,<-HN.out];omega
 intro v' F' w' h2 h3
 try rw [List.nil_append] at h2
 have ad:Chg [] w w':=((zR [] w).alloc _).trans h3.chg fun x hx => .inr (by simp at hx;omega)
 rcases h2.cases with ⟨_,he,_⟩ | ⟨g,aa,hF⟩
 ·have:=HN.out
  rw [List.map_eq_nil_iff.1 he] at this
  simp at this
  omega
 ·have hg:w.heap.size<=g:=by
   rcases h3.new g (by rw [hF];simp) with h | h
   ·simp at h;omega
   ·have:(w.alloc (.cells #[] 3)).heap.size=w.heap.size+1:=Array.size_push _
    omega
  clear h2 h3
  go_wp2
  go_ret
  exact ⟨v',g,rfl,aa,ad,hg⟩
theorem equal_i_ok (w:World) (A B:Option Addr) (ca cb:Nat) (la lb:List Int) (hA:Cells vi w A la) (hB:Cells vi w B lb) (hne:la.length=lb.length) (ha:la.length<=1099511627776) :
  Calls Tryz.prog 157 #[.slice A la.length ca,.slice B lb.length cb] w fun e w'=>e=.returned (.bool (decide (la=lb)))/\Chg [] w w':=by
 obtain ⟨n,hn⟩:=zX (la.length)
 have aa:lb.length=n:=by rw [hn,hne]
 rw [aa]
 rw [<-hn] at ha ⊢
 have HA:=hid hn
 have HB:=hid aa
 clear hn aa hne
 have t2:((n:Int) != (n:Int))=false:=by simp
 go_enter Tryz.func157,Tryz.ntmps157
 go_wp2_with fail
 go_loopg [5,13] n (fun j v5 iv wr=>∃ i q:Nat,iv=.int .i64 i/\i+j=n/\Hid (la.take i=lb.take i)/\wr=w.drewN q)
 case atStart=>exact ⟨0,0,rfl,by omega,hid rfl,rfl⟩
 case round =>
  obtain ⟨i,q,rfl,ai,HT,rfl⟩:=hrel
  rcases gk with _ | j
  ·obtain rfl:i=n:=by omega
   have t3:decide (i<i)=false:=by simp
   have ht:=HT.out
   rw [zT (by rw [<-HA.out];exact zQ _),zT (by rw [HB.out];exact zQ _)] at ht
   have hE:Hid (decide (la=lb)=true):=hid (zB ht)
   clear ht
   go_wp2
   go_ret
   exact ⟨by rw [hE.out];rfl,(zR [] w).drewN q⟩
  ·have ad:i<n:=by omega
   have af:i<la.length:=by rw [<-HA.out];exact ad
   have ae:i<lb.length:=by rw [HB.out];exact ad
   obtain ⟨ga,oa,rfl,ab⟩:=hA.at_ af
   obtain ⟨gb,ob,rfl,ac⟩:=hB.at_ ae
   obtain ⟨x,hx⟩:=zX (la[i])
   obtain ⟨y,hy⟩:=zX (lb[i])
   rw [<-hx] at ab
   rw [<-hy] at ac
   have cA:w.cell? ⟨ga,oa+i,none⟩=some (.int .i64 x):=ab
   have cB:w.cell? ⟨gb,ob+i,none⟩=some (.int .i64 y):=ac
   have HX:=hid hx
   have HY:=hid hy
   have ah:=hid af
   have ag:=hid ae
   have ak:=hid hA
   have aj:=hid hB
   clear hx hy ab ac hA hB
   go_wp2
   go_quiet (fail)
   by_cases hxy:x=y
   ·subst hxy
    have t5:(x != x)=false:=by simp
    go_wp2
    go_roundg j
    case measure=>omega
    case rel =>
     refine ⟨i+1,q+nq,by go_num,by omega,hid ?_,by first | rfl | rw [World.drewN_drewN]⟩
     rw [List.take_succ_eq_append_getElem ah.out,List.take_succ_eq_append_getElem ag.out,HT.out,<-HX.out,<-HY.out]
   ·have t5:(x != y)=true:=by simpa using hxy
    have hd:decide (la=lb)=false:=zA fun e=>hxy (by rw [HX.out,HY.out];subst e;rfl)
    have HD:=hid hd
    clear hd
    go_wp2
    go_ret
    exact ⟨by rw [HD.out];rfl,((zR [] w).drewN q).drewN nq⟩
theorem equal_b_ok (w:World) (A B:Option Addr) (ca cb:Nat) (la lb:List Nat) (hA:Cells b8 w A la) (hB:Cells b8 w B lb) (hne:la.length=lb.length) (ha:la.length<=1099511627776) :
  Calls Tryz.prog 97 #[.slice A la.length ca,.slice B lb.length cb] w fun e w'=>e=.returned (.bool (decide (la=lb)))/\Chg [] w w':=by
 obtain ⟨n,hn⟩:=zX (la.length)
 have aa:lb.length=n:=by rw [hn,hne]
 rw [aa]
 rw [<-hn] at ha ⊢
 have HA:=hid hn
 have HB:=hid aa
 clear hn aa hne
 have t2:((n:Int) != (n:Int))=false:=by simp
 go_enter Tryz.func97,Tryz.ntmps97
 go_wp2_with fail
 go_loopg [5,13] n (fun j v5 iv wr=>∃ i q:Nat,iv=.int .i64 i/\i+j=n/\Hid (la.take i=lb.take i)/\wr=w.drewN q)
 case atStart=>exact ⟨0,0,rfl,by omega,hid rfl,rfl⟩
 case round =>
  obtain ⟨i,q,rfl,ai,HT,rfl⟩:=hrel
  rcases gk with _ | j
  ·obtain rfl:i=n:=by omega
   have t3:decide (i<i)=false:=by simp
   have ht:=HT.out
   rw [zT (by rw [<-HA.out];exact zQ _),zT (by rw [HB.out];exact zQ _)] at ht
   have hE:Hid (decide (la=lb)=true):=hid (zB ht)
   clear ht
   go_wp2
   go_ret
   exact ⟨by rw [hE.out];rfl,(zR [] w).drewN q⟩
  ·have ad:i<n:=by omega
   have af:i<la.length:=by rw [<-HA.out];exact ad
   have ae:i<lb.length:=by rw [HB.out];exact ad
   obtain ⟨ga,oa,rfl,ab⟩:=hA.at_ af
   obtain ⟨gb,ob,rfl,ac⟩:=hB.at_ ae
   obtain ⟨x,hx⟩:=zX (la[i])
   obtain ⟨y,hy⟩:=zX (lb[i])
   rw [<-hx] at ab
   rw [<-hy] at ac
   have cA:w.cell? ⟨ga,oa+i,none⟩=some (.int .u8 x):=ab
   have cB:w.cell? ⟨gb,ob+i,none⟩=some (.int .u8 y):=ac
   have HX:=hid hx
   have HY:=hid hy
   have ah:=hid af
   have ag:=hid ae
   have ak:=hid hA
   have aj:=hid hB
   clear hx hy ab ac hA hB
   go_wp2
   go_quiet (fail)
   by_cases hxy:x=y
   ·subst hxy
    have t5:((x:Int) != (x:Int))=false:=by simp
    go_wp2
    go_roundg j
    case measure=>omega
    case rel =>
     refine ⟨i+1,q+nq,by go_num,by omega,hid ?_,by first | rfl | rw [World.drewN_drewN]⟩
     rw [List.take_succ_eq_append_getElem ah.out,List.take_succ_eq_append_getElem ag.out,HT.out,<-HX.out,<-HY.out]
   ·have t5:(x != y)=true:=by simpa using hxy
    have t6:((x:Int) != (y:Int))=true:=by rw [bne_iff_ne];omega
    have hd:decide (la=lb)=false:=zA fun e=>hxy (by rw [HX.out,HY.out];subst e;rfl)
    have HD:=hid hd
    clear hd
    go_wp2
    go_ret
    exact ⟨by rw [HD.out];rfl,((zR [] w).drewN q).drewN nq⟩
end Go.Proofs.YtklocammllljiaaGreatDoor
