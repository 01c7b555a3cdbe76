/- slices.Clone of numbers, by its contract. -/
import Derived.Test.YtepjepkgcdfboaaGreatDoorMg04
import Derived.Lib.SliceRun
set_option linter.unusedVariables false
set_option linter.unusedSimpArgs false
set_option maxHeartbeats 1000000
set_option maxRecDepth 100000
namespace Go.Proofs.YtepjepkgcdfboaaGreatDoor
open Go.RowKit
theorem clone_i_ok (w:World) (A:Option Addr) (cap:Nat) (ds:List Int) (hc:Cells vi w A ds) (h0:0<ds.length) (hl:ds.length<1099511627776) :
  Calls Tryz.prog 57 #[.slice A ds.length cap] w fun e w'=>∃ v g,e=.returned v/\Row w' 3 v g (ds.map vi)/\Chg [] w w'/\w.heap.size<=g:=by
 obtain ⟨bA,oA,rfl,ae,-⟩:=hc.ex h0
 have hz:Own (w.alloc (.cells #[] 3)) 3 (.slice (some ⟨w.heap.size,0,none⟩) 0 0) [w.heap.size] []:=(Row.made w 3 [] (by simp [maxLen])).toOwn
 have ab:Cells (fun u=>u) (w.alloc (.cells #[] 3)) (some ⟨bA,oA,none⟩) (ds.map vi):=⟨fun h=>by
  obtain ⟨b,o,e1,e2,e3⟩:=(hc.same ((zR [] w).alloc (.cells #[] 3))).ex h0
  refine ⟨b,o,e1,e2,fun i a ha => ?_⟩
  rw [zW] at ha
  obtain ⟨x,hx,rfl⟩:=Option.map_eq_some_iff.1 ha
  exact e3 i x hx⟩
 have ad:=hid ab
 obtain ⟨n,hn⟩:=zX (ds.length)
 rw [<-hn] at h0 hl ⊢
 have HN:=hid hn
 have hq:∀ (w:World) (a:Option Addr) (n c n' c':Nat),(binOp .eql 22 (.slice a n c) (.slice none n' c')).run Tryz.prog w=.ok (.bool a.isNone) w:=fun w a n c n' c'=>Lib.run_eql_slice_nil w _ _ a n c n' c' Tryz.underlying22
 clear ab hc hn
 go_enter Tryz.func57,Tryz.ntmps57
 go_wp2_with (at_builtin;refine wpList_append_s rfl rfl int_elem rfl rfl hz (ds.map vi) n rfl ?c1 ?c2 ?c3 ?c4 ?c5 ?_)
 case c1=>rw [zE];exact HN.out
 case c2=>exact ad.out
 case c3=>exact vi_one _
 case c4=>rw [zE,List.length_nil,<-HN.out];omega
 case c5=>rw [zE,List.length_nil,<-HN.out];omega
 intro v' F' w' h2 h3
 try rw [List.nil_append] at h2
 have ac:Chg [] w w':=((zR [] w).alloc _).trans h3.chg fun x hx => .inr (by simp at hx;omega)
 rcases h2.cases with ⟨_,he,_⟩ | ⟨g,aa,hF⟩
 ·have:=HN.out
  rw [List.map_eq_nil_iff.1 he] at this
  simp at this
  omega
 ·have hg:w.heap.size<=g:=by
   rcases h3.new g (by rw [hF];simp) with h | h
   ·simp at h;omega
   ·have:(w.alloc (.cells #[] 3)).heap.size=w.heap.size+1:=Array.size_push _
    omega
  clear h2 h3
  go_wp2
  go_ret
  exact ⟨v',g,rfl,aa,ac,hg⟩
end Go.Proofs.YtepjepkgcdfboaaGreatDoor
