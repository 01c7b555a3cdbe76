/- tile.Get of the flat kind by its contract. -/
import Derived.Test.YtepjepkgcdfboaaGreatDoorMg32
import Derived.Test.YtepjepkgcdfboaaGreatDoorMg27
set_option linter.unusedVariables false
set_option linter.unusedSimpArgs false
set_option maxHeartbeats 4000000
set_option maxRecDepth 100000
namespace Go.Proofs.YtepjepkgcdfboaaGreatDoor
open Go.RowKit
def a3z (w:World) (b:Nat) (F ds:List Nat) (p:Nat) (l:List Int) (n:Nat) (e:Ending) (w':World):Prop :=
 ∃ v G,e=.returned (.tuple #[v,.int .i64 0])/\Own w' 3 v G (l.map vi)/\a1r w' b F ds (p+n)/\Chg [b] w w'/\∀ x∈G,w.heap.size<=x
theorem e7k {l:List Int} {W d:Nat} (hm:a7a 0 l W d=true):l=List.replicate l.length (l.getD 0 0):=by
 unfold a7a at hm
 rw [if_pos rfl] at hm
 have h1:(a2g l).length=1:=by simpa using hm
 obtain ⟨a,ha⟩:=List.length_eq_one_iff.1 h1
 have h2:∀ x∈l,x=a:=fun x hx=>by
  have:=(a9u l x).2 hx
  rw [ha] at this
  simpa using this
 have h3:l.getD 0 0=a\/l=[]:=by
  cases l with
  | nil=>exact .inr rfl
  | cons y l=>left;exact h2 y (by simp)
 rcases h3 with h3 | h3
 ·rw [h3];exact List.eq_replicate_of_mem h2
 ·subst h3;rfl
section
variable {w:World} {b:Nat} {F ds:List Nat} {p:Nat} {l:List Int} {W H d:Nat} (h:a1r w b F ds p) (hw0:1<=W) (hw1:W<=16) (hh0:1<=H) (hh1:H<=16) (h0:1<=d) (h1:d<=16) (hl:l.length=W*H) (hs:a1u d l)
include h hw0 hw1 hh0 hh1 h0 h1 hl hs
theorem e5z (hm:a7a 0 l W d=true) (ha:a0y ds p (a0e 0 l W H d)) :
  Calls Tryz.prog 135 #[.pointer (some ⟨b,0,none⟩),.int .i64 W,.int .i64 H,.int .i64 d] w (a3z w b F ds p l (a0e 0 l W H d).length):=by
 have aD:=a4o W H d w hw0 hw1 hh0 hh1 h0 h1
 have ae:=e7k hm
 obtain ⟨n,hn⟩:=zX (W*H)
 have aH:(W:Int)*(H:Int)=(n:Int):=by rw [hn];simp
 have aB:1<=n:=by rw [hn];exact Nat.mul_pos hw0 hh0
 have aG:n<=256:=by rw [hn];exact zL hw1 hh1
 rw [hl,<-hn] at ae
 have hx:=a5d hs 0
 obtain ⟨x,ak⟩:=zX (l.getD 0 0)
 have am:a0e 0 l W H d=a0b 0 3++a0b x.toNat d:=by rw [ak];rfl
 rw [<-ak] at ae hx
 have aq:(a0e 0 l W H d).length=3+d:=by rw [am,zC,a0a,a0a]
 rw [aq]
 rw [am] at ha
 obtain ⟨X,hX⟩:∃ X:Nat,X=x.toNat:=⟨_,rfl⟩
 have ac:x=(X:Int):=by omega
 rw [<-hX] at ha
 have aj:X<2^d:=by
  have e:(2:Int)^d=((2^d:Nat):Int):=by simp
  have:=hx.2
  rw [e,ac] at this
  omega
 have aA:X<65536:=Nat.lt_of_lt_of_le aj (show 2^d<=2^16 from Nat.pow_le_pow_right (by decide) h1)
 have ai:=ha.right
 rw [a0a] at ai
 have aw:=a0j w b F ds p 3 0 h (by omega) (by decide) ha.left
 have ap:=fun w' (hr:a1r w' b F ds (p+3))=>a0j w' b F ds (p+3) d X hr (by omega) aj ai
 have af:=fun w' ad cap (hc:w'.cell? ad=some (.int .i64 X)) hb=>e5e w' ad cap n (X:Int) aB (by omega) hc hb
 rw [<-ac] at af
 rw [<-ae] at af
 have ay:=hid ap
 have ax:=hid af
 have aC:=hid ac
 unfold a3z
 clear hn am aq hX aj ha ai hs hm hl ae ak ap af ac hx
 go_enter Tryz.func135,Tryz.ntmps135
 go_wp2_with (go_at_call 109;refine aD.mono ?_;rintro e w' ⟨rfl,rfl⟩)
 refine aw.mono ?_
 rintro e w1 ⟨rfl,an,ao⟩
 go_wp2_with (go_at_call 69;refine (a2b _ b F ds _ an).mono ?_;rintro e w' ⟨rfl,rfl⟩)
 refine (ay.out _ an).mono ?_
 rintro e w2 ⟨rfl,aF,au⟩
 have aa:=Blk.new w2 3 #[.int .i64 X]
 have av:(w2.alloc (Obj.cells #[.int .i64 X] 3)).cell? ⟨w2.heap.size,0,none⟩=some (.int .i64 x):=by rw [aa.cell,aC.out];rfl
 have ah:Chg [] w2 (w2.alloc (Obj.cells #[.int .i64 X] 3)):=(zR [] w2).alloc _
 go_wp2_with fail
 refine (ax.out _ _ _ av aa.lt).mono ?_
 rintro e w4 ⟨v,g,rfl,al,az,hg⟩
 have ab:=ah.tq az
 have ar:=aF.same ab
 have ag:=ao.tq (au.trans ab (by simp))
 have aE:w.heap.size<=g:=by have:=ao.size;have:=au.size;have:=ah.size;omega
 clear aa av ah
 go_wp2_with (go_at_call 69;refine (a2b _ b F ds _ ar).mono ?_;rintro e w' ⟨rfl,rfl⟩)
 go_ret2
 exact ⟨v,[g],rfl,al.toOwn,ar.cast (by omega),ag,by simpa using aE⟩
end
theorem f2r:b6m Tryz.prog 91 86 (.agg #[.int .i64 0,.int .i64 0,.int .i64 0,.int .i64 0]) 4 32:=.mk' Tryz.underlying91 (by kernel_rfl)
def c3i (w:World) (v:Value) (F:List Nat) (l:List Sq):Prop:=b7t w 86 4 v F l.length (l.flatMap a8g)
theorem c3i.snoc {w:World} {g cap n:Nat} {l:List Sq} {q:Sq} {xs:List Value} (h:b7t w 86 4 (.slice (some ⟨g,0,none⟩) (n+1) cap) [g] (n+1) (l.flatMap a8g++xs)) (hn:n=l.length) (hx:xs=a8g q) :
  c3i w (.slice (some ⟨g,0,none⟩) (n+1) cap) [g] (l++[q]):=by
 unfold c3i
 rw [List.flatMap_append,zC,List.length_singleton,<-hn]
 rw [hx] at h
 simpa using h
theorem d7t (W H S:Nat) (w:World) (hw0:1<=W) (hw1:W<=64) (hh0:1<=H) (hh1:H<=64) (hs0:1<=S) (hs1:S<=64) :
  Calls Tryz.prog 46 #[.int .i64 W,.int .i64 H,.int .i64 S] w fun e w'=>∃ v F,e=.returned v/\c3i w' v F (b6z W H S)/\Chg [] w w'/\∀ x∈F,w.heap.size<=x:=by
 have av:=d6d W H S
 have aE:H*W<=64*64:=zL hh1 hw1
 obtain ⟨G,hG⟩:=zX (b6z W H S)
 have ad:(a5r S H H 0).flatMap (a8y W S)=G:=hG.symm
 rw [<-hG] at av ⊢
 have aP:G.length<=4096:=by omega
 have aG:=hid ad
 clear ad hG av aE
 have t1:decide ((W:Int)<1)=false:=zA (by omega)
 have t2:decide ((64:Int)<(W:Int))=false:=zA (by omega)
 have t3:decide ((H:Int)<1)=false:=zA (by omega)
 have t4:decide ((64:Int)<(H:Int))=false:=zA (by omega)
 have t5:decide ((S:Int)<1)=false:=zA (by omega)
 have t6:decide ((64:Int)<(S:Int))=false:=zA (by omega)
 go_enter Tryz.func46,Tryz.ntmps46
 go_wp2_with fail
 go_loopg [7,8,9] H (fun j vl vy vx wr=>∃ (y:Nat) (done:List Sq) (F:List Nat),vy=.int .i64 y/\H<=y+j/\y<=128/\Hid (done++(a5r S H j y).flatMap (a8y W S)=G)/\c3i wr vl F done/\Hid (Chg [] w wr)/\Hid (∀ x∈F,w.heap.size<=x))
 case atStart=>exact ⟨0,[],[],rfl,by omega,by omega,hid aG.out,b7t.nil _ _ _,hid (zR _ _),hid (by simp)⟩
 case round =>
  obtain ⟨y,done,F,rfl,aR,au,HD,aa,HC,HF⟩:=hrel
  by_cases hyH:H<=y
  ·have t5:decide (y<H)=false:=zA (by omega)
   have ai:done=G:=by
    have:=HD.out
    rw [b3a _ hyH] at this
    simpa using this
   obtain ⟨A,az,rfl⟩:=b7t.shape aa
   have aF:=hid ai
   clear ai
   go_wp2
   go_ret
   exact ⟨_,F,rfl,by rw [<-aF.out];exact aa,HC.out,HF.out⟩
  ·rcases gk with _ | j
   ·exfalso;omega
   have t5:decide (y<H)=true:=zB (by omega)
   obtain ⟨hh,ao⟩:=zX (min S (H-y))
   have ac:=e2u (w:=W) (s:=S) (f:=j) (show y<H by omega)
   rw [<-ao] at ac
   obtain ⟨R2,ap⟩:=zX ((a5r S H j (y+S)).flatMap (a8y W S))
   rw [<-ap] at ac
   have aj:Hid (done++(b2b W S W 0 (y,hh)++R2)=G):=hid (by
    have:=HD.out
    rw [ac] at this
    exact this)
   have aD:=hid ap
   obtain ⟨b,hb⟩:∃ b:Nat,b=H-y:=⟨_,rfl⟩
   have eb:(H:Int)-(y:Int)=(b:Int):=by omega
   have aw:hh=min S b:=by rw [ao,hb]
   have aQ:=hid ao
   have aH:=hid aw
   clear ac ap HD ao hb aw
   go_wp2_with fail
   obtain ⟨wo,aM⟩:=zX (wr)
   go_loopg [7,9] W (fun j2 vl vx wr=>∃ (x:Nat) (done:List Sq) (F:List Nat),vx=.int .i64 x/\W<=x+j2/\x<=128/\Hid (done++(b2b W S j2 x (y,hh)++R2)=G)/\c3i wr vl F done/\Hid (Chg [] w wr)/\Hid (∀ x∈F,w.heap.size<=x))
   case atStart=>exact ⟨0,done,F,rfl,by omega,by omega,aj,aa,HC,HF⟩
   case round =>
    clear aa HC HF aj
    obtain ⟨x,done,F,rfl,aN,aA,HD,aa,HC,HF⟩:=hrel
    by_cases hxW:W<=x
    ·have t6:decide (x<W)=false:=zA (by omega)
     have al:Hid (done++R2=G):=hid (by
      have:=HD.out
      rw [d4l _ _ hxW,List.nil_append] at this
      exact this)
     clear HD
     obtain ⟨A,az,rfl⟩:=b7t.shape aa
     go_wp2_with fail
     go_roundg j
     case measure=>omega
     case rel=>exact ⟨y+S,done,F,by go_num,by omega,by omega,hid (by rw [<-aD.out];exact al.out),aa,HC,HF⟩
    ·rcases gk with _ | j2
     ·exfalso;omega
     have t6:decide (x<W)=true:=zB (by omega)
     obtain ⟨a,ha⟩:∃ a:Nat,a=W-x:=⟨_,rfl⟩
     have ea:(W:Int)-(x:Int)=(a:Int):=by omega
     obtain ⟨m1,ar⟩:∃ m:Nat,m=min S a:=⟨_,rfl⟩
     have aL:min (S:Int) (a:Int)=(m1:Int):=by omega
     have aO:min (S:Int) (b:Int)=(hh:Int):=by have:=aH.out;omega
     have am:Hid (done++[⟨x,y,m1,hh⟩]++(b2b W S j2 (x+S) (y,hh)++R2)=G):=hid (by
      have:=HD.out
      rw [b8l j2 (y,hh) (show x<W by omega)] at this
      rw [zH,ar,ha]
      exact this)
     have aq:done.length<4096:=by
      have:=congrArg List.length HD.out
      rw [b8l j2 (y,hh) (show x<W by omega),zC,zC,zK] at this
      omega
     obtain ⟨dn,an⟩:=zX (done.length)
     have ab:=aa
     unfold c3i at ab
     rw [<-an] at ab
     rw [<-an] at aq
     have aC:=hid an
     have ae:=Blk.new wr 86 #[.int .i64 x,.int .i64 y,.int .i64 m1,.int .i64 hh]
     have ag:=ab.same ((zR [] wr).alloc (.cells #[.int .i64 x,.int .i64 y,.int .i64 m1,.int .i64 hh] 86))
     obtain ⟨A,az,rfl⟩:=b7t.shape ab
     clear ar ha an HD aa ab
     go_wp2_with (at_builtin;refine b0z rfl rfl f2r rfl (by decide) rfl ag [.int .i64 x,.int .i64 y,.int .i64 m1,.int .i64 hh] rfl rfl ?c1 ?c2 ?c3 ?c4 ?_)
     case c1 =>
      intro q u hq
      match q,hq with
      | 0,hq=>rw [<-hq];exact ae.cell 0
      | 1,hq=>rw [<-hq];exact ae.cell 1
      | 2,hq=>rw [<-hq];exact ae.cell 2
      | 3,hq=>rw [<-hq];exact ae.cell 3
      | q+4,hq=>simp at hq
     case c2=>intro u hu;simp at hu;rcases hu with rfl | rfl | rfl | rfl<;>rfl
     case c3=>omega
     case c4=>omega
     intro g' aK w3 af ah
     have ak:Chg [] w w3:=(HC.out.alloc _).trans ah.chg (fun z hz => .inr (HF.out _ hz))
     have ax:∀ z∈[g'],w.heap.size<=z:=fun z hz=>by
      rcases ah.new z hz with h | h
      ·exact HF.out _ h
      ·have h8:(wr.alloc (.cells #[.int .i64 x,.int .i64 y,.int .i64 m1,.int .i64 hh] 86)).heap.size=wr.heap.size+1:=by simp
       have h9:=HC.out.size
       omega
     have ay:=c3i.snoc (q:=⟨x,y,m1,hh⟩) af aC.out rfl
     have aJ:=hid ay
     have aI:=hid ak
     have aB:=hid ax
     clear ae ag af ah ak ax ay
     go_wp2_with fail
     go_roundg j2
     case measure=>omega
     case rel=>exact ⟨x+S,done++[⟨x,y,m1,hh⟩],[g'],by go_num,by omega,by omega,am,aJ.out,aI,aB⟩
end Go.Proofs.YtepjepkgcdfboaaGreatDoor
