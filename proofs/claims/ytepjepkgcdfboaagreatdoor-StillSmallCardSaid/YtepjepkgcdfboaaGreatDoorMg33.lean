/- tile.Get of the flat kind by its contract. -/
import Derived.Test.YtepjepkgcdfboaaGreatDoorMg32
import Derived.Test.YtepjepkgcdfboaaGreatDoorMg27
set_option linter.unusedVariables false
set_option linter.unusedSimpArgs false
set_option maxHeartbeats 4000000
set_option maxRecDepth 100000
namespace Go.Proofs.YtepjepkgcdfboaaGreatDoor
open Go.RowKit
def GetPost (w:World) (b:Nat) (F ds:List Nat) (p:Nat) (l:List Int) (n:Nat) (e:Ending) (w':World):Prop :=
 ∃ v G,e=.returned (.tuple #[v,.int .i64 0])/\Own w' 3 v G (l.map vi)/\IsRd w' b F ds (p+n)/\Chg [b] w w'/\∀ x∈G,w.heap.size<=x
theorem flat_all {l:List Int} {W d:Nat} (hm:mayB 0 l W d=true):l=List.replicate l.length (l.getD 0 0):=by
 unfold mayB at hm
 rw [if_pos rfl] at hm
 have h1:(diffL l).length=1:=by simpa using hm
 obtain ⟨a,ha⟩:=List.length_eq_one_iff.1 h1
 have h2:∀ x∈l,x=a:=fun x hx=>by
  have:=(mem_diffL l x).2 hx
  rw [ha] at this
  simpa using this
 have h3:l.getD 0 0=a\/l=[]:=by
  cases l with
  | nil=>exact .inr rfl
  | cons y l=>left;exact h2 y (by simp)
 rcases h3 with h3 | h3
 ·rw [h3];exact List.eq_replicate_of_mem h2
 ·subst h3;rfl
section
variable {w:World} {b:Nat} {F ds:List Nat} {p:Nat} {l:List Int} {W H d:Nat} (h:IsRd w b F ds p) (hw0:1<=W) (hw1:W<=16) (hh0:1<=H) (hh1:H<=16) (h0:1<=d) (h1:d<=16) (hl:l.length=W*H) (hs:SmpOk d l)
include h hw0 hw1 hh0 hh1 h0 h1 hl hs
theorem tget_flat (hm:mayB 0 l W d=true) (ha:Ahead ds p (tileBits 0 l W H d)) :
  Calls Tryz.prog 135 #[.pointer (some ⟨b,0,none⟩),.int .i64 W,.int .i64 H,.int .i64 d] w (GetPost w b F ds p l (tileBits 0 l W H d).length):=by
 have aB:=isSize_yes W H d w hw0 hw1 hh0 hh1 h0 h1
 have af:=flat_all hm
 obtain ⟨n,hn⟩:=zX (W*H)
 have aH:(W:Int)*(H:Int)=(n:Int):=by rw [hn];simp
 have az:1<=n:=by rw [hn];exact Nat.mul_pos hw0 hh0
 have aG:n<=256:=by rw [hn];exact zL hw1 hh1
 rw [hl,<-hn] at af
 have hx:=getD_ok hs 0
 obtain ⟨x,ag⟩:=zX (l.getD 0 0)
 have ak:tileBits 0 l W H d=bitsOf 0 3++bitsOf x.toNat d:=by rw [ag];rfl
 rw [<-ag] at af hx
 have ap:(tileBits 0 l W H d).length=3+d:=by rw [ak,zC,bitsOf_len,bitsOf_len]
 rw [ap]
 rw [ak] at ha
 obtain ⟨X,hX⟩:∃ X:Nat,X=x.toNat:=⟨_,rfl⟩
 have ac:x=(X:Int):=by omega
 rw [<-hX] at ha
 have ai:X<2^d:=by
  have e:(2:Int)^d=((2^d:Nat):Int):=by simp
  have:=hx.2
  rw [e,ac] at this
  omega
 have aF:X<65536:=Nat.lt_of_lt_of_le ai (show 2^d<=2^16 from Nat.pow_le_pow_right (by decide) h1)
 have al:=ha.right
 rw [bitsOf_len] at al
 have aw:=rget_ahead w b F ds p 3 0 h (by omega) (by decide) ha.left
 have aq:=fun w' (hr:IsRd w' b F ds (p+3))=>rget_ahead w' b F ds (p+3) d X hr (by omega) ai al
 have ae:=fun w' ad cap (hc:w'.cell? ad=some (.int .i64 X)) hb=>repeat_ok w' ad cap n (X:Int) az (by omega) hc hb
 rw [<-ac] at ae
 rw [<-af] at ae
 have aA:=hid aq
 have ax:=hid ae
 have ay:=hid ac
 unfold GetPost
 clear hn ak ap hX ai ha al hs hm hl af ag aq ae ac hx
 go_enter Tryz.func135,Tryz.ntmps135
 go_wp2_with (go_at_call 109;refine aB.mono ?_;rintro e w' ⟨rfl,rfl⟩)
 refine aw.mono ?_
 rintro e w1 ⟨rfl,an,av⟩
 go_wp2_with (go_at_call 69;refine (err_ok _ b F ds _ an).mono ?_;rintro e w' ⟨rfl,rfl⟩)
 refine (aA.out _ an).mono ?_
 rintro e w2 ⟨rfl,aE,ar⟩
 have aa:=Blk.new w2 3 #[.int .i64 X]
 have ao:(w2.alloc (Obj.cells #[.int .i64 X] 3)).cell? ⟨w2.heap.size,0,none⟩=some (.int .i64 x):=by rw [aa.cell,ay.out];rfl
 have ah:Chg [] w2 (w2.alloc (Obj.cells #[.int .i64 X] 3)):=(zR [] w2).alloc _
 go_wp2_with fail
 refine (ax.out _ _ _ ao aa.lt).mono ?_
 rintro e w4 ⟨v,g,rfl,aj,aC,hg⟩
 have ab:=ah.trans_same aC
 have au:=aE.same ab
 have am:=av.trans_same (ar.trans ab (by simp))
 have aD:w.heap.size<=g:=by have:=av.size;have:=ar.size;have:=ah.size;omega
 clear aa ao ah
 go_wp2_with (go_at_call 69;refine (err_ok _ b F ds _ au).mono ?_;rintro e w' ⟨rfl,rfl⟩)
 go_ret2
 exact ⟨v,[g],rfl,aj.toOwn,au.cast (by omega),am,by simpa using aD⟩
end
theorem sq_elem:Elem Tryz.prog 91 86 (.agg #[.int .i64 0,.int .i64 0,.int .i64 0,.int .i64 0]) 4 32:=.mk' Tryz.underlying91 (by kernel_rfl)
def SqOwn (w:World) (v:Value) (F:List Nat) (l:List Sq):Prop:=OwnK w 86 4 v F l.length (l.flatMap sqCells)
theorem SqOwn.snoc {w:World} {g cap n:Nat} {l:List Sq} {q:Sq} {xs:List Value} (h:OwnK w 86 4 (.slice (some ⟨g,0,none⟩) (n+1) cap) [g] (n+1) (l.flatMap sqCells++xs)) (hn:n=l.length) (hx:xs=sqCells q) :
  SqOwn w (.slice (some ⟨g,0,none⟩) (n+1) cap) [g] (l++[q]):=by
 unfold SqOwn
 rw [List.flatMap_append,zC,List.length_singleton,<-hn]
 rw [hx] at h
 simpa using h
theorem tgrid_ok (W H S:Nat) (w:World) (hw0:1<=W) (hw1:W<=64) (hh0:1<=H) (hh1:H<=64) (hs0:1<=S) (hs1:S<=64) :
  Calls Tryz.prog 46 #[.int .i64 W,.int .i64 H,.int .i64 S] w fun e w'=>∃ v F,e=.returned v/\SqOwn w' v F (gridL W H S)/\Chg [] w w'/\∀ x∈F,w.heap.size<=x:=by
 have ax:=grid_len W H S
 have aH:H*W<=64*64:=zL hh1 hw1
 obtain ⟨G,hG⟩:=zX (gridL W H S)
 have ae:(pieces S H H 0).flatMap (gridRow W S)=G:=hG.symm
 rw [<-hG] at ax ⊢
 have aR:G.length<=4096:=by omega
 have aE:=hid ae
 clear ae hG ax aH
 have t1:decide ((W:Int)<1)=false:=zA (by omega)
 have t2:decide ((64:Int)<(W:Int))=false:=zA (by omega)
 have t3:decide ((H:Int)<1)=false:=zA (by omega)
 have t4:decide ((64:Int)<(H:Int))=false:=zA (by omega)
 have t5:decide ((S:Int)<1)=false:=zA (by omega)
 have t6:decide ((64:Int)<(S:Int))=false:=zA (by omega)
 go_enter Tryz.func46,Tryz.ntmps46
 go_wp2_with fail
 go_loopg [7,8,9] H (fun j vl vy vx wr=>∃ (y:Nat) (done:List Sq) (F:List Nat),vy=.int .i64 y/\H<=y+j/\y<=128/\Hid (done++(pieces S H j y).flatMap (gridRow W S)=G)/\SqOwn wr vl F done/\Hid (Chg [] w wr)/\Hid (∀ x∈F,w.heap.size<=x))
 case atStart=>exact ⟨0,[],[],rfl,by omega,by omega,hid aE.out,OwnK.nil _ _ _,hid (zR _ _),hid (by simp)⟩
 case round =>
  obtain ⟨y,done,F,rfl,aQ,av,HD,aa,HC,HF⟩:=hrel
  by_cases hyH:H<=y
  ·have t5:decide (y<H)=false:=zA (by omega)
   have ak:done=G:=by
    have:=HD.out
    rw [pieces_end _ hyH] at this
    simpa using this
   obtain ⟨A,ar,rfl⟩:=OwnK.shape aa
   have aF:=hid ak
   clear ak
   go_wp2
   go_ret
   exact ⟨_,F,rfl,by rw [<-aF.out];exact aa,HC.out,HF.out⟩
  ·rcases gk with _ | j
   ·exfalso;omega
   have t5:decide (y<H)=true:=zB (by omega)
   obtain ⟨hh,an⟩:=zX (min S (H-y))
   have ac:=grid_rest (w:=W) (s:=S) (f:=j) (show y<H by omega)
   rw [<-an] at ac
   obtain ⟨R2,aq⟩:=zX ((pieces S H j (y+S)).flatMap (gridRow W S))
   rw [<-aq] at ac
   have ai:Hid (done++(rowRest W S W 0 (y,hh)++R2)=G):=hid (by
    have:=HD.out
    rw [ac] at this
    exact this)
   have aD:=hid aq
   obtain ⟨b,hb⟩:∃ b:Nat,b=H-y:=⟨_,rfl⟩
   have eb:(H:Int)-(y:Int)=(b:Int):=by omega
   have az:hh=min S b:=by rw [an,hb]
   have aN:=hid an
   have aB:=hid az
   clear ac aq HD an hb az
   go_wp2_with fail
   obtain ⟨wo,aO⟩:=zX (wr)
   go_loopg [7,9] W (fun j2 vl vx wr=>∃ (x:Nat) (done:List Sq) (F:List Nat),vx=.int .i64 x/\W<=x+j2/\x<=128/\Hid (done++(rowRest W S j2 x (y,hh)++R2)=G)/\SqOwn wr vl F done/\Hid (Chg [] w wr)/\Hid (∀ x∈F,w.heap.size<=x))
   case atStart=>exact ⟨0,done,F,rfl,by omega,by omega,ai,aa,HC,HF⟩
   case round =>
    clear aa HC HF ai
    obtain ⟨x,done,F,rfl,aL,au,HD,aa,HC,HF⟩:=hrel
    by_cases hxW:W<=x
    ·have t6:decide (x<W)=false:=zA (by omega)
     have al:Hid (done++R2=G):=hid (by
      have:=HD.out
      rw [rowRest_end _ _ hxW,List.nil_append] at this
      exact this)
     clear HD
     obtain ⟨A,ar,rfl⟩:=OwnK.shape aa
     go_wp2_with fail
     go_roundg j
     case measure=>omega
     case rel=>exact ⟨y+S,done,F,by go_num,by omega,by omega,hid (by rw [<-aD.out];exact al.out),aa,HC,HF⟩
    ·rcases gk with _ | j2
     ·exfalso;omega
     have t6:decide (x<W)=true:=zB (by omega)
     obtain ⟨a,ha⟩:∃ a:Nat,a=W-x:=⟨_,rfl⟩
     have ea:(W:Int)-(x:Int)=(a:Int):=by omega
     obtain ⟨m1,ay⟩:∃ m:Nat,m=min S a:=⟨_,rfl⟩
     have aM:min (S:Int) (a:Int)=(m1:Int):=by omega
     have aP:min (S:Int) (b:Int)=(hh:Int):=by have:=aB.out;omega
     have aj:Hid (done++[⟨x,y,m1,hh⟩]++(rowRest W S j2 (x+S) (y,hh)++R2)=G):=hid (by
      have:=HD.out
      rw [rowRest_step j2 (y,hh) (show x<W by omega)] at this
      rw [zH,ay,ha]
      exact this)
     have ap:done.length<4096:=by
      have:=congrArg List.length HD.out
      rw [rowRest_step j2 (y,hh) (show x<W by omega),zC,zC,zK] at this
      omega
     obtain ⟨dn,ao⟩:=zX (done.length)
     have ab:=aa
     unfold SqOwn at ab
     rw [<-ao] at ab
     rw [<-ao] at ap
     have aK:=hid ao
     have ad:=Blk.new wr 86 #[.int .i64 x,.int .i64 y,.int .i64 m1,.int .i64 hh]
     have ag:=ab.same ((zR [] wr).alloc (.cells #[.int .i64 x,.int .i64 y,.int .i64 m1,.int .i64 hh] 86))
     obtain ⟨A,ar,rfl⟩:=OwnK.shape ab
     clear ay ha ao HD aa ab
     go_wp2_with (at_builtin;refine wpList_append_k1 rfl rfl sq_elem rfl (by decide) rfl ag [.int .i64 x,.int .i64 y,.int .i64 m1,.int .i64 hh] rfl rfl ?c1 ?c2 ?c3 ?c4 ?_)
     case c1 =>
      intro q u hq
      match q,hq with
      | 0,hq=>rw [<-hq];exact ad.cell 0
      | 1,hq=>rw [<-hq];exact ad.cell 1
      | 2,hq=>rw [<-hq];exact ad.cell 2
      | 3,hq=>rw [<-hq];exact ad.cell 3
      | q+4,hq=>simp at hq
     case c2=>intro u hu;simp at hu;rcases hu with rfl | rfl | rfl | rfl<;>rfl
     case c3=>omega
     case c4=>omega
     intro g' aG w3 af ah
     have am:Chg [] w w3:=(HC.out.alloc _).trans ah.chg (fun z hz => .inr (HF.out _ hz))
     have aw:∀ z∈[g'],w.heap.size<=z:=fun z hz=>by
      rcases ah.new z hz with h | h
      ·exact HF.out _ h
      ·have h8:(wr.alloc (.cells #[.int .i64 x,.int .i64 y,.int .i64 m1,.int .i64 hh] 86)).heap.size=wr.heap.size+1:=by simp
       have h9:=HC.out.size
       omega
     have aA:=SqOwn.snoc (q:=⟨x,y,m1,hh⟩) af aK.out rfl
     have aI:=hid aA
     have aC:=hid am
     have aJ:=hid aw
     clear ad ag af ah am aw aA
     go_wp2_with fail
     go_roundg j2
     case measure=>omega
     case rel=>exact ⟨x+S,done++[⟨x,y,m1,hh⟩],[g'],by go_num,by omega,by omega,aj,aI.out,aC,aJ⟩
end Go.Proofs.YtepjepkgcdfboaaGreatDoor
