/- Lemmas. -/
import Derived.Test.YtnepiccbpokmiaaGreatDoorMg14
import Derived.Test.YtnepiccbpokmiaaGreatDoorMg42
set_option linter.all false
set_option maxHeartbeats 4000000
set_option maxRecDepth 100000
namespace Go.Proofs.YtnepiccbpokmiaaGreatDoor
open Tryz List Nat Go.RowKit
theorem Fq:jA prog 45 49 (.agg #[(0:Int),(0:Int),(0:Int),(0:Int)]) 4 32:=.mk' underlying45 (by kernel_rfl)
def mE(w:World)(v:Value)(F:List Nat)(l:List Sq):Prop:=ic w 49 4 v F l.length (l.flatMap nE)
theorem mE.snoc{w:World}{g cap n:Nat}{l:List Sq}{q:Sq}{a:List Value}(h:ic w 49 4 (.slice g (n+1) cap) [g] (n+1) (l.flatMap nE++a))(b:n=l.length)(c:a=nE q):mE w (.slice g (n+1) cap) [g] (l++[q]):=by
 unfold mE;rw[flatMap_append,zC,length_singleton,<-b];rw[c]at h
 simpa using h
theorem Nm(W H S:Nat)(w:World)(hw0:1<=W)(B:W<=64)(hh0:1<=H)(t:H<=64)(hs0:1<=S)(hs1:S<=64):Calls prog 61 #[W,H,S] w λe Z=>∃v F,e=.returned v/\mE Z v F (gZ W H S)/\gf [] w Z/\∀x∈F,w.heap.size<=x:=by
 have N:=yu W H S;have aK:H*W<=64*64:=zL t B;have⟨G,hG⟩:=zX (gZ W H S);have C:(j5 S H H 0).flatMap (ml W S)=G:=hG.symm;rw[<-hG]at N⊢;have aN:G.length<=4096:=by omega
 have aI:=gd C;clear C hG N aK;have t1:=gL W 1 (by omega);have t2:=gL 64 W (by omega);have t3:=gL H 1 (by omega);have t4:=gL 64 H (by omega);have X:=gL S 1 (by omega);have Y:=gL 64 S (by omega);go_enter func61,ntmps61;go_wp2_with fail
 go_loopg [7,8,9] H (λj vl vy vx wr=>∃(y:Nat) (done:List Sq) (F:List Nat),vy=.int .i64 y/\H<=y+j/\y<=128/\gh (done++(j5 S H j y).flatMap (ml W S)=G)/\mE wr vl F done/\gh (gf [] w wr)/\gh (∀x∈F,w.heap.size<=x))
 .exact⟨0,[],[],rfl,by omega,by omega,gd aI.o,ic.nil _ _ _,gd (zR _ _),gd (by simp)⟩
 obtain⟨y,done,F,rfl,aQ,aA,d,g,k,l⟩:=hrel;by_cases hyH:H<=y
 .have X:decide (y<H)=false:=zA (by omega)
  have J:done=G:=by
   have:=d.o
   rw[qm _ hyH]at this
   simpa using this
  obtain⟨A,L,rfl⟩:=ic.shape g;have aE:=gd J;clear J;go_wp2;go_ret;exact⟨_,F,rfl,by rw[<-aE.o];exact g,k.o,l.o⟩
 .rcases gk with _|j
  .exfalso;omega
  have X:decide (y<H)=true:=zB (by omega);have⟨hh,ap⟩:=zX (min S (H-y));have p:=CW (w:=W) (s:=S) (f:=j) (show y<H by omega);rw[<-ap]at p;have⟨R2,ao⟩:=zX ((j5 S H j (y+S)).flatMap (ml W S));rw[<-ao]at p;have K:gh (done++(nT W S W 0 (y,hh)++R2)=G):=gd (by
   have:=d.o
   rw[p]at this;exact this)
  have aG:=gd ao;obtain⟨b,U⟩:∃b:Nat,b=H-y:=⟨_,rfl⟩;have eb:(H:Int)-(y:Int)=(b:Int):=by omega
  have P:hh=min S b:=by rw[ap,U]
  have aF:=gd P;clear p ao d ap U P;go_wp2_with fail;have⟨wo,aO⟩:=zX wr
  go_loopg [7,9] W (λn vl vx wr=>∃(x:Nat) (done:List Sq) (F:List Nat),vx=.int .i64 x/\W<=x+n/\x<=128/\gh (done++(nT W S n x (y,hh)++R2)=G)/\mE wr vl F done/\gh (gf [] w wr)/\gh (∀x∈F,w.heap.size<=x))
  .exact⟨0,done,F,rfl,by omega,by omega,K,g,k,l⟩
  clear g k l K;obtain⟨x,done,F,rfl,aP,az,d,g,k,l⟩:=hrel;by_cases hxW:W<=x
  .have Y:decide (x<W)=false:=zA (by omega)
   have ak:gh (done++R2=G):=gd (by
    have:=d.o
    rw[BK _ _ hxW,nil_append]at this;exact this)
   clear d;obtain⟨A,L,rfl⟩:=ic.shape g;go_wp2_with fail
   go_roundg j
   .exact⟨y+S,done,F,by go_num,by omega,by omega,gd (by rw[<-aG.o];exact ak.o),g,k,l⟩
   .omega
  .rcases gk with _|n
   .exfalso;omega
   have Y:decide (x<W)=true:=zB (by omega);obtain⟨a,T⟩:∃a:Nat,a=W-x:=⟨_,rfl⟩;have ea:(W:Int)-(x:Int)=(a:Int):=(by omega);obtain⟨i,O⟩:∃m:Nat,m=min S a:=⟨_,rfl⟩;have aL:min (S:Int) (a:Int)=(i:Int):=(by omega);have aM:min (S:Int) (b:Int)=(hh:Int):=(by have:=aF.o;omega);have am:gh (done++[⟨x,y,i,hh⟩]++(nT W S n (x+S) (y,hh)++R2)=G):=gd (by
    have:=d.o
    rw[tT n (y,hh) (show x<W by omega)]at this;rw[zH,O,T];exact this)
   have aq:done.length<4096:=by
    have:=congrArg length d.o
    rw[tT n (y,hh) (show x<W by omega),zC,zC,zK]at this;omega
   have⟨dn,an⟩:=zX done.length;have o:=g;unfold mE at o;rw[<-an]at o;rw[<-an]at aq;have aC:=gd an;have ad:=gn.new wr 49 #[x,y,i,hh];have D:=o.Y ((zR [] wr).alloc (.cells #[x,y,i,hh] 49));obtain⟨A,L,rfl⟩:=ic.shape o;clear O T an d g o
   go_wp2_with(at_builtin;refine ou rfl rfl Fq rfl (by decide) rfl D [.int .i64 x,.int .i64 y,.int .i64 i,.int .i64 hh] rfl rfl ?c1 ?c2 ?c3 ?c4 ?_)
   case c1=>
    intro q u c
    match q,c with
    | 0,c=>rw[<-c];exact ad.X 0
    | 1,c=>rw[<-c];exact ad.X 1
    | 2,c=>rw[<-c];exact ad.X 2
    | 3,c=>rw[<-c];exact ad.X 3
    | q+4,c=>simp at c
   case c2=>intro u V;simp at V;rcases V with rfl|rfl|rfl|rfl<;>rfl
   case c3=>omega
   case c4=>omega
   intro R aJ w3 E r;have I:gf [] w w3:=(k.o.alloc _).trans r.Z (λz hz=>.inr (l.o _ hz));have M:∀z∈[R],w.heap.size<=z:=λz hz=>by
    rcases r.new z hz with h|h
    .exact l.o _ h
    .have h8:(wr.alloc (.cells #[x,y,i,hh] 49)).heap.size=wr.heap.size+1:=by simp
     have h9:=k.o.size;omega
   have Q:=mE.snoc (q:=⟨x,y,i,hh⟩) E aC.o rfl;have⟨aH,aB,aD⟩:=gS Q I M;clear ad D E r I M Q;go_wp2_with fail
   go_roundg n
   .exact⟨x+S,done++[⟨x,y,i,hh⟩],[R],by go_num,by omega,by omega,am,aH.o,aB,aD⟩
   .omega
theorem Nb(W H S:Nat)(w:World)(hw0:1<=W)(C:W<=64)(hh0:1<=H)(B:H<=64)(hs0:1<=S)(hs1:S<=64):Calls prog 50 #[W,H,S] w λe Y=>∃v F,e=.returned v/\mE Y v F (gZ W H S)/\gf [] w Y/\∀x∈F,w.heap.size<=x:=by
 have O:=yu W H S;have aK:H*W<=64*64:=zL B C;have⟨G,hG⟩:=zX (gZ W H S);have D:(j5 S H H 0).flatMap (ml W S)=G:=hG.symm;rw[<-hG]at O⊢;have aO:G.length<=4096:=by omega
 have aI:=gd D;clear D hG O aK;have aL:=λc (h0:1<=c) (h1:c<=64)=>qo c w h0 h1;go_enter func50,ntmps50
 go_wp2_with(go_at_call 85;refine gx (aL _ (by assumption) (by assumption)) ?_)
 go_loopg [7,8,9] H (λj vl vy vx wr=>∃(y:Nat) (done:List Sq) (F:List Nat),vy=.int .i64 y/\H<=y+j/\y<=128/\gh (done++(j5 S H j y).flatMap (ml W S)=G)/\mE wr vl F done/\gh (gf [] w wr)/\gh (∀x∈F,w.heap.size<=x))
 .exact⟨0,[],[],rfl,by omega,by omega,gd aI.o,ic.nil _ _ _,gd (zR _ _),gd (by simp)⟩
 obtain⟨y,done,F,rfl,aR,aA,g,i,l,n⟩:=hrel;by_cases hyH:H<=y
 .have t5:decide (y<H)=false:=zA (by omega)
  have K:done=G:=by
   have:=g.o
   rw[qm _ hyH]at this
   simpa using this
  obtain⟨A,M,rfl⟩:=ic.shape i;have aE:=gd K;clear K;go_wp2;go_ret;exact⟨_,F,rfl,by rw[<-aE.o];exact i,l.o,n.o⟩
 .rcases gk with _|j
  .exfalso;omega
  have t5:decide (y<H)=true:=zB (by omega);have⟨hh,ap⟩:=zX (min S (H-y));have r:=CW (w:=W) (s:=S) (f:=j) (show y<H by omega);rw[<-ap]at r;have⟨R2,ao⟩:=zX ((j5 S H j (y+S)).flatMap (ml W S));rw[<-ao]at r;have L:gh (done++(nT W S W 0 (y,hh)++R2)=G):=gd (by
   have:=g.o
   rw[r]at this;exact this)
  have aG:=gd ao;obtain⟨b,V⟩:∃b:Nat,b=H-y:=⟨_,rfl⟩;have eb:(H:Int)-(y:Int)=(b:Int):=by omega
  have Q:hh=min S b:=by rw[ap,V]
  have aF:=gd Q;clear r ao g ap V Q;go_wp2_with fail;have⟨wo,aP⟩:=zX wr
  go_loopg [7,9] W (λo vl vx wr=>∃(x:Nat) (done:List Sq) (F:List Nat),vx=.int .i64 x/\W<=x+o/\x<=128/\gh (done++(nT W S o x (y,hh)++R2)=G)/\mE wr vl F done/\gh (gf [] w wr)/\gh (∀x∈F,w.heap.size<=x))
  .exact⟨0,done,F,rfl,by omega,by omega,L,i,l,n⟩
  clear i l n L;obtain⟨x,done,F,rfl,aQ,az,g,i,l,n⟩:=hrel;by_cases hxW:W<=x
  .have t6:decide (x<W)=false:=zA (by omega)
   have ak:gh (done++R2=G):=gd (by
    have:=g.o
    rw[BK _ _ hxW,nil_append]at this;exact this)
   clear g;obtain⟨A,M,rfl⟩:=ic.shape i;go_wp2_with fail
   go_roundg j
   .exact⟨y+S,done,F,by go_num,by omega,by omega,gd (by rw[<-aG.o];exact ak.o),i,l,n⟩
   .omega
  .rcases gk with _|o
   .exfalso;omega
   have t6:decide (x<W)=true:=zB (by omega);obtain⟨a,U⟩:∃a:Nat,a=W-x:=⟨_,rfl⟩;have ea:(W:Int)-(x:Int)=(a:Int):=(by omega);obtain⟨k,P⟩:∃m:Nat,m=min S a:=⟨_,rfl⟩;have aM:min (S:Int) (a:Int)=(k:Int):=(by omega);have aN:min (S:Int) (b:Int)=(hh:Int):=(by have:=aF.o;omega);have am:gh (done++[⟨x,y,k,hh⟩]++(nT W S o (x+S) (y,hh)++R2)=G):=gd (by
    have:=g.o
    rw[tT o (y,hh) (show x<W by omega)]at this;rw[zH,P,U];exact this)
   have aq:done.length<4096:=by
    have:=congrArg length g.o
    rw[tT o (y,hh) (show x<W by omega),zC,zC,zK]at this;omega
   have⟨dn,an⟩:=zX done.length;have p:=i;unfold mE at p;rw[<-an]at p;rw[<-an]at aq;have Z:=gd an;have ad:=gn.new wr 49 #[x,y,k,hh];have E:=p.Y ((zR [] wr).alloc (.cells #[x,y,k,hh] 49));obtain⟨A,M,rfl⟩:=ic.shape p;clear P U an g i p
   go_wp2_with(at_builtin;refine ou rfl rfl Fq rfl (by decide) rfl E [.int .i64 x,.int .i64 y,.int .i64 k,.int .i64 hh] rfl rfl ?c1 ?c2 ?c3 ?c4 ?_)
   case c1=>
    intro q u d
    match q,d with
    | 0,d=>rw[<-d];exact ad.X 0
    | 1,d=>rw[<-d];exact ad.X 1
    | 2,d=>rw[<-d];exact ad.X 2
    | 3,d=>rw[<-d];exact ad.X 3
    | q+4,d=>simp at d
   case c2=>intro u X;simp at X;rcases X with rfl|rfl|rfl|rfl<;>rfl
   case c3=>omega
   case c4=>omega
   intro T aJ w3 I t;have J:gf [] w w3:=(l.o.alloc _).trans t.Z (λz hz=>.inr (n.o _ hz));have N:∀z∈[T],w.heap.size<=z:=λz hz=>by
    rcases t.new z hz with h|h
    .exact n.o _ h
    .have h8:(wr.alloc (.cells #[x,y,k,hh] 49)).heap.size=wr.heap.size+1:=by simp
     have h9:=l.o.size;omega
   have R:=mE.snoc (q:=⟨x,y,k,hh⟩) I Z.o rfl;have⟨aH,aB,aD⟩:=gS R J N;clear ad E I t J N R;go_wp2_with fail
   go_roundg o
   .exact⟨x+S,done++[⟨x,y,k,hh⟩],[T],by go_num,by omega,by omega,am,aH.o,aB,aD⟩
   .omega
end Go.Proofs.YtnepiccbpokmiaaGreatDoor
