/- Lemmas. -/
import Derived.Test.YtifdlkoepaepiaaGreatDoorMg30
import Derived.Test.YtifdlkoepaepiaaGreatDoorMg38
set_option linter.all false
set_option maxHeartbeats 4000000
set_option maxRecDepth 100000
namespace Go.Proofs.YtifdlkoepaepiaaGreatDoor
open Tryz List Nat Go.RowKit
def lE (w:World) (b:Nat) (F ds:List Nat) (p:Nat) (l:List Int) (n:Nat) (e:Ending) (w':World):Prop :=
 ∃v G,e=.returned (.tuple #[v,(0:Int)])/\gK w' 3 v G (l.map vi)/\gM w' b F ds (p+n)/\gg [b] w w'/\∀x∈G,w.heap.size<=x
theorem NG{l:List Int}{W d:Nat}(e:iE 0 l W d=true):l=replicate l.length (l.getD 0 0):=by
 unfold iE at e;rw[if_pos rfl]at e;have h1:(iA l).length=1:=by simpa using e
 obtain⟨a,g⟩:=List.length_eq_one_iff.1 h1;have f:∀x∈l,x=a:=λx hx=>by
  have:=(sP l x).2 hx
  rw[g]at this
  simpa using this
 have c:l.getD 0 0=a\/l=[]:=by
  cases l with
  | nil=>exact .inr rfl
  | cons y l=>left;exact f y (by simp)
 rcases c with c|c
 .rw[c];exact eq_replicate_of_mem f
 .subst c;rfl
section
variable {w:World} {b:Nat} {F ds:List Nat} {p:Nat} {l:List Int} {W H d:Nat} (h:gM w b F ds p) (hw0:1<=W) (hw1:W<=16) (hh0:1<=H) (hh1:H<=16) (h0:1<=d) (h1:d<=16) (hl:l.length=W*H) (hs:ie d l)
include h hw0 hw1 hh0 hh1 h0 h1 hl hs
theorem Nk(G:iE 0 l W d=true)(c:ig ds p (ik 0 l W H d)):Calls prog 94 #[.pointer b,W,H,d] w (lE w b F ds p l (ik 0 l W H d).length):=by
 have M:=qv W H d w hw0 hw1 hh0 hh1 h0 h1;have f:=NG G;have⟨n,hn⟩:=zX (W*H);have S:(W:Int)*(H:Int)=(n:Int):=by rw[hn];simp
 have K:1<=n:=by rw[hn];exact Nat.mul_pos hw0 hh0
 have R:n<=256:=by rw[hn];exact zL hw1 hh1
 rw[hl,<-hn]at f;have s:=mZ hs 0;have⟨x,am⟩:=zX (l.getD 0 0);have r:ik 0 l W H d=gx 0 3++gx x.toNat d:=by rw[am];rfl
 rw[<-am]at f s;have D:(ik 0 l W H d).length=3+d:=by rw[r,zC,gH,gH]
 rw[D];rw[r]at c;obtain⟨X,E⟩:∃X:Nat,X=x.toNat:=⟨_,rfl⟩;have j:x=(X:Int):=by omega
 rw[<-E]at c;have o:X<2^d:=by
  have e:(2:Int)^d=((2^d:Nat):Int):=by simp
  have:=s.2
  rw[e,j]at this;omega
 have Q:X<65536:=Nat.lt_of_lt_of_le o (show 2^d<=2^16 from Nat.pow_le_pow_right (by decide) h1);have q:=c.right;rw[gH]at q;have I:=iU w b F ds p 3 0 h (by omega) (by decide) c.left;have A:=λw' (hr:gM w' b F ds (p+3))=>iU w' b F ds (p+3) d X hr (by omega) o q;have i:=λw' ad cap (hc:w'.cell? ad=some (.int .i64 X)) hb=>M6 w' ad cap n (X:Int) K (by omega) hc hb;rw[<-j]at i;rw[<-f]at i;have⟨aw,ax,ay⟩:=gX A i j;unfold lE;clear hn r D E o c q hs G hl f am A i j s;go_enter func94,ntmps94
 go_wp2_with(go_at_call 110;refine gB M ?_)
 refine I.mono ?_;rintro e U ⟨rfl,B,u⟩
 go_wp2_with(go_at_call 60;refine gB (iS _ b F ds _ B) ?_)
 refine(aw.o _ B).mono ?_;rintro e a ⟨rfl,L,y⟩;have k:=gn.new a 3 #[X];have z:(a.alloc (Obj.cells #[X] 3)).cell? ⟨a.heap.size,0,none⟩=some (.int .i64 x):=by rw[k.X,ay.o];rfl
 have m:gg [] a (a.alloc (Obj.cells #[X] 3)):=(zR [] a).alloc _;go_wp2_with fail;refine(ax.o _ _ _ z k.lt).mono ?_;rintro e V ⟨v,g,rfl,O,P,T⟩;have t:=m.tq P;have C:=L.Y t;have N:=u.tq (y.trans t (by simp));have J:w.heap.size<=g:=by have:=u.size;have:=y.size;have:=m.size;omega
 clear k z m
 go_wp2_with(go_at_call 60;refine gB (iS _ b F ds _ C) ?_)
 go_ret2
 exact⟨v,[g],rfl,O.R,C.cast (by omega),N,by simpa using J⟩
end
theorem Po:jx prog 71 73 (.agg #[(0:Int),(0:Int),(0:Int),(0:Int)]) 4 32:=.mk' underlying71 (by kernel_rfl)
def ph (w:World) (v:Value) (F:List Nat) (l:List Sq):Prop:=jy w 73 4 v F l.length (l.flatMap oC)
theorem ph.snoc{w:World}{g a n:Nat}{l:List Sq}{q:Sq}{c:List Value}(h:jy w 73 4 (.slice g (n+1) a) [g] (n+1) (l.flatMap oC++c))(e:n=l.length)(f:c=oC q):ph w (.slice g (n+1) a) [g] (l++[q]):=by
 unfold ph;rw[flatMap_append,zC,length_singleton,<-e];rw[f]at h
 simpa using h
theorem By(W H S:Nat)(w:World)(hw0:1<=W)(hw1:W<=64)(hh0:1<=H)(hh1:H<=64)(hs0:1<=S)(hs1:S<=64):Calls prog 49 #[W,H,S] w λe w'=>∃v F,e=.returned v/\ph w' v F (iM W H S)/\gg [] w w'/\∀x∈F,w.heap.size<=x:=by
 have O:=Bx W H S;have aK:H*W<=64*64:=zL hh1 hw1;have⟨G,hG⟩:=zX (iM W H S);have D:(kR S H H 0).flatMap (nQ W S)=G:=hG.symm;rw[<-hG]at O⊢;have aN:G.length<=4096:=by omega
 have aI:=gd D;clear D hG O aK;have t1:=gY W 1 (by omega);have t2:=gY 64 W (by omega);have t3:=gY H 1 (by omega);have t4:=gY 64 H (by omega);have Y:=gY S 1 (by omega);have Z:=gY 64 S (by omega);go_enter func49,ntmps49;go_wp2_with fail
 go_loopg [7,8,9] H (λj vl vy vx wr=>∃(y:Nat) (done:List Sq) (F:List Nat),vy=.int .i64 y/\H<=y+j/\y<=128/\gh (done++(kR S H j y).flatMap (nQ W S)=G)/\ph wr vl F done/\gh (gg [] w wr)/\gh (∀x∈F,w.heap.size<=x))
 .exact⟨0,[],[],rfl,by omega,by omega,gd aI.o,jy.nil _ _ _,gd (zR _ _),gd (by simp)⟩
 obtain⟨y,done,F,rfl,aQ,aA,g,i,n,o⟩:=hrel;by_cases hyH:H<=y
 .have Y:decide (y<H)=false:=zA (by omega)
  have K:done=G:=by
   have:=g.o
   rw[uu _ hyH]at this
   simpa using this
  obtain⟨A,M,rfl⟩:=jy.shape i;have aE:=gd K;clear K;go_wp2;go_ret;exact⟨_,F,rfl,by rw[<-aE.o];exact i,n.o,o.o⟩
 .rcases gk with _|j
  .exfalso;omega
  have Y:decide (y<H)=true:=zB (by omega);have⟨hh,ap⟩:=zX (min S (H-y));have B:=Ms (w:=W) (s:=S) (f:=j) (show y<H by omega);rw[<-ap]at B;have⟨R2,ao⟩:=zX ((kR S H j (y+S)).flatMap (nQ W S));rw[<-ao]at B;have L:gh (done++(rh W S W 0 (y,hh)++R2)=G):=gd (by
   have:=g.o
   rw[B]at this;exact this)
  have aG:=gd ao;obtain⟨b,V⟩:∃b:Nat,b=H-y:=⟨_,rfl⟩;have eb:(H:Int)-(y:Int)=(b:Int):=by omega
  have Q:hh=min S b:=by rw[ap,V]
  have aF:=gd Q;clear B ao g ap V Q;go_wp2_with fail;have⟨wo,aO⟩:=zX wr
  go_loopg [7,9] W (λr vl vx wr=>∃(x:Nat) (done:List Sq) (F:List Nat),vx=.int .i64 x/\W<=x+r/\x<=128/\gh (done++(rh W S r x (y,hh)++R2)=G)/\ph wr vl F done/\gh (gg [] w wr)/\gh (∀x∈F,w.heap.size<=x))
  .exact⟨0,done,F,rfl,by omega,by omega,L,i,n,o⟩
  clear i n o L;obtain⟨x,done,F,rfl,aP,az,g,i,n,o⟩:=hrel;by_cases hxW:W<=x
  .have Z:decide (x<W)=false:=zA (by omega)
   have ak:gh (done++R2=G):=gd (by
    have:=g.o
    rw[KI _ _ hxW,nil_append]at this;exact this)
   clear g;obtain⟨A,M,rfl⟩:=jy.shape i;go_wp2_with fail
   go_roundg j
   .exact⟨y+S,done,F,by go_num,by omega,by omega,gd (by rw[<-aG.o];exact ak.o),i,n,o⟩
   .omega
  .rcases gk with _|r
   .exfalso;omega
   have Z:decide (x<W)=true:=zB (by omega);obtain⟨a,U⟩:∃a:Nat,a=W-x:=⟨_,rfl⟩;have ea:(W:Int)-(x:Int)=(a:Int):=(by omega);obtain⟨k,P⟩:∃m:Nat,m=min S a:=⟨_,rfl⟩;have aL:min (S:Int) (a:Int)=(k:Int):=(by omega);have aM:min (S:Int) (b:Int)=(hh:Int):=(by have:=aF.o;omega);have am:gh (done++[⟨x,y,k,hh⟩]++(rh W S r (x+S) (y,hh)++R2)=G):=gd (by
    have:=g.o
    rw[CF r (y,hh) (show x<W by omega)]at this;rw[zH,P,U];exact this)
   have aq:done.length<4096:=by
    have:=congrArg length g.o
    rw[CF r (y,hh) (show x<W by omega),zC,zC,zK]at this;omega
   have⟨dn,an⟩:=zX done.length;have t:=i;unfold ph at t;rw[<-an]at t;rw[<-an]at aq;have aC:=gd an;have ad:=gn.new wr 73 #[x,y,k,hh];have E:=t.Y ((zR [] wr).alloc (.cells #[x,y,k,hh] 73));obtain⟨A,M,rfl⟩:=jy.shape t;clear P U an g i t
   go_wp2_with(at_builtin;refine vR rfl rfl Po rfl (by decide) rfl E [.int .i64 x,.int .i64 y,.int .i64 k,.int .i64 hh] rfl rfl ?c1 ?c2 ?c3 ?c4 ?_)
   case c1 =>
    intro q u c
    match q,c with
    | 0,c=>rw[<-c];exact ad.X 0
    | 1,c=>rw[<-c];exact ad.X 1
    | 2,c=>rw[<-c];exact ad.X 2
    | 3,c=>rw[<-c];exact ad.X 3
    | q+4,c=>simp at c
   case c2=>intro u X;simp at X;rcases X with rfl|rfl|rfl|rfl<;>rfl
   case c3=>omega
   case c4=>omega
   intro T aJ w3 I C;have J:gg [] w w3:=(n.o.alloc _).trans C.Z (λz hz => .inr (o.o _ hz));have N:∀z∈[T],w.heap.size<=z:=λz hz=>by
    rcases C.new z hz with h|h
    .exact o.o _ h
    .have h8:(wr.alloc (.cells #[x,y,k,hh] 73)).heap.size=wr.heap.size+1:=by simp
     have h9:=n.o.size;omega
   have R:=ph.snoc (q:=⟨x,y,k,hh⟩) I aC.o rfl;have⟨aH,aB,aD⟩:=gX R J N;clear ad E I C J N R;go_wp2_with fail
   go_roundg r
   .exact⟨x+S,done++[⟨x,y,k,hh⟩],[T],by go_num,by omega,by omega,am,aH.o,aB,aD⟩
   .omega
end Go.Proofs.YtifdlkoepaepiaaGreatDoor
