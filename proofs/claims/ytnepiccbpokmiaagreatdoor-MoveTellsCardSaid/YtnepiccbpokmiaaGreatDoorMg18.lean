/- Lemmas. -/
import Derived.Test.YtnepiccbpokmiaaGreatDoorMg16
set_option linter.all false
set_option maxHeartbeats 4000000
set_option maxRecDepth 100000
namespace Go.Proofs.YtnepiccbpokmiaaGreatDoor
open Tryz List Nat Go.RowKit
variable {ps:List (List Int)}{l:List Int}{ds ks:List Nat}{b cp d i k n q:Nat}{P:Program}{v:Value}
def lenOf(t:gK):Int:=la (t.len-3)
def lA(W:Nat)(t:gK):Int:=la (mt t.dist W-1)
def ia(T:List gK):List Int:=T.flatMap λt=>if t.isLit then[]else[lenOf t]
def iG(W:Nat)(T:List gK):List Int:=T.flatMap λt=>if t.isLit then[]else[lA W t]
def lz(k j W d:Nat)(t:gK):List Nat:=if t.isLit then gA 0 1++gA t.lit.toNat d else gA 1 1++jm k (lenOf t)++jm j (lA W t)
def qs(T:List gK)(W d:Nat):List Nat:=
 gA (jS (ia T)) 5++gA (jS (iG W T)) 5++T.flatMap (lz (jS (ia T)) (jS (iG W T)) W d)
def p6(d:Nat)(t:gK):Prop:=(t.isLit=true/\0<=t.lit/\t.lit<2^d)\/(t.isLit=false/\t.isCopy=true)
theorem p6.ok{t:gK}(h:p6 d t):t.ok:=by
 rcases h with h|h
 .exact .inl h.1
 .exact .inr h.2
theorem Be{u:Nat}(h:u<=1073741823):ib (la u):=by
 unfold ib la;split<;>omega
theorem xC{t:gK}(h:t.isCopy=true):ib (lenOf t):=by
 have:=gK.isCopy_iff.1 h
 exact Be (by omega)
theorem vY{t:gK}(W:Nat)(h:t.isCopy=true):ib (lA W t):=by
 have a:=gK.isCopy_iff.1 h;have e:=(yo (d:=t.dist) (W:=W) (by omega)).1;exact Be (by omega)
theorem At{T:List gK}(h:∀t∈T,p6 d t):∀x∈ia T,ib x:=λx hx=>by
 obtain⟨t,f,a⟩:=List.mem_flatMap.1 hx;rcases h t f with e|e
 .rw[if_pos e.1]at a;simp at a
 .rw[if_neg (by simp[e.1])]at a
  rw[zU.1 a];exact xC e.2
theorem Aj{W:Nat}{T:List gK}(h:∀t∈T,p6 d t):∀x∈iG W T,ib x:=λx hx=>by
 obtain⟨t,f,a⟩:=List.mem_flatMap.1 hx;rcases h t f with e|e
 .rw[if_pos e.1]at a;simp at a
 .rw[if_neg (by simp[e.1])]at a
  rw[zU.1 a];exact vY W e.2
theorem tQ(T:List gK):(ia T).length<=T.length:=by
 induction T with
 | nil=>exact zQ _
 | cons t T ih=>
  have e:ia (t::T)=(if t.isLit then[]else[lenOf t])++ia T:=rfl;rw[e,zC];split<;>simp<;>omega
theorem rZ(W:Nat)(T:List gK):(iG W T).length=(ia T).length:=by
 induction T with
 | nil=>rfl
 | cons t T ih=>
  have e:ia (t::T)=(if t.isLit then[]else[lenOf t])++ia T:=rfl;have a:iG W (t::T)=(if t.isLit then[]else[lA W t])++iG W T:=rfl;rw[e,a,zC,zC,ih];split<;>rfl
theorem tO(T:List gK)(t:gK):ia (T++[t])=ia T++(if t.isLit then[]else[lenOf t]):=by simp[ia]
theorem Ai(W:Nat)(T:List gK)(t:gK):iG W (T++[t])=iG W T++(if t.isLit then[]else[lA W t]):=by simp[iG]
theorem Bp(T:List gK){t:gK}(h:T[i]?=some t)(s:t.isLit=false):(ia T)[(ia (T.take i)).length]?=some (lenOf t):=by
 have hi:i<T.length:=(List.getElem?_eq_some_iff.1 h).1;have e:T=T.take i++t::T.drop (i+1):=by
  have r:=(List.getElem?_eq_some_iff.1 h).2;rw[<-r,<-drop_eq_getElem_cons hi,take_append_drop]
 have j:ia T=ia (T.take i)++(lenOf t::ia (T.drop (i+1))):=by
  have m:∀a b:List gK,ia (a++b)=ia a++ia b:=λa b=>by simp[ia]
  have f:ia (t::T.drop (i+1))=(if t.isLit then[]else[lenOf t])++ia (T.drop (i+1)):=rfl;rw[s]at f;rw[show ia T=ia (T.take i++t::T.drop (i+1))from congrArg ia e,m,f];rfl
 rw[j,zS (zQ _),Nat.sub_self];rfl
theorem AL(W:Nat)(T:List gK){t:gK}(h:T[i]?=some t)(s:t.isLit=false):(iG W T)[(ia (T.take i)).length]?=some (lA W t):=by
 have hi:i<T.length:=(List.getElem?_eq_some_iff.1 h).1;have e:T=T.take i++t::T.drop (i+1):=by
  have r:=(List.getElem?_eq_some_iff.1 h).2;rw[<-r,<-drop_eq_getElem_cons hi,take_append_drop]
 have j:iG W T=iG W (T.take i)++(lA W t::iG W (T.drop (i+1))):=by
  have m:∀a b:List gK,iG W (a++b)=iG W a++iG W b:=λa b=>by simp[iG]
  have f:iG W (t::T.drop (i+1))=(if t.isLit then[]else[lA W t])++iG W (T.drop (i+1)):=rfl;rw[s]at f;rw[show iG W T=iG W (T.take i++t::T.drop (i+1))from congrArg (iG W) e,m,f];rfl
 rw[j,<-rZ W,zS (zQ _),Nat.sub_self];rfl
theorem ug(d:Nat)(w:World)(a:1<=d)(f:d<=16):Calls prog 246 #[d] w λe w'=>e=.returned (.bool true)/\w=w':=by
 have h:=iI 1 d (by omega);have j:=iI d 16 (by omega);go_enter func246,ntmps246;go_wp2;go_ret;exact⟨rfl,rfl⟩
theorem x5(c:Nat)(w:World)(a:c<365):Calls prog 251 #[c] w λe w'=>e=.returned (.bool true)/\w=w':=by
 have f:=i6 c 365 (by omega);go_enter func251,ntmps251;go_wp2;go_ret;exact⟨rfl,rfl⟩
theorem rE(x:Int)(w:World)(h:jB x):Calls prog 252 #[x] w λe w'=>e=.returned (.int .i64 (gX x))/\w=w':=by
 obtain⟨m,r⟩:=h;by_cases hx:x<0
 .have j:decide (x<0)=true:=zB hx
  have a:gX x=-x:=by unfold gX;rw[if_pos hx]
  have f:=gd a;clear a;go_enter func252,ntmps252;go_wp2;go_ret;rw[f.o];exact⟨rfl,rfl⟩
 .have j:decide (x<0)=false:=zA hx
  have a:gX x=x:=by unfold gX;rw[if_neg hx]
  have f:=gd a;clear a;go_enter func252,ntmps252;go_wp2;go_ret;rw[f.o];exact⟨rfl,rfl⟩
theorem yE(g:Int)(d:Nat)(w:World)(C:1<=d)(D:d<=16)(I : -2^d<g)(J:g<2^d):Calls prog 319 #[g,d] w λe w'=>e=.returned (.int .i64 (iu g d))/\w=w':=by
 obtain⟨N,O⟩:=jl C D;have R:decide (g<=(-2^d:Int))=false:=zA (by omega);have S:decide ((2:Int)^d<=g)=false:=zA (by omega);have r:=ug d w C D;by_cases hz:g=0
 .have K:(g==0)=true:=by rw[beq_iff_eq];exact hz
  have s:iu g d=0:=by unfold iu;rw[if_pos hz]
  have x:=gd s;clear s hz;go_enter func319,ntmps319
  go_wp2_with(go_at_call 246;refine gx r ?_)
  go_ret;rw[x.o];exact⟨rfl,rfl⟩
 .have K:(g==0)=false:=by rw[beq_eq_false_iff_ne];exact hz
  have m:=rE g w (by unfold jB;omega);have y:0<=gX g/\gX g<=65536:=by unfold gX;split<;>omega
  have s:iu g d=if g<0 then -li (gX g*256 / 2^d)else li (gX g*256 / 2^d):=by unfold iu;rw[if_neg hz]
  have⟨a,ae⟩:=zX (gX g);rw[<-ae]at m y s;obtain⟨L,M⟩:=y;have⟨u,hu⟩:=zX (a*256 / 2^d);rw[<-hu]at s;have Q:a*256 / 2^d=u:=hu.symm;have⟨st,ad⟩:=zX (li u);have z:st=if u<3 then 1 else if u<7 then 2 else if u<21 then 3 else 4:=by rw[ad];rfl
  rw[<-ad]at s;have⟨x,HS⟩:=gy s z;clear s ad z hu ae;have A:∀k:Int,st=k->-4<=k->k<=4->gh (iu g d=if g<0 then -k else k):=λk hk _ _=>gd (by rw[x.o,hk]);have E:∀(h:g<0),decide (g<0)=true:=λh=>zB h;have H:∀(h:¬g<0),decide (g<0)=false:=λh=>zA h;have⟨ab,ac,aa⟩:=gS E H A;clear E H A x;by_cases u3:u<3
  .have c1:decide (u<3)=true:=zB u3
   have j:=HS.o;rw[if_pos u3]at j;have f:=aa.o 1 j (by omega) (by omega);clear j;by_cases hn:g<0
   .have t:=ab.o hn
    rw[if_pos hn]at f;go_enter func319,ntmps319
    go_wp2_with(first|(go_at_call 246;refine gx r ?_)|(go_at_call 252;refine gx m ?_))
    go_ret;rw[f.o];exact⟨rfl,rfl⟩
   .have t:=ac.o hn
    rw[if_neg hn]at f;go_enter func319,ntmps319
    go_wp2_with(first|(go_at_call 246;refine gx r ?_)|(go_at_call 252;refine gx m ?_))
    go_ret;rw[f.o];exact⟨rfl,rfl⟩
  .have c1:decide (u<3)=false:=zA u3
   by_cases u7:u<7
   .have c2:decide (u<7)=true:=zB u7
    have j:=HS.o;rw[if_neg u3,if_pos u7]at j;have f:=aa.o 2 j (by omega) (by omega);clear j;by_cases hn:g<0
    .have t:=ab.o hn
     rw[if_pos hn]at f;go_enter func319,ntmps319
     go_wp2_with(first|(go_at_call 246;refine gx r ?_)|(go_at_call 252;refine gx m ?_))
     go_ret;rw[f.o];exact⟨rfl,rfl⟩
    .have t:=ac.o hn
     rw[if_neg hn]at f;go_enter func319,ntmps319
     go_wp2_with(first|(go_at_call 246;refine gx r ?_)|(go_at_call 252;refine gx m ?_))
     go_ret;rw[f.o];exact⟨rfl,rfl⟩
   .have c2:decide (u<7)=false:=zA u7
    by_cases u21:u<21
    .have c3:decide (u<21)=true:=zB u21
     have j:=HS.o;rw[if_neg u3,if_neg u7,if_pos u21]at j;have f:=aa.o 3 j (by omega) (by omega);clear j;by_cases hn:g<0
     .have t:=ab.o hn
      rw[if_pos hn]at f;go_enter func319,ntmps319
      go_wp2_with(first|(go_at_call 246;refine gx r ?_)|(go_at_call 252;refine gx m ?_))
      go_ret;rw[f.o];exact⟨rfl,rfl⟩
     .have t:=ac.o hn
      rw[if_neg hn]at f;go_enter func319,ntmps319
      go_wp2_with(first|(go_at_call 246;refine gx r ?_)|(go_at_call 252;refine gx m ?_))
      go_ret;rw[f.o];exact⟨rfl,rfl⟩
    .have c3:decide (u<21)=false:=zA u21
     have j:=HS.o;rw[if_neg u3,if_neg u7,if_neg u21]at j;have f:=aa.o 4 j (by omega) (by omega);clear j;by_cases hn:g<0
     .have t:=ab.o hn
      rw[if_pos hn]at f;go_enter func319,ntmps319
      go_wp2_with(first|(go_at_call 246;refine gx r ?_)|(go_at_call 252;refine gx m ?_))
      go_ret;rw[f.o];exact⟨rfl,rfl⟩
     .have t:=ac.o hn
      rw[if_neg hn]at f;go_enter func319,ntmps319
      go_wp2_with(first|(go_at_call 246;refine gx r ?_)|(go_at_call 252;refine gx m ?_))
      go_ret;rw[f.o];exact⟨rfl,rfl⟩
theorem pO{f:FuncId}{a:Array Value}{w:World}(h:Calls P f a (w.drewN n) λe w'=>e=.returned v/\w.drewN n=w'):Calls P f a (w.drewN n) λe j=>e=.returned v/\∃m,j=w.drewN m:=
 h.mono λ_ _ ⟨he,hm⟩=>⟨he,n,hm.symm⟩
theorem C9(g:ll)(d:Nat)(w:World)(h:1<=d)(m:d<=16)(L:oI d g):Calls prog 294 #[g.w,g.n,g.nw,g.ne,d] w λe w'=>e=.returned (.agg #[.int .i64 (iu (g.ne-g.n) d),.int .i64 (iu (g.n-g.nw) d),.int .i64 (iu (g.nw-g.w) d)])/\gf [] w w':=by
 obtain⟨aj,ak⟩:=jl h m;obtain⟨a,b,c,e⟩:=g;obtain⟨⟨A,C⟩,⟨H,I⟩,⟨c1,c2⟩,⟨J,K⟩⟩:=L;simp only at A C H I c1 c2 J K⊢;have M:=λw=>ug d w h m;have V:decide (a<0)=false:=zA (by omega);have W:decide ((2:Int)^d<=a)=false:=zA (by omega);have X:decide (b<0)=false:=zA (by omega);have Y:decide ((2:Int)^d<=b)=false:=zA (by omega);have Z:decide (c<0)=false:=zA (by omega);have u6:decide ((2:Int)^d<=c)=false:=zA (by omega);have u7:decide (e<0)=false:=zA (by omega);have u8:decide ((2:Int)^d<=e)=false:=zA (by omega);have N:∀w,(Instr.index 49 (.agg #[a,b,c,.int .i64 e]) (.int .i64 0)).run prog w=.ok (.int .i64 a) w:=λ_=>by kernel_rfl
 have O:∀w,(Instr.index 49 (.agg #[a,b,c,.int .i64 e]) (.int .i64 1)).run prog w=.ok (.int .i64 b) w:=λ_=>by kernel_rfl
 have Q:∀w,(Instr.index 49 (.agg #[a,b,c,.int .i64 e]) (.int .i64 2)).run prog w=.ok (.int .i64 c) w:=λ_=>by kernel_rfl
 have R:∀w,(Instr.index 49 (.agg #[a,b,c,.int .i64 e]) (.int .i64 3)).run prog w=.ok (.int .i64 e) w:=λ_=>by kernel_rfl
 go_enter func294,ntmps294
 go_wp2_with(go_at_call 246;refine gx (M _) ?_)
 have f:=gn.new w 262 #[(0:Int),(0:Int),(0:Int)];have D:gf [] w (w.alloc (.cells #[(0:Int),(0:Int),(0:Int)] 262)):=(zR [] w).alloc _;have⟨B,hB⟩:=zX w.heap.size;rw[<-hB]at f⊢;generalize w.alloc (.cells #[(0:Int),(0:Int),(0:Int)] 262)=w0 at *;have r:=gd hB;clear hB
 go_loopg [22] 4 (λj iv wr=>w0=wr/\((j=4/\iv=.int .i64 0)\/(j=3/\iv=.int .i64 1)\/(j=2/\iv=.int .i64 2)\/(j=1/\iv=.int .i64 3)\/(j=0/\iv=.int .i64 4)))
 .exact⟨rfl,.inl ⟨rfl,rfl⟩⟩
 obtain⟨rfl,hrel⟩:=hrel;rcases hrel with⟨rfl,rfl⟩|⟨rfl,rfl⟩|⟨rfl,rfl⟩|⟨rfl,rfl⟩|⟨rfl,rfl⟩
 .go_wp2
  go_roundg 3
  .exact⟨rfl,.inr (.inl ⟨rfl,rfl⟩)⟩
  .omega
 .go_wp2
  go_roundg 2
  .exact⟨rfl,.inr (.inr (.inl ⟨rfl,rfl⟩))⟩
  .omega
 .go_wp2
  go_roundg 1
  .exact⟨rfl,.inr (.inr (.inr (.inl ⟨rfl,rfl⟩)))⟩
  .omega
 .go_wp2
  go_roundg 0
  .exact⟨rfl,.inr (.inr (.inr (.inr ⟨rfl,rfl⟩)))⟩
  .omega
 .clear N O Q R V W X Y Z u6 u7 u8
  have x:=yE (e-b) d w0 h m (by omega) (by omega);have y:=yE (b-c) d w0 h m (by omega) (by omega);have z:=yE (c-a) d w0 h m (by omega) (by omega);have⟨x0,ab⟩:=zX (iu (e-b) d);have⟨x1,ac⟩:=zX (iu (b-c) d);have⟨x2,ad⟩:=zX (iu (c-a) d);rw[<-ab]at x;rw[<-ac]at y;rw[<-ad]at z;have⟨ae,af,ag⟩:=gS ab ac ad;clear ab ac ad;have S:=f.X 0;have T:=f.X 1;have U:=f.X 2;have⟨f0,f1,f2⟩:=OY f 0 1 2;simp at S T U;go_wp2_with fail;refine gx x ?_;go_wp2_with fail;refine gx y ?_;go_wp2_with fail;refine gx z ?_;go_wp2_with fail;have hF:=((f.T 0 (.int .i64 x0)).T 1 (.int .i64 x1)).T 2 (.int .i64 x2);have E:gf [] w (((w0.setCell B (.int .i64 x0)).setCell ⟨B,1,none⟩ (.int .i64 x1)).setCell ⟨B,2,none⟩ (.int .i64 x2)):=((D.setCell (.inr (by have:=r.o;simp;omega)) _).setCell (.inr (by have:=r.o;simp;omega)) _).setCell (.inr (by have:=r.o;simp;omega)) _;generalize ((w0.setCell B (.int .i64 x0)).setCell ⟨B,1,none⟩ (.int .i64 x1)).setCell ⟨B,2,none⟩ (.int .i64 x2)=wF at *;have s:=hF.X 0;have t:=hF.X 1;have u:=hF.X 2;simp at s t u;exact bodyPost_ret (v:=.agg #[x0,x1,x2]) (by simp[results,results294,go_sem,s,t,u]) rfl ⟨by rw[ae.o,af.o,ag.o],E⟩
theorem IT(g:ll)(d:Nat)(w:World)(x:1<=d)(y:d<=16)(z:oI d g):Calls prog 247 #[g.w,g.n,g.nw,g.ne,d] w λe w'=>e=.returned (.tuple #[.int .i64 (mg g d),.bool (nm g d)])/\gf [] w w':=by
 have j:=C9 g d w x y z;have m:=lH (g.ne-g.n) d;have r:=lH (g.n-g.nw) d;have s:=lH (g.nw-g.w) d;have a:nM g d=81*iu (g.ne-g.n) d+9*iu (g.n-g.nw) d+iu (g.nw-g.w) d:=rfl;have h:nm g d=decide (nM g d<0):=rfl;have f:((mg g d:Nat):Int)=gX (nM g d):=by
  unfold mg;exact Int.toNat_of_nonneg (by unfold gX;split<;>omega)
 have⟨x0,aa⟩:=zX (iu (g.ne-g.n) d);have⟨x1,ab⟩:=zX (iu (g.n-g.nw) d);have⟨x2,ac⟩:=zX (iu (g.nw-g.w) d);rw[<-aa,<-ab,<-ac]at j a;rw[<-aa]at m;rw[<-ab]at r;rw[<-ac]at s;have⟨n,ad⟩:=zX (nM g d);rw[<-ad]at h f a;obtain⟨C,D⟩:=m;obtain⟨E,H⟩:=r;obtain⟨I,J⟩:=s;have u:=λw=>rE n w (by unfold jB;omega);have⟨HT,HN⟩:=gy h f;have A:81*x0+9*x1+x2=n:=a.symm;clear h f aa ab ac ad a;go_enter func247,ntmps247;go_wp2_with fail;refine j.mono ?_;rintro e K ⟨rfl,t⟩
 go_wp2_with(go_at_call 252;refine gx (u _) ?_)
 go_ret2
 rw[HT.o,HN.o];exact⟨rfl,t.alloc _⟩
theorem L5(g:ll)(d:Nat)(w:World)(E:1<=d)(H:d<=16)(I:oI d g):Calls prog 256 #[g.w,g.n,g.nw,g.ne,d] w λe w'=>e=.returned (.int .i64 (nF g d))/\gf [] w w':=by
 have r:=C9 g d w E H I;have h:=lH (g.ne-g.n) d;have j:=lH (g.n-g.nw) d;have m:=lH (g.nw-g.w) d;have f:nF g d=gX (iu (g.ne-g.n) d)+gX (iu (g.n-g.nw) d)+gX (iu (g.nw-g.w) d):=rfl;have⟨x0,aa⟩:=zX (iu (g.ne-g.n) d);have⟨x1,ac⟩:=zX (iu (g.n-g.nw) d);have⟨x2,ad⟩:=zX (iu (g.nw-g.w) d);rw[<-aa,<-ac,<-ad]at r f;rw[<-aa]at h;rw[<-ac]at j;rw[<-ad]at m;have a:∀x:Int,-4<=x/\x<=4->0<=gX x/\gX x<=4:=λx hx=>by unfold gX;split<;>omega
 have A:=a x0 h;have C:=a x1 j;have D:=a x2 m;have t:=λw=>rE x0 w (by unfold jB;omega);have u:=λw=>rE x1 w (by unfold jB;omega);have y:=λw=>rE x2 w (by unfold jB;omega);generalize gX x0=y0 at *;generalize gX x1=y1 at *;generalize gX x2=y2 at *;obtain⟨J,K⟩:=A;obtain⟨L,M⟩:=C;obtain⟨N,O⟩:=D;have s:=gd f;clear aa ac ad f a h j m;go_enter func256,ntmps256;go_wp2_with fail;refine r.mono ?_;rintro e Q ⟨rfl,z⟩;go_wp2_with fail
 go_quiet ((first|(go_at_call 252;with_reducible exact pO (t _))|(go_at_call 252;with_reducible exact pO (u _))|(go_at_call 252;with_reducible exact pO (y _))))
 go_wp2;go_ret;rw[s.o];exact⟨rfl,(z.alloc _).drewN _⟩
def mR(z:Array Value)(v:Int):Array Value:=z.setIfInBounds 0 (.int .i64 v)
theorem Em:zeroCells233=(replicate 1461 (Value.int .i64 0)).toArray:=by kernel_rfl
theorem En:(zeroCells233).size=1461:=by rw[Em,size_toArray,zV]
theorem BB{z:Array Value}(a:z.size=1461)(v:Int):(mR z v).size=1461:=by
 unfold mR;rw[Array.size_setIfInBounds,a]
theorem BA{z:Array Value}(a:z.size=1461)(v:Int):(mR z v)[0]?=some (.int .i64 v):=by
 unfold mR;rw[Array.getElem?_setIfInBounds,if_pos rfl,if_pos (by omega)]
theorem Cm{z:Array Value}(e:z=(replicate 1461 (Value.int .i64 0)).toArray)(v:Int)(i:Nat)(f:0<i)(a:i<1461):(mR z v)[i]?=some (.int .i64 0):=by
 unfold mR;rw[Array.getElem?_setIfInBounds,if_neg (by omega),e,getElem?_toArray,getElem?_replicate,if_pos a]
structure pZ (cs:Array Value) (d:Nat) (m:List gY):Prop where
 size:cs.size=1461
 len:m.length=365
 depth:cs[0]?=some (.int .i64 d)
 n:∀i s,m[i]?=some s->cs[1+i*4]?=some (.int .i64 s.n)
 a:∀i s,m[i]?=some s->cs[1+i*4+1]?=some (.int .i64 s.a)
 b:∀i s,m[i]?=some s->cs[1+i*4+2]?=some (.int .i64 s.b)
 c:∀i s,m[i]?=some s->cs[1+i*4+3]?=some (.int .i64 s.c)
theorem pZ.set4{e:Array Value}{m:List gY}(h:pZ e d m)(hi:i<365)(s:gY):pZ ((((e.setIfInBounds (1+i*4) (.int .i64 s.n)).setIfInBounds (1+i*4+1) (.int .i64 s.a)).setIfInBounds (1+i*4+2) (.int .i64 s.b)).setIfInBounds (1+i*4+3) (.int .i64 s.c)) d (m.set i s):=by
 have f:=h.size;have r:=h.len;refine⟨by simp[f],by simp[r],?_,?_,?_,?_,?_⟩
 .simp only[Array.getElem?_setIfInBounds]
  rw[if_neg (by omega),if_neg (by omega),if_neg (by omega),if_neg (by omega)];exact h.depth
 all_goals
  intro j t a;rw[getElem?_set]at a;simp only[Array.getElem?_setIfInBounds,Array.size_setIfInBounds,f];by_cases hij:i=j
  .subst hij
   rw[if_pos rfl,if_pos (by omega)]at a;injection a with a;subst a
   first
    | (rw[if_pos (by omega),if_pos (by omega)])
    | (rw[if_neg (by omega),if_pos (by omega),if_pos (by omega)])
    | (rw[if_neg (by omega),if_neg (by omega),if_pos (by omega),if_pos (by omega)])
    | (rw[if_neg (by omega),if_neg (by omega),if_neg (by omega),if_pos (by omega),if_pos (by omega)])
  .rw[if_neg hij]at a
   rw[if_neg (by omega),if_neg (by omega),if_neg (by omega),if_neg (by omega)]
   first|exact h.n j t a|exact h.a j t a|exact h.b j t a|exact h.c j t a
structure jc (w:World) (b d:Nat) (m:List gY):Prop where
 ex:∃cs,gn w b 233 cs/\pZ cs d m
theorem jc.Z{w w':World}{m:List gY}{F:List Nat}(h:jc w b d m)(r:gf F w w')(j:b∉F):jc w' b d m:=by
 obtain⟨a,e,f⟩:=h.ex;exact⟨a,e.Z r j,f⟩
theorem jc.set4{w:World}{m:List gY}(h:jc w b d m)(hi:i<365)(s:gY):jc ((((w.setCell ⟨b,1+i*4,none⟩ (.int .i64 s.n)).setCell ⟨b,1+i*4+1,none⟩ (.int .i64 s.a)).setCell ⟨b,1+i*4+2,none⟩ (.int .i64 s.b)).setCell ⟨b,1+i*4+3,none⟩ (.int .i64 s.c)) b d (m.set i s):=by
 obtain⟨f,a,e⟩:=h.ex;exact⟨_,(((a.T _ _).T _ _).T _ _).T _ _,e.set4 hi s⟩
theorem jc.lt{w:World}{m:List gY}(h:jc w b d m):b<w.heap.size:=by
 obtain⟨e,a,_⟩:=h.ex;exact a.lt
theorem jc.cells{w:World}{m:List gY}(h:jc w b d m):w.cell? b=some (.int .i64 d)/\(∀i,w.frozen? ⟨b,i,none⟩=false) /\ ∀i s,m[i]?=some s->w.cell? ⟨b,1+i*4,none⟩=some (.int .i64 s.n)/\w.cell? ⟨b,1+i*4+1,none⟩=some (.int .i64 s.a)/\w.cell? ⟨b,1+i*4+2,none⟩=some (.int .i64 s.b)/\w.cell? ⟨b,1+i*4+3,none⟩=some (.int .i64 s.c):=by
 obtain⟨f,a,e⟩:=h.ex;refine⟨by rw[a.X];exact e.depth,a.V,λi s hs=>⟨?_,?_,?_,?_⟩⟩
 .rw[a.X];exact e.n i s hs
 .rw[a.X];exact e.a i s hs
 .rw[a.X];exact e.b i s hs
 .rw[a.X];exact e.c i s hs
theorem KK(b d:Nat)(m:List gY)(a:Nat)(p:Int)(t:Bool)(w:World)(h:jc w b d m)(E:mz m)(C:1<=d)(D:d<=16)(x:a<365)(H:0<=p)(I:p<2^d):Calls prog 248 #[.pointer b,a,p,.bool t] w λe w'=>e=.returned (.int .i64 (mQ (iS m a) p t d))/\w=w':=by
 obtain⟨K,L⟩:=jl C D;obtain⟨y,j⟩:=ow E x;obtain⟨M,_,u⟩:=h.cells;obtain⟨_,_,_,J⟩:=u a _ y;have A:=j.c0;have c1:=j.c1;have f:mQ (iS m a) p t d=min (max (p+(if t then -(iS m a).c else(iS m a).c)) 0) (2^d-1):=rfl;have⟨s,hs⟩:=zX ((iS m a).c);rw[<-hs]at J A c1 f;have r:=gd f;have N:decide (p<0)=false:=zA (by omega);have O:decide ((2:Int)^d-1<p)=false:=zA (by omega);have ad:=x5 a w x;clear f hs y j u h
 cases t with
 | false=>
  go_enter func248,ntmps248
  go_wp2_with(go_at_call 251;refine gx ad ?_)
  all_goals
   go_ret;rw[r.o];exact⟨congrArg (λz=>Ending.returned (.int .i64 z)) (show _=min (max (p+s) 0) (2^d-1)by omega),rfl⟩
 | true=>
  go_enter func248,ntmps248
  go_wp2_with(go_at_call 251;refine gx ad ?_)
  all_goals
   go_ret;rw[r.o];exact⟨congrArg (λz=>Ending.returned (.int .i64 z)) (show _=min (max (p + -s) 0) (2^d-1)by omega),rfl⟩
theorem OT(b d:Nat)(m:List gY)(a:Nat)(w:World)(h:jc w b d m)(D:mz m)(A:a<365):Calls prog 178 #[.pointer b,a] w λe w'=>e=.returned (.int .i64 (mJ (iS m a)))/\∃n,w'=w.drewN n:=by
 obtain⟨C,f⟩:=ow D A;obtain⟨_,_,z⟩:=h.cells;obtain⟨I,H,_,_⟩:=z a _ C;have E:=f.n0;have n1:=f.n1;have y:=f.a0;have t:=f.a1;have⟨s,hs⟩:=zX (iS m a);rw[<-hs]at I H E n1 y t f⊢;have K:=x5 a w A;have ad:mJ s=mG s 16 0:=rfl;have⟨sn,aj⟩:=zX s.n;have⟨sa,ai⟩:=zX s.a;rw[<-aj]at I E n1 t;rw[<-ai]at H y t;have⟨HD,af,ae,ak⟩:=gz ad aj ai f;clear ad hs C f z h aj ai D;go_enter func178,ntmps178
 go_wp2_with(go_at_call 251;refine gx K ?_)
 go_loopg [5] 16 (λj v wr=>∃(k n:Nat),v=.int .i64 k/\k+j=16/\gh (mJ s=mG s j k)/\wr=w.drewN n)
 .exact⟨0,0,rfl,rfl,HD,rfl⟩
 obtain⟨k,Q,rfl,S,x,rfl⟩:=hrel;have T:=jZ k;by_cases hlt:sn*2^k<sa
 .have J:k<15:=Ec ak.o (by rw[<-af.o,<-ae.o];exact hlt)
  have N:(2:Int)^k<=32768:=by
   have:=Nat.pow_le_pow_right (n:=2) (by decide) (show k<=15 by omega)
   have e:(2:Int)^k<=2^15:=(by exact_mod_cast this);exact e
  have L:0<=sn*2^k:=Int.mul_nonneg (by omega) (by omega);have M:sn*2^k<=64*32768:=Int.le_trans (Int.mul_le_mul_of_nonneg_right n1 (by omega)) (by omega);have O:IntKind.i64.wrap (sn*2^k)=sn*2^k:=IntWalk.i64_in _ (by omega);have R:decide (sn*2^k<sa)=true:=zB hlt;obtain⟨g,rfl⟩:∃g,gk=g+1:=⟨gk-1,by omega⟩;have r:mJ s=mG s g (k+1):=by rw[x.o,Cd (by rw[<-af.o,<-ae.o];exact hlt)]
  have u:=gd r;clear r hlt;go_wp2_with fail
  go_quiet (fail)
  go_wp2
  go_roundg g
  .exact⟨k+1,_,by go_num,by omega,u,rfl⟩
  .omega
 .have r:=Ce (s:=s) (k:=k) (by rw[<-af.o,<-ae.o];exact hlt) gk
  rw[<-x.o]at r;have u:=gd r;have J:k<=15:=by have:=tA ak.o;omega
  have N:(2:Int)^k<=32768:=by
   have:=Nat.pow_le_pow_right (n:=2) (by decide) (show k<=15 by omega)
   have e:(2:Int)^k<=2^15:=(by exact_mod_cast this);exact e
  have L:0<=sn*2^k:=Int.mul_nonneg (by omega) (by omega);have M:sn*2^k<=64*32768:=Int.le_trans (Int.mul_le_mul_of_nonneg_right n1 (by omega)) (by omega);have O:IntKind.i64.wrap (sn*2^k)=sn*2^k:=IntWalk.i64_in _ (by omega);have R:decide (sn*2^k<sa)=false:=zA hlt;clear r hlt;go_wp2_with fail
  go_quiet (fail)
  go_wp2;go_ret;rw[u.o];exact⟨rfl,Q+nq,by rw[World.drewN_drewN]⟩
theorem KN{wr:World}{B j nq:Nat}{m:Int}(a:jc wr B d (replicate k (lI d)++replicate (j+1) ⟨0,0,0,0⟩))(r:k<365)(f:m=rH d):jc (((((wr.drewN nq).setCell ⟨B,1+k*4,none⟩ (.int .i64 1)).setCell ⟨B,1+k*4+1,none⟩ (.int .i64 m)).setCell ⟨B,1+k*4+2,none⟩ (.int .i64 0)).setCell ⟨B,1+k*4+3,none⟩ (.int .i64 0)) B d (replicate (k+1) (lI d)++replicate j ⟨0,0,0,0⟩):=by
 have h:=(a.Z ((zR [] wr).drewN nq) (by simp)).set4 r (lI d);have e:(replicate k (lI d)++replicate (j+1) (⟨0,0,0,0⟩:gY)).set k (lI d)=replicate (k+1) (lI d)++replicate j ⟨0,0,0,0⟩:=by
  rw[set_append_right _ _ (by simp),zV,Nat.sub_self,replicate_succ' (n:=k)];simp[replicate_succ]
 rw[e]at h;subst f;exact h
theorem NP(d : Nat)(w : World)(z : 1 <= d)(A : d <= 16):Calls prog 175 #[d] w λe w'=>∃b,e=.returned (.tuple #[.pointer (some ⟨b,0,none⟩),(0:Int)])/\jc w' b d (ri d)/\gf [] w w'/\w.heap.size<=b:=by
  obtain⟨J,K⟩:=jl z A;have C:=ug d w z A;have x:=gn.new w 233 (mR zeroCells233 (d:Int));have r:gf [] w (w.alloc (.cells (mR zeroCells233 (d:Int)) 233)):=(zR [] w).alloc _;have f:jc (w.alloc (.cells (mR zeroCells233 (d:Int)) 233)) w.heap.size d (replicate 365 ⟨0,0,0,0⟩):=by
    have I:∀i s,(replicate 365 (⟨0,0,0,0⟩:gY))[i]?=some s->i<365/\s=⟨0,0,0,0⟩:=λi s h=>by
      rw[getElem?_replicate]at h;split at h
      · rename_i hi
        injection h with h;exact⟨hi,h.symm⟩
      · cases h
    refine⟨⟨_,x,BB En _,zV,BA En _,?_,?_,?_,?_⟩⟩
    all_goals
      intro i s h;obtain⟨hi,rfl⟩:=I i s h;exact Cm Em _ _ (by omega) (by omega)
  unfold mR at r f;go_enter func175,ntmps175
  go_wp2_with(go_at_call 246;refine gx C ?_)
  have⟨B,hB⟩:=zX w.heap.size;rw[<-hB]at f⊢;have a:=gd hB;have⟨ak,ad⟩:=zX (zeroCells233.setIfInBounds 0 (Value.int .i64 d));rw[<-ad]at r f⊢;clear hB ad x C;have D:gh (rH d=max 2 ((2^d+32) / 64)):=gd rfl
  go_loopg [12] 365 (λj iv wr=>∃k:Nat,iv=.int .i64 k/\k+j=365/\jc wr B d (replicate k (lI d)++replicate j ⟨0,0,0,0⟩)/\gf [] w wr)
  .exact⟨0,rfl,rfl,by simpa using f,r⟩
  obtain⟨k,rfl,L,t,y⟩:=hrel;clear f r;rcases gk with _|j
  · obtain rfl:k=365:=by omega
    go_wp2
    go_ret2
    exact⟨B,rfl,by simpa[ri]using t,y,by rw[a.o];exact zQ _⟩
  · have H:k<365:=by omega
    have S:=i6 k 365 (by omega);obtain⟨_,m,u⟩:=t.cells;obtain⟨N,O,Q,R⟩:=u k ⟨0,0,0,0⟩ (by rw[zS (by simp),zV,Nat.sub_self];rfl);have M:=m (1+k*4);have f1:=m (1+k*4+1);have f2:=m (1+k*4+2);have f3:=m (1+k*4+3);clear m u;go_wp2_with fail;refine jE 11 (by kernel_rfl) (by kernel_rfl) ?_;simp only[take_succ_cons,take_zero,drop_succ_cons,drop_zero]
    repeat(go_big_quiet_step (fail))
    all_goals
      refine wpQuiet_nil ?_;intro _ E;obtain⟨nq,rfl⟩:=E;go_wp2_with fail
      all_goals
       go_roundg j
       .refine⟨k+1,by go_num,by omega,?_,(((((y.drewN nq).setCell (.inr (by have:=a.o;simp;omega)) _).setCell (.inr (by have:=a.o;simp;omega)) _).setCell (.inr (by have:=a.o;simp;omega)) _).setCell (.inr (by have:=a.o;simp;omega)) _)⟩
        exact KN t H (by rw[D.o];omega)
       .omega
theorem pZ.set1{r:Array Value}{m:List gY}(h:pZ r d m)(hi:i<365){s:gY}(f:m[i]?=some s)(k:Nat)(v:Int)(e:gY)(C:(k=0/\e=⟨v,s.a,s.b,s.c⟩)\/(k=1/\e=⟨s.n,v,s.b,s.c⟩)\/(k=2/\e=⟨s.n,s.a,v,s.c⟩)\/(k=3/\e=⟨s.n,s.a,s.b,v⟩)):pZ (r.setIfInBounds (1+i*4+k) (.int .i64 v)) d (m.set i e):=by
 have u:=h.size;have D:=h.len;have x:=h.n i s f;have y:=h.a i s f;have z:=h.b i s f;have A:=h.c i s f;have E:k<4:=by omega
 refine⟨by simp[u],by simp[D],?_,?_,?_,?_,?_⟩
 .rw[Array.getElem?_setIfInBounds,if_neg (by omega)]
  exact h.depth
 all_goals
  intro j t a;rw[getElem?_set]at a;rw[Array.getElem?_setIfInBounds];by_cases hij:i=j
  .subst hij
   rw[if_pos rfl,if_pos (by omega)]at a;injection a with a;subst a;rcases C with⟨rfl,rfl⟩|⟨rfl,rfl⟩|⟨rfl,rfl⟩|⟨rfl,rfl⟩
   all_goals first
    | (rw[if_pos (by omega),if_pos (by omega)])
    | (rw[if_neg (by omega)];first | exact x | exact y | exact z | exact A)
  .rw[if_neg hij]at a
   rw[if_neg (by omega)]
   first|exact h.n j t a|exact h.a j t a|exact h.b j t a|exact h.c j t a
theorem jc.set1{w:World}{m:List gY}(h:jc w b d m)(hi:i<365){s:gY}(j:m[i]?=some s)(k:Nat)(v:Int)(s':gY)(f:(k=0/\s'=⟨v,s.a,s.b,s.c⟩)\/(k=1/\s'=⟨s.n,v,s.b,s.c⟩)\/(k=2/\s'=⟨s.n,s.a,v,s.c⟩)\/(k=3/\s'=⟨s.n,s.a,s.b,v⟩)):jc (w.setCell ⟨b,1+i*4+k,none⟩ (.int .i64 v)) b d (m.set i s')/\(m.set i s')[i]?=some s':=by
 obtain⟨r,e,a⟩:=h.ex;exact⟨⟨_,e.T _ _,a.set1 hi j k v s' f⟩,by rw[getElem?_set_self (by rw[a.len];exact hi)]⟩
theorem jc.toSet{w:World}{m:List gY}{s t:gY}(h:jc w b d ((m.set i s).set i t)):jc w b d (m.set i t):=by rw[<-set_set (a:=s)];exact h
theorem jc.count{w:World}{m:List gY}(h:jc w b d m)(hi:i<365){s:gY}(z:m[i]?=some s)(a e f:Int):jc (((w.setCell ⟨b,1+i*4+1,none⟩ (.int .i64 a)).setCell ⟨b,1+i*4+2,none⟩ (.int .i64 e)).setCell ⟨b,1+i*4,none⟩ (.int .i64 f)) b d (m.set i ⟨f,a,e,s.c⟩)/\(m.set i ⟨f,a,e,s.c⟩)[i]?=some ⟨f,a,e,s.c⟩:=by
 obtain⟨r,x⟩:=h.set1 hi z 1 a ⟨s.n,a,s.b,s.c⟩ (.inr (.inl ⟨rfl,rfl⟩));obtain⟨t,y⟩:=r.set1 hi x 2 e ⟨s.n,a,e,s.c⟩ (.inr (.inr (.inl ⟨rfl,rfl⟩)));obtain⟨u,j⟩:=t.set1 hi y 0 f ⟨f,a,e,s.c⟩ (.inl ⟨rfl,rfl⟩);rw[set_set,set_set]at j;exact⟨u.toSet.toSet,j⟩
theorem jc.count64{w:World}{m:List gY}(h:jc w b d m)(hi:i<365){s:gY}(L:m[i]?=some s)(j r a e t f:Int):jc ((((((w.setCell ⟨b,1+i*4+1,none⟩ (.int .i64 j)).setCell ⟨b,1+i*4+2,none⟩ (.int .i64 r)).setCell ⟨b,1+i*4+1,none⟩ (.int .i64 a)).setCell ⟨b,1+i*4+2,none⟩ (.int .i64 e)).setCell ⟨b,1+i*4,none⟩ (.int .i64 t)).setCell ⟨b,1+i*4,none⟩ (.int .i64 f)) b d (m.set i ⟨f,a,e,s.c⟩)/\(m.set i ⟨f,a,e,s.c⟩)[i]?=some ⟨f,a,e,s.c⟩:=by
 obtain⟨x,E⟩:=h.set1 hi L 1 j ⟨s.n,j,s.b,s.c⟩ (.inr (.inl ⟨rfl,rfl⟩));obtain⟨y,H⟩:=x.set1 hi E 2 r ⟨s.n,j,r,s.c⟩ (.inr (.inr (.inl ⟨rfl,rfl⟩)));obtain⟨z,I⟩:=y.set1 hi H 1 a ⟨s.n,a,r,s.c⟩ (.inr (.inl ⟨rfl,rfl⟩));obtain⟨A,J⟩:=z.set1 hi I 2 e ⟨s.n,a,e,s.c⟩ (.inr (.inr (.inl ⟨rfl,rfl⟩)));obtain⟨C,K⟩:=A.set1 hi J 0 t ⟨t,a,e,s.c⟩ (.inl ⟨rfl,rfl⟩);obtain⟨D,u⟩:=C.set1 hi K 0 f ⟨f,a,e,s.c⟩ (.inl ⟨rfl,rfl⟩);rw[set_set,set_set,set_set,set_set,set_set]at u;exact⟨D.toSet.toSet.toSet.toSet.toSet,u⟩
theorem jc.even{w:World}{m:List gY}{s:gY}(h:jc w b d (m.set i s))(hi:i<365)(t:(m.set i s)[i]?=some s)(a e:Int):jc ((w.setCell ⟨b,1+i*4+2,none⟩ (.int .i64 a)).setCell ⟨b,1+i*4+3,none⟩ (.int .i64 e)) b d (m.set i ⟨s.n,s.a,a,e⟩):=by
 obtain⟨f,r⟩:=h.set1 hi t 2 a ⟨s.n,s.a,a,s.c⟩ (.inr (.inr (.inl ⟨rfl,rfl⟩)));obtain⟨j,u⟩:=f.set1 hi r 3 e ⟨s.n,s.a,a,e⟩ (.inr (.inr (.inr ⟨rfl,rfl⟩)));exact j.toSet.toSet
theorem Mv(b d:Nat)(m:List gY)(a:Nat)(e:Int)(w:World)(h:jc w b d m)(hm:mz m)(h0:1<=d)(h1:d<=16)(J:a<365)(he0 : -2^(d-1)<=e)(he1:e<2^(d-1)):Calls prog 179 #[.pointer b,a,e] w λx w'=>x=.returned (.tuple #[])/\jc w' b d (m.set a (nH (iS m a) e))/\gf [b] w w':=by
 obtain⟨aK,aL⟩:=jl h0 h1;obtain⟨T,aJ⟩:=ow hm J;obtain⟨q0,U,ak⟩:=h.cells;obtain⟨Z,W,X,Y⟩:=ak a _ T;have fn:=U (1+a*4);have fa:=U (1+a*4+1);have fb:=U (1+a*4+2);have aF:=x5 a w J;have av:=pE h0;have aM:=jZ (d-1);have e1:(2:Int)^((d:Int)-1).toNat=2^(d-1):=by congr 1;omega
 obtain⟨V,n1,K,L,R,S,c0,c1⟩:=aJ;have ha:0<=gX e/\gX e<=32768:=by unfold gX;split<;>omega
 have aB:=λw=>rE e w (by unfold jB;omega);have⟨s,hs⟩:=zX (iS m a);rw[<-hs]at Z W X Y V n1 K L R S c0 c1 T⊢;have ah:=λw' (j:gf [] w w') va vb vn=>(h.Z j (by simp)).count J T va vb vn;have ac:=λw' (j:gf [] w w') va vb wa wb wn vn=>(h.Z j (by simp)).count64 J T va vb wa wb wn vn;obtain⟨C,r,t,f⟩:=s;simp only at Z W X Y V n1 K L R S c0 c1 ah ac;have aH:(2:Int)^(d-1)<=32768:=by omega
 have t1:decide (e<(-2^(d-1):Int))=false:=zA (by omega);have t2:decide ((2:Int)^(d-1)<=e)=false:=zA (by omega);have aC : -32768<=e:=by omega
 have aI:e<=32767:=by omega
 have⟨u,hu⟩:=zX (gX e);rw[<-hu]at ha aB;obtain⟨u0,u1⟩:=ha;have⟨HU,aG,az⟩:=gS hu ah ac;have aE:gh (∀w,gf [b] w w):=gd λw=>zR _ _;clear av hu ah ac hs T U ak h hm;have z:=xV (s:=⟨C,r,t,f⟩) ⟨V,n1,K,L,R,S,c0,c1⟩ aC (by omega);have ap:=gd z;clear z;by_cases hn:C=64
 .subst hn
  have O:ma ⟨64,r,t,f⟩ e=⟨33,(r+u) / 2,(t+e) / 2,f⟩:=by unfold ma;rw[if_pos rfl,HU.o]
  have I:=gd O;clear O;go_enter func179,ntmps179;go_wp2_with fail;refine gx aF ?_;go_wp2_with fail;refine jE 9 (by kernel_rfl) (by kernel_rfl) ?_;simp only[take_succ_cons,take_zero,drop_succ_cons,drop_zero]
  repeat(go_big_quiet_step ((go_at_call 252;exact pO (aB _))))
  refine wpQuiet_nil ?_;intro _ j;obtain⟨nq,rfl⟩:=j;go_wp2_with fail;obtain⟨ad,D⟩:=az.o _ ((zR [] w).drewN nq) (r+u) (t+e) ((r+u) / 2) ((t+e) / 2) 32 33
  have E:gf [b] w (((((((w.drewN nq).setCell ⟨b,1+a*4+1,none⟩ (.int .i64 (r+u))).setCell ⟨b,1+a*4+2,none⟩ (.int .i64 (t+e))).setCell ⟨b,1+a*4+1,none⟩ (.int .i64 ((r+u) / 2))).setCell ⟨b,1+a*4+2,none⟩ (.int .i64 ((t+e) / 2))).setCell ⟨b,1+a*4,none⟩ (.int .i64 32)).setCell ⟨b,1+a*4,none⟩ (.int .i64 33)) :=
   (((((((aE.o w).drewN nq).setCell (by simp) _).setCell (by simp) _).setCell (by simp) _).setCell (by simp) _).setCell (by simp) _).setCell (by simp) _
  generalize ((((((w.drewN nq).setCell ⟨b,1+a*4+1,none⟩ (.int .i64 (r+u))).setCell ⟨b,1+a*4+2,none⟩ (.int .i64 (t+e))).setCell ⟨b,1+a*4+1,none⟩ (.int .i64 ((r+u) / 2))).setCell ⟨b,1+a*4+2,none⟩ (.int .i64 ((t+e) / 2))).setCell ⟨b,1+a*4,none⟩ (.int .i64 32)).setCell ⟨b,1+a*4,none⟩ (.int .i64 33)=w2 at *;have z:=ap.o;rw[I.o]at z;simp only at z;have⟨n3,ax⟩:=zX ((33:Int));have⟨a2,aq⟩:=zX ((r+u) / 2);have⟨b2,ar⟩:=zX ((t+e) / 2);rw[<-ax,<-aq,<-ar]at z ad D I;obtain⟨m0,m1,m2,m3,m4,m5,-⟩:=z;obtain⟨_,H,M⟩:=ad.cells;obtain⟨rn,ra,rb,rc⟩:=M a _ D;simp only at rn ra rb rc;have gb:=H (1+a*4+2);have gc:=H (1+a*4+3);have N:=gd (λw' (j:gf [] w2 w') vb vc=>(ad.Z j (by simp)).even J D vb vc);have Q:nH ⟨64,r,t,f⟩ e=lC ⟨n3,a2,b2,f⟩:=by unfold nH;rw[I.o]
  have⟨an,aA⟩:=gy Q ad;clear Q H M ax aq ar Z W X Y fn fa fb q0 K L R S ad D;by_cases hA:b2<=-n3
  .have u1:decide (b2<=-n3)=true:=zB hA
   have y:lC ⟨n3,a2,b2,f⟩=⟨n3,a2,max (b2+n3) (1-n3),max (f-1) (-128)⟩:=(by unfold lC;rw[if_pos hA]);have A:=gd y;clear y
   go_quiet (fail)
   go_wp2_with fail;refine jE 18 (by kernel_rfl) (by kernel_rfl) ?_;simp only[take_succ_cons,take_zero,drop_succ_cons,drop_zero]
   repeat(any_goals (go_big_quiet_step (fail)))
   all_goals
    refine wpQuiet_nil ?_;intro _ j;obtain⟨aD,rfl⟩:=j;go_wp2_with fail
   all_goals
    go_end0
    refine⟨rfl,?_,?_⟩
    .rw[an.o,A.o]
     first|rw[show max (b2+n3) (1-n3)=1-n3 by omega]|rw[show max (b2+n3) (1-n3)=b2+n3 by omega]
     first|rw[show max (f-1) (-128)=-128 by omega]|rw[show max (f-1) (-128)=f-1 by omega]
     exact N.o _ ((zR [] w2).drewN _) _ _
    .exact((E.drewN _).setCell (by simp) _).setCell (by simp) _
  .have u1:decide (b2<=-n3)=false:=zA hA
   by_cases hB:0<b2
   .have u2:decide (0<b2)=true:=zB hB
    have y:lC ⟨n3,a2,b2,f⟩=⟨n3,a2,min (b2-n3) 0,min (f+1) 127⟩:=(by unfold lC;rw[if_neg hA,if_pos hB]);have A:=gd y;clear y
    go_quiet (fail)
    go_wp2_with fail;refine jE 13 (by kernel_rfl) (by kernel_rfl) ?_;simp only[take_succ_cons,take_zero,drop_succ_cons,drop_zero]
    repeat(any_goals (go_big_quiet_step (fail)))
    all_goals
     refine wpQuiet_nil ?_;intro _ j;obtain⟨aD,rfl⟩:=j;go_wp2_with fail
    all_goals
     go_end0
     refine⟨rfl,?_,?_⟩
     .rw[an.o,A.o]
      first|rw[show min (b2-n3) 0=0 by omega]|rw[show min (b2-n3) 0=b2-n3 by omega]
      first|rw[show min (f+1) 127=127 by omega]|rw[show min (f+1) 127=f+1 by omega]
      exact N.o _ ((zR [] w2).drewN _) _ _
     .exact((E.drewN _).setCell (by simp) _).setCell (by simp) _
   .have u2:decide (0<b2)=false:=zA hB
    have y:lC ⟨n3,a2,b2,f⟩=⟨n3,a2,b2,f⟩:=(by unfold lC;rw[if_neg hA,if_neg hB]);have A:=gd y;clear y
    go_quiet (fail)
    go_wp2_with fail
    go_end0
    refine⟨rfl,?_,E.drewN _⟩;rw[an.o,A.o];exact aA.o.Z ((zR [] w2).drewN _) (by simp)
 .have t3:(C==64)=false:=by rw[beq_eq_false_iff_ne];exact hn
  have O:ma ⟨C,r,t,f⟩ e=⟨C+1,r+u,t+e,f⟩:=by unfold ma;rw[if_neg hn,HU.o]
  have I:=gd O;clear O hn;go_enter func179,ntmps179;go_wp2_with fail;refine gx aF ?_;go_wp2_with fail;refine jE 9 (by kernel_rfl) (by kernel_rfl) ?_;simp only[take_succ_cons,take_zero,drop_succ_cons,drop_zero]
  repeat(go_big_quiet_step ((go_at_call 252;exact pO (aB _))))
  refine wpQuiet_nil ?_;intro _ j;obtain⟨nq,rfl⟩:=j;go_wp2_with fail;obtain⟨ad,D⟩:=aG.o _ ((zR [] w).drewN nq) (r+u) (t+e) (C+1)
  have E:gf [b] w ((((w.drewN nq).setCell ⟨b,1+a*4+1,none⟩ (.int .i64 (r+u))).setCell ⟨b,1+a*4+2,none⟩ (.int .i64 (t+e))).setCell ⟨b,1+a*4,none⟩ (.int .i64 (C+1))) :=
   ((((aE.o w).drewN nq).setCell (by simp) _).setCell (by simp) _).setCell (by simp) _
  generalize (((w.drewN nq).setCell ⟨b,1+a*4+1,none⟩ (.int .i64 (r+u))).setCell ⟨b,1+a*4+2,none⟩ (.int .i64 (t+e))).setCell ⟨b,1+a*4,none⟩ (.int .i64 (C+1))=w2 at *;have z:=ap.o;rw[I.o]at z;simp only at z;have⟨n3,ax⟩:=zX (C+1);have⟨a2,aq⟩:=zX (r+u);have⟨b2,ar⟩:=zX (t+e);rw[<-ax,<-aq,<-ar]at z ad D I;obtain⟨m0,m1,m2,m3,m4,m5,-⟩:=z;obtain⟨_,H,M⟩:=ad.cells;obtain⟨rn,ra,rb,rc⟩:=M a _ D;simp only at rn ra rb rc;have gb:=H (1+a*4+2);have gc:=H (1+a*4+3);have N:=gd (λw' (j:gf [] w2 w') vb vc=>(ad.Z j (by simp)).even J D vb vc);have Q:nH ⟨C,r,t,f⟩ e=lC ⟨n3,a2,b2,f⟩:=by unfold nH;rw[I.o]
  have⟨an,aA⟩:=gy Q ad;clear Q H M ax aq ar Z W X Y fn fa fb q0 V n1 K L R S ad D;by_cases hA:b2<=-n3
  .have u1:decide (b2<=-n3)=true:=zB hA
   have y:lC ⟨n3,a2,b2,f⟩=⟨n3,a2,max (b2+n3) (1-n3),max (f-1) (-128)⟩:=(by unfold lC;rw[if_pos hA]);have A:=gd y;clear y
   go_quiet (fail)
   go_wp2_with fail;refine jE 18 (by kernel_rfl) (by kernel_rfl) ?_;simp only[take_succ_cons,take_zero,drop_succ_cons,drop_zero]
   repeat(any_goals (go_big_quiet_step (fail)))
   all_goals
    refine wpQuiet_nil ?_;intro _ j;obtain⟨aD,rfl⟩:=j;go_wp2_with fail
   all_goals
    go_end0
    refine⟨rfl,?_,?_⟩
    .rw[an.o,A.o]
     first|rw[show max (b2+n3) (1-n3)=1-n3 by omega]|rw[show max (b2+n3) (1-n3)=b2+n3 by omega]
     first|rw[show max (f-1) (-128)=-128 by omega]|rw[show max (f-1) (-128)=f-1 by omega]
     exact N.o _ ((zR [] w2).drewN _) _ _
    .exact((E.drewN _).setCell (by simp) _).setCell (by simp) _
  .have u1:decide (b2<=-n3)=false:=zA hA
   by_cases hB:0<b2
   .have u2:decide (0<b2)=true:=zB hB
    have y:lC ⟨n3,a2,b2,f⟩=⟨n3,a2,min (b2-n3) 0,min (f+1) 127⟩:=(by unfold lC;rw[if_neg hA,if_pos hB]);have A:=gd y;clear y
    go_quiet (fail)
    go_wp2_with fail;refine jE 13 (by kernel_rfl) (by kernel_rfl) ?_;simp only[take_succ_cons,take_zero,drop_succ_cons,drop_zero]
    repeat(any_goals (go_big_quiet_step (fail)))
    all_goals
     refine wpQuiet_nil ?_;intro _ j;obtain⟨aD,rfl⟩:=j;go_wp2_with fail
    all_goals
     go_end0
     refine⟨rfl,?_,?_⟩
     .rw[an.o,A.o]
      first|rw[show min (b2-n3) 0=0 by omega]|rw[show min (b2-n3) 0=b2-n3 by omega]
      first|rw[show min (f+1) 127=127 by omega]|rw[show min (f+1) 127=f+1 by omega]
      exact N.o _ ((zR [] w2).drewN _) _ _
     .exact((E.drewN _).setCell (by simp) _).setCell (by simp) _
   .have u2:decide (0<b2)=false:=zA hB
    have y:lC ⟨n3,a2,b2,f⟩=⟨n3,a2,b2,f⟩:=(by unfold lC;rw[if_neg hA,if_neg hB]);have A:=gd y;clear y
    go_quiet (fail)
    go_wp2_with fail
    go_end0
    refine⟨rfl,?_,E.drewN _⟩;rw[an.o,A.o];exact aA.o.Z ((zR [] w2).drewN _) (by simp)
theorem sB{f:FuncId}{a:Array Value}{w:World}(h:Calls P f a (w.drewN n) λe w'=>e=.returned v/\∃m,w'=(w.drewN n).drewN m):Calls P f a (w.drewN n) λe j=>e=.returned v/\∃m,j=w.drewN m:=Calls.quiet_of h
theorem gB.forget{a b c:World}{x:Nat}{F F':List Nat}(k:gf [] a b)(h:gB (x::F) (x::F') b c)(f:a.heap.size<=x):gB F F' a c:=
 ⟨⟨h.Z.os.trans k.os,h.Z.tape.trans k.tape,h.Z.output.trans k.output,Nat.le_trans k.size h.Z.size,λy hy hn=>
   (h.Z.block y (Nat.lt_of_lt_of_le hy k.size) (by simp;exact⟨by omega,hn⟩)).trans (k.block y hy (by simp))⟩,
  λy hy=>by
   rcases h.new y (by simp[hy])with e|e
   .rcases zJ.1 e with rfl|e
    .exact .inr f
    .exact .inl e
   .exact .inr (Nat.le_trans k.size e)⟩
theorem My(b d:Nat)(m:List gY)(l:List Int)(A:Option Addr)(cap W i:Nat)(w:World)(h:jc w b d m)(K:mz m)(r:1<=d)(s:d<=16)(t:1<=W)(u:W<=64)(hi:i<=l.length)(C:i<64*W)(L:gU d l)(z:gu vi w A l)(U:l.length<=4096):Calls prog 176 #[.pointer b,.slice A l.length cap,W,i] w λe w'=>e=.returned (.tuple #[.int .i64 (jW l W d i),.bool (kD l W d i),.int .i64 (lK m l W d i)])/\gf [] w w':=by
 have⟨x,hx⟩:=zX (i%W);have⟨y,hy⟩:=zX (i / W);have S:x<W:=by rw[hx];exact mod_lt _ (by omega)
 have R:y<64:=by rw[hy];exact Nat.div_lt_of_lt_mul (by rw[zY];exact C)
 have T:y*W+x=i:=by rw[hx,hy,zY];exact div_add_mod i W
 have V:(i:Int)%(W:Int)=(x:Int):=by rw[hx];simp
 have X:(i:Int) / (W:Int)=(y:Int):=by rw[hy];simp
 have a:=λw z=>y7 l A cap W x y w t u S R (by omega) z (by omega);have f:=pf L W x y;have D:=λw=>IT (ij l W x y) d w r s f;have E:=λw=>zv 7 (ij l W x y) d w (by omega) r s f;have j:=sJ f 7;have O:=rx (ij l W x y) d;have d1:jW l W d i=mg (ij l W x y) d:=by unfold jW;rw[<-hx,<-hy]
 have d2:kD l W d i=nm (ij l W x y) d:=by unfold kD;rw[<-hx,<-hy]
 have d3:lK m l W d i=mQ (iS m (mg (ij l W x y) d)) (jL 7 (ij l W x y) d) (nm (ij l W x y) d) d:=by unfold lK jW kD;rw[<-hx,<-hy]
 rw[d1,d2,d3];have N:=λw h=>KK b d m (mg (ij l W x y) d) (jL 7 (ij l W x y) d) (nm (ij l W x y) d) w h K r s O j.1 j.2;have⟨n,hn⟩:=zX l.length;rw[<-hn]at a⊢;generalize ij l W x y=g at *;generalize mg g d=cx at *;generalize nm g d=tb at *;generalize jL 7 g d=gs at *;generalize mQ (iS m cx) gs tb d=gm at *;obtain⟨Y,Z,gc,ge⟩:=g;simp only at a D E;have M:=gd a;clear hx hy T a f j d1 d2 d3 hn L hi K;go_enter func176,ntmps176;go_wp2_with fail
 go_quiet ((go_at_call 244;exact sB (M.o _ (z.Y ((zR [] w).drewN _)))))
 have J:=h.Z ((zR [] w).drewN nq) (by simp);obtain⟨q0,_,_⟩:=J.cells;go_wp2_with fail;refine(D _).mono ?_;rintro e w1 ⟨rfl,H⟩;have ad:=J.Z H (by simp);obtain⟨q1,_,_⟩:=ad.cells;go_wp2_with fail;refine(E _).mono ?_;rintro e w2 ⟨rfl,I⟩;have Q:=ad.Z I (by simp);go_wp2_with fail;refine(N _ Q).mono ?_;rintro e w3 ⟨rfl,rfl⟩;go_wp2_with fail
 go_ret3
 exact⟨rfl,(((zR [] w).drewN nq).tq H).tq I⟩
theorem Jd(l:List Int)(A:Option Addr)(cap W H d:Nat)(w:World)(J:1<=W)(r:W<=64)(I:1<=H)(h:H<=64)(t:1<=d)(u:d<=16)(a:l.length=W*H)(y:gU d l)(E:gu vi w A l):Calls prog 198 #[.slice A l.length cap,W,H,d] w λe w'=>e=.returned (.bool true)/\w=w':=by
 have U:=gL W 1 (by omega);have V:=gL 64 W (by omega);have X:=gL H 1 (by omega);have Y:=gL 64 H (by omega);obtain⟨N,O⟩:=jl t u;have⟨m,hm⟩:=zX l.length;rw[<-hm]at a⊢;have L:(W:Int)*(H:Int)=(m:Int):=by rw[a];simp
 have M:m<=4096:=by rw[a];exact zL r h
 have⟨HN,HS⟩:=gy hm y;clear hm a y;go_enter func198,ntmps198
 go_wp2_with(go_at_call 246;refine gx (ug _ _ t u) ?_)
 go_loopg [38] m (λj i wr=>j<=m/\i=.int .i64 ((m-j:Nat):Int)/\w=wr)
 .exact⟨zQ _,by simp,rfl⟩
 obtain⟨T,rfl,rfl⟩:=hrel;rcases gk with _|j
 .have Z:decide (((m-0:Nat):Int)<(m:Int))=false:=by simp
  go_wp2;go_ret;exact⟨rfl,rfl⟩
 .have⟨i,ac⟩:=zX (m-(j+1))
  rw[<-ac];have D:i<m:=by omega
  have ad:m-j=i+1:=by omega
  have C:=gd ad;clear ac ad;have s:i<l.length:=by rw[<-HN.o];exact D
  obtain⟨g,o,rfl,f⟩:=E.at_ s;have z:=HS.o l[i] (zG _);have⟨x,af⟩:=zX (l[i]);rw[<-af]at f z;have K:w.cell? ⟨g,o+i,none⟩=some (.int .i64 x):=f;obtain⟨Q,R⟩:=z;have t9:decide (x<0)=false:=zA (by omega);have S:decide ((2:Int)^d<=x)=false:=zA (by omega);clear f af s;go_wp2
  go_roundg j
  .rw[C.o]
   exact⟨by omega,by go_num,rfl⟩
  .omega
theorem CR(s g:Int)(t:Bool)(a:1<=d)(e:d<=16):ib (qG s g t d):=by
 have:=ql e (tW s g t a)
 unfold ib;omega
theorem EH(w:World)(b:Nat)(F bs:List Nat)(k:Nat)(x:Int)(h:hJ w b F bs)(u:k<=25)(A:ib x)(a:bs.length+65<274877906944):Calls prog 199 #[.pointer b,k,.slice (some ⟨w.heap.size,0,none⟩) 1 1] (w.alloc (.cells #[x] 3)) λe w'=>e=.returned (.int .i64 0)/\∃F',hJ w' b F' (bs++jm k x)/\gB F F' w w':=by
 have j:gf [] w (w.alloc (.cells #[x] 3)):=(zR [] w).alloc _;have f:gv (w.alloc (.cells #[x] 3)) 3 (.slice (some ⟨w.heap.size,0,none⟩) 1 1) w.heap.size ([x].map vi):=gv.made w 3 [.int .i64 x] (by simp[maxLen]);have r:=f.S.cells;have m:=f.S.apt (l':=[x]) (F':=F) (λy hy=>by
  rw[zU.1 hy];intro z
  have:=h.lt _ z
  omega)
 refine(uX _ b F bs k [x] _ 1 (h.Y j) u (λy hy=>by rw[zU.1 hy];exact A) r m (by simpa using a)).mono ?_;rintro e w' ⟨rfl,F',t,s⟩;refine⟨rfl,F',?_,s.pre j⟩;have e:kt k [x]=jm k x:=by simp[kt]
 rw[<-e];exact t
theorem NQ(w:World)(b:Nat)(F bs:List Nat)(l:List Int)(A:Option Addr)(cap W H d:Nat)(h:hJ w b F bs)(N:1<=W)(z:W<=64)(hh0:1<=H)(u:H<=64)(f:1<=d)(r:d<=16)(J:l.length=W*H)(V:gU d l)(I:gu vi w A l)(hA:gM A l F)(hbs:bs.length<137438953472):Calls prog 134 #[.pointer b,.slice A l.length cap,W,H,d] w λe w'=>e=.returned (.int .i64 0)/\∃F',hJ w' b F' (bs++l4 l W d (W*H))/\gB F F' w w':=by
 have aY:l.length<=4096:=by rw[J];exact zL z u
 have aK:=Jd l A cap W H d w N z hh0 u f r J V I;obtain⟨bg,Q⟩:=jl f r;have a2:=λi=>uf l W f r Q i;have a1:=λi=>vJ l W f r Q i;have ah:=λi (hi:i<l.length) m (hm:mz m) a w (h:jc w a d m) (I:gu vi w A l)=>My a d m l A cap W i w h hm f r N z (by omega) (by rw[J]at hi;have:=mul_le_mul_left W u;rw[zY 64 W];omega) V I aY;have a0:∀x∈F,x<w.heap.size:=h.lt;have⟨n,hn⟩:=zX l.length;rw[<-hn]at aK ah aY J⊢;rw[<-J];have⟨HL,bc,bb,HS⟩:=gz ah a2 a1 V;have⟨HN,ba,HP,HA⟩:=gz hn a0 Q hA;clear ah a2 a1 V hn J a0 Q hA;go_enter func134,ntmps134;go_wp2_with fail;refine gx aK ?_;go_wp2_with fail;refine(NP d w f r).mono ?_;rintro e w1 ⟨a,rfl,bf,Y,aS⟩;have aL:=h.Y Y;have aE:a∉F:=λhm=>by have:=ba.o _ hm;omega
 have be:=I.Y Y;have bd:gh (gM A l (a::F)):=gd λf ad e hm=>by
  rcases zJ.1 hm with h9|h9
  .exact gM.fresh I (F:=[a]) (by simpa using aS) f ad e (by rw[h9];simp)
  .exact HA.o f ad e h9
 clear aK h I;go_wp2_with fail
 go_loopg [36] n (λj iv wr=>∃(i:Nat) (F' s:List Nat),iv=.int .i64 i/\i+j=n/\hJ wr b F' s/\gh (s=bs++l4 l W d i)/\s.length<=bs.length+65*i/\jc wr a d (mB l W d i)/\a∉F'/\gB (a::F) (a::F') w1 wr)
 .exact⟨0,F,bs,rfl,by simp,aL,gd (by simp[l4]),by omega,bf,aE,gB.refl _ _⟩
 obtain⟨i,F',s,rfl,bj,a7,X,bh,an,S,aJ⟩:=hrel;rcases gk with _|j
 .obtain rfl:i=n:=by omega
  go_wp2;go_ret;refine⟨rfl,F',?_,gB.forget Y aJ aS⟩;rw[<-X.o];exact a7
 .have aW:i<n:=by omega
  have aG:gu vi wr A l:=be.Q bd.o aJ.Z;have M:l4 l W d (i+1)=l4 l W d i++ru (mB l W d i) l W d i:=rfl;have O:mB l W d (i+1)=qH (mB l W d i) l W d i:=rfl;have E:=bc.o i;have R:=bb.o (i+1);rw[M,zC]at R;have⟨m,hm⟩:=zX (mB l W d i);rw[<-hm]at an M O E R;have aT:=rx (ij l W (i%W) (i / W)) d;have aZ:=HL.o i aW m E a wr an aG;have aV:i<l.length:=by rw[<-HN.o];exact aW
  obtain⟨g,o,rfl,af⟩:=aG.at_ aV;have a9:l[i]=l.getD i 0:=by rw[zD,zF aV];rfl
  have hx:=HS.o l[i] (zG _);rw[a9]at af hx;have aF:wr.cell? ⟨g,o+i,none⟩=some (.int .i64 (l.getD i 0)):=af;clear af;have a5:=CY (iS m (jW l W d i)) (jL 7 (ij l W (i%W) (i / W)) d) (kD l W d i) (d:=d) bg;have a4:lK m l W d i=mQ (iS m (jW l W d i)) (jL 7 (ij l W (i%W) (i / W)) d) (kD l W d i) d:=rfl;rw[<-a4]at a5;have T:=tW (l.getD i 0) (lK m l W d i) (kD l W d i) f;have aI:=CR (l.getD i 0) (lK m l W d i) (kD l W d i) f r;have aH:oc m l W d i=qG (l.getD i 0) (lK m l W d i) (kD l W d i) d:=rfl;rw[<-aH]at T aI;have aR:ru m l W d i=jm (mJ (iS m (jW l W d i))) (oc m l W d i):=rfl;have a3:qH m l W d i=m.set (jW l W d i) (nH (iS m (jW l W d i)) (oc m l W d i)):=rfl;rw[aR]at M R;rw[a3]at O;have aj:jW l W d i<365:=aT;have bk:=tA (ow E aj).2;generalize jW l W d i=cx at *;generalize lK m l W d i=pr at *;generalize kD l W d i=tb at *;generalize oc m l W d i=er at *;generalize l.getD i 0=x at *;have aX:=λw h=>OT a d m cx w h E aj;generalize mJ (iS m cx)=kk at *;have ag:=λw h=>Mv a d m cx er w h E f r aj T.1 T.2;obtain⟨bo,a8⟩:=hx;obtain⟨bl,a6⟩:=a5;have bp:x<65536:=Int.lt_of_lt_of_le a8 HP.o;have bn:pr<65536:=Int.lt_of_lt_of_le a6 HP.o;clear a8 a6;have⟨aO,aN,aQ,aP⟩:=gz ag aX M O;have aM:=gd aH;clear ag aX M O aH R hm a4 aT a9 aR a3 E aG T;go_wp2_with fail;refine aZ.mono ?_;rintro e C ⟨rfl,Z⟩;clear aZ;have aw:=a7.Y Z;have D:=an.Z Z (by simp);have au:=aJ.Y Z
  cases tb with
  | false=>
   have U:=qx (x-pr) d C f r;have e1:ii (x-pr) d=er:=(by rw[aM.o];rfl);rw[e1]at U;go_wp2_with fail;refine gx U ?_;go_wp2_with fail;refine(aN.o _ D).mono ?_;rintro e w3 ⟨rfl,n3,rfl⟩;go_wp2_with fail;refine(EH _ b F' s kk er (aw.Y ((zR [] C).drewN n3)) (by omega) aI (by omega)).mono ?_;rintro e w4 ⟨rfl,F2,ao,t⟩;have L:a∉F2:=t.o D.lt S;have al:=(D.Z ((zR [] C).drewN n3) (by simp)).Z t.Z S;have ak:=(au.drewN n3).trans (t.cons a);go_wp2_with fail;refine(aO.o _ al).mono ?_;rintro e w5 ⟨rfl,am,K⟩;go_wp2_with fail
   go_roundg j
   .refine⟨i+1,F2,s++jm kk er,by go_num,by omega,ao.Z K (λy hy hm=>by rw[zU.1 hm]at hy;exact L hy),gd (by rw[aQ.o,<-zH,<-X.o]),?_,?_,L,?_⟩
    .rw[zC];have:=nz kk er;have:=mO kk er (by omega);omega
    .rw[aP.o];exact am
    .exact ak.trans ⟨K.mono λy hy _=>by rw[zU.1 hy];simp,λy hy=>.inl hy⟩
   .omega
  | true=>
   have U:=qx (x-pr) d C f r;have ar:=qx (-ii (x-pr) d) d C f r;have aU:=ny (x-pr) f;have e1:ii (-ii (x-pr) d) d=er:=(by rw[aM.o];rfl);rw[e1]at ar;have bi:=ql r aU;generalize ii (x-pr) d=fo at *;clear aU;go_wp2_with fail;refine gx U ?_;go_wp2_with fail;refine gx ar ?_;go_wp2_with fail;refine(aN.o _ D).mono ?_;rintro e w3 ⟨rfl,n3,rfl⟩;go_wp2_with fail;refine(EH _ b F' s kk er (aw.Y ((zR [] C).drewN n3)) (by omega) aI (by omega)).mono ?_;rintro e w4 ⟨rfl,F2,ao,t⟩;have L:a∉F2:=t.o D.lt S;have al:=(D.Z ((zR [] C).drewN n3) (by simp)).Z t.Z S;have ak:=(au.drewN n3).trans (t.cons a);go_wp2_with fail;refine(aO.o _ al).mono ?_;rintro e w5 ⟨rfl,am,K⟩;go_wp2_with fail
   go_roundg j
   .refine⟨i+1,F2,s++jm kk er,by go_num,by omega,ao.Z K (λy hy hm=>by rw[zU.1 hm]at hy;exact L hy),gd (by rw[aQ.o,<-zH,<-X.o]),?_,?_,L,?_⟩
    .rw[zC];have:=nz kk er;have:=mO kk er (by omega);omega
    .rw[aP.o];exact am
    .exact ak.trans ⟨K.mono λy hy _=>by rw[zU.1 hy];simp,λy hy=>.inl hy⟩
   .omega
theorem jG.cast{p:Nat}{bs:List Nat}(h:jG ds p bs)(e:p=q):jG ds q bs:=e ▸ h
theorem iU.cast{w:World}{F:List Nat}{p:Nat}(h:iU w b F ds p)(e:p=q):iU w b F ds q:=e ▸ h
theorem zt(m:Nat)(w:World)(a:m<=30):Calls prog 325 #[.int .i64 ((m:Int)+1)] w λe w'=>e=.returned (.int .i64 (-2^m))/\w=w':=by
 have j:decide ((m:Int)+1<1)=false:=by simp;omega
 have r:decide ((31:Int)<(m:Int)+1)=false:=by simp;omega
 have h:(2:Int)^m<=1073741824:=pz (n:=30) a;have f:=jZ m;go_enter func325,ntmps325;go_wp2;go_ret;refine⟨?_,rfl⟩
 first|rfl|(go_num)
theorem yX(m:Nat)(w:World)(a:m<=30):Calls prog 326 #[.int .i64 ((m:Int)+1)] w λe w'=>e=.returned (.int .i64 (2^m-1))/\w=w':=by
 have j:decide ((m:Int)+1<1)=false:=by simp;omega
 have r:decide ((31:Int)<(m:Int)+1)=false:=by simp;omega
 have h:(2:Int)^m<=1073741824:=pz (n:=30) a;have f:=jZ m;go_enter func326,ntmps326;go_wp2;go_ret;refine⟨?_,rfl⟩
 first|rfl|(go_num)
theorem NB(x:Int)(n:Nat)(w:World)(s:n<=31)(t : -4611686018427387904<=x)(u:x<=4611686018427387904):Calls prog 311 #[x,n] w λe w'=>e=.returned (.bool (mc x n))/\w=w':=by
 rcases n with _|m
 .have f:mc x 0=false:=by simp[mc]
  rw[f];go_enter func311,ntmps311;go_wp2;go_ret;exact⟨rfl,rfl⟩
 .have a:m<=30:=by omega
  have r:((m+1:Nat):Int)=(m:Int)+1:=by omega
  rw[r];have y:decide ((1:Int)<=(m:Int)+1)=true:=by simp;omega
  have z:decide ((m:Int)+1<=31)=true:=by simp;omega
  have f:mc x (m+1)=(decide (-2^m<=x)&&decide (x<=2^m-1)):=by
   unfold mc;simp[s]
  rw[f];clear f;by_cases h1 : -2^m<=x
  .have h:decide ((-2^m:Int)<=x)=true:=by simpa using h1
   by_cases h2:x<=2^m-1
   .have j:decide (x<=(2^m-1:Int))=true:=by simpa using h2
    rw[h,j];go_enter func311,ntmps311
    go_wp2_with(first|(go_at_call 325;refine gx (zt m _ a) ?_)|(go_at_call 326;refine gx (yX m _ a) ?_))
    go_ret;exact⟨rfl,rfl⟩
   .have j:decide (x<=(2^m-1:Int))=false:=by simpa using h2
    rw[h,j];go_enter func311,ntmps311
    go_wp2_with(first|(go_at_call 325;refine gx (zt m _ a) ?_)|(go_at_call 326;refine gx (yX m _ a) ?_))
    go_ret;exact⟨rfl,rfl⟩
  .have h:decide ((-2^m:Int)<=x)=false:=by simpa using h1
   rw[h];go_enter func311,ntmps311
   go_wp2_with(first|(go_at_call 325;refine gx (zt m _ a) ?_)|(go_at_call 326;refine gx (yX m _ a) ?_))
   go_ret;exact⟨rfl,rfl⟩
theorem EQ(l:List Int)(A:Option Addr)(cap:Nat)(w:World)(L:∀x∈l,ib x)(V:gu vi w A l)(W:l.length<=1099511627776):Calls prog 272 #[.slice A l.length cap] w λe w'=>e=.returned (.int .i64 (jV l))/\w=w':=by
 have I:=gd L;clear L;have⟨n,hn⟩:=zX l.length;rw[<-hn]at W⊢;have H:=gd hn;clear hn;go_enter func272,ntmps272;go_wp2_with fail
 go_loopg [3,8] n (λj s i wr=>j<=n/\i=.int .i64 ((n-j:Nat):Int)/\s=.int .i64 ((jV (l.take (n-j)):Nat):Int)/\w=wr)
 .exact⟨zQ _,by simp,by simp[jV],rfl⟩
 obtain⟨hj,rfl,rfl,rfl⟩:=hrel;rcases gk with _|j
 .have t4:decide (((n-0:Nat):Int)<(n:Int))=false:=by simp
  have e:l.take n=l:=by rw[H.o,zN]
  rw[Nat.sub_zero,e];go_wp2;go_ret;exact⟨rfl,rfl⟩
 .have⟨m,al⟩:=zX (n-(j+1))
  rw[<-al];have O:m<n:=by omega
  have K:n-j=m+1:=by omega
  have E:=gd K;clear al K;have C:m<l.length:=by rw[<-H.o];exact O
  obtain⟨b,o,rfl,y⟩:=V.at_ C;have r:=BS (l.take m) l[m];rw[<-jd l C]at r;have z:=qt (l:=l.take m) (λx hx=>I.o x (mem_of_mem_take hx));have⟨x,hx⟩:=zX (l[m]);rw[<-hx]at y r;have Y:w.cell? ⟨b,o+m,none⟩=some (.int .i64 x):=y;have D:ib x:=by rw[hx];exact I.o _ (zG _)
  have Q:=D;obtain⟨au,av⟩:=Q;have⟨s,hs⟩:=zX (jV (l.take m));rw[<-hs]at r z⊢;have t:=gd r;clear r y hx hs C;go_wp2_with fail
  go_loopg [3] (32-s) (λf v wr=>∃v':Nat,v=.int .i64 v'/\v'+f=32/\gh (kl x 32 s=kl x f v')/\v'<=31/\w=wr)
  .exact⟨s,rfl,by omega,gd (by
   have:∀d,d+(32-s)=32->kl x 32 s=kl x (32-s) s:=by
    intro d _;have R:∀f g w',w'<=31->32<=w'+f->32<=w'+g->kl x f w'=kl x g w':=by
     intro f
     induction f with
     | zero=>intro g w' S T U;omega
     | succ f ih=>
      intro g w' S T U;rcases g with _|g
      .omega
      .unfold kl
       split
       .rename_i hcc
        have:w'≠31:=λe=>by rw[e,sG D]at hcc;simp at hcc
        exact ih g (w'+1) (by omega) (by omega) (by omega)
       .rfl
    exact R 32 (32-s) s z (by omega) (by omega)
   exact this s (by omega)),z,rfl⟩
  obtain⟨v,rfl,ar,h,N,rfl⟩:=hrel;have u:=NB x v w N (by omega) (by omega);by_cases hx00:x=0
  .have a:=uy (x:=x) (w:=v) (f:=gk) (.inl hx00)
   rw[<-h.o,<-t.o]at a;have ad:=gd a;clear a h t;have X:(x != 0)=false:=(by simp[hx00]);clear hx00;go_wp2
   go_roundg j
   .rw[E.o,ad.o];exact⟨by omega,by go_num,rfl,rfl⟩
   .omega
  .have X:(x != 0)=true:=by simp[hx00]
   have t6:decide ((v:Int)<32)=true:=(by simp;omega);have J:x≠0:=hx00;have M:=gd J;clear hx00 J
   cases hfb:mc x v with
   | true=>
    rw[hfb]at u;have a:=uy (x:=x) (w:=v) (f:=gk) (.inr hfb);rw[<-h.o,<-t.o]at a;have ad:=gd a;clear a h hfb t
    go_wp2_with(go_at_call 311;refine gx u ?_)
    go_roundg j
    .rw[E.o,ad.o];exact⟨by omega,by go_num,rfl,rfl⟩
    .omega
   | false=>
    rw[hfb]at u;have Z:v≠31:=λe=>by rw[e,sG D]at hfb;cases hfb
    obtain⟨g,rfl⟩:∃g,gk=g+1:=⟨gk-1,by omega⟩;have a:=Dd M.o (by omega) hfb g;rw[<-h.o]at a;have ad:=gd a;clear a h hfb
    go_wp2_with(go_at_call 311;refine gx u ?_)
    go_roundg g
    .exact⟨v+1,by go_num,by omega,ad,by omega,rfl⟩
    .omega
theorem uJ(n warm:Nat)(w:World)(a:1<=n)(f:n<=4096)(h:warm<=n):Calls prog 239 #[n,warm] w λe w'=>e=.returned (.bool true)/\w=w':=by
 have j:decide ((1:Int)<=(n:Int))=true:=by simp;omega
 have m:decide ((n:Int)<=4096)=true:=by simp;omega
 go_enter func239,ntmps239;go_wp2;go_ret;exact⟨rfl,rfl⟩
theorem gE.one(w:World)(e:TypeId)(u:Value):gE (w.alloc (.cells #[u] e)) e (.slice (some ⟨w.heap.size,0,none⟩) 1 1) [w.heap.size] [u]:=by
 have:=(gv.made w e [u] (by simp[maxLen])).S
 simpa using this
theorem uN(o n warm:Nat)(w:World)(r:o<=8)(C:1<=n)(D:n<=4096)(E:warm<=n):Calls prog 240 #[o,n,warm] w λe w'=>∃v G,e=.returned v/\gE w' 3 v G ((io o n warm).map i64)/\gf [] w w'/\∀x∈G,w.heap.size<=x:=by
 have t1:decide ((o:Int)<0)=false:=by simp
 have t2:decide ((8:Int)<(o:Int))=false:=by simp;omega
 have Q:2^o<=256:=Nat.pow_le_pow_right (n:=2) (j:=8) (by decide) r;have O:=Nat.two_pow_pos o;have⟨P,hP⟩:=zX (2^o);have⟨s,hs⟩:=zX (n / 2^o);have ao:(2:Int)^o=(P:Int):=by rw[hP];simp
 have av:s<=n:=by rw[hs];exact div_le_self _ _
 have au:s*P<=n:=by rw[hs,hP];exact div_mul_le_self _ _
 have I:io o n warm=if s*P=n/\warm<=s then(s-warm)::replicate (P-1) s else[]:=by unfold io;rw[<-hs,<-hP]
 have e1:(n:Int) / (P:Int)=(s:Int):=by rw[hs,hP];simp
 rw[<-hP]at O Q;have f:=gd I;clear I hs;clear hP;by_cases c1:s*P=n
 .have T:(((s:Int)*(P:Int)) != (n:Int))=false:=by
   rw[bne_eq_false_iff_eq]
   exact_mod_cast c1
  by_cases c2:warm<=s
  .have U:decide (s<warm)=false:=by simp;omega
   rw[if_pos ⟨c1,c2⟩]at f;have Y:((s:Int)-(warm:Int))=((s-warm:Nat):Int):=(by omega);have N:=gd c1;clear c1;go_enter func240,ntmps240
   go_wp2_with(go_at_call 239;refine gx (uJ n warm _ C D E) ?_)
   go_loopg [8] (P-1) (λj v wr=>∃G a,gE wr 3 v G (a.map i64)/\gh (a=(s-warm)::replicate (P-1-j) s)/\a.length+j=P/\gf [] w wr/\∀x∈G,w.heap.size<=x)
   .exact⟨[w.heap.size],[s-warm],by simpa[i64]using gE.one w 3 (.int .i64 ((s-warm:Nat):Int)),gd (by simp),by simp;omega,(zR _ _).alloc _,by simp⟩
   obtain⟨G,a,z,u,m,ad,L⟩:=hrel;obtain⟨A,Z,rfl,ap,aq,-⟩:=z.oq;have t:=gd L;clear L;rcases gk with _|j
   .have V:decide (a.length<P)=false:=by simp;omega
    have J:=gd m;clear m;go_wp2;go_ret;refine⟨_,G,rfl,?_,ad,t.o⟩;rw[f.o];have r:=u.o;rw[Nat.sub_zero]at r;rw[<-r];exact z
   .have V:decide (a.length<P)=true:=by simp;omega
    have J:=gd m;have X:a.length<=256:=(by omega);clear m
    go_wp2_with(at_builtin;refine jT rfl rfl iJ rfl rfl (z.alloc _) (.int .i64 s) rfl ?c1 ?c2 ?c3 ?c4 ?_)
    case c1=>simp[go_sem]
    case c2=>rfl
    case c3=>rw[zE];omega
    case c4=>rw[zE];omega
    intro S W w2 R K;go_wp2_with fail
    go_roundg j
    .have m:=J.o
     refine⟨[S],a++[s],?_,gd ?_,by rw[zC,length_singleton];omega,(ad.alloc _).trans K.Z λx hx=>.inr (t.o x hx),?_⟩
     .have:=R.S
      simpa[i64]using this
     .have ar:1<=a.length:=by rw[u.o];simp
      rw[u.o];have e:P-1-j=P-1-(j+1)+1:=(by omega);rw[e,replicate_succ',cons_append]
     .intro y M
      simp at M;subst M;rcases K.new y (by simp)with H|H
      .exact t.o y H
      .have:=ad.size
       simp at H;omega
    .omega
  .have U:decide (s<warm)=true:=by simp;omega
   rw[if_neg (λh=>c2 h.2)]at f;have N:=gd c1;clear c1;go_enter func240,ntmps240
   go_wp2_with(go_at_call 239;refine gx (uJ n warm _ C D E) ?_)
   go_ret;refine⟨_,[],rfl,?_,zR _ _,by simp⟩;rw[f.o];exact gE.nil _ _
 .have T:(((s:Int)*(P:Int)) != (n:Int))=true:=by
   rw[bne_iff_ne];intro h;exact c1 (by exact_mod_cast h)
  rw[if_neg (λh=>c1 h.1)]at f;clear c1;go_enter func240,ntmps240
  go_wp2_with(go_at_call 239;refine gx (uJ n warm _ C D E) ?_)
  go_ret;refine⟨_,[],rfl,?_,zR _ _,by simp⟩;rw[f.o];exact gE.nil _ _
theorem Ds(n warm:Nat)(l:List Int)(A:Option Addr)(cap:Nat)(w:World)(C:1<=n)(D:n<=4096)(E:warm<=n)(r:l.length=n-warm)(s:∀x∈l,ib x)(H:gu vi w A l):Calls prog 269 #[n,warm,.slice A l.length cap] w λe w'=>e=.returned (.bool true)/\w=w':=by
 have y:=gd s;clear s;have⟨m,hm⟩:=zX l.length;rw[<-hm]at r⊢;have J:((n:Int)-(warm:Int))=(m:Int):=by omega
 have u:=gd hm;have K:m<=4096:=by omega
 clear hm r;go_enter func269,ntmps269
 go_wp2_with(go_at_call 239;refine gx (uJ n warm _ C D E) ?_)
 go_loopg [23] m (λj i wr=>j<=m/\i=.int .i64 ((m-j:Nat):Int)/\w=wr)
 .exact⟨zQ _,by simp,rfl⟩
 obtain⟨N,rfl,rfl⟩:=hrel;rcases gk with _|j
 .have O:decide (((m-0:Nat):Int)<(m:Int))=false:=by simp
  go_wp2;go_ret;exact⟨rfl,rfl⟩
 .have⟨i,ac⟩:=zX (m-(j+1))
  rw[<-ac];have z:i<m:=by omega
  have ad:m-j=i+1:=by omega
  have t:=gd ad;clear ac ad;have f:i<l.length:=by rw[<-u.o];exact z
  obtain⟨g,o,rfl,a⟩:=H.at_ f;have h:ib l[i]:=y.o _ (zG _);have⟨x,hx⟩:=zX (l[i]);rw[<-hx]at a h;have I:w.cell? ⟨g,o+i,none⟩=some (.int .i64 x):=a;obtain⟨L,M⟩:=h;have Q:decide (x < -1073741824)=false:=zA (by omega);have R:=kK 1073741824 x (by omega);clear a hx f;go_wp2
  go_roundg j
  .rw[t.o]
   exact⟨by omega,by go_num,rfl⟩
  .omega
theorem Fn(l:List Int)(A:Option Addr)(cap:Nat)(w:World)(f:∀x∈l,ib x)(t:gu vi w A l)(u:l.length<=4194304):Calls prog 309 #[.slice A l.length cap] w λe w'=>e=.returned (.int .i64 (lw l))/\w=w':=by
 have a:=EQ l A cap w f t (by omega);have m:=qt f;have⟨s,hs⟩:=zX (jV l);have j:lw l=5+s*l.length:=by unfold lw;rw[<-hs]
 rw[<-hs]at a m;have h:=gd j;have r:s*l.length<=31*4194304:=zL m u;have⟨n,hn⟩:=zX l.length;rw[<-hn]at a r h⊢;have y:(s:Int)*(n:Int)<=130023424:=by
  have:((s*n:Nat):Int)<=130023424:=by omega
  rwa [Int.natCast_mul]at this
 have ad:(0:Int)<=(s:Int)*(n:Int):=Int.mul_nonneg (by omega) (by omega);clear j hs f t hn r;go_enter func309,ntmps309
 go_wp2_with(go_at_call 272;refine gx a ?_)
 go_ret;rw[h.o];refine⟨?_,rfl⟩
 first|rfl|(go_num)
theorem Kd(l:List Int)(A:Option Addr)(cap:Nat)(w:World)(m:∀x∈l,ib x)(j:gu vi w A l)(y:l.length<=4194304):Calls prog 270 #[.slice A l.length cap] w λe w'=>e=.returned (.int .i64 (jx l))/\w=w':=by
 have r:=yL l A cap w m j (by omega);have u:=Fn l A cap w m j y;have h:=zg (jS l) l A cap w (qv l) m j (by omega);have f:jx l=if lw l<iR (jS l) l then 31 else jS l:=rfl;have⟨s,hs⟩:=zX (lw l);have⟨b,hb⟩:=zX (jS l);rw[<-hs,<-hb]at f;rw[<-hs]at u;rw[<-hb]at r h;have⟨t,ht⟩:=zX (iR b l);rw[<-ht]at f h;have a:=gd f;clear f hs hb ht m j;by_cases hlt:s<t
 .have z:decide (s<t)=true:=by simpa using hlt
  rw[if_pos hlt]at a;go_enter func270,ntmps270
  go_wp2_with(first|(go_at_call 204;refine gx r ?_)|(go_at_call 309;refine gx u ?_)|(go_at_call 275;refine gx h ?_))
  go_ret;rw[a.o];exact⟨rfl,rfl⟩
 .have z:decide (s<t)=false:=by simpa using hlt
  rw[if_neg hlt]at a;go_enter func270,ntmps270
  go_wp2_with(first|(go_at_call 204;refine gx r ?_)|(go_at_call 309;refine gx u ?_)|(go_at_call 275;refine gx h ?_))
  go_ret;rw[a.o];exact⟨rfl,rfl⟩
theorem gu.i64_at{w:World}{A:Option Addr}{l:List Nat}(h:gu i64 w A l){m:Nat}(a:m<l.length):∃b o,A=some ⟨b,o,none⟩/\w.cell? ⟨b,o+m,none⟩=some (.int .i64 (l[m]:Nat)):=h.at_ a
def qa(ks:List Nat):Prop:=∀k∈ks,k<=25\/k=31
theorem MQ(o n warm:Nat)(ks:List Nat)(A:Option Addr)(cap:Nat)(w:World)(D:o<=8)(O:1<=n)(Q:n<=4096)(R:warm<=n)(h:io o n warm≠[])(a:ks.length=(io o n warm).length)(f:qa ks)(C:gu i64 w A ks):Calls prog 310 #[.agg #[.int .i64 o,.slice A ks.length cap],n,warm] w λe w'=>e=.returned (.bool true)/\gf [] w w':=by
 have M:=pI h;have I:2^o<=256:=Nat.pow_le_pow_right (n:=2) (j:=8) (by decide) D;have H:=Nat.two_pow_pos o;have⟨N,hN⟩:=zX ks.length;have x:N=(io o n warm).length:=by rw[hN,a]
 have W:1<=N:=by omega
 have X:N<=256:=by omega
 rw[<-hN];have⟨ak,HN,al⟩:=gS f hN x;clear M I H hN x a f h;go_enter func310,ntmps310;go_wp2_with fail;refine(uN o n warm _ D O Q R).mono ?_;rintro e w1 ⟨v,G,rfl,u,ad,Z⟩;obtain⟨S,T,rfl,U,V,-⟩:=u.oq;rw[<-al.o];have y:=(gn.new w 123 #[o,.slice A N cap]).Z ad (by simp);have K:=y.X 1;simp at K;have t:gf [] w w1:=((zR [] w).alloc _).tq ad;have J:=C.Y t;have t1:((N:Int)==0)=false:=by rw[beq_eq_false_iff_ne];omega
 clear ad y u C;go_wp2_with fail
 go_loopg [29] N (λj i wr=>j<=N/\i=.int .i64 ((N-j:Nat):Int)/\w1=wr)
 .exact⟨zQ _,by simp,rfl⟩
 obtain⟨hj,rfl,rfl⟩:=hrel;rcases gk with _|j
 .have t4:decide (((N-0:Nat):Int)<(N:Int))=false:=by simp
  go_wp2;go_ret;exact⟨rfl,t⟩
 .have⟨i,ah⟩:=zX (N-(j+1))
  rw[<-ah];have L:i<N:=by omega
  have z:N-j=i+1:=by omega
  have s:=gd z;clear ah z;have m:i<ks.length:=by rw[<-HN.o];exact L
  obtain⟨g,Y,rfl,E⟩:=J.i64_at m;have r:=ak.o _ (zG m);have⟨k,aj⟩:=zX (ks[i]);rw[<-aj]at E r;have t5:decide ((k:Int)<0)=false:=by simp
  clear aj m;rcases r with r|rfl
  .have t6:decide ((25:Int)<(k:Int))=false:=by simp;omega
   go_wp2
   go_roundg j
   .rw[s.o]
    exact⟨by omega,by go_num,rfl⟩
   .omega
  .go_wp2
   go_roundg j
   .rw[s.o]
    exact⟨by omega,by go_num,rfl⟩
   .omega
theorem B4{p:List Int}(a:ks[i]?=some k)(e:ps[i]?=some p):j8 (ks.take (i+1)) (ps.take (i+1))=j8 (ks.take i) (ps.take i)+mx k p:=by
 have f:=(List.getElem?_eq_some_iff.1 a).1;have h:=(List.getElem?_eq_some_iff.1 e).1;have j:=(List.getElem?_eq_some_iff.1 a).2;have m:=(List.getElem?_eq_some_iff.1 e).2;unfold j8;rw[take_succ_eq_append_getElem f,take_succ_eq_append_getElem h,zip_append (by simp;omega),zM,sum_append,j,m];simp;omega
theorem ub{p:List Int}(e:k<=25\/k=31)(a:∀x∈p,ib x):mx k p<=10+65*p.length:=by
 unfold mx lw;split
 .have:=mul_le_mul_right p.length (qt a)
  omega
 .have:=zf k p (by omega)
  omega
theorem oY(w:World):(sizeOf 3).run prog w=.ok 1 w:=by
 exact sizeOf3 w
theorem vS{α:Type}(l:List α)(ss:List Nat)(i:Nat)(h:i<ss.length):(l.drop (jz ss i)).drop ss[i]=l.drop (jz ss (i+1)):=by
 rw[drop_drop,r8 ss i h]
theorem Et(o n warm:Nat)(ks:List Nat)(A:Option Addr)(cap:Nat)(l:List Int)(Q:Option Addr)(a:Nat)(w:World)(ho:o<=8)(h1:1<=n)(h2:n<=4096)(h3:warm<=n)(t:io o n warm≠[])(f:ks.length=(io o n warm).length)(C:qa ks)(y:gu i64 w A ks)(r:l.length=n-warm)(hw:∀x∈l,ib x)(z:gu vi w Q l)(h:l.length<=a)(m:a<=9223372036854775807):Calls prog 271 #[.agg #[.int .i64 o,.slice A ks.length cap],n,warm,.slice Q l.length a] w λe w'=>e=.returned (.int .i64 (j8 ks (ie (io o n warm) l)))/\gf [] w w':=by
 have aY:=qZ t;have ao:=pI t;have be:2^o<=256:=Nat.pow_le_pow_right (n:=2) (j:=8) (by decide) ho;have⟨ss,aH⟩:=zX (io o n warm);have⟨N,hN⟩:=zX ks.length;have⟨L,hL⟩:=zX l.length;have az:=λw y=>MQ o n warm ks A cap w ho h1 h2 h3 t f C y;have ac:=λw y=>Ds n warm l Q a w h1 h2 h3 r hw y;have ad:=λw=>uN o n warm w ho h1 h2 h3;rw[<-aH]at f aY ao ad⊢;rw[<-hN]at az f⊢;rw[<-hL]at ac r h⊢;have⟨aQ,aq,ar,a9⟩:=gz az ac ad C;have⟨HW,HN,HL,aP⟩:=gz hw hN hL f;have⟨bb,ba⟩:=gy aY r;have a0:N<=256:=by omega
 have bd:L<=4096:=by omega
 clear az ac ad C hw hN hL f aY ao be aH r t;go_enter func271,ntmps271;go_wp2_with fail;refine(aQ.o _ (y.Y ((zR [] w).alloc _))).mono ?_;rintro e w1 ⟨rfl,Z⟩;have aB:gf [] w w1:=((zR [] w).alloc _).tq Z;have aT:=(gn.new w 123 #[o,.slice A N cap]).Z Z (by simp);have a2:=aT.X 0;simp at a2;go_wp2_with fail;refine(aq.o _ (z.Y aB)).mono ?_;rintro e bv ⟨rfl,rfl⟩;go_wp2_with fail;refine(ar.o _).mono ?_;rintro e w2 ⟨v,G,rfl,aG,aS,hG⟩;obtain⟨A2,bc,rfl,aU,bj,al⟩:=aG.oq;have au:gf [] w w2:=aB.tq aS;have aC:=aT.Z aS (by simp);have bk:=aC.X 1;simp at bk;have bg:=y.Y au;have bh:=z.Y au;have ah:=aP.o;rw[<-ah];clear aT aC a2 Z aS aG y z hG;have am:=gd ah;clear ah;have aN:=gd m;clear aU m;go_wp2_with fail
 go_loopg [3,9,31] N (λj lv cv i wr=>j<=N/\i=.int .i64 ((N-j:Nat):Int)/\w2=wr/\cv=.int .i64 ((j8 (ks.take (N-j)) ((ie ss l).take (N-j)):Nat):Int)/\j8 (ks.take (N-j)) ((ie ss l).take (N-j))<=4+(N-j)*300000 /\
   ∃D c' rest,lv=.slice D rest.length c'/\gh (rest=l.drop (jz ss (N-j)))/\gu vi w2 D rest/\rest.length<=c'/\c'<=9223372036854775807/\rest.length<=4096)
 .refine⟨zQ _,by simp,rfl,by simp[j8],by simp[j8],Q,a,l,?_,gd (by simp[jz]),bh,?_,aN.o,?_⟩
  .rw[<-HL.o]
  .rw[<-HL.o];exact h
  .rw[<-HL.o];exact bd
 obtain⟨hj,rfl,rfl,rfl,S,D,c',rest,rfl,X,R,bl,bq,br⟩:=hrel;rcases gk with _|j
 .have t4:decide (((N-0:Nat):Int)<(N:Int))=false:=by simp
  have e1:ks.take N=ks:=by rw[HN.o,zN]
  have e2:(ie ss l).take N=ie ss l:=by rw[am.o,<-nR ss l,zN]
  rw[Nat.sub_zero,e1,e2];go_wp2;go_ret;exact⟨rfl,au⟩
 .have⟨i,a4⟩:=zX (N-(j+1))
  rw[<-a4]at S X⊢;have a5:i<N:=by omega
  have a6:N-j=i+1:=by omega
  have HI:=gd a6;clear a4 a6;have U:i<ks.length:=by rw[<-HN.o];exact a5
  have K:i<ss.length:=by rw[<-am.o];exact a5
  obtain⟨bo,bs,rfl,aw⟩:=bg.i64_at U;obtain⟨bp,bu,rfl,ax⟩:=al.i64_at K;have I:=a9.o _ (zG U);have ay:=qp ss l i K;have M:=B4 (ks:=ks) (ps:=ie ss l) (i:=i) (zF U) ay;have aE:=qS ss i K;have T:=vS l ss i K;rw[<-X.o]at ay M T;have⟨k,a7⟩:=zX (ks[i]);have⟨s,hs⟩:=zX (ss[i]);rw[<-a7]at aw I M;rw[<-hs]at ax M aE T;have bn:s<=rest.length:=by
   have:=bb.o
   have:=ba.o
   have:=HL.o
   rw[X.o,zO];omega
  have V:∀x∈rest.take s,ib x:=λx hx=>HW.o x (by
   have:=mem_of_mem_take hx
   rw[X.o]at this;exact mem_of_mem_drop this)
  have aV:(rest.take s).length=s:=by rw[zI];omega
  have E:=ub I V;rw[aV]at E;have O:=Fn (rest.take s) D c' w2 V (R.take s) (by omega);have H:=λ(I:k<=25)=>zg k (rest.take s) D c' w2 I V (R.take s) (by omega);rw[aV]at O H;obtain⟨A3,a8,bf,aD⟩:=sC (P:=prog) underlying22 oY D rest.length c' s bn bl;have av:=aD Int vi w2 rest rfl R;have⟨HS,ag⟩:=gy H M;have Y:gh (rest.drop s=l.drop (jz ss (i+1))):=gd T;have a3:rest.length-s=(rest.drop s).length:=by rw[zO]
  rw[a3]at a8;have aW:(rest.drop s).length<=4096:=by rw[zO];omega
  have aX:(rest.drop s).length<=c'-s:=by rw[zO];omega
  have⟨ap,ak⟩:=zX (rest.drop s);rw[<-ak]at a8 aW aX av Y;have bm:s<=c':=by omega
  have⟨part,an⟩:=zX (rest.take s);rw[<-an]at O ag E HS;clear M ay T a7 hs V bf aD H aE a3 ak aV an R U K;have⟨c0,a1⟩:=zX (j8 (ks.take i) ((ie ss l).take i));rw[<-a1]at ag S⊢;have bi:c0<=76800004:=by omega
  have aZ:=gd S;clear a1 S;have W:∀q,q=mx k part->gh (j8 (ks.take (i+1)) ((ie ss l).take (i+1))=c0+q):=λq hq=>gd (by rw[ag.o,hq]);by_cases hk31:k=31
  .have t6:((k:Int)==31)=true:=by rw[beq_iff_eq];omega
   have u:mx k part=5+lw part:=(by unfold mx;rw[if_pos hk31]);rw[u]at E;have J:=W _ u.symm;have⟨q,hq⟩:=zX (lw part);rw[<-hq]at O E J;clear I u hk31 hq W ag HS
   go_wp2_with(go_at_call 309;refine gx O ?_)
   go_roundg j
   .rw[HI.o,J.o]
    refine⟨by omega,by go_num,rfl,by go_num,?_,A3,_,ap,rfl,Y,av,aX,by omega,aW⟩
    have:=aZ.o
    rw[Nat.add_mul];omega
   .omega
  .have t6:((k:Int)==31)=false:=by rw[beq_eq_false_iff_ne];omega
   have u:mx k part=5+iR k part:=(by unfold mx;rw[if_neg hk31]);rw[u]at E;have J:=W _ u.symm;have H:=HS.o (by omega);have⟨q,hq⟩:=zX (iR k part);rw[<-hq]at H E J;clear I u hk31 hq W ag HS O
   go_wp2_with(go_at_call 275;refine gx H ?_)
   go_roundg j
   .rw[HI.o,J.o]
    refine⟨by omega,by go_num,rfl,by go_num,?_,A3,_,ap,rfl,Y,av,aX,by omega,aW⟩
    have:=aZ.o
    rw[Nat.add_mul];omega
   .omega
theorem BX{o:Nat}{p:List Int}(a:ks[i]?=some k)(e:ps[i]?=some p):mU o (ks.take (i+1)) (ps.take (i+1))=mU o (ks.take i) (ps.take i)++mj k p:=by
 have f:=(List.getElem?_eq_some_iff.1 a).1;have h:=(List.getElem?_eq_some_iff.1 e).1;have j:=(List.getElem?_eq_some_iff.1 a).2;have m:=(List.getElem?_eq_some_iff.1 e).2;unfold mU;rw[take_succ_eq_append_getElem f,take_succ_eq_append_getElem h,zip_append (by simp;omega),flatMap_append,j,m];simp
theorem Kq(n:Nat)(l:List Int)(x:Int):(l++[x]).flatMap (λx=>gA (kS x n) n)=l.flatMap (λx=>gA (kS x n) n)++gA (kS x n) n:=by simp
theorem yQ(x:Int)(h:n<=31):bits .and .u64 (x%18446744073709551616) (2^n-1)=((kS x n:Nat):Int):=by
 have e:0<=x%18446744073709551616:=Int.emod_nonneg _ (by decide);have f:x%18446744073709551616<18446744073709551616:=Int.emod_lt_of_pos _ (by decide);rw[Bk e f (by omega),KO];have a:((2:Int)^n)∣18446744073709551616:=by
  have:(18446744073709551616:Int)=2^n*2^(64-n):=by
   rw[<-Int.pow_add]
   have:n+(64-n)=64:=by omega
   rw[this];rfl
  rw[this];exact Int.dvd_mul_right _ _
 exact Int.emod_emod_of_dvd x a
theorem NW(w:World)(b:Nat)(F bs:List Nat)(o n warm:Nat)(ks:List Nat)(A:Option Addr)(cap:Nat)(l:List Int)(S:Option Addr)(a:Nat)(h:hJ w b F bs)(ho:o<=8)(h1:1<=n)(h2:n<=4096)(h3:warm<=n)(E:io o n warm≠[])(f:ks.length=(io o n warm).length)(K:qa ks)(hc:gu i64 w A ks)(D:l.length=n-warm)(hw:∀x∈l,ib x)(y:gu vi w S l)(r:l.length<=a)(t:a<=9223372036854775807)(hA:gM A ks F)(hAl:gM S l F)(hbs:bs.length<137438953472):Calls prog 197 #[.pointer b,.agg #[.int .i64 o,.slice A ks.length cap],n,warm,.slice S l.length a] w λe w'=>e=.returned (.int .i64 0)/\∃F',hJ w' b F' (bs++mU o ks (ie (io o n warm) l))/\gB F F' w w':=by
 have bV:=qZ E;have aB:=pI E;have cs:2^o<=256:=Nat.pow_le_pow_right (n:=2) (j:=8) (by decide) ho;have R:=λw hc y=>Et o n warm ks A cap l S a w ho h1 h2 h3 E f K hc D hw y r t;have⟨ss,bd⟩:=zX (io o n warm);have⟨N,hN⟩:=zX ks.length;have⟨L,hL⟩:=zX l.length;have ae:=λw=>uN o n warm w ho h1 h2 h3;have ca:=xT ks (ie (io o n warm) l);rw[<-bd]at f bV aB ae R ca⊢;have⟨CC,b5⟩:=zX (j8 ks (ie ss l));rw[<-b5]at R ca;rw[<-hN]at R f⊢;rw[<-hL]at R D r⊢;have⟨a1,aD,cl,HW⟩:=gz R ae K hw;have⟨HN,HL,bA,co⟩:=gz hN hL f bV;have⟨cm,HA,bu,HF⟩:=gz D hA hAl h.lt;have b7:N<=256:=by omega
 have cr:L<=4096:=by omega
 have t0:((CC:Int)==0)=false:=by rw[beq_eq_false_iff_ne];omega
 clear R ae K hw hN hL f bV aB cs bd D E b5 hA hAl;go_enter func197,ntmps197;go_wp2_with fail;have bi:gf [] w (w.alloc (.cells #[o,.slice A N cap] 123)):=(zR [] w).alloc _;refine(a1.o _ (hc.Y bi) (y.Y bi)).mono ?_;rintro e w1 ⟨rfl,bD⟩;have bj:=(gn.new w 123 #[o,.slice A N cap]).Z bD (by simp);have Y:gf [] w w1:=bi.tq bD;have bb:=bj.lt;have Q:=bj.X 0;simp at Q;have be:=h.Y Y;clear bD bi;go_wp2_with fail;refine(i8 _ b F bs o 4 be (by omega) (by omega) (by omega)).mono ?_;rintro e cM ⟨rfl,F1,an,aq⟩;have ch:w.heap.size∉F:=λhm=>by have:=HF.o _ hm;omega
 have aI:=bj.Z aq.Z ch;have a7:=aI.X 0;simp at a7;clear Q bj;go_wp2_with fail;refine(aD.o _).mono ?_;rintro e w2 ⟨v,G,rfl,aw,bh,hG⟩;obtain⟨A2,cp,rfl,bM,cz,-⟩:=aw.oq;have M:gB F F1 w1 w2:=aq.Y bh;have aJ:=aI.Z bh (by simp);have aK:=hc.Y Y;have aL:=y.Y Y;have bJ:=aK.Q HA.o M.Z;have cw:=aL.Q bu.o M.Z;have bW:=an.Y bh;have b6:∀x∈G,x∉F1:=λx hx hm=>by
  have h5:=hG x hx;have h6:=an.lt x hm;omega
 have bY:w.heap.size∉F1:=aq.o bb ch;have⟨bq,bv⟩:=gy (HA.o.grow aK M) (bu.o.grow aL M);have ck:gh (gM A2 ss F1):=gd (aw.apt b6);have cy:gu i64 w2 A2 ss:=aw.cells;have bN:gB F F1 w w2:=gB.pre Y M;have ah:=bA.o;rw[<-ah];have az:=gd ah;clear ah aI a7 hc y hG aq bh an be M Y aK aL aw HA bu bb b6;have bx:=gd t;clear bM t;go_wp2_with fail
 go_loopg [4,34] N (λj lv i wr=>j<=N/\i=.int .i64 ((N-j:Nat):Int) /\
   ∃H c' rest F' C,lv=.slice H rest.length c'/\gh (rest=l.drop (jz ss (N-j)))/\gh (gM H rest F1)/\gu vi w2 H rest/\rest.length<=c'/\c'<=9223372036854775807/\rest.length<=4096 /\
    hJ wr b F' C/\gh (C=bs++mU o (ks.take (N-j)) ((ie ss l).take (N-j)))/\C.length<=bs.length+4+(N-j)*300000/\gB F1 F' w2 wr)
 .refine⟨zQ _,by simp,S,a,l,F1,bs++gA o 4,?_,gd (by simp[jz]),bv,cw,?_,bx.o,?_,bW,gd (by simp[mU]),by simp[gJ],gB.refl _ _⟩
  .rw[<-HL.o]
  .rw[<-HL.o];exact r
  .rw[<-HL.o];exact cr
 obtain⟨hj,rfl,H,c',rest,F',C,rfl,af,bZ,bK,cB,cI,cJ,cj,U,bI,J⟩:=hrel;have a5:=aJ.Z J.Z bY;have Q:=a5.X 1;simp at Q;clear a5;rcases gk with _|j
 .have t4:decide (((N-0:Nat):Int)<(N:Int))=false:=by simp
  have e1:ks.take N=ks:=by rw[HN.o,zN]
  have e2:(ie ss l).take N=ie ss l:=by rw[az.o,<-nR ss l,zN]
  rw[Nat.sub_zero,e1,e2]at U;go_wp2;go_ret;refine⟨rfl,F',?_,bN.trans J⟩;rw[<-U.o];exact cj
 .have⟨i,cc⟩:=zX (N-(j+1))
  rw[<-cc]at bI U af⊢;have cd:i<N:=by omega
  have ce:N-j=i+1:=by omega
  have HI:=gd ce;clear cc ce;have bl:i<ks.length:=by rw[<-HN.o];exact cd
  have ba:i<ss.length:=by rw[<-az.o];exact cd
  obtain⟨cF,cK,rfl,aN⟩:=(bJ.Q bq.o J.Z).i64_at bl;obtain⟨cG,cL,rfl,aO⟩:=(cy.Q ck.o J.Z).i64_at ba;have hk:=cl.o _ (zG bl);have aP:=qp ss l i ba;have a9:=qS ss i ba;have bk:=vS l ss i ba;rw[<-af.o]at aP bk;have au:=BX (o:=o) (ks:=ks) (ps:=ie ss l) (i:=i) (zF bl) aP;have⟨k,bP⟩:=zX (ks[i]);have⟨s,hs⟩:=zX (ss[i]);rw[<-bP]at aN hk au;rw[<-hs]at aO au a9 bk;have cE:s<=rest.length:=by
   have:=co.o
   have:=cm.o
   have:=HL.o
   rw[af.o,zO];omega
  have bp:∀x∈rest.take s,ib x:=λx hx=>HW.o x (by
   have:=mem_of_mem_take hx
   rw[af.o]at this;exact mem_of_mem_drop this)
  have bn:(rest.take s).length=s:=by rw[zI];omega
  have bm:=ub hk bp;have aT:=AY k (rest.take s);rw[bn]at bm;obtain⟨A3,ci,b9,a6⟩:=sC (P:=prog) underlying22 oY H rest.length c' s cE cB;have aM:=a6 Int vi w2 rest rfl bK;have aG:gM A3 (rest.drop s) F1:=bZ.o.to (by rw[zO];omega) b9;have bG:bs++mU o (ks.take (i+1)) ((ie ss l).take (i+1))=C++mj k (rest.take s):=by rw[au,U.o,zH]
  have bz:gh (rest.drop s=l.drop (jz ss (i+1))):=gd bk;have cb:rest.length-s=(rest.drop s).length:=by rw[zO]
  rw[cb]at ci;have bS:(rest.drop s).length<=4096:=by rw[zO];omega
  have bT:(rest.drop s).length<=c'-s:=by rw[zO];omega
  have O:=bK.take s;have ar:gM H (rest.take s) F1:=bZ.o.of (by rw[zI];omega);have⟨aC,am⟩:=zX (rest.drop s);rw[<-am]at ci bS bT aM bz aG;have cD:s<=c':=by omega
  have⟨part,aA⟩:=zX (rest.take s);rw[<-aA]at bm bG O bn bp aT ar;have⟨b1,a0,ap,bC⟩:=gz bG aG ar bp;have cx:=O.Q (ar) J.Z;have⟨b4,aW,b2,b3⟩:=gz aT bn bl bP;have a2:=gd bm;have cC:s<=4096:=by omega
  have av:k<=31:=by omega
  have⟨HK,b0⟩:=gy hk bI;have cu:C.length<=137515753476:=by omega
  clear au aP bk bP hs b9 a6 a9 cb am aA bK ba bG aG ar bp aT hk bI U bn bm;have ag:=i8 wr b F' C k 5 cj (by omega) (by omega) (by omega);by_cases av:k=31
  .have t6:((k:Int) != 31)=false:=by rw[bne_eq_false_iff_eq];omega
   have al:mj k part=gA k 5++(gA (jV part) 5++part.flatMap (λx=>gA (kS x (jV part)) (jV part))):=(by unfold mj;rw[if_pos av]);have bg:=gd al;clear al av;go_wp2_with fail;refine ag.mono ?_;rintro e w3 ⟨rfl,F3,aV,bE⟩;have z:=J.trans bE;have Z:=aJ.Z z.Z bY;have V:=Z.X 1;simp at V;obtain⟨_,_,u,X⟩:=(bJ.Q bq.o z.Z).i64_at b2.o;injection u with u;injection u with u e5 _;subst u;subst e5;rw[<-b3.o]at X;have ak:=O.Q ap.o z.Z;have aU:=EQ part H c' w3 bC.o ak (by rw[aW.o];omega);have ax:=qt bC.o;rw[aW.o]at aU;have⟨W,hW⟩:=zX (jV part);rw[<-hW]at aU ax bg;clear Z Q ag hW
   go_wp2_with(go_at_call 272;refine gx aU ?_)
   refine(i8 w3 b F3 _ W 5 aV (by omega) (by omega) (by rw[zC,gJ];omega)).mono ?_;rintro e w4 ⟨rfl,F4,ay,bF⟩;have aR:=z.trans bF;have cH:(2:Int)^W<=2147483648:=pz (n:=31) ax;have ct:=jZ W;clear V X ak;go_wp2_with fail
   go_loopg [75] s (λq iv wx=>q<=s/\iv=.int .i64 ((s-q:Nat):Int)/\∃T I,hJ wx b T I/\gh (I=(C++gA k 5++gA W 5)++(part.take (s-q)).flatMap (λx=>gA (kS x W) W))/\I.length<=C.length+10+W*(s-q)/\gB F1 T w2 wx)
   .exact⟨zQ _,by simp,F4,_,ay,gd (by simp),by simp[gJ],aR⟩
   obtain⟨hq,rfl,T,I,bf,aE,aH,aS⟩:=hrel;rcases gk with _|q
   .have t7:decide (((s-0:Nat):Int)<(s:Int))=false:=by simp
    go_wp2
    go_roundg j
    .rw[HI.o]
     have e7:part.take (s-0)=part:=(by rw[Nat.sub_zero,<-aW.o,zN]);have bH:=aE.o;rw[e7,zH,zH,<-bg.o]at bH;refine⟨by omega,by go_num,A3,_,aC,T,I,rfl,bz,a0,aM,bT,by omega,bS,bf,gd (by rw[bH,b1.o]),?_,aS⟩;have e8:=b4.o;have e9:=b0.o;rw[bH,zC,e8,Nat.add_mul]
     have:=a2.o
     omega
    .omega
   .have⟨m,cf⟩:=zX (s-(q+1))
    rw[<-cf]at aE aH⊢;have cA:m<s:=(by omega);have cg:s-q=m+1:=(by omega);have HM:=gd cg;clear cf cg;have bQ:m<part.length:=(by rw[aW.o];exact cA);obtain⟨g8,o8,rfl,ad⟩:=(O.Q ap.o aS.Z).at_ bQ;have bo:=Kq W (part.take m) part[m];rw[<-jd part bQ]at bo;have⟨x,hx⟩:=zX (part[m]);rw[<-hx]at ad bo;have bL:wr.cell? ⟨g8,o8+m,none⟩=some (.int .i64 x):=ad;have a4:bits BinOp.and IntKind.u64 (IntKind.u64.wrap x) (2^W-1)=((kS x W:Nat):Int):=(by rw[IntKind.wrap_u64];exact yQ x ax);have br:=gd a4;clear a4;have bc:=Fc x W;have⟨cn,bB⟩:=gy bo bc;have cv:I.length<=137520000000:=by
     have:W*m<=31*4096:=zL ax (by omega)
     omega
    have bw:=gd aH;clear ad hx bQ bo bc aH;go_wp2_with fail;rw[br.o];refine(i8 wr b T I (kS x W) W bf (by omega) bB.o (by omega)).mono ?_;rintro e w6 ⟨rfl,F6,bX,cq⟩;go_wp2_with fail
    go_roundg q
    .rw[HM.o]
     refine⟨by omega,by go_num,F6,_,bX,gd ?_,?_,aS.trans cq⟩
     .rw[cn.o,aE.o,zH]
     .have e9:=bw.o
      rw[zC,gJ,Nat.mul_add];omega
    .omega
  .have t6:((k:Int) != 31)=true:=by rw[bne_iff_ne];omega
   have al:mj k part=gA k 5++kt k part:=(by unfold mj;rw[if_neg av]);have bg:=gd al;have bO:k<=25:=(by have:=HK.o;omega);clear al;go_wp2_with fail;refine ag.mono ?_;rintro e w3 ⟨rfl,F3,aV,bE⟩;have z:=J.trans bE;have Z:=aJ.Z z.Z bY;have V:=Z.X 1;simp at V;obtain⟨_,_,u,X⟩:=(bJ.Q bq.o z.Z).i64_at b2.o;injection u with u;injection u with u e5 _;subst u;subst e5;rw[<-b3.o]at X;have ak:=O.Q ap.o z.Z;have bR:=uX w3 b F3 (C++gA k 5) k part H c' aV bO bC.o ak (ap.o.grow O z) (by rw[zC,gJ,aW.o];omega);rw[aW.o]at bR;clear Z Q ag;go_wp2_with fail;refine bR.mono ?_;rintro e w4 ⟨rfl,F4,ay,bF⟩;have aR:=z.trans bF;clear V X ak bR;go_wp2_with fail
   go_roundg j
   .rw[HI.o]
    rw[zH,<-bg.o]at ay;refine⟨by omega,by go_num,A3,_,aC,F4,_,rfl,bz,a0,aM,bT,by omega,bS,ay,gd b1.o.symm,?_,aR⟩;have e8:=b4.o;have e9:=b0.o;rw[zC,e8,Nat.add_mul]
    have:=a2.o
    omega
   .omega
theorem J2(o a:Nat)(w:World)(h:o<=4096)(f:a=0\/a=1):Calls prog 297 #[o,a] w λe w'=>e=.returned (.int .i64 (lJ o a:Nat))/\w'=w:=by
 rcases f with rfl|rfl
 all_goals
  go_enter func297,ntmps297;go_wp2;go_ret;exact⟨by unfold lJ;simp;go_num,rfl⟩
theorem Mq(w:World)(b g:Nat)(v m:Value)(W:Int)(ds:List Nat)(h:Nat)(A:gn w b 248 #[v,.int .u64 W,m])(C:gv w 5 v g (ds.map b8))(E:∀d∈ds,d<256)(S:h<9223372036854775808):Calls prog 327 #[.pointer b,.int .u64 h] w λe w'=>e=.returned (.tuple #[])/\gv w' 5 v g ((me ds h).map b8)/\gf [g] w w':=by
 obtain⟨K,rfl,V,X,-,-⟩:=C.oq;have M:=C.ne_ A (by decide);have H:=gd E;clear E;have D:=A.X 0;simp at D;go_enter func327,ntmps327;go_wp2
 go_loopw [1,4] (λn i wr=>∃(l t:List Nat) (c:Nat) (j:Int),i=.int .i64 j/\n=.int .u64 c/\j=(l.length:Int)-1/\c<9223372036854775808/\l.length+t.length=ds.length /\
   me ds h=me l c++t/\(∀d∈l,d<256)/\gv wr 5 (.slice g ds.length K) g ((l++t).map b8)/\gf [g] w wr)
  (λn i _=>(intOf i+1).toNat)
 .exact⟨ds,[],h,_,rfl,rfl,rfl,S,by simp,by simp,H.o,by simpa using C,zR _ _⟩
 obtain⟨l,t,c,j,rfl,rfl,y,hc,u,ad,z,f,s⟩:=hrel;have L:=A.Z s (by simpa using M.symm);have I:=L.X 0;simp at I;clear D;rcases eq_nil_or_concat l with rfl|⟨l',d,rfl⟩
 .obtain rfl:j=-1:=by simpa using y
  have r:=gd ad;clear y u ad z;go_wp2
  all_goals
   go_end0
   refine⟨rfl,?_,s⟩;rw[r.o];simpa[CX]using f
 .have U:wr.cell? ⟨g,l'.length,none⟩=some (.int .u8 d):=by
   obtain⟨_,R,_,_,a,_⟩:=f.oq;exact a l'.length d (by simp)
  have Z:wr.frozen? ⟨g,l'.length,none⟩=false:=by
   obtain⟨_,R,_,_,_,a⟩:=f.oq;exact a _
  obtain rfl:j=(l'.length:Int):=by simp at y;omega
  have T:d<256:=z d (by simp);have ar:l'.length<ds.length:=by simp at u;omega
  have⟨HL,r,ah⟩:=gS u ad z;clear y u ad z;go_wp2
  .have Y:0<c:=by omega
   go_roundw
   case rel=>
    have N:=B8 l' d c (by omega);have J:=HL.o;refine⟨l',(c+d)%256::t,(c+d) / 256,_,rfl,by go_num,rfl,by omega,by simp at J⊢;omega,?_,λx hx=>ah.o x (by simp[hx]),?_,s.setCell (by simp) _⟩
    .rw[r.o,concat_eq_append,N,zH];rfl
    .have a:=f.T (i:=l'.length) (by simp) (b8 ((c+d)%256))
     have O:((l'.concat d++t).map b8).set l'.length (b8 ((c+d)%256))=(l'++(c+d)%256::t).map b8:=by
      rw[concat_eq_append,zH,zM,zM,set_append_right _ _ (by simp)];simp
     rw[O]at a;have Q:b8 ((c+d)%256)=.int .u8 (((c:Int)+d)%256):=(by unfold b8;go_num);rw[Q]at a;exact a
   case measure=>simp[intOf]
  .obtain rfl:c=0:=by omega
   go_end0
   refine⟨rfl,?_,s⟩;rw[r.o,B9];exact f
theorem rL:jA prog 40 5 (.int .u8 0) 1 1:=.mk' underlying40 (by kernel_rfl)
theorem DO(w:World)(b g h:Nat)(c:ix)(bound a:Nat)(hc:iZ 248 w b g h c)(m:iY c)(Q:pP c bound)(z:a=0\/a=1)(hlen:c.low.length<=1099511627776):Calls prog 313 #[.pointer b,.int .u64 bound,a] w λe w'=>e=.returned (.tuple #[]) /\ ∃f,iZ 248 w' b f h (jR c bound a)/\gf [b,g] w w'/\(f=g\/w.heap.size<=f):=by
 obtain⟨vl,S,j,A,R⟩:=hc.ex;obtain⟨y,aY⟩:=Q;have a1:=m.hi;have K:=A.ne_ j (by decide);have aV:=R.ne_ j (by decide);have aU:=A.ne_row R (by decide);obtain⟨O,rfl,aZ,a0,-,-⟩:=A.oq;have T:=j.X 0;have U:=j.X 1;have aP:=j.V 1;simp at T U;have aI:=zk m ⟨y,by omega⟩ a;have⟨W1,aA⟩:=zX (nO c bound a);have⟨l1,I⟩:=zX (oO c bound a);rw[<-aA]at aI;have⟨ar,aj⟩:=gy aA I;clear aA I;have aq:l1.length=c.low.length:=by rw[aj.o,uG]
 have C:=gd aq;clear aq;go_enter func313,ntmps313
 go_upto_if 7 with fail
 go_cut [] (λwx=>gn wx b 248 #[.slice g c.low.length O,.int .u64 W1,S]/\gv wx 5 (.slice g c.low.length O) g (l1.map b8)/\gf [b,g] w wx)
 case first=>
  rcases z with rfl|rfl
  .go_wp2
   go_meet
   case rel=>
    refine⟨?_,?_,(zR _ _).setCell (by simp) _⟩
    .have:=j.T 1 (.int .u64 W1)
     rw[ar.o]at this⊢;exact this
    .rw[aj.o]
     exact A.R (p:=⟨b,1,none⟩) K _
  .go_wp2_with(go_at_call 327;refine(Mq _ _ _ _ _ _ _ _ j A m.dig (by omega)).mono ?_;rintro e w1 ⟨rfl,I,am⟩;have y:=j.Z am (by simpa using K.symm);have aB:=y.X 1;have aQ:=y.V 1;simp at aB)
   go_meet
   case rel=>
    refine⟨?_,?_,(am.mono (F':=[b,g]) (by simp)).setCell (by simp) _⟩
    .have:=y.T 1 (.int .u64 ((c.W:Int)-bound))
     have e:((W1:Nat):Int)=(c.W:Int)-bound:=(by rw[ar.o];unfold nO;simp;omega);rw[e];exact this
    .rw[aj.o]
     exact I.R (p:=⟨b,1,none⟩) K _
 case rest=>
  obtain⟨u,Z,aE⟩:=hcut;have E:=u.X 0;have H:=u.X 1;have⟨aS,V⟩:=pt u 0 1;simp at E H;clear T U aP;go_wp2_with fail
  go_loopg [] 1 (λk wr=>∃(f M:Nat) (l:List Nat) (W:Nat),gn wr b 248 #[.slice (some ⟨f,0,none⟩) l.length M,.int .u64 W,S] /\
    gv wr 5 (.slice (some ⟨f,0,none⟩) l.length M) f (l.map b8)/\gf [b,g] w wr/\(f=g\/w.heap.size<=f) /\
    ((k=1/\W=W1/\l=l1)\/(k=0/\16777216<=W/\W<4294967296/\gh (jR c bound a=⟨l,W,c.M⟩))))
  .exact⟨g,O,l1,W1,by rw[C.o];exact u,by rw[C.o];exact Z,aE,.inl rfl,.inl ⟨rfl,rfl,rfl⟩⟩
  clear E H aS V u Z;obtain⟨f,M,l,W,r,L,t,s,al⟩:=hrel;have ap:=L.ne_ r (by decide);have E:=r.X 0;have H:=r.X 1;have V:=r.V 1;simp at E H;have ao:∀W',W'=W->jR c bound a=⟨l,W',c.M⟩->iZ 248 wr b f h (jR c bound a):=λW' e he=>by
   subst e;rw[he];have aW:h∉[b,g]:=(by simp;exact⟨aV,aU.symm⟩);exact⟨_,S,r,L,R.Z t aW⟩
  have ai:=gd ao;clear ao;rcases al with⟨rfl,rfl,rfl⟩|⟨rfl,hW,aX,ay⟩
  .by_cases hs:W<16777216
   .have an:decide ((W:Int)<16777216)=true:=by simp;omega
    go_wp2_with(at_builtin;refine FW rfl rfl rL rfl rfl ((L.R (p:=⟨b,1,none⟩) ap _).alloc _) (.int .u8 0) rfl ?c1 ?c2 ?c3 ?c4 ?_)
    case c1=>simp[go_sem]
    case c2=>rfl
    case c3=>simp;have:=C.o;omega
    case c4=>simp;have:=C.o;omega
    intro g2 ad w2 Y N X;have D:=((r.T 1 (.int .u64 ((W:Int)*256))).alloc (.cells #[.int .u8 0] 5)).Z N (by simpa using ap.symm);have aG:=Y.ne_ D (by decide);have aD:gf [b,g] w w2:=((t.setCell (p:=⟨b,1,none⟩) (by simp) _).alloc _).trans N (by
     intro x hx;simp at hx;subst hx;rcases s with rfl|s
     .exact .inl (by simp)
     .exact .inr s)
    have aC:=D.X 0;have aR:=D.V 0;simp at aC;have a2:=t.size;have aT:g2=g\/w.heap.size<=g2:=by
     rcases X with rfl|X
     .exact s
     .exact .inr (by omega)
    clear N;go_wp2
    go_roundg 0
    .refine⟨g2,ad,l++[0],W*256,?_,?_,aD.setCell (by simp) _,aT,.inr ⟨rfl,by omega,by omega,?_⟩⟩
     .have J:=D.T 0 (.slice g2 (l.length+1) ad)
      simp at J
      simpa using J
     .have J:=Y.R (p:=⟨b,0,none⟩) aG (.slice g2 (l.length+1) ad)
      simpa[b8]using J
     .refine gd ?_
      unfold jR;rw[<-ar.o,if_pos hs,<-aj.o]
    .omega
   .have an:decide ((W:Int)<16777216)=false:=by simp;omega
    go_wp2
    go_end0
    refine⟨rfl,f,?_,t,s⟩;refine ai.o W rfl ?_;unfold jR;rw[<-ar.o,if_neg hs,<-aj.o]
  .have an:decide ((W:Int)<16777216)=false:=by simp;omega
   go_wp2
   go_end0
   exact⟨rfl,f,ai.o W rfl ay.o,t,s⟩
theorem xu{c:ix}{a:Nat}(e:a<c.M.length):c.M[a]?=some (mT c a):=by
 unfold mT;rw[zD,zF e];rfl
theorem FN(w:World)(b g h:Nat)(c:ix)(a j:Nat)(L:iZ 248 w b g h c)(m:iY c)(f:a<c.M.length)(t:j=0\/j=1)(u:c.low.length<=1099511627776):Calls prog 277 #[.pointer b,a,j] w λe w'=>e=.returned (.int .i64 0) /\ ∃s,iZ 248 w' b s h (lX c a j)/\gf [b,g,h] w w'/\(s=g\/w.heap.size<=s):=by
 obtain⟨vl,vo,D,hl,N⟩:=L.ex;have r:=xQ m f;have aG:=m.hi;have Q:=N.ne_ D (by decide);obtain⟨aw,rfl,aF,az,H,V⟩:=N.oq;have z:=H a _ (xu f);replace z:w.cell? ⟨h,a,none⟩=some (.int .i64 (mT c a:Int)):=z;clear H;have⟨o1,am⟩:=zX (mT c a);have R:=uA m f;rw[<-am]at z R r;have I:=gd am;clear am;have y:=D.X 1;have X:=D.X 2;simp at y X;have t1:decide ((a:Int)<0)=false:=by simp
 have t2:decide (c.M.length<=a)=false:=by simp;omega
 have⟨bd,ab⟩:=zX (c.W / 4096*o1);have Z:IntKind.u64.wrap ((c.W:Int) / 4096*(o1:Int))=(bd:Int):=by
  rw[<-ab]at r
  have:=r.2
  have e:((c.W:Int) / 4096*(o1:Int))=(bd:Int):=by rw[ab];simp
  rw[e];exact IntWalk.u64_in _ (by omega)
 rw[<-ab]at r;have T:gh (lX c a j={ jR c bd j with M:=c.M.set a (lJ o1 j) }):=by
  refine gd ?_;rw[ab,I.o];rfl
 clear ab;go_enter func277,ntmps277;rcases t with rfl|rfl
 all_goals
  go_wp2;refine jE 16 (by kernel_rfl) (by kernel_rfl) ?_;simp only[take_succ_cons,take_zero,drop_succ_cons,drop_zero]
  repeat(go_big_quiet_step (fail))
  refine wpQuiet_nil ?_;intro _ A;obtain⟨nq,rfl⟩:=A;go_wp2_with fail;refine(DO (w.drewN nq) b g h c bd _ (L.Y (((zR _ _).drewN nq))) m r (by simp) u).mono ?_;rintro e Y ⟨rfl,s,y,U,O⟩;obtain⟨aJ,aK,J,K,x⟩:=y.ex;rw[B3]at x;have W:=K.ne_row x (by decide);obtain⟨aq,rfl,ay,au,E,ad⟩:=x.oq;have aH:Y.cell? ⟨h,a,none⟩=some (.int .i64 o1):=by rw[I.o];exact E a _ (xu f)
  have aI:=ad a;have S:=J.X 2;simp at S;clear E ad V;go_wp2_with fail;refine jE 14 (by kernel_rfl) (by kernel_rfl) ?_;simp only[take_succ_cons,take_zero,drop_succ_cons,drop_zero]
  repeat(go_big_quiet_step ((go_at_call 297;exact Calls.quiet_of_same (J2 o1 _ _ (by omega) (by simp)))))
  refine wpQuiet_nil ?_;intro _ A;obtain⟨C,rfl⟩:=A;go_wp2;go_ret;refine⟨rfl,s,?_,?_,O⟩
  .rw[T.o]
   refine⟨_,_,(J.drewN C).R (p:=⟨h,a,none⟩) Q.symm _,(K.drewN C).R (p:=⟨h,a,none⟩) W _,?_⟩;simp only;rw[map_set];exact(x.drewN C).T (i:=a) (by simpa using f) _
  .refine gf.setCell (gf.drewN ?_ _) (by simp) _
   exact((zR _ _).drewN nq).trans U (by simp)
def oH(d:Nat)(t:gK):Prop:=0<=t.lit/\t.lit<2^d
theorem Eh(d a b:Nat):oH d ⟨a,b,0⟩:=⟨Int.le_refl _,jZ d⟩
theorem Mt{at_:Nat}{D:List Nat}{p:List Nat × List gK}(h:∀t∈p.2,oH d t):∀t∈(ns cp at_ D n p).2,oH d t:=by
 unfold ns;split
 .exact h
 .split
  .intro t e
   rcases mem_or_eq_of_mem_set e with a|rfl
   .exact h t a
   .exact Eh d _ _
  .exact h
theorem C8{d cp at_:Nat}{D:List Nat}:∀f m p,(∀t∈p.2,oH d t)->∀t∈(mu cp at_ D f m p).2,oH d t
 | 0,_,_,h=>h
 | f+1,m,p,h=>C8 f (m+1) _ (Mt h)
theorem KA{a:Nat}(f:gU d l){s:lG}(h:∀t∈s.first,oH d t):∀t∈(p8 l a cp k s).first,oH d t:=by
 refine C8 65 0 _ λt ht=>?_;rcases mem_or_eq_of_mem_set ht with e|rfl
 .exact h t e
 .exact nS f k
theorem E9{d a cp:Nat}{l:List Int}(e:gU d l):∀k s,(∀t∈s.first,oH d t)->∀t∈(oQ l a cp k s).first,oH d t
 | 0,_,h=>h
 | k+1,s,h=>E9 e k _ (KA e h)
theorem DC{Q:gK->Prop}{F:List gK}(h:∀t∈F,Q t){n:Nat}(e:n<=F.length):∀f i,∀t∈kf F n f i,Q t
 | 0,_,t,ht=>by simp[kf]at ht
 | f+1,i,t,ht=>by
  unfold kf at ht;split at ht
  .rename_i hi
   rcases zJ.1 ht with rfl|a
   .unfold iy
    rw[zD,zF (by omega)];exact h _ (zG _)
   .exact DC h e f _ t a
  .simp at ht
theorem I8(e:gU d l)(a cp:Nat):∀t∈lf l a cp,oH d t:=
 DC (E9 e _ _ λt ht=>by
  have:t=⟨0,0,0⟩:=eq_of_mem_replicate ht
  rw[this];exact Eh d _ _) (by
   have:=(ud l a cp).pair.fl
   unfold pR at this;rw[this];exact zQ _) _ _
theorem Cj(j:gU d l)(e cp:Nat):∀t∈lf l e cp,p6 d t:=by
 intro t h;have a:=KC l e cp t h;have f:=I8 j e cp t h;unfold gK.ok at a;unfold p6
 cases hl:t.isLit with
 | true=>exact .inl ⟨rfl,f.1,f.2⟩
 | false=>
  right;refine⟨rfl,?_⟩;rcases a with a|a
  .rw[hl]at a;cases a
  .exact a
theorem iO(w:World)(o:Obj):(w.alloc o).heap.size=w.heap.size+1:=by
 show(w.heap.push o).size=_;exact Array.size_push _
theorem gn.new2(w:World)(o:Obj)(t:TypeId)(cs:Array Value):gn ((w.alloc o).alloc (.cells cs t)) (w.heap.size+1) t cs:=by
 have h:=gn.new (w.alloc o) t cs;rw[iO]at h;exact h
theorem gn.new3(w:World)(o a:Obj)(t:TypeId)(cs:Array Value):gn (((w.alloc o).alloc a).alloc (.cells cs t)) (w.heap.size+1+1) t cs:=by
 have h:=gn.new2 (w.alloc o) a t cs;rw[iO]at h;exact h
def gN(p:gH)(g o cap:Nat):Value:=.agg #[p.W,p.H,p.d,.slice (some ⟨g,o,none⟩) p.P.length cap]
structure gW (w:World) (p:gH) (g o:Nat) (B:Nat->Option Addr) (c:Nat->Nat) (G:List Nat):Prop where
 ok:p.Ok
 gG:g∈G
 lt:∀x∈G,x<w.heap.size
 X:∀i,i<p.P.length->w.cell? ⟨g,o+i,none⟩=some (.slice (B i) (p.W*p.H) (c i))
 cells:∀i,i<p.P.length->gu vi w (B i) (p.P.getD i [])
 blk:∀i,i<p.P.length->∀ad,B i=some ad->ad.block∈G
 cap:∀i,i<p.P.length->p.W*p.H<=c i/\c i<=9223372036854775807
section
variable {w w':World} {p:gH} {g o:Nat} {B:Nat->Option Addr} {c:Nat->Nat} {G F:List Nat}
theorem gW.Z(h:gW w p g o B c G)(a:gf F w w')(f:∀x∈G,x∉F):gW w' p g o B c G:=
 { h with
  lt:=λx hx=>Nat.lt_of_lt_of_le (h.lt x hx) a.size
  X:=λi hi=>(World.cell?_of_block (w:=w) (a.block g (h.lt g h.gG) (f g h.gG))).trans (h.X i hi)
  cells:=λi hi=>(h.cells i hi).Z a λad e=>f _ (h.blk i hi ad e) }
theorem gW.Y(h:gW w p g o B c G)(a:gf [] w w'):gW w' p g o B c G:=h.Z a (by simp)
theorem gW.len(h:gW w p g o B c G)(hi:i<p.P.length):(p.P.getD i []).length=p.W*p.H:=h.ok.len _ (by
 rw[zD,zF hi];exact zG hi)
theorem gW.at_(h:gW w p g o B c G)(hi:i<p.P.length):∃b q,B i=some ⟨b,q,none⟩/\b∈G/\∀k,k<p.W*p.H->w.cell? ⟨b,q+k,none⟩=some (.int .i64 ((p.P.getD i []).getD k 0)):=by
 have a:=h.len hi;obtain⟨b,q,e,j,f⟩:=(h.cells i hi).ex (by rw[a];exact h.ok.pos);refine⟨b,q,e,h.blk i hi _ e,λk hk=>?_⟩;refine f k _ ?_;rw[zD (l:=p.P.getD i []),zF (by rw[a];exact hk)];rfl
end
end Go.Proofs.YtnepiccbpokmiaaGreatDoor
