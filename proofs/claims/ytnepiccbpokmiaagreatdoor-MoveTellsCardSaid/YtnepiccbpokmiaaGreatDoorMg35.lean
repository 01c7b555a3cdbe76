/- Lemmas. -/
import Derived.Test.YtnepiccbpokmiaaGreatDoorMg30
import Derived.Laws.Tables
import Derived.Test.YtnepiccbpokmiaaGreatDoorMg24
set_option linter.all false
set_option maxHeartbeats 2000000
set_option maxRecDepth 100000
namespace Go.Proofs.YtnepiccbpokmiaaGreatDoor
open Tryz List Nat Go.RowKit
variable {l:List Int}{i:Nat}{w:World}
def pS:List Value:=mq.flatMap λp=>[.int .i64 p.1,.int .i64 p.2]
theorem GC{l:List (Int × Int)}{p:Int × Int}(h:l[i]?=some p):(l.flatMap λp=>[Value.int .i64 p.1,Value.int .i64 p.2])[i*2]?=some (.int .i64 p.1)/\(l.flatMap λp=>[Value.int .i64 p.1,Value.int .i64 p.2])[i*2+1]?=some (.int .i64 p.2):=by
 induction l generalizing i with
 | nil=>simp at h
 | cons s l ih=>
  rw[flatMap_cons]
  cases i with
  | zero=>simp at h;subst h;exact⟨rfl,rfl⟩
  | succ i=>
   obtain⟨a,b⟩:=ih (by simpa using h);refine⟨?_,?_⟩
   .rw[show(i+1)*2=i*2+1+1 by omega];exact a
   .rw[show(i+1)*2+1=i*2+1+1+1 by omega];exact b
theorem OF(h:i<24):pS[i*2]?=some (.int .i64 (mK i))/\pS[i*2+1]?=some (.int .i64 (m8 i)):=by
 have a:i<mq.length:=h
 have:=GC (l:=mq) (i:=i) (p:=mq[i]) (zF a)
 unfold mK m8;rw[zD,zF a];exact this
theorem OG:pS.toArray.all (·.oneCell')=true:=by kernel_rfl
theorem Hl{P:Program}{ops:Array Oper}{rest:List Oper}{o:Oper}{a:Act}{Q:Exit->Act->World->Prop}(e:o.guard=none)(t:TypeId)(b:Array (Nat × Operand))(f:o.op=.build t b)(c:Array Value)(d:P.built t (b.map λ(i,x)=>(i,a.eval x)).toList=some c)(h:wpList P ops Q rest (a.put o.dst (.agg c)) w):wpList P ops Q (o::rest) a w:=
 wpList_build e t b f (by rw[d];rfl) (by rw[d];exact h)
theorem Lh(c W:Nat)(w:World)(u:1<=c)(x:c<=1048)(g:1<=W)(b:W<=64):Calls prog 228 #[c,W] w λe w'=>e=.returned (.int .i64 (lP c W))/\gf [] w w':=by
 have k:=qo W w g b;have D:=gL c 1 (by omega);have E:=gL 1048 c (by omega);by_cases h24:24<c
 .have B:=i6 24 c (by omega)
  have d:lP c W=(c:Int)-24:=by unfold lP;rw[if_pos h24]
  rw[d];clear d h24;go_enter func228,ntmps228
  go_wp2_with(go_at_call 85;refine gx k ?_)
  go_ret;exact⟨rfl,zR _ _⟩
 .have B:=gL 24 c (by omega)
  have⟨i,hi⟩:=zX (c-1);have o:i<24:=by omega
  have C:(c:Int)-1=(i:Int):=by omega
  have d:lP c W=max (m8 i*W+mK i) 1:=by unfold lP;rw[if_neg h24,<-hi]
  obtain⟨h,j⟩:=OF o;obtain⟨y,A,m,n⟩:=FR i;have⟨X,hX⟩:=zX (mK i);have⟨Y,hY⟩:=zX (m8 i);rw[<-hX]at h y A d;rw[<-hY]at j m n d;have ad:0<=Y*(W:Int):=Int.mul_nonneg m (by omega);have p:Y*(W:Int)<=4*64:=Int.mul_le_mul n (by omega) (by omega) (by omega);obtain⟨M,t⟩:∃M,Y*(W:Int)=M:=⟨_,rfl⟩;rw[t]at ad p d;rw[d];clear hX hY hi h24;go_enter func228,ntmps228
  go_wp2_with(first
   | refine Hl rfl 258 _ rfl pS.toArray (by as_aux_lemma=>kernel_rfl) ?_
   | refine wpList_store_mid rfl 258 (.tmp 5) (.tmp 45) rfl w.heap.size 0 pS.toArray rfl rfl (gn.there (gn.new w 258 _) (by as_aux_lemma=>exact zQ 48)) (by as_aux_lemma=>kernel_rfl) OG ?_
   | (go_at_call 85;refine gx k ?_))
  generalize b:World.setCells _ w.heap.size 0 pS.toArray.toList=w1;have f:gn w1 w.heap.size 258 pS.toArray:=by
   rw[<-b];exact gn.setCells (gn.new w _ _) pS rfl
  have s:gf [] w w1:=by
   rw[<-b];exact gf.setCells (.inr (zQ _)) _ _ _ ((zR [] w).alloc _)
  have q:=gn.X f (i*2);have r:=gn.X f (i*2+1);rw[getElem?_toArray,h]at q;rw[getElem?_toArray,j]at r;clear b f d h j;rw[show ∀(a:Act) (v:Value),a.put none v=a from λ_ _=>rfl]
  go_quiet (fail)
  go_wp2_with fail
  all_goals
   go_ret;exact⟨congrArg (λz=>Ending.returned (.int .i64 z)) (show _=max (M+X) 1 by omega),s.drewN nq⟩
theorem Lc(d W:Nat)(w:World)(x:1<=d)(y:d<=1024)(g:1<=W)(h:W<=64):Calls prog 156 #[d,W] w λe w'=>e=.returned (.int .i64 (mt d W))/\gf [] w w':=by
 have s:=qo W w g h;have B:=gL d 1 (by omega);have C:=gL 1024 d (by omega);have p:mt d W=mi d W 24 1:=rfl;have q:=λc (wr:World) (a:1<=c) (b:c<=1048)=>Lh c W wr a b g h;have⟨HD,HN⟩:=gy p q;clear p q;go_enter func156,ntmps156
 go_wp2_with(go_at_call 85;refine gx s ?_)
 go_loopg [5] 24 (λj iv wr=>∃c:Nat,iv=.int .i64 c/\c+j=25/\1<=c/\mt d W=mi d W j c/\gf [] w wr)
 .exact⟨1,rfl,rfl,zQ _,HD.o,zR _ _⟩
 obtain⟨c,rfl,A,r,k,ad⟩:=hrel;rcases gk with _|j
 .have t:=kK c 24 (by omega)
  go_wp2;go_ret;rw[k];exact⟨congrArg (λz=>Ending.returned (.int .i64 z)) (show(d:Int)+24=((d+24:Nat):Int)by omega),ad⟩
 .have t:=iI c 24 (by omega)
  have o:=HN.o c wr r (by omega);have f:mi d W (j+1) c=if lP c W=d then c else mi d W j (c+1):=rfl;generalize lP c W=nr at *;by_cases hq:nr=(d:Int)
  .have u:(nr==(d:Int))=true:=by simpa using hq
   rw[if_pos hq]at f;have m:=gd f;clear hq f
   go_wp2_with(go_at_call 228;refine o.mono ?_;rintro e v ⟨rfl,n⟩)
   go_ret;rw[k,m.o];exact⟨rfl,ad.trans n (λ_ hx=>.inl hx)⟩
  .have u:(nr==(d:Int))=false:=by simpa using hq
   rw[if_neg hq]at f;have⟨m,af⟩:=gy f k;clear hq f k
   go_wp2_with(go_at_call 228;refine o.mono ?_;rintro e v ⟨rfl,n⟩)
   go_roundg j
   .exact⟨c+1,by go_num,by omega,by omega,by rw[af.o,m.o],ad.trans n (λ_ hx=>.inl hx)⟩
   .omega
theorem yW(h:i<l.length):l[i]=l.getD i 0:=by rw[zD,zF h];rfl
theorem Fj(l:List Int)(A:Option Addr)(cap a d:Nat)(w:World)(t:l.length<=4096)(B:gu vi w A l)(C:a<=l.length)(D:1<=d)(E:d<=a):Calls prog 229 #[.slice A l.length cap,a,d] w λe I=>e=.returned (.int .i64 (jw l a d))/\∃k,I=w.drewN k:=by
 have b:gh (jw l a d=0+lY l d 64 (a+0)):=gd (by rw[Nat.zero_add];rfl);have⟨n,hn⟩:=zX l.length;rw[<-hn]at t C⊢;have⟨HN,HC⟩:=gy hn B;clear hn B;go_enter func229,ntmps229;go_wp2_with fail
 go_loopg [7] 64 (λj kv wr=>∃k nq:Nat,kv=.int .i64 k/\k+j=64/\gh (jw l a d=k+lY l d j (a+k))/\wr=w.drewN nq)
 .exact⟨0,0,rfl,rfl,b,rfl⟩
 clear b;obtain⟨k,p,rfl,Q,b,rfl⟩:=hrel;rcases gk with _|j
 .have F:=gL k 64 (by omega)
  go_upto_region 2 with(fail)
  go_quiet (fail)
  go_wp2_with fail;go_ret;refine⟨?_,?_⟩
  .rw[b.o];rfl
  .exact⟨p+nq,by first|rfl|rw[World.drewN_drewN]⟩
 .have F:=i6 k 64 (by omega)
  by_cases hlt:a+k<n
  .have G:decide ((a:Int)+(k:Int)<(n:Int))=true:=zB (by omega)
   have r:=HC.o;obtain⟨g,o,rfl,m⟩:=r.at_ (show a+k<l.length by rw[<-HN.o];exact hlt);obtain⟨P,R,s,f⟩:=r.at_ (show a+k-d<l.length by rw[<-HN.o];omega);injection s with s;injection s with e1 e2 _;subst e1;subst e2;rw[yW (by rw[<-HN.o];exact hlt)]at m;rw[yW (by rw[<-HN.o];omega)]at f;have h:lY l d (j+1) (a+k)=if a+k<l.length/\l.getD (a+k) 0=l.getD (a+k-d) 0 then lY l d j (a+k+1)+1 else 0:=rfl;have⟨x,hx⟩:=zX (a+k);have⟨y,hy⟩:=zX (a+k-d);have N:(a:Int)+(k:Int)=(x:Int):=(by omega);have O:(x:Int)-(d:Int)=(y:Int):=(by omega);rw[<-hx]at m f hlt h hy;rw[<-hy]at f h;have M:y<n:=(by omega);have K:IntKind.i64.wrap (x:Int)=(x:Int):=IntWalk.i64_in _ (by omega);have L:IntKind.i64.wrap (y:Int)=(y:Int):=IntWalk.i64_in _ (by omega);rw[<-hx]at b;generalize l.getD x 0=u at *;generalize l.getD y 0=v at *;have ad:w.cell? ⟨g,o+x,none⟩=some (.int .i64 u):=m;have J:w.cell? ⟨g,o+y,none⟩=some (.int .i64 v):=f;have z:=gd h;clear m f h r hx hy;by_cases huv:u=v
   .have H:(u==v)=true:=by simpa using huv
    have q:=gd huv;clear huv
    go_upto_region 2 with(fail)
    go_quiet (fail)
    go_wp2_with fail
    go_roundg j
    .refine⟨k+1,p+nq,by go_num,by omega,gd ?_,by first|rfl|rw[World.drewN_drewN]⟩
     rw[b.o,z.o,if_pos ⟨by rw[<-HN.o];exact hlt,q.o⟩,show a+(k+1)=x+1 by omega];omega
    .omega
   .have H:(u==v)=false:=by simpa using huv
    have q:=gd huv;clear huv
    go_upto_region 2 with(fail)
    go_quiet (fail)
    go_wp2_with fail;go_ret;refine⟨?_,by exact⟨p+nq,by first|rfl|rw[World.drewN_drewN]⟩⟩
    rw[b.o,z.o,if_neg λc=>q.o c.2];rfl
  .have G:decide ((a:Int)+(k:Int)<(n:Int))=false:=zA (by omega)
   go_upto_region 2 with(fail)
   go_quiet (fail)
   go_wp2_with fail;go_ret;refine⟨?_,?_⟩
   .rw[b.o]
    have:lY l d (j+1) (a+k)=0:=by
     unfold lY;rw[if_neg (by rw[<-HN.o];omega)]
    rw[this];rfl
   .exact⟨p+nq,by first|rfl|rw[World.drewN_drewN]⟩
theorem M0(l:List Int)(A:Option Addr)(cap a d:Nat)(w:World)(f:l.length<=4096)(h:gu vi w A l)(g:a<=l.length)(b:1<=d)(c:d<=a):Calls prog 229 #[.slice A l.length cap,a,d] w λe w'=>e=.returned (.int .i64 (jw l a d))/\gf [] w w':=
 (Fj l A cap a d w f h g b c).mono λ_ _ ⟨h1,k,h2⟩=>⟨h1,h2 ▸ (zR [] w).drewN k⟩
theorem Ld(l:List Int)(A:Option Addr)(cap a n e:Nat)(w:World)(m:l.length<=4096)(u:gu vi w A l)(C:a<=l.length)(D:1<=e)(E:e<=a)(F:e<=1024)(o:n<=jw l a e):Calls prog 159 #[.slice A l.length cap,a,n] w λx p=>x=.returned (.int .i64 (pV l a n))/\∃k,p=w.drewN k:=by
 have ad:n<=64:=Nat.le_trans o (EI _ _ _);have b:gh (pV l a n=oW l a n 1024 1):=gd rfl;have v:gh (n<=jw l a e):=gd o;have y:gh (∀(d nq:Nat),1<=d->d<=a->Calls prog 229 #[.slice A l.length cap,a,.int .i64 d] (w.drewN nq) λe p=>e=.returned (.int .i64 (jw l a d))/\∃k,p=(w.drewN nq).drewN k):=gd λd nq h1 h2=>Fj l A cap a d _ m (u.Y ((zR [] w).drewN nq)) C h1 h2;clear o u;go_enter func159,ntmps159;go_wp2_with fail
 go_loopg [7] (e-1) (λj dv wr=>∃d f nq:Nat,dv=.int .i64 d/\d+j=e/\1<=d/\d+f=1025/\gh (pV l a n=oW l a n f d)/\wr=w.drewN nq)
 .exact⟨1,1024,0,rfl,by omega,zQ _,rfl,b,rfl⟩
 clear b;obtain⟨d,f,nq,rfl,L,z,K,b,rfl⟩:=hrel;obtain⟨f,rfl⟩:∃f',f=f'+1:=⟨f-1,by omega⟩;have t:oW l a n (f+1) d=if jw l a d<n then oW l a n f (d+1)else d:=rfl;have s:=y.o d nq z (by omega);have I:=EI l a d;have c:gh (d=e->n<=jw l a d):=gd λh=>by rw[h];exact v.o
 generalize jw l a d=r at *;have q:=gd t;clear t;by_cases hq:r<n
 .have G:=i6 r n (by omega)
  have B:decide (r<n)=true:=zB hq;have J:d<e:=by
   rcases zZ d e with h|h
   .exact h
   .have:=c.o (by omega);omega
  have g:=gd hq;clear hq c;obtain⟨j,rfl⟩:∃j',gk=j'+1:=⟨gk-1,by omega⟩
  go_wp2_with(go_at_call 229;refine s.mono ?_;rintro x H ⟨rfl,k2,rfl⟩)
  go_roundg j
  case measure=>(omega)
  case rel=>
   exact⟨d+1,f,nq+k2,by go_num,by omega,by omega,by omega,gd (by rw[b.o,q.o,if_pos g.o]),by first|rfl|rw[World.drewN_drewN]⟩
 .have G:=gL r n (by omega)
  have B:decide (r<n)=false:=zA hq;have g:=gd hq;clear hq c
  go_wp2_with(go_at_call 229;refine s.mono ?_;rintro x H ⟨rfl,k2,rfl⟩)
  go_ret;refine⟨?_,nq+k2,by first|rfl|rw[World.drewN_drewN]⟩
  rw[b.o,q.o,if_neg g.o];rfl
theorem Le(l:List Int)(A:Option Addr)(cap a:Nat)(w:World)(q:l.length<=4096)(z:gu vi w A l)(L:a<l.length):Calls prog 158 #[.slice A l.length cap,a] w λx w'=>(∃d:Int,x=.returned (.tuple #[.int .i64 (if kZ l a<3 then 0 else kZ l a:Nat),.int .i64 d]))/\gf [] w w':=by
 have⟨M,hM⟩:=zX (min a 1024);have ad:gh (kZ l a=lM l a M):=gd (by rw[hM];rfl);have⟨E,hE⟩:=zX (if kZ l a<3 then 0 else kZ l a);rw[<-hE];have g:=gd hE;clear hE;have B:gh (∀(d:Nat) (wr:World),1<=d->d<=a->gf [] w wr->Calls prog 229 #[.slice A l.length cap,a,.int .i64 d] wr λe w'=>e=.returned (.int .i64 (jw l a d))/\gf [] wr w'):=gd λd wr h1 h2 h3=>M0 l A cap a d wr q (z.Y h3) (by omega) h1 h2;have I:M<=a:=by omega
 have J:M<=1024:=by omega
 have o:a<=M\/1024<=M:=by omega
 clear z hM;have O:=gL a 0 (by omega);have K:decide (l.length<=a)=false:=zA (by omega);go_enter func158,ntmps158;go_wp2_with fail
 go_loopg [6,7,8,9] M (λj nv Dv dv u wr=>∃(d n:Nat) (D:Int),nv=.int .i64 n/\Dv=.int .i64 D/\dv=.int .i64 d/\d+j=M+1/\1<=d/\gh (n=lM l a (d-1))/\gf [] w wr)
 .exact⟨1,0,0,rfl,rfl,rfl,by omega,zQ _,gd rfl,zR _ _⟩
 obtain⟨d,n,D,rfl,rfl,rfl,N,C,k,c⟩:=hrel;have H:n<=64:=by rw[k.o];exact(sR l a _).1
 rcases gk with _|j
 .have h:gh (kZ l a=n):=gd (by rw[ad.o,k.o,show d-1=M by omega])
  clear k ad;rcases o with o|o
  .have s:=kK d a (by omega)
   by_cases hq:n<3
   .have f:=i6 n 3 (by omega)
    have m:decide (n<3)=true:=zB hq;have b:gh (E=0):=gd (by rw[g.o,h.o,if_pos hq]);clear hq;go_wp2;exact bodyPost_ret (v:=.tuple #[(0:Int),(0:Int)]) (by simp[results,results158,go_sem]) rfl ⟨⟨0,by rw[b.o];rfl⟩,c⟩
   .have f:=gL n 3 (by omega)
    have m:decide (n<3)=false:=zA hq;have b:gh (E=n):=gd (by rw[g.o,h.o,if_neg hq]);clear hq;go_wp2;exact bodyPost_ret (v:=.tuple #[n,D]) (by simp[results,results158,go_sem]) rfl ⟨⟨D,by rw[b.o]⟩,c⟩
  .have F:=kK d 1024 (by omega)
   by_cases hda:d<=a
   .have s:=iI d a (by omega)
    by_cases hq:n<3
    .have f:=i6 n 3 (by omega)
     have m:decide (n<3)=true:=zB hq;have b:gh (E=0):=gd (by rw[g.o,h.o,if_pos hq]);clear hq;go_wp2;exact bodyPost_ret (v:=.tuple #[(0:Int),(0:Int)]) (by simp[results,results158,go_sem]) rfl ⟨⟨0,by rw[b.o];rfl⟩,c⟩
    .have f:=gL n 3 (by omega)
     have m:decide (n<3)=false:=zA hq;have b:gh (E=n):=gd (by rw[g.o,h.o,if_neg hq]);clear hq;go_wp2;exact bodyPost_ret (v:=.tuple #[n,D]) (by simp[results,results158,go_sem]) rfl ⟨⟨D,by rw[b.o]⟩,c⟩
   .have s:=kK d a (by omega)
    by_cases hq:n<3
    .have f:=i6 n 3 (by omega)
     have m:decide (n<3)=true:=zB hq;have b:gh (E=0):=gd (by rw[g.o,h.o,if_pos hq]);clear hq;go_wp2;exact bodyPost_ret (v:=.tuple #[(0:Int),(0:Int)]) (by simp[results,results158,go_sem]) rfl ⟨⟨0,by rw[b.o];rfl⟩,c⟩
    .have f:=gL n 3 (by omega)
     have b:gh (E=n):=gd (by rw[g.o,h.o,if_neg hq]);clear hq;go_wp2;exact bodyPost_ret (v:=.tuple #[n,D]) (by simp[results,results158,go_sem]) rfl ⟨⟨D,by rw[b.o]⟩,c⟩
 .have s:=iI d a (by omega)
  have F:=iI d 1024 (by omega);have y:=B.o d wr C (by omega) c;have t:gh (lM l a (d+1-1)=max n (jw l a d)):=gd (by
   obtain⟨e,rfl⟩:∃e,d=e+1:=⟨d-1,by omega⟩;rw[k.o,Nat.add_sub_cancel,Nat.add_sub_cancel,lM])
  generalize jw l a d=r at *;by_cases hq:n<r
  .have f:=i6 n r (by omega)
   go_wp2_with(go_at_call 229;refine y.mono ?_;rintro x G ⟨rfl,p⟩)
   go_roundg j
   .exact⟨d+1,r,d,rfl,rfl,by go_num,by omega,by omega,gd (by rw[t.o];omega),c.trans p (λ_ hx=>.inl hx)⟩
   .omega
  .have f:=gL n r (by omega)
   go_wp2_with(go_at_call 229;refine y.mono ?_;rintro x G ⟨rfl,p⟩)
   go_roundg j
   .exact⟨d+1,n,D,rfl,rfl,by go_num,by omega,by omega,gd (by rw[t.o];omega),c.trans p (λ_ hx=>.inl hx)⟩
   .omega
theorem DB(a b c:Int):∀u∈[Value.int .i64 a,Value.int .i64 b,Value.int .i64 c],u.oneCell'=true:=λu d=>by
 rcases zJ.1 d with rfl|d
 .rfl
 rcases zJ.1 d with rfl|d
 .rfl
 rcases zJ.1 d with rfl|d
 .rfl
 .cases d
theorem new3(w:World)(t:TypeId)(a b c:Value):∀j u,[a,b,c][j]?=some u->(w.alloc (.cells #[a,b,c] t)).cell? ((⟨w.heap.size,0,none⟩:Addr).add j)=some u:=λj u hj=>by
 have d:=gn.new w t #[a,b,c]
 match j,hj with
 | 0,hj=>rw[<-hj];exact d.X 0
 | 1,hj=>rw[<-hj];exact d.X 1
 | 2,hj=>rw[<-hj];exact d.X 2
 | j+3,hj=>simp at hj
theorem Jx(l:List Int)(A:Option Addr)(cap d cp:Nat)(w:World)(hll:l.length<=4096)(hc:gu vi w A l)(h0:1<=d)(h1:d<=1048576)(h2:1<=cp)(h3:cp<=1048576):Calls prog 109 #[.slice A l.length cap,d,cp] w λe N=>∃(A':Option Addr) (cap':Nat),e=.returned (.slice A' (lf l d cp).length cap')/\lD N A' (lf l d cp)/\gf [] w N/\∀ad,A'=some ad->w.heap.size<=ad.block:=by
 have au:=λa (wr:World) (hh:gf [] w wr) (ha:a<l.length)=>Le l A cap a wr hll (hc.Y hh) ha;have an:rK l d cp 0 (replicate (l.length+1) 0):=⟨by simp,λi h1 h2=>by omega⟩;have a8:(jp l d cp 0).costs=replicate (l.length+1) 0:=rfl;have av:=λt Y B b s ht h=>@JV l d cp t Y B b s ht h;have ar:∀t,t<=l.length->(jp l d cp t).costs.length=l.length+1/\∀i,(jp l d cp t).costs.getD i 0<=4294967296:=λt ht=>by
  have h:=(rB l d cp t ht).pair;refine⟨h.cl,λi=>Nat.le_trans (ry h.cb i) ?_⟩;exact Nat.le_trans (zL (show l.length-(l.length-t)<=4096 by omega) h1) (by decide)
 have⟨ap,ao,aq⟩:=gS au ar av;have⟨n,hn⟩:=zX l.length;rw[<-hn]at hll an a8;have H:=gd hn;have⟨m,hm⟩:=zX (n+1);have em:(n:Int)+1=(m:Int):=by omega
 have ce:=lp (P:=prog) iJ rfl .i64 .i64 m (by omega) (by omega);have bj:gh (∀N:World,gv (N.alloc (.cells (replicate m (Value.int .i64 0)).toArray 3)) 3 (.slice (some ⟨N.heap.size,0,none⟩) m m) N.heap.size ((replicate m 0).map i64)):=gd λN=>gv.nat_zeros N m (by omega);rw[<-hm]at an a8;have⟨aL,bu,HC⟩:=gS an a8 hc;rw[<-hn];have HM:=gd hm;have cB:IntKind.i64.wrap (m:Int)=(m:Int):=IntWalk.i64_in _ (by omega);have q1:=gL d 1 (by omega);have q2:=gL 1048576 d (by omega);have q3:=gL cp 1 (by omega);have q4:=gL 1048576 cp (by omega);clear au an a8 av ar hn hc hm;go_enter func109,ntmps109;go_wp2_with fail;clear q1 q2 q3 q4
 go_cut [7,8] (λs7 s8 wx=>∃v r,s7=.slice (some ⟨v,0,none⟩) m m/\s8=.slice (some ⟨r,0,none⟩) m m/\v≠r/\gv wx 3 (.slice (some ⟨v,0,none⟩) m m) v ((replicate m 0).map i64)/\gv wx 3 (.slice (some ⟨r,0,none⟩) m m) r ((replicate m 0).map i64)/\gf [] w wx/\w.heap.size<=v/\w.heap.size<=r)
 case first=>
  go_region_law (fail)
  all_goals
   have r1:=((bj.o w).alloc (.cells (replicate m (Value.int .i64 0)).toArray 3)).drew;have r2:=(bj.o (w.alloc (.cells (replicate m (Value.int .i64 0)).toArray 3))).drew;rw[show(w.alloc (.cells (replicate m (Value.int .i64 0)).toArray 3)).heap.size=w.heap.size+1 from Array.size_push _]at r2;have c3:gf [] w ((w.alloc (.cells (replicate m (Value.int .i64 0)).toArray 3)).alloc (.cells (replicate m (Value.int .i64 0)).toArray 3)).drew:=(((zR [] w).alloc _).alloc _).drew;have⟨R1,R2,C3⟩:=gS r1 r2 c3;clear r1 r2 c3;go_wp2_with fail;go_meet
   case rel=>
    first
     | exact⟨w.heap.size,w.heap.size+1,rfl,rfl,by omega,R1.o,R2.o,C3.o,zQ _,by omega⟩
     | exact⟨w.heap.size+1,w.heap.size,rfl,rfl,by omega,R2.o,R1.o,C3.o,by omega,zQ _⟩
 case rest=>
  obtain⟨v,r,rfl,rfl,ba,J,K,aR,bM,bN⟩:=hcut;rw[<-bu.o]at J;clear bj ce bu;have⟨aJ,bz,bA⟩:=gS aR bM bN;clear aR bM bN;go_wp2_with fail
  go_loopg [9,10,11,12,13] n (λj v9 v10 v11 v12 v13 wr=>∃(x:Int) (t:Nat) (Y:List Nat),v9=.int .i64 x/\x+1=(j:Int)/\t+j=n/\gv wr 3 (.slice (some ⟨v,0,none⟩) m m) v ((jp l d cp t).costs.map i64)/\gv wr 3 (.slice (some ⟨r,0,none⟩) m m) r (Y.map i64)/\gh (rK l d cp t Y)/\gf [v,r] wc wr)
  .exact⟨_,0,_,rfl,by omega,by omega,J,K,aL,zR _ _⟩
  clear J K aL;obtain⟨x,t,Y,rfl,bS,cz,J,K,aK,M⟩:=hrel;rcases gk with _|j
  .obtain rfl:x=-1:=by omega
   obtain rfl:n=t:=by omega
   clear bS;have⟨F,hF⟩:=zX ((jp l d cp n).first);have HT:gh (lf l d cp=[]++kf F n n 0):=gd (by
    rw[nil_append,hF];show kf (pR l d cp).first l.length l.length 0=_;rw[I9,<-H.o])
   have bY:gh (∀i,i<n->Fx l F i):=gd (λi hi=>by
    rw[hF]
    have:=BN l d cp l.length (zQ _) i (by omega) (by rw[<-H.o];exact hi)
    rw[<-H.o]at this;exact this)
   have aM:gh (Y.length=m/\∀i,i<n->Y.getD i 0=(iy F i).len):=gd (by
    obtain⟨O,Q⟩:=aK.o;rw[hF];exact⟨by rw[O,<-H.o,HM.o],λi hi=>Q i (by rw[<-H.o];omega) (by rw[<-H.o];exact hi)⟩)
   have a0:gh (gf [] w wr):=gd (aJ.o.trans M (λx hx=>by have:=bz.o;have:=bA.o;simp at hx;omega));obtain⟨w0,rfl⟩:=zX wr;have az:=gd K;clear hF aK M J K aq ao ap;go_wp2_with fail
   go_loopg [14,15] n (λj v14 v15 wx=>∃(i f:Nat) (T:List gK) (G:List Nat),v15=.int .i64 i/\i+j=n/\n<=i+f/\T.length<=i/\ic wx 157 3 v14 G T.length (T.flatMap kB)/\gh (lf l d cp=T++kf F n f i)/\gh (gf [] w0 wx)/\gh (∀x∈G,w0.heap.size<=x))
   .exact⟨0,n,[],[],rfl,by omega,by omega,zQ _,ic.nil _ _ _,HT,gd (zR _ _),gd (λx hx=>by cases hx)⟩
   clear HT;obtain⟨i,f,T,G,rfl,cu,ct,b7,V,U,R,HG⟩:=hrel;rcases gk with _|j
   .obtain rfl:n=i:=by omega
    have t2:decide (n<n)=false:=(by simp);obtain⟨A',cap',rfl,_,_,Z,bF⟩:=V.open_;have aT:lf l d cp=T:=by
     rw[U.o]
     cases f with
     | zero=>rw[kf,append_nil]
     | succ f=>rw[kf,if_neg (Nat.lt_irrefl _),append_nil]
    have⟨ay,bV,bc⟩:=gS Z bF aT;clear Z bF aT V;go_wp2_with fail;go_ret;rw[bc.o];refine⟨A',cap',rfl,ay.o,a0.o.tq R.o,λad had=>?_⟩;obtain⟨g,rfl,hG,_⟩:=bV.o ad had;have h1:=HG.o g (by rw[hG];simp);have h2:=a0.o.size;exact Nat.le_trans h2 h1
   .have aE:i<n:=by omega
    obtain⟨f,rfl⟩:∃f',f=f'+1:=⟨f-1,by omega⟩;obtain⟨b9,bE⟩:=aM.o;have bC:=bE i aE;obtain⟨aY,am⟩:=bY.o i aE;obtain⟨cs,_⟩:=(az.o.Z R.o (by simp)).nat_cell (i:=i) (by omega);rw[bC]at cs;have a7:gh (lf l d cp=(T++[iy F i])++kf F n f (i+max (iy F i).len 1)):=gd (by
     rw[U.o,kf,if_pos aE,zH];rfl)
    have⟨dn,bo⟩:=zX T.length;rw[<-bo]at V b7;have a6:=gd bo;obtain⟨A2,b2,rfl⟩:=V.shape;have cv:i<m:=(by rw[HM.o];omega);clear b9 bE bC U bo;have⟨s,hs⟩:=zX ((iy F i).len);rw[<-hs]at aY am cs a7;have HS:=gd hs;clear hs;by_cases hs0:s=0
    .subst hs0
     have ai:iy F i=⟨0,0,l.getD i 0⟩:=(by rw[aY];rfl);have cc:=(HC.o.Y (a0.o.tq R.o)).at_ (show i<l.length by rw[<-H.o];exact aE);obtain⟨g,o,rfl,ca⟩:=cc;rw[yW (by rw[<-H.o];exact aE)]at ca;generalize l.getD i 0=x at *;have cj:wr.cell? ⟨g,o+i,none⟩=some (.int .i64 x):=ca;have al:=gn.new wr 157 #[(0:Int),(0:Int),.int .i64 x];have aw:=V.Y ((zR [] wr).alloc (.cells #[(0:Int),(0:Int),.int .i64 x] 157));have aA:=gd ai;clear ca aY ai am
     go_wp2_with(at_builtin;refine ou rfl rfl sZ rfl (by decide) rfl aw [.int .i64 0,.int .i64 0,.int .i64 x] rfl rfl ?c1 ?c2 ?c3 ?c4 ?_)
     case c1=>
      intro q u I
      match q,I with
      | 0,I=>rw[<-I];exact al.X 0
      | 1,I=>rw[<-I];exact al.X 1
      | 2,I=>rw[<-I];exact al.X 2
      | q+3,I=>simp at I
     case c2=>exact DB _ _ _
     case c3=>omega
     case c4=>omega
     intro S aB w3 ac ae;have a5:gh (gf [] w0 w3):=gd (ae.fresh HG.o (R.o.alloc _));have bd:gh (∀z∈[S],w0.heap.size<=z):=gd (ae.freshF HG.o (R.o.alloc _));have bh:gh (ic w3 157 3 (.slice S (dn+1) aB) [S] (T++[iy F i]).length ((T++[iy F i]).flatMap kB)):=gd (by
      rw[zC,<-a6.o,aA.o,flatMap_append];exact ac)
     clear al V aw ac ae;go_wp2_with fail
     go_roundg j
     .exact⟨i+1,f,T++[iy F i],[S],by go_num,by omega,by omega,by rw[zC,<-a6.o];simp;omega,bh.o,a7,a5,bd⟩
     .omega
    .have q3:((s:Int)==0)=false:=by rw[beq_eq_false_iff_ne];omega
     obtain⟨c1,c2⟩:=am hs0;obtain⟨e,bI,bJ,bK,bL⟩:=Mx (by omega) c2;have ai:iy F i=⟨s,pV l i s,0⟩:=(by rw[aY];unfold oP;rw[if_neg hs0]);have bq:=λwq (I:gf [] wr wq)=>(Ld l A cap i s e wq (by rw[<-H.o];exact hll) (HC.o.Y ((a0.o.tq R.o).tq I)) (by rw[<-H.o];omega) bI bJ bK bL).mono (λx N (h:_/\∃k,N=wq.drewN k)=>show x=.returned (.int .i64 (pV l i s))/\gf [] wq N from⟨h.1,by obtain⟨k,rfl⟩:=h.2;exact(zR [] wq).drewN k⟩);have bX:gh (∀wq,gf [] wr wq->wq.cell? ⟨r,i,none⟩=some (.int .i64 s)):=gd (λwq I=>by
      obtain⟨c9,_⟩:=(az.o.Z (R.o.tq I) (by simp)).nat_cell (i:=i) (by rw[aM.o.1];omega);rw[aM.o.2 i aE,<-HS.o]at c9;exact c9)
     rw[<-H.o]at bq;have cx:i+s<=n:=by
      have:=(sR l i (min i 1024)).2
      unfold kZ at c2;rw[<-H.o]at this;omega
     have be:gh (lf l d cp=(T++[iy F i])++kf F n f (i+s)):=gd (by
      have:=a7.o
      rw[show max s 1=s by omega]at this;exact this)
     generalize pV l i s=D at *;have⟨b0,aA⟩:=gy bq ai;clear aY ai am c2 bI bJ bK bL bq a7
     go_upto_region 23 with(fail)
     go_region_law (first
      | (refine tL (by rfl) (by rfl) sZ (by rfl) (by decide) (by rfl) ((V.Y aQ).Y ((zR [] w9).alloc (.cells #[.int .i64 s,D,(0:Int)] 157))) [.int .i64 s,.int .i64 D,.int .i64 0] (by rfl) (by rfl) (new3 _ _ _ _ _) (DB _ _ _) (by omega) (by omega) ?_;intro S aB w3 ac ae)
      | (go_simp;go_at_call 159;refine(b0.o _ ((zR [] wr).drew)).mono ?_;rintro e w9 ⟨rfl,bH⟩;have aQ := ((zR [] wr).drew).tq bH;have b4 := bX.o _ aQ))
     all_goals
      have a5:gh (gf [] w0 w3):=gd (ae.fresh HG.o ((R.o.tq aQ).alloc _));have bd:gh (∀z∈[S],w0.heap.size<=z):=gd (ae.freshF HG.o ((R.o.tq aQ).alloc _));have bh:gh (ic w3 157 3 (.slice S (dn+1) aB) [S] (T++[iy F i]).length ((T++[iy F i]).flatMap kB)):=gd (by
       rw[zC,<-a6.o,aA.o,flatMap_append];exact ac)
      obtain⟨b3,_⟩:=(az.o.Z a5.o (by simp)).nat_cell (i:=i) (by rw[aM.o.1];omega);rw[aM.o.2 i aE,<-HS.o]at b3;clear V ac ae aQ bH b4 cs;go_wp2_with fail
      go_roundg (n-(i+s))
      .exact⟨i+s,f,T++[iy F i],[S],by go_num,by omega,by omega,by rw[zC,<-a6.o];simp;omega,bh.o,be,a5,bd⟩
      .omega
  .obtain rfl:x=(j:Int):=by omega
   have cd:j<n:=(by omega);clear bS;have q1:=iI 0 j (by omega);have br:=ap.o j wr (aJ.o.trans M (λx hx=>by have:=bz.o;have:=bA.o;simp at hx;omega)) (by rw[<-H.o];exact cd);have⟨E,hE⟩:=zX (if kZ l j<3 then 0 else kZ l j);rw[<-hE,<-H.o]at br;have bl:E<=64/\j+E<=n:=by
    have:=sR l j (min j 1024)
    rw[<-H.o]at this;unfold kZ at hE;split at hE<;>omega
   obtain⟨cn,co⟩:=bl;obtain⟨Z,bm⟩:=ao.o t (by rw[<-H.o];omega);rw[<-H.o,<-HM.o]at Z;have bb:=aq.o t Y;rw[<-H.o]at bb;rw[show n-(t+1)=j by omega,<-HM.o]at bb;have aV:=λB b s=>bb B b s (by omega) aK.o;have bD:Y.length=m:=(by rw[aK.o.len,<-H.o,HM.o]);have⟨bg,bx⟩:=gy aV hE;have⟨C,hC⟩:=zX ((jp l d cp t).costs);rw[<-hC]at J Z bm;rw[<-hC]at bg;have⟨bw,ay,b1,bW⟩:=gz bm Z bD M;have⟨wa,cA⟩:=zX wr;clear bb aV hE hC bm Z bD M aK
   go_wp2_with(go_at_call 158;refine br.mono ?_;rintro e w2 ⟨⟨D,rfl⟩,a9⟩)
   have aW:=J.Z a9 (by simp);have aX:=K.Z a9 (by simp);have aS:=bW.o.tq (a9.mono (by simp));clear J K br
   go_loopg [12,13] E (λj2 bv kv wi=>∃(k s:Nat) (c:Int) (B:List Nat),kv=.int .i64 k/\bv=.int .i64 c/\k=j2/\k<=E/\-1<=c/\c<=8589934592/\gv wi 3 (.slice (some ⟨v,0,none⟩) m m) v (C.map i64)/\gv wi 3 (.slice (some ⟨r,0,none⟩) m m) r (B.map i64)/\gh (B.length=m/\(∀i,j<i->B.getD i 0=Y.getD i 0)/\(0<=c->B.getD j 0=s))/\gh (oG E (λq=>C.getD (j+q) 0+cp) k c s)/\gf [v,r] wc wi)
   .exact⟨E,0,-1,Y,rfl,rfl,rfl,zQ _,by omega,by omega,aW,aX,gd ⟨b1.o,λ_ _=>rfl,λh=>by omega⟩,gd (IY _ _ _),aS⟩
   clear aW aX aS a9;obtain⟨k,s,c,B,rfl,rfl,hk,cw,cq,cr,J,K,HY,U,M⟩:=hrel;have bZ:=gd hk;clear hk;have aU:j<B.length:=(by rw[HY.o.1];omega);obtain⟨_,cm⟩:=K.nat_cell aU;by_cases hk3:k<3
   .have q2:=kK 3 k (by omega)
    have ci:decide (3<=k)=false:=zA (by omega);have⟨y,hy⟩:=zX (j+1);have ey:(j:Int)+1=(y:Int):=(by omega);have cg:IntKind.i64.wrap (y:Int)=(y:Int):=IntWalk.i64_in _ (by omega);obtain⟨cy,_⟩:=J.nat_cell (i:=y) (by rw[ay.o];omega);have aD:=bw.o y;have aG:gh (C.getD (j+1) 0=C.getD y 0):=gd (by rw[hy]);have ch:y<m:=(by omega);have⟨q,I⟩:=zX (C.getD y 0);rw[<-I]at cy aD aG;have⟨vl,aH⟩:=zX (q+d);have b5:(d:Int)+(q:Int)=(vl:Int):=(by omega);have cf:IntKind.i64.wrap (vl:Int)=(vl:Int):=IntWalk.i64_in _ (by omega);have bP:=K.nat_set aU 0;have bs:=J.R (p:=⟨r,j,none⟩) ba (.int .i64 (0:Nat));obtain⟨_,ck⟩:=J.nat_cell (i:=j) (by rw[ay.o];omega);obtain⟨_,b6⟩:=bs.nat_cell (i:=j) (by rw[ay.o];omega);have bO:j<C.length:=(by rw[ay.o];omega);have bQ:=bP.R (p:=⟨v,j,none⟩) ba.symm (.int .i64 (vl:Nat));have bR:=bs.nat_set bO vl;have bB:gf [v,r] wc ((wr.setCell ⟨r,j,none⟩ (.int .i64 (0:Nat))).setCell ⟨v,j,none⟩ (.int .i64 (vl:Nat))):=(M.setCell (.inl (by simp)) _).setCell (.inl (by simp)) _;have aN:gh ((B.set j 0).length=m/\(∀i,j<i->(B.set j 0).getD i 0=Y.getD i 0)/\(B.set j 0).getD j 0=0):=gd (by
     obtain⟨O,Q,_⟩:=HY.o;refine⟨by rw[length_set,O],λi hi=>?_,?_⟩
     .rw[oz,if_neg (by omega),Q i hi]
     .rw[oz,if_pos ⟨rfl,aU⟩])
    have aZ:(c<0\/(vl:Int)<c)->rK l d cp (t+1) (B.set j 0)/\(jp l d cp (t+1)).costs=C.set j vl:=λhb=>by
     obtain⟨O,Q,a3⟩:=aN.o;have hd:=U.o;rw[bx.o]at hd;refine bg.o _ vl 0 O Q a3 ?_;rw[aG.o,<-aH];exact Mh hd hk3 hb
    have aO:=gd aZ;have aP:¬c<0->¬(vl:Int)<c->rK l d cp (t+1) B/\(jp l d cp (t+1)).costs=C.set j c.toNat:=λhb hb2=>by
     obtain⟨O,Q,a3⟩:=HY.o;have hd:=U.o;rw[bx.o]at hd;refine bg.o _ c.toNat s O Q (a3 (by omega)) ?_;rw[aG.o,<-aH];exact(Mg hd hk3 hb hb2).1
    have⟨a4,R3,R4,aI⟩:=gz aP bQ bR bB;have⟨bi,az,ax⟩:=gS J K M;clear bP bs bQ bR bB aZ aP J K M aN aH I hy;by_cases hb:c<0
    .have q3:decide (c<0)=true:=zB hb
     obtain⟨W,X⟩:=aO.o (.inl hb);have⟨L1,L2⟩:=gy W X;clear W X hb aO a4;go_wp2_with fail
     go_roundg j
     .exact⟨_,t+1,_,rfl,by omega,by omega,by rw[L2.o];exact R4.o,R3.o,L1,aI.o⟩
     .omega
    .have q3:decide (c<0)=false:=zA hb
     by_cases hb2:(vl:Int)<c
     .have q4:decide ((vl:Int)<c)=true:=zB hb2
      obtain⟨W,X⟩:=aO.o (.inr hb2);have⟨L1,L2⟩:=gy W X;clear W X hb hb2 aO a4;go_wp2_with fail
      go_roundg j
      .exact⟨_,t+1,_,rfl,by omega,by omega,by rw[L2.o];exact R4.o,R3.o,L1,aI.o⟩
      .omega
     .have q4:decide ((vl:Int)<c)=false:=zA hb2
      obtain⟨W,X⟩:=a4.o hb hb2;have⟨L1,L2⟩:=gy W X;have⟨bn,bG⟩:=zX c.toNat;obtain rfl:c=(bn:Int):=by omega
      have q5:decide (vl<bn)=false:=zA (by omega);rw[<-bG]at L2;have R5:gh (gv (wr.setCell ⟨v,j,none⟩ (.int .i64 bn)) 3 (.slice (some ⟨v,0,none⟩) m m) v ((C.set j bn).map i64)):=gd (bi.o.nat_set bO bn);have R6:gh (gv (wr.setCell ⟨v,j,none⟩ (.int .i64 bn)) 3 (.slice (some ⟨r,0,none⟩) m m) r (B.map i64)):=gd (az.o.R (p:=⟨v,j,none⟩) ba.symm _);have bT:gh (gf [v,r] wc (wr.setCell ⟨v,j,none⟩ (.int .i64 bn))):=gd (ax.o.setCell (.inl (by simp)) _);clear W X hb hb2 aO a4 bG;go_wp2_with fail
      go_roundg j
      .exact⟨_,t+1,_,rfl,by omega,by omega,by rw[L2.o];exact R5.o,R6.o,L1,bT.o⟩
      .omega
   .have q2:=iI 3 k (by omega)
    have ci:decide (3<=k)=true:=zB (by omega);obtain⟨L,bp⟩:∃L,L+1=k:=⟨k-1,by omega⟩;have ek:(k:Int)-1=(L:Int):=(by omega);have⟨y,hy⟩:=zX (j+k);have ey:(j:Int)+(k:Int)=(y:Int):=(by omega);have cg:IntKind.i64.wrap (y:Int)=(y:Int):=IntWalk.i64_in _ (by omega);obtain⟨cy,_⟩:=J.nat_cell (i:=y) (by rw[ay.o];omega);have aD:=bw.o y;have aG:gh (C.getD (j+k) 0=C.getD y 0):=gd (by rw[hy]);have ch:y<m:=(by omega);have⟨q,I⟩:=zX (C.getD y 0);rw[<-I]at cy aD aG;have⟨vl,aH⟩:=zX (q+cp);have b5:(cp:Int)+(q:Int)=(vl:Int):=(by omega);have cf:IntKind.i64.wrap (vl:Int)=(vl:Int):=IntWalk.i64_in _ (by omega);have bk:gh (C.getD (j+k) 0+cp=vl):=gd (by rw[aG.o,aH]);have R1:gh (gv (wr.setCell ⟨r,j,none⟩ (.int .i64 k)) 3 (.slice (some ⟨v,0,none⟩) m m) v (C.map i64)):=gd (J.R (p:=⟨r,j,none⟩) ba _);have R2:gh (gv (wr.setCell ⟨r,j,none⟩ (.int .i64 k)) 3 (.slice (some ⟨r,0,none⟩) m m) r ((B.set j k).map i64)):=gd (K.nat_set aU k);have aI:gh (gf [v,r] wc (wr.setCell ⟨r,j,none⟩ (.int .i64 k))):=gd (M.setCell (.inl (by simp)) _);have aN:gh ((B.set j k).length=m/\(∀i,j<i->(B.set j k).getD i 0=Y.getD i 0)/\(0<=(vl:Int)->(B.set j k).getD j 0=k)):=gd (by
     obtain⟨O,Q,_⟩:=HY.o;refine⟨by rw[length_set,O],λi hi=>?_,λ_=>?_⟩
     .rw[oz,if_neg (by omega),Q i hi]
     .rw[oz,if_pos ⟨rfl,aU⟩])
    have ah:gh ((c<0\/(vl:Int)<c)->oG E (λq=>C.getD (j+q) 0+cp) L (vl:Int) k):=gd (λhb=>by
     have h9:((C.getD (j+k) 0+cp:Nat):Int)=(vl:Int):=(by rw[bk.o]);have h8:=U.o;subst bp
     have:=Kp h8 (by omega) (by omega) (show c<0\/((C.getD (j+(L+1)) 0+cp:Nat):Int)<c by omega)
     rw[<-h9];exact this)
    have ak:gh (¬c<0->¬(vl:Int)<c->oG E (λq=>C.getD (j+q) 0+cp) L c s):=gd (λhb hb2=>by
     have h9:((C.getD (j+k) 0+cp:Nat):Int)=(vl:Int):=(by rw[bk.o]);have h8:=U.o;subst bp;exact Ko h8 hb (show ¬((C.getD (j+(L+1)) 0+cp:Nat):Int)<c by omega))
    have⟨bi,az,ax⟩:=gS J K M;clear J K M aH I hy bk;have aF:L<=E:=(by omega);have bf:gh (L+1=gk):=gd (by have:=bZ.o;omega);clear bp;by_cases hb:c<0
    .have q3:decide (c<0)=true:=zB hb
     have DN:=gd (ah.o (.inl hb));clear hb ah ak;go_wp2_with fail
     go_roundg L
     case measure=>have:=bf.o;omega
     case rel=>exact⟨L,k,vl,_,by go_num,rfl,rfl,aF,by omega,by omega,R1.o,R2.o,aN,DN,aI.o⟩
    .have q3:decide (c<0)=false:=zA hb
     by_cases hb2:(vl:Int)<c
     .have q4:decide ((vl:Int)<c)=true:=zB hb2
      have DN:=gd (ah.o (.inr hb2));clear hb hb2 ah ak;go_wp2_with fail
      go_roundg L
      case measure=>have:=bf.o;omega
      case rel=>exact⟨L,k,vl,_,by go_num,rfl,rfl,aF,by omega,by omega,R1.o,R2.o,aN,DN,aI.o⟩
     .have q4:decide ((vl:Int)<c)=false:=zA hb2
      have DN:=gd (ak.o hb hb2);clear hb hb2 ah ak;go_wp2_with fail
      go_roundg L
      case measure=>have:=bf.o;omega
      case rel=>exact⟨L,s,c,B,by go_num,rfl,rfl,aF,by omega,by omega,bi.o,az.o,HY,DN,ax.o⟩
theorem Lf(l:List gK)(A:Option Addr)(cap:Nat)(w:World)(m:l.length<=1099511627776)(a:∀t∈l,t.ok)(k:lD w A l):Calls prog 154 #[.slice A l.length cap] w λe w'=>e=.returned (.bool true)/\gf [] w w':=by
 have⟨n,hn⟩:=zX l.length;rw[<-hn]at m⊢;have⟨HN,HK⟩:=gy hn a;clear hn a;go_enter func154,ntmps154;go_wp2_with fail
 go_loopg [3] n (λj iv wr=>∃i:Nat,iv=.int .i64 i/\i+j=n/\gf [] w wr)
 .exact⟨0,rfl,by omega,zR _ _⟩
 obtain⟨i,rfl,p,b⟩:=hrel;rcases gk with _|j
 .obtain rfl:i=n:=by omega
  go_wp2;go_ret;exact⟨rfl,b⟩
 .have h:i<n:=by omega
  have ad:i<l.length:=by rw[<-HN.o];exact h
  have c:=HK.o l[i] (zG ad);have⟨t,ht⟩:=zX (l[i]);have d:l[i]?=some t:=by rw[ht];exact zF ad
  rw[<-ht]at c;obtain⟨g,o,rfl,c1,c2,c3⟩:=(k.Y b).at_ d;unfold gK.ok at c;rw[gK.isLit_iff,gK.isCopy_iff]at c;generalize t.len=ta at *;generalize t.dist=tb at *;generalize t.lit=tc at *;have f:=gd b;clear d ht ad b;rcases c with⟨rfl,rfl⟩|⟨k1,k2,k3,k4,rfl⟩
  .go_wp2_with fail
   go_roundg j
   .exact⟨i+1,by go_num,by omega,f.o⟩
   .omega
  .have q:((ta:Int)==0)=false:=by rw[beq_eq_false_iff_ne];omega
   have r:=gL ta 3 (by omega);have s:=gL 64 ta (by omega);have u:=gL tb 1 (by omega);have v:=gL 1024 tb (by omega);go_wp2_with fail
   go_roundg j
   .exact⟨i+1,by go_num,by omega,f.o⟩
   .omega
theorem ND{q:Nat}(h:q<4611686018427387904):bits .xor .i64 (-1) (q:Int)=-(q:Int)-1:=by
 show IntKind.i64.wrap ((BitVec.ofInt 64 (-1) ^^^ BitVec.ofInt 64 (q:Int)).toNat:Int)=_;have e:(BitVec.ofInt 64 (-1):BitVec 64)=BitVec.allOnes 64:=by decide
 rw[e,BitVec.ofInt_natCast,BitVec.xor_comm,BitVec.xor_allOnes,BitVec.toNat_not,BitVec.toNat_ofNat,mod_eq_of_lt (by omega),IntKind.wrap_i64];omega
theorem N0(u:Nat)(w:World)(h:u<2147483648):Calls prog 289 #[.int .u64 u] w λe w'=>e=.returned (.int .i64 (la u))/\w=w':=by
 have⟨q,hq⟩:=zX (u / 2);have c:(u:Int) / 2=(q:Int):=by omega
 have d:IntKind.i64.wrap (q:Int)=(q:Int):=IntWalk.i64_in _ (by omega);have f:bits .and .u64 (u:Int) 1=(u:Int)%2:=by
  have:=Bk (v:=(u:Int)) (i:=1) (by omega) (by omega) (by decide)
  simpa using this
 have g:=ND (q:=q) (by omega);by_cases hx:u%2=0
 .have b:((u:Int)%2==1)=false:=by rw[beq_eq_false_iff_ne];omega
  have a:la u=(q:Int):=by unfold la;rw[if_pos hx,hq]
  rw[a];clear a hx hq;go_enter func289,ntmps289;go_wp2;go_ret;exact⟨rfl,rfl⟩
 .have b:((u:Int)%2==1)=true:=by rw[beq_iff_eq];omega
  have a:la u=-(q:Int)-1:=by unfold la;rw[if_neg hx,hq]
  rw[a];clear a hx hq;go_enter func289,ntmps289;go_wp2;go_ret;exact⟨rfl,rfl⟩
theorem JK(u:Nat)(w:World)(h:u<2147483648):Calls prog 227 #[.int .u64 u] w λe w'=>e=.returned (.int .i64 (la u))/\w=w':=by
 have a:decide ((2147483648:Int)<=(u:Int))=false:=by simp;omega
 go_enter func227,ntmps227
 go_wp2_with(go_at_call 289;refine gx (N0 u _ h) ?_)
 go_ret;exact⟨rfl,rfl⟩
theorem Cq(u:Nat)(w:World)(h:u<2147483648):Calls prog 155 #[u] w λe w'=>e=.returned (.int .i64 (la u))/\w=w':=by
 have a:IntKind.u64.wrap (u:Int)=(u:Int):=by rw[IntKind.wrap_u64];omega
 go_enter func155,ntmps155
 go_wp2_with(go_at_call 227;refine gx (JK u _ h) ?_)
 go_ret;exact⟨rfl,rfl⟩
theorem EZ{A:Option Addr}(h:gu vi w A l){m:Nat}{x:Int}(a:l[m]?=some x):∃b o,A=some ⟨b,o,none⟩/\w.cell? ⟨b,o+m,none⟩=some (.int .i64 x):=by
 have d:=(List.getElem?_eq_some_iff.1 a).1;obtain⟨b,o,e,_,c⟩:=h.ex (by omega);exact⟨b,o,e,c m _ a⟩
theorem JA(w:World)(b:Nat)(F bs:List Nat)(T:List gK)(A:Option Addr)(cap W d:Nat)(h:hO w b F bs)(hw0:1<=W)(hw1:W<=64)(h0:1<=d)(h1:d<=16)(hT:T.length<=4096)(u:∀t∈T,p6 d t)(hc:lD w A T)(hA:∀ad,A=some ad->ad.block∉F)(hbs:bs.length<137438953472):Calls prog 108 #[.pointer (some ⟨b,0,none⟩),.slice A T.length cap,W,d] w λe w'=>e=.returned (.int .i64 0)/\∃F',hO w' b F' (bs++qs T W d)/\gB F F' w w':=by
 have aL:=Lf T A cap w (by omega) (λt ht=>(u t ht).ok) hc;have cd:=qo W w hw0 hw1;have b5:=pG d w h0 h1;have J:qs T W d=gA (jS (ia T)) 5++gA (jS (iG W T)) 5++T.flatMap (lz (jS (ia T)) (jS (iG W T)) W d):=rfl;have cc:=At u;have b4:=Aj (W:=W) u;have⟨n,hn⟩:=zX T.length;rw[<-hn]at aL hT⊢;have⟨cy,cx,cp,HN⟩:=gz J cc b4 hn;have⟨bV,HA,HC⟩:=gS u hA hc;have bT:gh (∀x∈F,x<w.heap.size):=gd h.lt;have HQ:=gd h;clear J cc b4 hn u hA hc h;go_enter func108,ntmps108
 go_wp2_with(first
  | (go_at_call 85;refine gx cd ?_)
  | (go_at_call 60;refine gx b5 ?_)
  | (go_at_call 154;refine aL.mono ?_;rintro e w1 ⟨rfl,H⟩))
 go_loopg [9,10,11] n (λj v9 v10 iv wr=>∃(i:Nat) (F9 F10:List Nat),iv=.int .i64 i/\i+j=n/\gE wr 3 v9 F9 ((ia (T.take i)).map vi)/\gE wr 3 v10 F10 ((iG W (T.take i)).map vi) /\
   (∀x∈F9,w.heap.size<=x/\x∉F10)/\(∀x∈F10,w.heap.size<=x)/\gf [] w wr)
 .exact⟨0,[],[],rfl,by omega,gE.nil _ _,gE.nil _ _,by simp,by simp,H⟩
 clear H aL cd b5;obtain⟨i,F9,F10,rfl,cU,s,p,aV,al,y⟩:=hrel;rcases gk with _|j
 .obtain rfl:i=n:=by omega
  have ce:T.take i=T:=by rw[HN.o,zN]
  rw[ce]at s p;have bb:=tQ T;rw[<-HN.o]at bb;have Q:=rZ W T;obtain⟨U,bF,rfl,bK,cI,bH⟩:=s.oq;obtain⟨aS,aI,rfl,a4,b0,aJ⟩:=p.oq;have aZ:gM U (ia T) F:=s.apt (λx hx hm=>by have:=bT.o x hm;have:=(aV x hx).1;omega);have aB:gM aS (iG W T) F:=p.apt (λx hx hm=>by have:=bT.o x hm;have:=al x hx;omega);have br:=yg (ia T) U bF wr cx.o bH (by omega);have aw:=yg (iG W T) aS aI wr cp.o aJ (by omega);have hk:=qv (ia T);have bO:=qv (iG W T);have⟨kk,b9⟩:=zX (jS (ia T));have⟨jk,b7⟩:=zX (jS (iG W T));have J:=cy.o;rw[<-b9]at br hk J;rw[<-b7]at aw bO J;have⟨n9,bQ⟩:=zX ((ia T).length);rw[<-bQ]at Q bK br bb⊢;rw[Q]at aw a4⊢;have B:=HQ.o.Y y;have b3:lD wr A T:=HC.o.Y y;have cO:IntKind.u64.wrap (kk:Int)=(kk:Int):=by rw[IntKind.wrap_u64];omega
  have cN:IntKind.u64.wrap (jk:Int)=(jk:Int):=by rw[IntKind.wrap_u64];omega
  have⟨bD,cz,ck,bB⟩:=gz J bQ bH aJ;have⟨cm,bo,bA,aT⟩:=gz b3 y aZ aB;clear J Q bQ b9 b7 ce s p aV al bH aJ b3 y aZ aB;obtain⟨w0,rfl⟩:=zX wr;go_wp2_with fail;refine gx br ?_;go_wp2_with fail;refine gx aw ?_;go_wp2_with fail;refine(jh _ b F bs kk 5 B (by omega) (by omega) (by omega)).mono ?_;rintro e w2 ⟨rfl,F2,bj,a7⟩;go_wp2_with fail;refine(jh _ b F2 _ jk 5 bj (by omega) (by omega) (by rw[zC,gJ];omega)).mono ?_;rintro e w3 ⟨rfl,F3,bk,a8⟩;have b6:=a7.trans a8;clear br aw B bj a7 a8;have cA:gh (∀x:Int,0<=x->x<2^d->x.toNat<2^d):=gd λx a b=>by
   have e:((x.toNat:Nat):Int)=x:=Int.toNat_of_nonneg a;have M:((2^d:Nat):Int)=(2:Int)^d:=(by simp);omega
  go_wp2_with fail
  go_loopg [14,15] i (λj cv iv wr2=>∃(q:Nat) (F' O:List Nat),cv=.int .i64 ((ia (T.take q)).length:Nat)/\iv=.int .i64 q/\q+j=i/\hO wr2 b F' O/\gh (O=bs++gA kk 5++gA jk 5++(T.take q).flatMap (lz kk jk W d))/\O.length<=bs.length+10+131*q/\gh (gB F F' w0 wr2))
  .exact⟨0,F3,_,rfl,rfl,by omega,bk,gd (by simp),by rw[zC,zC,gJ,gJ];omega,gd b6⟩
  clear bk b6;obtain⟨q,F',O,rfl,rfl,cW,B,Hb,cR,bp⟩:=hrel;rcases gk with _|j
  .obtain rfl:q=i:=by omega
   go_wp2_with fail;go_ret;refine⟨rfl,F',?_,gB.pre bo.o bp.o⟩;have e:T.take q=T:=(by rw[HN.o,zN]);have D:=Hb.o;rw[e,zH,zH]at D;rw[bD.o,zH,<-D];exact B
  .have bv:q<i:=by omega
   have q0:decide (q<i)=true:=zB bv;have I:q<T.length:=(by rw[<-HN.o];exact bv);have bf:=bV.o T[q] (zG I);have⟨t,ht⟩:=zX (T[q]);have r:T[q]?=some t:=(by rw[ht];exact zF I);rw[<-ht]at bf;have N:gh (∀wq F'',gB F F'' w0 wq->lD wq A T):=gd (λwq F'' hq=>gu.Q cm.o (λ_ ad e=>HA.o ad e) hq.Z);obtain⟨g,o,rfl,c1,c2,c3⟩:=(N.o _ _ bp.o).at_ r;have E:gh (∀wq F'',gB F F'' w0 wq->wq.cell? ⟨g,o+q*3+2,none⟩=some (.int .i64 t.lit)):=gd (λwq F'' hq=>by
    obtain⟨g',o',e,_,_,d3⟩:=(N.o wq F'' hq).at_ r;injection e with e;injection e with S M;subst S;subst M;exact d3)
   have C:T.take (q+1)=T.take q++[t]:=(by rw[ht];exact jd T I);have m:=tO (T.take q) t;rw[<-C]at m;have bu:(T.take (q+1)).flatMap (lz kk jk W d)=(T.take q).flatMap (lz kk jk W d)++lz kk jk W d t:=(by rw[C];simp);clear N c2;rcases bf with⟨f,k,bw⟩|⟨f,k⟩
   .have v:ia (T.take (q+1))=ia (T.take q):=by rw[m,f];simp
    have z:lz kk jk W d t=gA 0 1++gA t.lit.toNat d:=(by unfold lz;rw[if_pos f]);have bx:=cA.o t.lit k bw;have bR:t.lit=((t.lit.toNat:Nat):Int):=(Int.toNat_of_nonneg k).symm;obtain⟨z1,-⟩:=gK.isLit_iff.1 f;have⟨ln,ca⟩:=zX t.lit.toNat;rw[<-ca]at z bx bR;rw[bR]at E;rw[z1]at c1;have cJ:ln<65536:=Nat.lt_of_lt_of_le bx (by have:=Nat.pow_le_pow_right (n:=2) (by decide) h1;exact this);have cP:IntKind.u64.wrap (ln:Int)=(ln:Int):=(by rw[IntKind.wrap_u64];omega);have⟨G,cw⟩:=gy (And.intro v (And.intro z bu)) bx;clear m v z bu C bR ca r ht f k bw bx z1 c3;go_wp2_with fail;refine(jh _ b F' O 0 1 B (by omega) (by omega) (by omega)).mono ?_;rintro e w5 ⟨rfl,F5,au,an⟩;have ba:=bp.o.trans an;have k3:=E.o _ _ ba;clear B an c1;go_wp2_with fail;refine(jh _ b F5 _ ln d au (by omega) cw.o (by rw[zC,gJ];omega)).mono ?_;rintro e w6 ⟨rfl,F6,ay,ax⟩;clear au k3;go_wp2_with fail
    go_roundg j
    .refine⟨q+1,F6,_,?_,by go_num,by omega,ay,gd ?_,?_,gd (ba.trans ax)⟩
     .rw[G.o.1]
     .rw[G.o.2.2,G.o.2.1,Hb.o];simp only[zH]
     .rw[zC,zC,gJ,gJ];omega
    .omega
   .have aq:(ia (T.take (q+1))).length=(ia (T.take q)).length+1:=by rw[m,f];simp
    have z:lz kk jk W d t=gA 1 1++jm kk (lenOf t)++jm jk (lA W t):=(by unfold lz;rw[f];rfl);have bl:=Bp T r f;have az:=AL W T r f;have cg:=xC k;have bi:=vY W k;obtain⟨p1,_⟩:=gK.isCopy_iff.1 k;have bJ:(ia (T.take q)).length<n9:=(by rw[cz.o];exact(List.getElem?_eq_some_iff.1 bl).1);have⟨c,Y⟩:=zX ((ia (T.take q)).length);rw[<-Y]at bl az bJ aq⊢;have⟨lo,bc⟩:=zX (lenOf t);have⟨co,a3⟩:=zX (lA W t);rw[<-bc]at bl cg z;rw[<-a3]at az bi z;have cu:gh (∀wq F'',gB F F'' w0 wq->∃b o,U=some ⟨b,o,none⟩/\wq.cell? ⟨b,o+c,none⟩=some (.int .i64 lo)):=gd (λwq F'' hq=>EZ (ck.o.Q bA.o hq.Z) bl);have bC:gh (∀wq F'',gB F F'' w0 wq->∃b o,aS=some ⟨b,o,none⟩/\wq.cell? ⟨b,o+c,none⟩=some (.int .i64 co)):=gd (λwq F'' hq=>EZ (bB.o.Q aT.o hq.Z) az);have q1:((t.len:Int)==0)=false:=(by rw[beq_eq_false_iff_ne];omega);have cY:(t.len==0)=false:=(by rw[beq_eq_false_iff_ne];omega);have G:=gd (And.intro aq (And.intro z bu));clear m aq z bu C r ht f k bl az Y bc a3 E c3;generalize t.len=ta at *;go_wp2_with fail;refine(jh _ b F' O 1 1 B (by omega) (by omega) (by omega)).mono ?_;rintro e w5 ⟨rfl,F5,au,an⟩;have ao:=bp.o.trans an;obtain⟨g9,o9,rfl,d9⟩:=cu.o _ _ ao;have cr:=gd ao;have cV:=nz kk lo;have cK:=nz jk co;have cS:=mO kk lo hk;have cH:=mO jk co bO;clear B an ao c1;go_wp2_with fail;refine(uB w5 b F5 _ kk lo au hk cg (by rw[zC,gJ];omega)).mono ?_;rintro e w6 ⟨rfl,F6,ay,ax⟩;have ap:=cr.o.trans ax;obtain⟨cQ,cX,rfl,cG⟩:=bC.o _ _ ap;have cs:=gd ap;clear au ax ap d9;go_wp2_with fail;refine(uB w6 b F6 _ jk co ay bO bi (by rw[zC,zC,gJ];omega)).mono ?_;rintro e w7 ⟨rfl,F7,bS,a9⟩;have ct:=gd (cs.o.trans a9);clear ay a9 cG;go_wp2_with fail
    go_roundg j
    .refine⟨q+1,F7,_,?_,by go_num,by omega,bS,gd ?_,?_,ct⟩
     .rw[G.o.1];go_num
     .rw[G.o.2.2,G.o.2.1,Hb.o];simp only[zH]
     .rw[zC,zC,zC,gJ];omega
    .omega
 .have bv:i<n:=by omega
  have I:i<T.length:=by rw[<-HN.o];exact bv
  have bf:=bV.o T[i] (zG I);have⟨t,ht⟩:=zX (T[i]);have r:T[i]?=some t:=by rw[ht];exact zF I
  rw[<-ht]at bf;have N:gh (∀wq,gf [] w wq->lD wq A T):=gd (λwq hq=>HC.o.Y hq);obtain⟨g,o,rfl,c1,c2,c3⟩:=(HC.o.Y y).at_ r;have E:gh (∀wq,gf [] w wq->wq.cell? ⟨g,o+i*3,none⟩=some (.int .i64 t.len)/\wq.cell? ⟨g,o+i*3+1,none⟩=some (.int .i64 t.dist)):=gd (λwq hq=>by
   obtain⟨g',o',e,d1,d2,_⟩:=(N.o wq hq).at_ r;injection e with e;injection e with S M;subst S;subst M;exact⟨d1,d2⟩)
  clear N;have C:T.take (i+1)=T.take i++[t]:=by rw[ht];exact jd T I
  have m:=tO (T.take i) t;have L:=Ai W (T.take i) t;rw[<-C]at m L;rcases bf with⟨f,k,bw⟩|⟨f,k⟩
  .rw[f]at m L
   have v:ia (T.take (i+1))=ia (T.take i):=(by rw[m];simp);have K:iG W (T.take (i+1))=iG W (T.take i):=(by rw[L];simp);have V:=gd (And.intro v K);obtain⟨z1,-⟩:=gK.isLit_iff.1 f;generalize t.len=ta at *;generalize t.dist=tb at *;generalize t.lit=tc at *;subst z1;have be:gv (wr.alloc (.cells #[tc] 3)) 3 (.slice (some ⟨wr.heap.size,0,none⟩) 1 1) wr.heap.size ([tc].map vi):=gv.made wr 3 [.int .i64 tc] (by simp[maxLen]);have cL:=sm [tc] _ 1 d _ h0 h1 (by simp) (λx hx=>by rw[zU.1 hx];exact⟨k,bw⟩) be.S.cells;have H:=(zR [] wr).alloc (.cells #[tc] 3);have k9:=s.Y H;have ch:=p.Y H;have bW:=y.tq H;obtain⟨k1,-⟩:=E.o _ bW;clear E;obtain⟨U,bF,rfl,_⟩:=s.open_;obtain⟨aS,aI,rfl,_⟩:=p.open_;clear m L v K C r ht f be s p H
   go_wp2_with(go_at_call 93;refine gx cL ?_)
   go_roundg j
   .refine⟨i+1,F9,F10,by go_num,by omega,?_,?_,aV,al,bW⟩
    .rw[V.o.1];rw[zE]at k9;exact k9
    .rw[V.o.2];rw[zE]at ch;exact ch
   .omega
  .rw[f]at m L
   have v:(ia (T.take (i+1))).map vi=(ia (T.take i)).map vi++[.int .i64 (lenOf t)]:=(by rw[m];simp[vi]);have K:(iG W (T.take (i+1))).map vi=(iG W (T.take i)).map vi++[.int .i64 (lA W t)]:=(by rw[L];simp[vi]);obtain⟨p1,p2,p3,p4,p5⟩:=gK.isCopy_iff.1 k;have b1:=(yo (d:=t.dist) (W:=W) p3).1;have bI:=λw=>Lc t.dist W w p3 p4 hw0 hw1;have bg:=λw=>Cq (t.len-3) w (by omega);have R:=λw=>Cq (mt t.dist W-1) w (by omega);have S:la (t.len-3)=lenOf t:=rfl;have M:la (mt t.dist W-1)=lA W t:=rfl;rw[S]at bg;rw[M]at R;clear S M;have⟨lo,bc⟩:=zX (lenOf t);have⟨co,a3⟩:=zX (lA W t);rw[<-bc]at bg v;rw[<-a3]at R K;have⟨cn,a2⟩:=zX (mt t.dist W);rw[<-a2]at R b1 bI;have⟨cq,b2⟩:=zX (cn-1);rw[<-b2]at R;have⟨lq,cb⟩:=zX (t.len-3);rw[<-cb]at bg;have e3:(t.len:Int)-3=(lq:Int):=(by omega);have e4:(cn:Int)-1=(cq:Int):=(by omega);have cH:cq<=1100:=(by omega);have cK:lq<=64:=(by omega);have Q:=rZ W (T.take i);have bb:=tQ (T.take i);rw[zI]at bb;have aY:((iG W (T.take i)).map vi).length=((ia (T.take i)).map vi).length:=(by rw[zE,zE,Q]);have bZ:((ia (T.take i)).map vi).length<=4096:=(by rw[zE];omega);have⟨L9,bY⟩:=zX ((ia (T.take i)).map vi);have⟨cM,aX⟩:=zX ((iG W (T.take i)).map vi);rw[<-bY]at s v aY bZ;rw[<-aX]at p K aY;clear bY aX;have⟨M9,bG⟩:=zX L9.length;rw[<-bG]at aY bZ;have V:=gd (And.intro v K);have q1:((t.len:Int)==0)=false:=(by rw[beq_eq_false_iff_ne];omega);have cZ:decide (0<t.len)=true:=zB (by omega);clear bc a3 a2 b2 cb v K m L C r ht f k Q bb;generalize t.len=ta at *;generalize t.dist=tb at *;have⟨cl,cC,HU,bo⟩:=gz bI R bg y;have⟨bq,av,HF⟩:=gS bG aY (And.intro aV al);clear bI bg R b1 c2 c3 bG aY y aV al;obtain⟨U,bF,cf,_⟩:=s.open_;obtain⟨aS,aI,bh,_⟩:=p.open_;rw[<-bq.o]at cf;rw[av.o]at bh;subst cf;subst bh;have ci:=s.Y ((zR [] wr).alloc (.cells #[lo] 3));have X:=gn.new wr 3 #[lo]
   go_wp2_with(first
    | (at_builtin;refine jT rfl rfl iJ rfl rfl ci (.int .i64 lo) rfl ?c1 ?c2 ?c3 ?c4 ?_)
    | (go_at_call 155;refine gx (HU.o _) ?_))
   case c1=>exact X.X 0
   case c2=>rfl
   case c3=>rw[<-bq.o];omega
   case c4=>rw[<-bq.o];omega
   intro g1 cE w3 bz Z;rw[<-bq.o]at bz⊢;have aW:∀x∈F9,w.heap.size<=x:=λx hx=>(HF.o.1 x hx).1;have bE:gf [] w w3:=Z.fresh aW (bo.o.alloc _);obtain⟨d1,d2⟩:=E.o _ bE;have aA:∀x∈F10,x∉F9:=λx hx hm=>(HF.o.1 x hm).2 hx;have bm:=(p.Y ((zR [] wr).alloc (.cells #[lo] 3))).Z Z.Z aA;have bP:=p.lt;have cT:g1<w3.heap.size:=bz.lt;have a5:g1∉F10:=λhm=>by
    rcases Z.new g1 (by simp)with D|D
    .exact aA _ hm D
    .have:=bP _ hm
     have h8:(wr.alloc (.cells #[lo] 3)).heap.size=wr.heap.size+1:=(by simp);omega
   have bM:w.heap.size<=g1:=Z.freshF aW (bo.o.alloc _) g1 (by simp);have⟨cB,aU⟩:=gy bz bE;clear X ci s p c1 bz Z bE
   go_wp2_with(go_at_call 156;refine(cl.o _).mono ?_;rintro e w4 ⟨rfl,P⟩)
   have bn:=(bm.Y P).Y ((zR [] w4).alloc (.cells #[co] 3));have X:=gn.new w4 3 #[co]
   go_wp2_with(first
    | (at_builtin;refine jT rfl rfl iJ rfl rfl bn (.int .i64 co) rfl ?c1 ?c2 ?c3 ?c4 ?_)
    | (go_at_call 155;refine gx (cC.o _) ?_))
   case c1=>exact X.X 0
   case c2=>rfl
   case c3=>rw[av.o];omega
   case c4=>rw[av.o];omega
   intro g2 cF w5 aN am;rw[av.o]at aN⊢;have Y:gf F10 w3 w5:=((P.mono (by simp)).alloc _).trans am.Z (λx hx=>.inl hx);have bd:=cB.o.Z Y a5;have bX:gf [] w w5:=am.fresh HF.o.2 ((aU.o.tq P).alloc _);have bN:w.heap.size<=g2:=am.freshF HF.o.2 ((aU.o.tq P).alloc _) g2 (by simp);have bL:g1≠g2:=λhe=>by
    rcases am.new g2 (by simp)with D|D
    .exact a5 (he ▸ D)
    .have h8:(w4.alloc (.cells #[co] 3)).heap.size=w4.heap.size+1:=by simp
     have h9:=P.size;omega
   have⟨K9,cD,cj⟩:=gS bd.S aN.S bX;clear X bn bm aN am Y bd bX P;go_wp2_with fail
   go_roundg j
   .refine⟨i+1,[g1],[g2],by go_num,by omega,?_,?_,by simp;exact⟨bM,bL⟩,by simp;exact bN,cj.o⟩
    .rw[V.o.1];exact K9.o
    .rw[V.o.2];exact cD.o
   .omega
end Go.Proofs.YtnepiccbpokmiaaGreatDoor
