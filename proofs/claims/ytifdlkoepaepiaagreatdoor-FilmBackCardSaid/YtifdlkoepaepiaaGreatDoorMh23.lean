/- Lemmas. -/
import Derived.Lib.SliceRun
import Derived.Laws.BitsAllLaws
import Derived.Test.YtifdlkoepaepiaaGreatDoorMh19
set_option linter.all false
set_option maxHeartbeats 2000000
set_option maxRecDepth 100000
namespace Go.Proofs.YtifdlkoepaepiaaGreatDoor
open Tryz List Nat Go.RowKit
variable {d:Nat}
theorem DA(w:World)(A:Option Addr)(k:Nat)(f:List Int)(q:gz vi w A f)(l:0<f.length)(E:f.length<1099511627776):Calls prog 93 #[.slice A f.length k] w λe w'=>∃v g,e=.returned v/\gv w' 3 v g (f.map vi)/\gg [] w w'/\w.heap.size<=g:=by
 obtain⟨z,G,rfl,I,-⟩:=q.ex l;have F:jj (w.alloc (.cells #[] 3)) 3 (.slice (some ⟨w.heap.size,0,none⟩) 0 0) [w.heap.size] []:=(gv.made w 3 [] (by simp[maxLen])).R;have s:gz (λu=>u) (w.alloc (.cells #[] 3)) (some ⟨z,G,none⟩) (f.map vi):=⟨λh=>by
  obtain⟨b,o,B,e2,e3⟩:=(q.Y ((zR [] w).alloc (.cells #[] 3))).ex l;refine⟨b,o,B,e2,λi a ha=>?_⟩;rw[zW]at ha;obtain⟨x,r,rfl⟩:=Option.map_eq_some_iff.1 ha;exact e3 i x r⟩
 have y:=gd s;have⟨n,hn⟩:=zX f.length;rw[<-hn]at l E⊢;have j:=gd hn;have J:∀(w:World) (a:Option Addr) (n c n' c':Nat),(binOp .eql 22 (.slice a n c) (.slice none n' c')).run prog w=.ok (.bool a.isNone) w:=λw a n c n' c'=>Lib.run_eql_slice_nil w _ _ a n c n' c' underlying22;clear s q hn;go_enter func93,ntmps93
 go_wp2_with(at_builtin;refine ns rfl rfl iO rfl rfl F (f.map vi) n rfl ?c1 ?c2 ?c3 ?c4 ?c5 ?_)
 case c1=>rw[zE];exact j.o
 case c2=>exact y.o
 case c3=>exact uW _
 case c4=>rw[zE,length_nil,<-j.o];omega
 case c5=>rw[zE,length_nil,<-j.o];omega
 intro H F' w' m p
 try rw[nil_append]at m
 have ad:gg [] w w':=((zR [] w).alloc _).trans p.Z λx r=>.inr (by simp at r;omega);rcases m.cases with⟨_,C,_⟩|⟨g,t,hF⟩
 .have:=j.o
  rw[List.map_eq_nil_iff.1 C]at this;simp at this;omega
 .have D:w.heap.size<=g:=by
   rcases p.new g (by rw[hF];simp)with h|h
   .simp at h;omega
   .have:(w.alloc (.cells #[] 3)).heap.size=w.heap.size+1:=Array.size_push _
    omega
  clear m p;go_wp2;go_ret;exact⟨H,g,rfl,t,ad,D⟩
theorem Jr(k s:Nat):nm (k+1) s=oT (nm k s):=Cb k 1 s
theorem vS(w:World)(A:Option Addr)(r:Nat)(a:List Nat)(H:gz b8 w A a)(I:∀d∈a,d<256)(P:a.length<=4611686018427387904):Calls prog 48 #[.slice A a.length r] w λe w'=>e=.returned (.int .u32 (mu a:Int))/\w=w':=by
 have⟨n,hn⟩:=zX a.length;rw[<-hn]at P⊢;have⟨HN,HD,HC⟩:=Q9 hn I H;clear hn I H;go_enter func48,ntmps48;go_wp2_with fail
 go_loopg [3,5,6,9,17] n (λj v3 v5 v6 v9 v17 wr=>∃i s:Nat,v3=.int .u32 s/\v9=.int .i64 i/\i+j=n/\gh (s=rV 4294967295 (a.take i))/\s<4294967296/\w=wr)
 .exact⟨0,4294967295,rfl,rfl,by omega,gd rfl,by decide,rfl⟩
 obtain⟨i,s,rfl,rfl,R,t,f,rfl⟩:=hrel;rcases gk with _|j
 .obtain rfl:i=n:=by omega
  have c:=u32_xor_nat s 4294967295 f (by decide);have M:=u32_xor_nat 4294967295 s (by decide) f;have T:bits .xor .u32 IntKind.u32.max (s:Int)=((s ^^^ 4294967295:Nat):Int):=by
   rw[Nat.xor_comm,<-M];rfl
  have N:gh (((s ^^^ 4294967295:Nat):Int)=(mu a:Int)):=by
   refine gd ?_;have h:=t.o;rw[zT (by rw[<-HN.o];exact zQ _)]at h;rw[h];rfl
  generalize ((s ^^^ 4294967295:Nat):Int)=z at *;go_wp2;go_ret;exact⟨by rw[<-N.o];rfl,rfl⟩
 .have O:i<n:=by omega
  have p:i<a.length:=by rw[<-HN.o];exact O
  obtain⟨g,o,rfl,m⟩:=HC.o.at_ p;have⟨x,c⟩:=zX (a[i]);rw[<-c]at m;have Q:w.cell? ⟨g,o+i,none⟩=some (.int .u8 x):=m;have U:x<256:=by rw[c];exact HD.o _ (zG _)
  have B:gh (rV 4294967295 (a.take (i+1))=nm 8 (s ^^^ x)):=by
   refine gd ?_;rw[take_succ_eq_append_getElem p,JT,<-t.o,<-c];rfl
  have W:IntKind.u32.wrap (x:Int)=(x:Int):=by rw[IntKind.wrap_u32'];omega
  have q:=u32_xor_nat s x f (by omega);have⟨s0,af⟩:=zX (s ^^^ x);have K:s0<4294967296:=by rw[af];exact xor_lt_two_pow (n:=32) f (by omega)
  rw[<-af]at q B;clear m c af p;go_wp2_with fail
  go_loopg [3,6,17] 8 (λl v3 v6 v17 wr=>∃k u:Nat,v3=.int .u32 u/\v17=.int .i64 k/\k+l=8/\gh (u=nm k s0)/\u<4294967296/\w=wr)
  .exact⟨0,s0,rfl,rfl,rfl,gd rfl,K,rfl⟩
  obtain⟨k,u,rfl,rfl,S,y,J,rfl⟩:=hrel;rcases gk with _|l
  .obtain rfl:k=8:=by omega
   go_wp2
   go_roundg j
   .exact⟨i+1,u,rfl,by go_num,by omega,gd (by rw[B.o,y.o]),J,rfl⟩
   .omega
  .have V:=jo k 8 (by omega)
   have G:bits .and .u32 (u:Int) 1=((u%2:Nat):Int):=by
    have:=u32_and_nat u 1 J (by decide)
    rw[and_one_is_mod]at this;exact this
   have C:(u:Int) / 2=((u / 2:Nat):Int):=(by omega);have E:gh (nm (k+1) s0=oT u):=gd (by rw[Jr,<-y.o]);by_cases h2:u%2=1
   .rw[h2]at G
    have ad:bits .xor .u32 ((u / 2:Nat):Int) 3988292384=(((u / 2) ^^^ 3988292384:Nat):Int):=u32_xor_nat (u / 2) 3988292384 (by omega) (by decide);have D:(u / 2) ^^^ 3988292384<4294967296:=xor_lt_two_pow (n:=32) (by omega) (by decide);have b:gh ((u / 2) ^^^ 3988292384=oT u):=gd (by unfold oT;rw[if_pos h2]);have⟨v,hv⟩:=zX ((u / 2) ^^^ 3988292384);rw[<-hv]at ad D b;have⟨h,hh⟩:=zX (u / 2);rw[<-hh]at ad C;have L:h<2147483648:=(by omega);clear hv hh h2 q;go_wp2
    go_roundg l
    .exact⟨k+1,v,rfl,by go_num,by omega,gd (by rw[E.o,b.o]),D,rfl⟩
    .omega
   .have F:u%2=0:=by omega
    rw[F]at G;have b:gh (u / 2=oT u):=gd (by unfold oT;rw[if_neg h2]);have⟨h,hh⟩:=zX (u / 2);rw[<-hh]at C b;have L:h<2147483648:=(by omega);clear hh h2 F q;go_wp2
    go_roundg l
    .exact⟨k+1,h,rfl,by go_num,by omega,gd (by rw[E.o,b.o]),by omega,rfl⟩
    .omega
theorem Qz(w:World)(A:Option Addr)(k:Nat)(f:List Nat)(q:gz b8 w A f)(l:0<f.length)(E:f.length<1099511627776):Calls prog 83 #[.slice A f.length k] w λe w'=>∃v g,e=.returned v/\gv w' 5 v g (f.map b8)/\gg [] w w'/\w.heap.size<=g:=by
 obtain⟨z,G,rfl,I,-⟩:=q.ex l;have F:jj (w.alloc (.cells #[] 5)) 5 (.slice (some ⟨w.heap.size,0,none⟩) 0 0) [w.heap.size] []:=(gv.made w 5 [] (by simp[maxLen])).R;have s:gz (λu=>u) (w.alloc (.cells #[] 5)) (some ⟨z,G,none⟩) (f.map b8):=⟨λh=>by
  obtain⟨b,o,B,e2,e3⟩:=(q.Y ((zR [] w).alloc (.cells #[] 5))).ex l;refine⟨b,o,B,e2,λi a ha=>?_⟩;rw[zW]at ha;obtain⟨x,r,rfl⟩:=Option.map_eq_some_iff.1 ha;exact e3 i x r⟩
 have y:=gd s;have⟨n,hn⟩:=zX f.length;rw[<-hn]at l E⊢;have j:=gd hn;have J:∀(w:World) (a:Option Addr) (n c n' c':Nat),(binOp .eql 41 (.slice a n c) (.slice none n' c')).run prog w=.ok (.bool a.isNone) w:=λw a n c n' c'=>Lib.run_eql_slice_nil w _ _ a n c n' c' underlying41;clear s q hn;go_enter func83,ntmps83
 go_wp2_with(at_builtin;refine ns rfl rfl nT rfl rfl F (f.map b8) n rfl ?c1 ?c2 ?c3 ?c4 ?c5 ?_)
 case c1=>rw[zE];exact j.o
 case c2=>exact y.o
 case c3=>exact pj _
 case c4=>rw[zE,length_nil,<-j.o];omega
 case c5=>rw[zE,length_nil,<-j.o];omega
 intro H F' w' m p
 try rw[nil_append]at m
 have ad:gg [] w w':=((zR [] w).alloc _).trans p.Z λx r=>.inr (by simp at r;omega);rcases m.cases with⟨_,C,_⟩|⟨g,t,hF⟩
 .have:=j.o
  rw[List.map_eq_nil_iff.1 C]at this;simp at this;omega
 .have D:w.heap.size<=g:=by
   rcases p.new g (by rw[hF];simp)with h|h
   .simp at h;omega
   .have:(w.alloc (.cells #[] 5)).heap.size=w.heap.size+1:=Array.size_push _
    omega
  clear m p;go_wp2;go_ret;exact⟨H,g,rfl,t,ad,D⟩
theorem QB(w:World)(A B:Option Addr)(u v:Nat)(a b:List Int)(r:gz vi w A a)(k:gz vi w B b)(c:a.length=b.length)(E:a.length<=1099511627776):Calls prog 80 #[.slice A a.length u,.slice B b.length v] w λe w'=>e=.returned (.bool (decide (a=b)))/\gg [] w w':=by
 have⟨n,hn⟩:=zX a.length;have h:b.length=n:=by rw[hn,c]
 rw[h];rw[<-hn]at E⊢;have⟨HA,HB⟩:=gy hn h;clear hn h c;have M:((n:Int) != (n:Int))=false:=by simp
 go_enter func80,ntmps80;go_wp2_with fail
 go_loopg [5,13] n (λj v5 iv wr=>∃i q:Nat,iv=.int .i64 i/\i+j=n/\gh (a.take i=b.take i)/\wr=w.drewN q)
 .exact⟨0,0,rfl,by omega,gd rfl,rfl⟩
 obtain⟨i,q,rfl,J,m,rfl⟩:=hrel;rcases gk with _|j
 .obtain rfl:i=n:=by omega
  have l:=m.o;rw[zT (by rw[<-HA.o];exact zQ _),zT (by rw[HB.o];exact zQ _)]at l;have D:gh (decide (a=b)=true):=gd (zB l);clear l;go_wp2;go_ret;exact⟨by rw[D.o];rfl,(zR [] w).drewN q⟩
 .have ad:i<n:=by omega
  have o:i<a.length:=by rw[<-HA.o];exact ad
  have p:i<b.length:=by rw[HB.o];exact ad
  obtain⟨z,F,rfl,f⟩:=r.at_ o;obtain⟨C,G,rfl,g⟩:=k.at_ p;have⟨x,hx⟩:=zX (a[i]);have⟨y,hy⟩:=zX (b[i]);rw[<-hx]at f;rw[<-hy]at g;have K:w.cell? ⟨z,F+i,none⟩=some (.int .i64 x):=f;have L:w.cell? ⟨C,G+i,none⟩=some (.int .i64 y):=g;have⟨HX,HY,ag,ah⟩:=gu hx hy o p;have I:=gd k;clear hx hy f g r k;go_wp2
  go_quiet (fail)
  by_cases hxy:x=y
  .subst hxy
   have H:(x != x)=false:=(by simp);go_wp2
   go_roundg j
   .refine⟨i+1,q+nq,by go_num,by omega,gd ?_,by first|rfl|rw[World.drewN_drewN]⟩
    rw[take_succ_eq_append_getElem ag.o,take_succ_eq_append_getElem ah.o,m.o,<-HX.o,<-HY.o]
   .omega
  .have H:(x != y)=true:=by simpa using hxy
   have s:decide (a=b)=false:=zA λe=>hxy (by rw[HX.o,HY.o];subst e;rfl);have t:=gd s;clear s;go_wp2;go_ret;exact⟨by rw[t.o];rfl,((zR [] w).drewN q).drewN nq⟩
theorem QA(w:World)(A B:Option Addr)(u v:Nat)(a b:List Nat)(r:gz b8 w A a)(k:gz b8 w B b)(c:a.length=b.length)(E:a.length<=1099511627776):Calls prog 64 #[.slice A a.length u,.slice B b.length v] w λe w'=>e=.returned (.bool (decide (a=b)))/\gg [] w w':=by
 have⟨n,hn⟩:=zX a.length;have h:b.length=n:=by rw[hn,c]
 rw[h];rw[<-hn]at E⊢;have⟨HA,HB⟩:=gy hn h;clear hn h c;have M:((n:Int) != (n:Int))=false:=by simp
 go_enter func64,ntmps64;go_wp2_with fail
 go_loopg [5,13] n (λj v5 iv wr=>∃i q:Nat,iv=.int .i64 i/\i+j=n/\gh (a.take i=b.take i)/\wr=w.drewN q)
 .exact⟨0,0,rfl,by omega,gd rfl,rfl⟩
 obtain⟨i,q,rfl,J,m,rfl⟩:=hrel;rcases gk with _|j
 .obtain rfl:i=n:=by omega
  have l:=m.o;rw[zT (by rw[<-HA.o];exact zQ _),zT (by rw[HB.o];exact zQ _)]at l;have D:gh (decide (a=b)=true):=gd (zB l);clear l;go_wp2;go_ret;exact⟨by rw[D.o];rfl,(zR [] w).drewN q⟩
 .have ad:i<n:=by omega
  have o:i<a.length:=by rw[<-HA.o];exact ad
  have p:i<b.length:=by rw[HB.o];exact ad
  obtain⟨z,F,rfl,f⟩:=r.at_ o;obtain⟨C,G,rfl,g⟩:=k.at_ p;have⟨x,hx⟩:=zX (a[i]);have⟨y,hy⟩:=zX (b[i]);rw[<-hx]at f;rw[<-hy]at g;have K:w.cell? ⟨z,F+i,none⟩=some (.int .u8 x):=f;have L:w.cell? ⟨C,G+i,none⟩=some (.int .u8 y):=g;have⟨HX,HY,ag,ah⟩:=gu hx hy o p;have I:=gd k;clear hx hy f g r k;go_wp2
  go_quiet (fail)
  by_cases hxy:x=y
  .subst hxy
   have H:((x:Int) != (x:Int))=false:=(by simp);go_wp2
   go_roundg j
   .refine⟨i+1,q+nq,by go_num,by omega,gd ?_,by first|rfl|rw[World.drewN_drewN]⟩
    rw[take_succ_eq_append_getElem ag.o,take_succ_eq_append_getElem ah.o,m.o,<-HX.o,<-HY.o]
   .omega
  .have H:(x != y)=true:=by simpa using hxy
   have N:((x:Int) != (y:Int))=true:=(by rw[bne_iff_ne];omega);have s:decide (a=b)=false:=zA λe=>hxy (by rw[HX.o,HY.o];subst e;rfl);have t:=gd s;clear s;go_wp2;go_ret;exact⟨by rw[t.o];rfl,((zR [] w).drewN q).drewN nq⟩
def yg(v:Int):List Nat:=[v.toNat / 256,v.toNat%256]
def lm(l:List Int):List Nat:=l.flatMap yg
def yf(p:qc):List Nat:=[p.W,p.H,p.d,p.P.length]++p.P.flatMap lm
def pv(p:qc):Nat:=mu (yf p)
theorem Id(l:List Int):(lm l).length=2*l.length:=by
 induction l with
 | nil=>rfl
 | cons a l ih=>simp only[lm,flatMap_cons,zC,yg,zK,length_nil]at ih⊢;omega
theorem II(a:1<=d)(b:d<=16){v:Int}(c:0<=v)(e:v<2^d):v.toNat<65536:=by
 have:=(jX a b).2
 omega
theorem Qs(e:1<=d)(f:d<=16){l:List Int}(g:ie d l):∀x∈lm l,x<256:=by
 intro x c;obtain⟨v,h,c⟩:=List.mem_flatMap.1 c;obtain⟨a,b⟩:=g v h
 have:=II e f a b
 simp only[yg,zJ,not_mem_nil,or_false]at c;omega
theorem Il{p:qc}(h:p.Ok):∀x∈yf p,x<256:=by
 intro x a;rcases zP.1 a with a|a
 .have:=h.w1;have:=h.h1;have:=h.d1;have:=h.n1
  simp only[zJ,not_mem_nil,or_false]at a;omega
 .obtain⟨l,b,a⟩:=List.mem_flatMap.1 a
  exact Qs h.d0 h.d1 (h.smp l b) x a
theorem BW{m:Nat}:∀(P:List (List Int)),(∀l∈P,l.length=m)->(P.flatMap lm).length=2*m*P.length
 | [],_=>by simp
 | l::P,h=>by
  rw[flatMap_cons,zC,Id,h l (by simp),BW P (λx hx=>h x (by simp[hx])),zK,mul_succ];omega
theorem It{p:qc}(h:p.Ok):pv p<4294967296:=xH (Il h)
theorem QF(w:World)(a b:Nat):gz (λu=>u) (w.alloc (.cells #[.int .u8 a,.int .u8 b] 5)) (some ⟨w.heap.size,0,none⟩) ([a,b].map b8):=⟨λ_=>by
 have c:=gn.new w 5 #[.int .u8 a,.int .u8 b];refine⟨w.heap.size,0,rfl,c.lt,λi x hx=>?_⟩;rw[Nat.zero_add,c.X i]
 match i,hx with
 | 0,hx=>exact hx
 | 1,hx=>exact hx
 | i+2,hx=>simp at hx⟩
theorem QN{w:World}{p:qc}{g o:Nat}{B:Nat->Option Addr}{c:Nat->Nat}{G:List Nat}(s:Nat)(h:ip w p g o B c G):Calls prog 84 #[gW p g o s] w λe w'=>e=.returned (.int .u32 (pv p:Int))/\gg [] w w':=by
 have D:=λw' (Y:gg [] w w')=>oJ s (h.Y Y);have r:=h.ok;unfold gW at D⊢;have⟨W,hW⟩:=zX p.W;have⟨H,hH⟩:=zX p.H;have⟨d,hd⟩:=zX p.d;have⟨n,hn⟩:=zX p.P.length;have⟨N,hN⟩:=zX (W*H);rw[<-hW,<-hH,<-hd,<-hn]at D⊢;have bh:N<=4096:=by rw[hN,hW,hH];exact r.area
 have bn:n<=4:=by rw[hn];exact r.n1
 have bi:W<=64:=by rw[hW];exact r.w1
 have bg:H<=64:=by rw[hH];exact r.h1
 have bj:d<=16:=by rw[hd];exact r.d1
 have al:∀w',gg [] w w'->∀i,i<n->∃b q,w'.cell? ⟨g,o+i,none⟩=some (.slice (some ⟨b,q,none⟩) N (c i))/\∀w'',gg [] w w''->∀k,k<N->w''.cell? ⟨b,q+k,none⟩=some (.int .i64 ((p.P.getD i []).getD k 0)):=by
  intro w' Y i f;rw[hn]at f;obtain⟨b,q,e,hb,K⟩:=h.at_ f;have O:=(h.Y Y).X i f;rw[e,<-hW,<-hH,<-hN]at O;refine⟨b,q,O,λw'' hc'' k hk'=>?_⟩;have hh:=K k (by rw[<-hW,<-hH,<-hN];exact hk');exact(World.cell?_of_block (w:=w) (hc''.block b (h.lt b hb) (by simp))).trans hh
 have aZ:∀i k,i<n->∃m:Nat,(p.P.getD i []).getD k 0=(m:Int)/\m<65536:=by
  intro i k f;rw[hn]at f;obtain⟨a,b⟩:=mK (r.smp _ (by rw[zD,zF f];exact zG f:p.P.getD i []∈p.P)) k;exact⟨((p.P.getD i []).getD k 0).toNat,by omega,II r.d0 r.d1 a b⟩
 have am:∀i,i<n->(p.P.getD i []).length=N:=λi f=>by rw[hN,hW,hH];exact h.len (by rw[<-hn];exact f)
 have ak:=Il r;have bc:(yf p).length<=100000:=by
  unfold yf;rw[zC,BW p.P (λl hl=>r.len l hl)];have V:=r.area;have X:=r.n1;have J:=zL (zL (zQ 2) V) X;simp only[zK,length_nil];omega
 have u:∀i,i<=n->([W,H,d,n]++(p.P.take i).flatMap lm).length<=100000:=by
  intro i f;rw[zC,BW (m:=p.W*p.H) _ (λl hl=>r.len l (mem_of_mem_take hl)),zI,<-hn];have V:=r.area;have J:=zL (zL (zQ 2) V) (show min i n<=4 by omega);simp only[zK,length_nil];omega
 have⟨w1,aw⟩:=zX (w.alloc (.cells #[W,H,d,.slice (some ⟨g,o,none⟩) n s] 46));have aP:=H4 aw;have aQ:gn w1 w.heap.size 46 #[W,H,d,.slice (some ⟨g,o,none⟩) n s]:=by rw[aw];exact gn.new w _ _
 have aH:gh (∀i,i=n->mu ([W,H,d,n]++(p.P.take i).flatMap lm)=pv p):=gd (λi f=>by
  rw[zT (by omega),hW,hH,hd,hn];rfl)
 have aE:gh (∀i,i=n->∀x∈[W,H,d,n]++(p.P.take i).flatMap lm,x<256):=gd (λi f=>by
  rw[zT (by omega),hW,hH,hd,hn];exact ak)
 have ap:gh (∀i,i<n->[W,H,d,n]++(p.P.take (i+1)).flatMap lm=([W,H,d,n]++(p.P.take i).flatMap lm)++lm (p.P.getD i [])):=gd (λi f=>by
  have aU:i<p.P.length:=by omega
  rw[take_succ_eq_append_getElem aU,flatMap_append,zH,zD,zF aU];simp)
 have⟨a7,ah,HC,a8⟩:=gu aw aQ al aZ;have⟨aL,a1,aO,a2⟩:=gu aP D u am;have z:∀m:Nat,m<256->IntKind.u8.wrap (m:Int)=(m:Int):=λm L=>by rw[IntKind.wrap_u8];omega
 have wW:=z W (by omega);have wH:=z H (by omega);have wd:=z d (by omega);have wn:=z n (by omega);clear hW hH hd hn hN r al aZ aw aQ aP h D ak bc u am z;go_enter func84,ntmps84;go_wp2_with fail;rw[<-a7.o];refine(a1.o w1 aL.o).mono ?_;rintro e y ⟨rfl,t⟩;have c0:=(ah.o.Z t (by simp)).X 0;have c1:=(ah.o.Z t (by simp)).X 1;have c2:=(ah.o.Z t (by simp)).X 2;have c3:=(ah.o.Z t (by simp)).X 3;simp at c0 c1 c2 c3;have a9:=((ah.o.Z t (by simp)).alloc (.cells #[.int .u8 W,.int .u8 H,.int .u8 d,.int .u8 n] 5)).X 3;simp at a9;have ai:=gd (aL.o.tq t);have ab:jj (y.alloc (.cells #[.int .u8 W,.int .u8 H,.int .u8 d,.int .u8 n] 5)) 5 (.slice (some ⟨y.heap.size,0,none⟩) 4 4) [y.heap.size] ([W,H,d,n].map b8):=by
  have:=gv.made y 5 ([W,H,d,n].map b8) (by simp[maxLen])
  exact gv.R this
 have a3:=gd ab;clear t ab;go_wp2_with fail
 go_loopg [3,5,7,28,34] n (λj v3 v5 v7 v28 v34 wr=>∃(i:Nat) (F:List Nat),v28=.int .i64 i/\i+j=n/\gh (jj wr 5 v3 F (([W,H,d,n]++(p.P.take i).flatMap lm).map b8))/\gh (gg [] w wr)/\gh (∀x∈F,w.heap.size<=x))
 .exact⟨0,[y.heap.size],rfl,by omega,gd (by simpa using a3.o),gd (ai.o.alloc _),gd (by intro x v;simp at v;have:=ai.o.size;omega)⟩
 obtain⟨i,F,rfl,bl,HO,T,HF⟩:=hrel;rcases gk with _|j
 .obtain rfl:i=n:=by omega
  have⟨ds,aT⟩:=zX ([W,H,d,i]++(p.P.take i).flatMap lm);have Z:=HO.o;have M:=aE.o i rfl;have P:=aH.o i rfl;have u:=aO.o i (zQ _);rw[<-aT]at Z M P u;obtain⟨A3,aC,rfl,ba,bb,aR⟩:=Z.T;have I:=vS wr A3 aC _ aR M (by omega);rw[P]at I;have⟨q,hq⟩:=zX ds.length;rw[<-hq]at I⊢;have a6:=gd I;clear I ba bb aR Z M P u aT hq;go_wp2_with fail;refine gB a6.o ?_;go_wp2;go_ret;exact⟨rfl,T.o⟩
 .have f:i<n:=by omega
  obtain⟨b,q,O,K⟩:=HC.o wr T.o i f;have HK:=gd K;have⟨l,hl⟩:=zX (p.P.getD i []);have⟨pre,af⟩:=zX ([W,H,d,n]++(p.P.take i).flatMap lm);have E:=ap.o i f;have S:=aO.o i (by omega);have Q:=a2.o i f;have R:=a8.o i;rw[<-hl]at E Q R;rw[<-af]at E S;have⟨HL,aB,a5,aj⟩:=gu hl af E S;have⟨aA,a4⟩:=gy Q R;clear K hl af E S Q R;go_wp2_with fail
  go_loopg [3,7,34] N (λj2 v3 v7 v34 wr2=>∃(k:Nat) (A:List Nat),v34=.int .i64 k/\k+j2=N/\gh (jj wr2 5 v3 A ((pre++lm (l.take k)).map b8))/\gh (gg [] w wr2)/\gh (∀x∈A,w.heap.size<=x))
  .exact⟨0,F,rfl,by omega,gd (by rw[aB.o];simpa[lm]using HO.o),gd T.o,gd HF.o⟩
  obtain⟨k,A,rfl,bm,aM,C,U⟩:=hrel;rcases gk with _|j2
  .obtain rfl:k=N:=by omega
   go_wp2
   go_roundg j
   .refine⟨i+1,A,by go_num,by omega,gd ?_,C,U⟩
    have h:=aM.o;rw[zT (by rw[aA.o];exact zQ _)]at h;rw[a5.o];exact h
   .omega
  .have aV:k<N:=by omega
   obtain⟨m,L,bf⟩:=a4.o k f;have bd:=HK.o wr C.o k aV;rw[<-HL.o,L]at bd;have aX:gh (lm (l.take (k+1))=lm (l.take k)++[m / 256,m%256]):=by
    refine gd ?_;have aW:k<l.length:=(by rw[aA.o];exact aV);have e:l[k]=(m:Int):=by
     rw[<-L,zD,zF aW];rfl
    rw[take_succ_eq_append_getElem aW,lm,flatMap_append,e];simp[lm,yg]
   have aY:(lm (l.take k)).length<=8192:=(by rw[Id,zI,aA.o];omega);have aN:=gd aY;have be:(m:Int) / 256=((m / 256:Nat):Int):=(by omega);have⟨ag,ad⟩:=zX (m / 256);have⟨ax,an⟩:=zX (m%256);rw[<-ad,<-an]at aX;rw[<-ad]at be;have bk:ag<256:=(by omega);have e8:IntKind.u8.wrap (ag:Int)=(ag:Int):=(by rw[IntKind.wrap_u8];omega);have e9:IntKind.u8.wrap (m:Int)=(ax:Int):=(by rw[IntKind.wrap_u8];omega);have aJ:=aM.o.alloc (.cells #[.int .u8 ag,.int .u8 ax] 5);have aS:=QF wr ag ax;have a0:=gd aS;clear L ad an aY aS
   go_wp2_with(at_builtin;refine ns rfl rfl nT rfl rfl aJ ([ag,ax].map b8) 2 rfl ?c1 ?c2 ?c3 ?c4 ?c5 ?_)
   case c1=>rfl
   case c2=>exact a0.o
   case c3=>exact pj _
   case c4=>have:=aj.o;have:=aN.o;simp only[zE,zC,zK,length_nil];omega
   case c5=>have:=aj.o;have:=aN.o;simp only[zE,zC,zK,length_nil];omega
   intro v' F' w' X J;go_wp2_with fail
   go_roundg j2
   .refine⟨k+1,F',by go_num,by omega,gd ?_,gd ?_,gd ?_⟩
    .rw[aX.o,zM,zM]
     exact X
    .exact(C.o.tq ((zR [] wr).alloc _)).trans J.Z λx v=>.inr (U.o x v)
    .intro x v
     rcases J.new x v with h|h
     .exact U.o x h
     .have:=C.o.size;rw[jt]at h;omega
   .omega
end Go.Proofs.YtifdlkoepaepiaaGreatDoor
