/- Lemmas. -/
import Derived.Deep.RegionHeld3
import Derived.Test.YtnepiccbpokmiaaGreatDoorMg25
set_option linter.all false
set_option maxHeartbeats 4000000
set_option maxRecDepth 100000
namespace Go.Proofs.YtnepiccbpokmiaaGreatDoor
open Tryz List Nat Go.RowKit
variable {F:List Nat}{b d n y:Nat}{w:World}
section
variable {P:Program}
theorem nQ{ops:Array Oper}{o:Oper}{a:Act}{K:Act->World->Prop}{Q:Exit->Act->World->Prop}{E0:Prop}(p:o.guard=none){s x:Operand}{t:TypeId}(I:o.op=.call { callee:=.builtin .append,args:=#[s,x],argTypes:=#[t,t] }){e:TypeId}{z:Value}{f:Nat}(E:jA P t e z 1 f)(r:z.cells.size=1){v:Value}{l:List Value}(J:a.eval s=v)(i:gE w e v F l){A:Option Addr}{c:Nat}(news:List Value)(n:Nat)(L:a.eval x=.slice A n c)(q:n=news.length)(H:gu (λu=>u) w A news)(C:∀u∈news,u.oneCell'=true)(m:l.length+news.length<=9223372036854775807)(g:(l.length+news.length)*f<=140737488355328)(h:∀k F' j,gE j e k F' (l++news)->gB F F' w j->K (a.put o.dst k) j):if Region.wanted o (yielded ops a.tmps)=true then Oper.wp P o a w K Q else E0:=by
 subst q;rw[if_pos (by simp[Region.wanted,p])];obtain⟨k,F',j,B,D,G⟩:=A0 (P:=P) (ty:=o.type) E r i (c:=c) news H C m g;unfold Oper.wp execOp;simp only[I,resolve,invoke,builtin,Sem.run_bind,Sem.run_pure,Result.andThen_ok,map_toArray,map_cons,map_nil,J,L,B];exact h k F' j D G
end
theorem Ex(l:List Int)(A:Option Addr)(cap W H d:Nat)(ks:List Nat)(Y:Option Addr)(m:Nat)(w:World)(z:1<=W)(B:W<=64)(hh0:1<=H)(M:H<=64)(U:1<=d)(V:d<=16)(hl:l.length=W*H)(N:gU d l)(hc:gu vi w A l)(f:ks.length=H)(u:∀k∈ks,k<10)(t:gu i64 w Y ks):Calls prog 141 #[.slice A l.length cap,W,H,d,.slice Y H m] w λe c=>∃v G,e=.returned (.tuple #[v,(0:Int)])/\gE c 3 v G ((kN l W H d ks).map vi)/\gf [] w c/\∀x∈G,w.heap.size<=x:=by
 have a0:W*H<=4096:=zL B M;have aH:=ul l A cap W H d w z B hh0 M U V hl N hc;have aG:=Jv ks Y m H w u f (by omega) t;rw[f]at aG;have S:=tZ l z d ks H;rw[<-hl]at S;have ab:=λi (hi:i<l.length) c (hc':gu vi c A l)=>yJ l A cap W (i%W) (i / W) c z B (mod_lt _ (by omega)) (by
  have:i / W<H:=(div_lt_iff_lt_mul (by omega)).2 (by rw[zY];omega)
  omega) (by have:=div_add_mod i W;rw[zY]at this;omega) hc' (by omega)
 have ag:∀i,i<l.length->i / W<H:=λi hi=>(div_lt_iff_lt_mul (by omega)).2 (by rw[zY];omega);have aL:=λi=>sJ (pf N W (i%W) (i / W));have ao:=λk (hk:k<10) i c=>Fl k (ij l W (i%W) (i / W)) d c hk U V (pf N W (i%W) (i / W));have⟨n,hn⟩:=zX l.length;rw[<-hn]at aH ab ag S⊢;have ba:n<=4096:=by omega
 obtain⟨bb,bc⟩:=jl U V;have⟨HN,aZ,aU,aS⟩:=gz hn aH aG S;have⟨aX,aA,aT,aD⟩:=gz ab ag aL ao;have⟨aV,aW,HS⟩:=gS f u N;clear hn aH aG S ab ag aL ao f u N hl a0;go_enter func141,ntmps141
 go_wp2_with(first|(go_at_call 66;refine gx aZ.o ?_)|(go_at_call 213;refine gx aU.o ?_))
 go_loopg [12,13] n (λj v iv wr=>∃(i:Nat) (G:List Nat) (a:List Int),iv=.int .i64 i/\i+j=n/\gE wr 3 v G (a.map vi)/\gh (a=(range i).map (pe l W d ks))/\gf [] w wr/\∀x∈G,w.heap.size<=x)
 .exact⟨0,[],[],rfl,by omega,gE.nil _ _,gd (by simp),zR _ _,by simp⟩
 obtain⟨i,G,a,rfl,a9,ad,O,R,hG⟩:=hrel;have Z:=gd hG;clear hG;rcases gk with _|j
 .obtain rfl:i=n:=by omega
  have t1:decide (i<i)=false:=by simp
  obtain⟨X,c1,rfl,-,-,-⟩:=ad.oq;have aP:a.length=i:=by rw[O.o];simp
  go_wp2;refine bodyPost_ret (v:=.tuple #[.slice X a.length c1,(0:Int)]) (by simp[results,results141,go_sem]) rfl ⟨_,G,rfl,?_,R,Z.o⟩;rw[aS.o,<-O.o];exact ad
 .have hi:i<n:=by omega
  have E:i<l.length:=by rw[<-HN.o];exact hi
  have⟨x,hx⟩:=zX (i%W);have⟨y,hy⟩:=zX (i / W);have e1:(i:Int)%(W:Int)=(x:Int):=by rw[hx];simp
  have e2:(i:Int) / (W:Int)=(y:Int):=by rw[hy];simp
  have a3:y<H:=by rw[hy];exact aA.o i hi
  have J:y<ks.length:=by rw[aV.o];exact a3
  have aF:=hc.Y R;have ak:=t.Y R;have I:=λq=>aX.o i hi (wr.drewN q) (aF.drewN q);have am:=aW.o _ (zG J);obtain⟨g,o,rfl,ae⟩:=aF.at_ E;obtain⟨aJ,aR,rfl,aa⟩:=ak.i64_at J;obtain⟨a7,a8⟩:=HS.o _ (zG E);have p:pe l W d ks i=iw (l[i]-jL ks[y] (ij l W x y) d) d:=by
   unfold pe ph;rw[<-hy,<-hx,zD (l:=ks),zF J];have e3:y*W+x=i:=(by rw[hx,hy,zY];exact div_add_mod i W);rw[e3,zD,zF E];rfl
  have⟨s,aI⟩:=zX (l[i]);have⟨k,ax⟩:=zX (ks[y]);have C:=aD.o k (by rw[ax];exact am) i;have T:=aT.o i k;rw[<-hx,<-hy]at I C T;rw[<-aI]at ae p a7 a8;rw[<-ax]at aa p;have⟨nb,aO⟩:=zX (ij l W x y);rw[<-aO]at I C T p;obtain⟨a6,nn,a5,a4⟩:=nb;simp only at I C;have⟨gs,aM⟩:=zX (jL k ⟨a6,nn,a5,a4⟩ d);rw[<-aM]at C T p;obtain⟨g0,g1⟩:=T;have aQ:=λc=>uE (s-gs) d c U V;have⟨r,hr⟩:=zX (iw (s-gs) d);rw[<-hr]at aQ p;obtain⟨X,c1,rfl,-,-,-⟩:=ad.oq;have aP:a.length=i:=by rw[O.o];simp
  have a1:a.length<=4096:=by omega
  have aj:gh (a++[r]=(range (i+1)).map (pe l W d ks)):=gd (by rw[range_succ,zM,<-O.o];simp[p]);have⟨aC,aY⟩:=gy I C;have af:∀c,gf [] w c->c.cell? ⟨g,o+i,none⟩=some (.int .i64 s)/\c.cell? ⟨aJ,aR+y,none⟩=some (.int .i64 k):=λc hc'=>by
   obtain⟨g9,o9,L,h9⟩:=(hc.Y hc').at_ E;obtain⟨g8,o8,K,h8⟩:=(t.Y hc').i64_at J;injection L with L;injection L with L e10;injection K with K;injection K with K e11;subst L;subst e10;subst K;subst e11;rw[aI,ax];exact⟨h9,h8⟩
  have aB:=gd af;have es:IntKind.i64.wrap (s-gs)=s-gs:=IntWalk.i64_in _ (by omega);clear ae aa p hr aM aO aI ax hx hy I C af am E J aP ak aF;go_wp2_with fail
  go_quiet ((go_at_call 214;exact sB (aC.o _)))
  have⟨w2,ay⟩:=zX (wr.drewN nq);rw[<-ay];have ap:gE w2 3 (.slice X a.length c1) G (a.map vi):=by rw[ay];exact ad.drewN nq
  have aE:gf [] w w2:=by rw[ay];exact R.drewN nq
  obtain⟨y1,y2⟩:=aB.o w2 aE;have D:gf [] w2 w2.drew:=(zR [] w2).drew;have az:=gd aE;clear ay aE;have u1:¬W=0:=by omega
  have u6:IntKind.i64.wrap ((i:Int).tdiv (W:Int))=(y:Int):=by rw[IntWalk.i64_quo _ _ ⟨by omega,by omega,by omega⟩];exact e2
  have u3:IntKind.i64.wrap (y:Int)=(y:Int):=IntWalk.i64_in _ (by omega);have u4:(0:Int)<=(y:Int):=by omega
  have u5:(y:Int)<(H:Int):=by omega
  go_wp2_with fail
  go_region_held3 (λc=>c.cell? ⟨g,o+i,none⟩=some (.int .i64 s)/\c.cell? ⟨aJ,aR+y,none⟩=some (.int .i64 k))
   (first|(go_keep;done)|exact⟨y1,y2⟩|exact aB.o _ (az.o.tq (D.tq Q))|exact aB.o _ aN|trivial)
   (first
    | (go_at_call 215;refine(aY.o _).mono ?_;rintro e w5 ⟨rfl,Q⟩)
    | (go_at_call 29;refine gx (aQ _) ?_)
    | (refine oT (by rfl) (by rfl) iJ (by rfl) (by rfl) (((ap.Y D).Y Q).alloc (.cells #[r] 3)) (.int .i64 r) (by rfl) (by simp[go_sem]) (by rfl) (by rw[zE];omega) (by rw[zE];omega) ?_;intro g8 c8 w8 a2 aK;have aN:gf [] w w8 := ((az.o.tq (D.tq Q)).alloc (.cells #[r] 3)).trans aK.Z (λx hx=>.inr (Z.o x hx))))
  all_goals
   go_wp2_with fail
   go_roundg j
   .refine⟨i+1,[g8],a++[r],by go_num,by omega,?_,aj,aN,λx hx=>?_⟩
    .have:=a2.S
     simpa[vi]using this
    .rcases aK.new x hx with h|h
     .exact Z.o x h
     .have:=az.o.size
      have:=Q.size
      have:=D.size
      simp at h;omega
   .omega
def kG{α:Type}(f g:Nat->α)(n y:Nat):List α:=(range n).map λi=>if i<y then g i else f i
theorem CZ{α:Type}(f g:Nat->α)(n y:Nat):(kG f g n y).length=n:=by simp[kG]
theorem Cb{α:Type}(f g:Nat->α)(n:Nat):kG f g n 0=(range n).map f:=by simp[kG]
theorem Kw{α:Type}(f g:Nat->α)(n:Nat):kG f g n n=(range n).map g:=by
 unfold kG;apply map_congr_left;intro i hi;rw[if_pos (List.mem_range.1 hi)]
theorem yz{α:Type}(f g:Nat->α)(h:y<n):(kG f g n y)[y]?=some (f y):=by simp[kG,h]
theorem C0{α:Type}(f g:Nat->α)(h:y<n):(kG f g n y).set y (g y)=kG f g n (y+1):=by
 apply ext_getElem
 .simp[kG]
 .intro i a c
  rw[getElem_set];simp only[kG,List.getElem_map,List.getElem_range];by_cases e:y=i
  .subst e;rw[if_pos rfl,if_pos (by omega)]
  .rw[if_neg e]
   by_cases e2:i<y
   .rw[if_pos e2,if_pos (by omega)]
   .rw[if_neg e2,if_neg (by omega)]
theorem Ca{α:Type}(f g:Nat->α)(h:f y=g y):kG f g n (y+1)=kG f g n y:=by
 unfold kG;apply map_congr_left;intro i _;by_cases e:i=y
 .subst e;rw[if_pos (by omega),if_neg (by omega),h]
 .by_cases e2:i<y
  .rw[if_pos e2,if_pos (by omega)]
  .rw[if_neg e2,if_neg (by omega)]
def bU(l:List Int)(W d K y:Nat):Int:=if K=0 then 0 else((mo l W y d (K-1):Nat):Int)
def lU(l:List Int)(W d K y:Nat):Int:=if K=0 then 0 else ji (jY l W y d (mo l W y d (K-1))) d
theorem On(l:List Int)(W d K y:Nat)(h:K=0\/ji (jY l W y d K) d<lU l W d K y):bU l W d (K+1) y=(K:Int)/\lU l W d (K+1) y=ji (jY l W y d K) d:=by
 unfold bU lU at *;rw[if_neg (by omega),if_neg (by omega),Nat.add_sub_cancel]
 cases K with
 | zero=>exact⟨rfl,rfl⟩
 | succ k=>
  rcases h with h|h
  .omega
  .rw[if_neg (by omega),Nat.add_sub_cancel]at h
   rw[mo,if_pos h];exact⟨rfl,rfl⟩
theorem Ol(l:List Int)(W d K y:Nat)(a:K≠0)(h:¬ji (jY l W y d K) d<lU l W d K y):bU l W d K y=bU l W d (K+1) y/\lU l W d K y=lU l W d (K+1) y:=by
 unfold bU lU at *;rw[if_neg a]at h;rw[if_neg a,if_neg (by omega),if_neg a,if_neg (by omega),Nat.add_sub_cancel]
 cases K with
 | zero=>exact absurd rfl a
 | succ k=>
  rw[Nat.add_sub_cancel]at h⊢;rw[mo,if_neg h];exact⟨rfl,rfl⟩
theorem Oq(l:List Int)(W H d:Nat):((range H).map (bU l W d 10)).map vi=(lm l W H d).map i64:=by
 rw[<-AG];rfl
theorem Kt(l:List Int){W:Nat}(c:1<=W)(H d:Nat)(ks:List Nat)(g:y<H):((kN l W H d ks).drop (y*W)).take W=jY l W y d (ks.getD y 0):=by
 rw[tZ l c];have f:y*W+W<=W*H:=by
  have:=mul_le_mul_left W (show y+1<=H by omega)
  rw[Nat.mul_add,Nat.mul_one,zY]at this;exact this
 unfold jY;apply ext_getElem
 .simp;omega
 .intro x e a
  rw[zE,length_range]at a;rw[getElem_take,List.getElem_drop,List.getElem_map,List.getElem_range,List.getElem_map,List.getElem_range];unfold pe;rw[zY y W,Nat.mul_add_div (by omega),div_eq_of_lt a,Nat.add_zero,Nat.mul_add_mod,mod_eq_of_lt a]
theorem K7(l:List Int)(A:Option Addr)(cap W H d:Nat)(w:World)(z:1<=W)(B:W<=64)(Q:1<=H)(u:H<=64)(h0:1<=d)(O:d<=16)(hl:l.length=W*H)(hs:gU d l)(hc:gu vi w A l):Calls prog 103 #[.slice A l.length cap,W,H,d] w λe E=>∃v G,e=.returned v/\gE E 3 v G ((lm l W H d).map i64)/\gf [] w E/\∀x∈G,w.heap.size<=x:=by
 have b5:W*H<=4096:=zL B u;have b6:=lp (P:=prog) iJ rfl .i64 .i64 H (by omega) (by omega);have Z:=ul l A cap W H d w z B Q u h0 O hl hs hc;have aZ:=λk (hk:k<10) E hc' Ak capk S=>Ex l A cap W H d (replicate H k) Ak capk E z B Q u h0 O hl hs hc' zV (λx hx=>by rw[eq_of_mem_replicate hx];exact hk) S;have bq:=λk=>sH l W H d (replicate H k);have bu:=λk y (f:y<H)=>Kt l z H d (replicate H k) f;have⟨n,hn⟩:=zX l.length;rw[<-hn]at Z aZ⊢;have⟨bI,bD,bC,bH⟩:=gz Z aZ bq bu;have bv:=λE=>gv.zeros E H (by omega);have aT:=gd bv;clear hn Z aZ bq hl hs bv bu;go_enter func103,ntmps103
 go_wp2_with(go_at_call 66;refine gx bI.o ?_)
 go_cut [9,10] (λs9 s10 wx=>∃a c,s9=.slice (some ⟨a,0,none⟩) H H/\s10=.slice (some ⟨c,0,none⟩) H H/\a≠c/\gv wx 3 (.slice (some ⟨a,0,none⟩) H H) a ((jI [] H).map vi)/\gv wx 3 (.slice (some ⟨c,0,none⟩) H H) c ((jI [] H).map vi)/\gf [] w wx/\w.heap.size<=a/\w.heap.size<=c)
 case first=>
  go_region_law (fail)
  all_goals
   have o:=((aT.o w).alloc (.cells (replicate H (Value.int .i64 0)).toArray 3)).drew;have m:=(aT.o (w.alloc (.cells (replicate H (Value.int .i64 0)).toArray 3))).drew;rw[show(w.alloc (.cells (replicate H (Value.int .i64 0)).toArray 3)).heap.size=w.heap.size+1 from Array.size_push _]at m;have c3:gf [] w ((w.alloc (.cells (replicate H (Value.int .i64 0)).toArray 3)).alloc (.cells (replicate H (Value.int .i64 0)).toArray 3)).drew:=(((zR [] w).alloc _).alloc _).drew;have⟨r,s,C3⟩:=gS o m c3;clear o m c3;go_wp2_with fail;go_meet
   case rel=>
    first
     | exact⟨w.heap.size,w.heap.size+1,rfl,rfl,by omega,r.o,s.o,C3.o,zQ _,by omega⟩
     | exact⟨w.heap.size+1,w.heap.size,rfl,rfl,by omega,s.o,r.o,C3.o,by omega,zQ _⟩
 case rest=>
  obtain⟨a,c,rfl,rfl,T,ad,g,aA,b3,b4⟩:=hcut;have e0:(jI [] H).map vi=((range H).map (bU l W d 0)).map vi:=by
   rw[xZ]
   congr 1
   apply ext_getElem
   .simp
   .intro i O h2;simp[bU]
  have bj:(jI [] H).map vi=((range H).map (lU l W d 0)).map vi:=by
   rw[xZ]
   congr 1
   apply ext_getElem
   .simp
   .intro i O h2;simp[lU]
  rw[e0]at ad;rw[bj]at g;have aN:=gd aA;clear e0 bj aA;go_wp2_with fail
  go_loopg [11] 10 (λj kv wr=>∃K:Nat,kv=.int .i64 K/\K+j=10/\gv wr 3 (.slice (some ⟨a,0,none⟩) H H) a (((range H).map (bU l W d K)).map vi)/\gv wr 3 (.slice (some ⟨c,0,none⟩) H H) c (((range H).map (lU l W d K)).map vi)/\gf [a,c] wc wr)
  .exact⟨0,rfl,by omega,ad,g,zR _ _⟩
  obtain⟨K,rfl,b1,bb,bc,aX⟩:=hrel;have aV:gf [] w wr:=aN.o.trans aX (λx hx=>by simp at hx;omega);have a5:=bb.lt;have a6:=bc.lt;have⟨be,bK,bB⟩:=gS bb bc aX;clear bb bc aX ad g;rcases gk with _|j
  .obtain rfl:K=10:=by omega
   go_wp2;go_ret;refine⟨_,rfl,[a],?_,aV,λx hx=>by simp at hx;omega⟩;rw[<-Oq];exact be.o.S
  .have hK:K<10:=by omega
   obtain⟨t,rfl⟩:=zX wr;have t1:=iI K 9 (by omega);have⟨aJ,a0⟩:=zX t.heap.size;have ba:=aT.o t;have bQ:gf [] t (t.alloc (.cells (replicate H (Value.int .i64 0)).toArray 3)):=(zR [] t).alloc _;rw[<-a0]at ba;have⟨bd,bw,bJ⟩:=gS a0 aV ba;clear aV a0 ba;go_wp2_with fail;rw[<-bd.o]
   go_loopg [13] H (λq yv wx=>∃y:Nat,yv=.int .i64 y/\y+q=H/\gv wx 3 (.slice aJ H H) aJ ((jI (replicate y (K:Int)) H).map vi)/\gf [] t wx)
   .exact⟨0,rfl,by omega,bJ.o,bQ⟩
   obtain⟨y,rfl,bW,C,I⟩:=hrel;rcases gk with _|q
   .obtain rfl:H=y:=by omega
    have t2:decide (H<H)=false:=(by simp);have aD:=bw.o.tq I;have e5:(jI (replicate H (K:Int)) H).map vi=(replicate H K).map i64:=by
     rw[sq (by simp),map_replicate,map_replicate];rfl
    rw[e5]at C;have S:gu i64 wr (some ⟨aJ,0,none⟩) (replicate H K):=C.S.cells;have ai:=bD.o K hK wr (hc.Y aD) _ H S;have⟨av,aH⟩:=gy ai I;clear C S ai e5 I aD;go_wp2_with fail;refine av.o.mono ?_;rintro e w2 ⟨vf,Gf,rfl,Y,R,bm⟩;obtain⟨Af,ax,rfl,al,bS,aW⟩:=Y.oq;have am:=bC.o K;have⟨rest,ac⟩:=zX (kN l W H d (replicate H K));rw[<-ac]at al aW am⊢;have ao:=((be.o.Z aH.o (by simp)).Z R (by simp));have ap:=((bK.o.Z aH.o (by simp)).Z R (by simp));have bh:gf [] t w2:=aH.o.tq R;rw[<-Cb (bU l W d K) (bU l W d (K+1))]at ao;rw[<-Cb (lU l W d K) (lU l W d (K+1))]at ap;have⟨N,hN⟩:=zX rest.length;have b2:N<=4096:=(by omega);rw[<-hN]at al⊢;have bF:=gd hN;have bG:gh (N=W*H):=gd (by rw[hN];exact am);have⟨aw,bA,aO⟩:=gS ac aW bh;have bx:gh (gM Af rest [a,c]):=gd (Y.apt (λx hx hm=>by
     have h7:=bm x hx;have h8:=aH.o.size;simp at hm;omega))
    clear Y R bm hN am ac aW bh a5 a6;go_wp2_with fail
    go_loopg [16] H (λq yv wx=>∃y:Nat,yv=.int .i64 y/\y+q=H/\gv wx 3 (.slice (some ⟨a,0,none⟩) H H) a ((kG (bU l W d K) (bU l W d (K+1)) H y).map vi)/\gv wx 3 (.slice (some ⟨c,0,none⟩) H H) c ((kG (lU l W d K) (lU l W d (K+1)) H y).map vi)/\gf [a,c] w2 wx)
    .exact⟨0,rfl,by omega,ao,ap,zR _ _⟩
    obtain⟨y,rfl,bW,ad,g,J⟩:=hrel;clear ao ap;have ah:gf [a,c] wc wr:=(bB.o.tq (aO.o.mono (by simp))).tq J;rcases gk with _|q
    .obtain rfl:H=y:=by omega
     have t2:decide (H<H)=false:=(by simp);rw[Kw]at ad g;go_wp2
     go_roundg j
     .exact⟨K+1,by go_num,by omega,ad,g,ah⟩
     .omega
    .have f:y<H:=by omega
     have t2:decide (y<H)=true:=zB f;have a3:y*W+W<=N:=by
      have:=mul_le_mul_left W (show y+1<=H by omega)
      rw[Nat.mul_add,Nat.mul_one,zY W y]at this;rw[bG.o];exact this
     have⟨lo,a4⟩:=zX (y*W);have⟨a2,a1⟩:=zX (lo+W);have D:(y:Int)*(W:Int)=(lo:Int):=(by rw[a4];simp);have M:((y:Int)+1)*(W:Int)=(a2:Int):=(by rw[a1,Int.add_mul,D];omega);obtain⟨A3,b7,bo,aB⟩:=sN (P:=prog) underlying22 oY Af N ax lo W a2 a1 (by omega) al;have bp:=aB Int vi w2 rest bF.o.symm bA.o;have U:=bH.o K y f;rw[<-aw.o,<-a4,zD,getElem?_replicate,if_pos f]at U;have ay:gM A3 ((rest.drop lo).take W) [a,c]:=bx.o.to (by rw[zI,zO];omega) bo;have ak:=bp.Q ay J;simp only[Option.getD_some]at U;rw[U]at ak;have L:=Cs (jY l W y d K) A3 (ax-lo) d wr h0 O (by rw[rq];omega) ak;rw[rq]at L;have⟨nW,aL⟩:=zX (ji (jY l W y d K) d);rw[<-aL]at L;obtain⟨cb,bM,-,-,bf,bk⟩:=ad.oq;have bP:wr.cell? ⟨a,y,none⟩=some (.int .i64 (bU l W d K y)):=bf y _ (yz _ _ f);obtain⟨cl,bN,-,-,bg,bO⟩:=g.oq;have X:=bg y _ (yz _ _ f);have fb:=bk y;have br:y<((kG (bU l W d K) (bU l W d (K+1)) H y).map vi).length:=(by rw[zE,CZ];exact f);have bs:y<((kG (lU l W d K) (lU l W d (K+1)) H y).map vi).length:=(by rw[zE,CZ];exact f);have bl:=(ad.T br (.int .i64 K)).R (p:=⟨c,y,none⟩) T (.int .i64 nW);have bn:=(g.R (p:=⟨a,y,none⟩) T.symm (.int .i64 K)).T bs (.int .i64 nW);have bi:gf [a,c] w2 ((wr.setCell ⟨a,y,none⟩ (.int .i64 K)).setCell ⟨c,y,none⟩ (.int .i64 nW)):=(J.setCell (.inl (by simp)) _).setCell (.inl (by simp)) _;have bL:(wr.setCell ⟨a,y,none⟩ (.int .i64 K)).cell? ⟨c,y,none⟩=some (.int .i64 (lU l W d K y)):=by
      obtain⟨_,_,_,_,h4,_⟩:=(g.R (p:=⟨a,y,none⟩) T.symm (.int .i64 K)).oq;exact h4 y _ (yz _ _ f)
     have bY:(wr.setCell ⟨a,y,none⟩ (.int .i64 K)).frozen? ⟨c,y,none⟩=false:=by
      obtain⟨_,_,_,_,_,h4⟩:=(g.R (p:=⟨a,y,none⟩) T.symm (.int .i64 K)).oq;exact h4 y
     have ag:gh ((K=0\/nW<lU l W d K y)->bU l W d (K+1) y=(K:Int)/\lU l W d (K+1) y=nW):=gd (λh=>by rw[aL]at h⊢;exact On l W d K y h);have af:gh (K≠0->¬nW<lU l W d K y->bU l W d K y=bU l W d (K+1) y/\lU l W d K y=lU l W d (K+1) y):=gd (λh h'=>by rw[aL]at h';exact Ol l W d K y h h');have⟨ly,an⟩:=zX (lU l W d K y);rw[<-an]at X ag af bL;have⟨bX,az⟩:=zX (bU l W d K y);rw[<-az]at bP;have bV:wr.cell? ⟨c,y,none⟩=some (.int .i64 ly):=X;have⟨aQ,bz,bE,au⟩:=gz an bl bn bi;have⟨aR,aS,ar⟩:=gS ad g J;have bZ:a2<=4096:=(by omega);have b0:lo<=4096:=(by omega);clear bp ak ay U aL bM bN bk bO bg bf az X br bs bl bn bi an ad g J ah bo aB a4 a1 a3;have aj:gh ((K=0\/nW<ly)->gv ((wr.setCell ⟨a,y,none⟩ (.int .i64 K)).setCell ⟨c,y,none⟩ (.int .i64 nW)) 3 (.slice (some ⟨a,0,none⟩) H H) a ((kG (bU l W d K) (bU l W d (K+1)) H (y+1)).map vi)/\gv ((wr.setCell ⟨a,y,none⟩ (.int .i64 K)).setCell ⟨c,y,none⟩ (.int .i64 nW)) 3 (.slice (some ⟨c,0,none⟩) H H) c ((kG (lU l W d K) (lU l W d (K+1)) H (y+1)).map vi)):=gd (λh=>by
      obtain⟨D,M⟩:=ag.o h;have o:=bz.o;have m:=bE.o;rw[<-C0 _ _ f,<-C0 _ _ f,D,M,map_set,map_set];exact⟨o,m⟩)
     by_cases hK0:K=0
     .have t3:((K:Int)==0)=true:=by rw[beq_iff_eq];omega
      obtain⟨o,m⟩:=aj.o (.inl hK0);have⟨r,s⟩:=gy o m;clear hK0 o m
      go_wp2_with(go_at_call 77;refine gx L ?_)
      go_roundg q
      .exact⟨y+1,by go_num,by omega,r.o,s.o,au.o⟩
      .omega
     .have t3:((K:Int)==0)=false:=by rw[beq_eq_false_iff_ne];omega
      by_cases hlt:nW<ly
      .have t4:decide (nW<ly)=true:=zB hlt
       obtain⟨o,m⟩:=aj.o (.inr hlt);have⟨r,s⟩:=gy o m;clear hK0 hlt o m
       go_wp2_with(go_at_call 77;refine gx L ?_)
       go_roundg q
       .exact⟨y+1,by go_num,by omega,r.o,s.o,au.o⟩
       .omega
      .have t4:decide (nW<ly)=false:=zA hlt
       obtain⟨D,M⟩:=af.o hK0 hlt;have r:gh (gv wr 3 (.slice (some ⟨a,0,none⟩) H H) a ((kG (bU l W d K) (bU l W d (K+1)) H (y+1)).map vi)):=gd (by rw[Ca _ _ D];exact aR.o);have s:gh (gv wr 3 (.slice (some ⟨c,0,none⟩) H H) c ((kG (lU l W d K) (lU l W d (K+1)) H (y+1)).map vi)):=gd (by rw[Ca _ _ (aQ.o.symm.trans M)];exact aS.o);clear hK0 hlt D M
       go_wp2_with(go_at_call 77;refine gx L ?_)
       go_roundg q
       .exact⟨y+1,by go_num,by omega,r.o,s.o,ar.o⟩
       .omega
   .have f:y<H:=by omega
    have aY:(replicate y (K:Int)).length<H:=(by rw[zV];exact f);have V:=C.fill aY (K:Int);obtain⟨bR,bT⟩:=C.fill_cell aY;rw[zV]at V bR bT;rw[<-replicate_succ']at V;have aE:gf [] t (wr.setCell ⟨aJ,y,none⟩ (.int .i64 K)):=I.setCell (.inr (by have:=bd.o;simp;omega)) _;have⟨aU,aP⟩:=gy V aE;clear V aE C I aY;go_wp2
    go_roundg q
    .exact⟨y+1,by go_num,by omega,aU.o,aP.o⟩
    .omega
theorem zd(c:Nat)(w:World)(a:c<365):Calls prog 225 #[c] w λe w'=>e=.returned (.bool true)/\w=w':=by
 have f:=i6 c 365 (by omega);go_enter func225,ntmps225;go_wp2;go_ret;exact⟨rfl,rfl⟩
theorem rA(x:Int)(w:World)(a:jB x):Calls prog 226 #[x] w λe w'=>e=.returned (.int .i64 (gX x))/\w=w':=by
  obtain⟨c,f⟩:=a;go_enter func226,ntmps226;go_wp2
  all_goals
    go_ret;refine⟨?_,rfl⟩
    first
      | (have e : gX x = -x := by(unfold gX;split<;> omega)
         rw[e];rfl)
      | (have e : gX x = x := by(unfold gX;split<;> omega)
         rw[e];rfl)
theorem yf(g:Int)(d:Nat)(w:World)(l:1<=d)(m:d<=16)(q : -2^d<g)(r:g<2^d):Calls prog 317 #[g,d] w λe w'=>e=.returned (.int .i64 (iu g d))/\w=w':=by
 obtain⟨x,z⟩:=jl l m;have o:=pG d w l m;have j:=rA g w (by unfold jB;omega);have k:0<=gX g/\gX g<=65536/\gX g<2^d:=by unfold gX;split<;>omega
 have c:g≠0->iu g d=if g<0 then -li (gX g*256 / 2^d)else li (gX g*256 / 2^d):=λhz=>by unfold iu;rw[if_neg hz]
 have⟨a,aa⟩:=zX (gX g);rw[<-aa]at j k c;obtain⟨t,ad,v⟩:=k;have D:decide ((2:Int)^d<=a)=false:=zA (by omega);by_cases hz:g=0
 .have s:(g==0)=true:=by rw[beq_iff_eq];exact hz
  have f:gh (iu g d=0):=gd (by unfold iu;rw[if_pos hz]);clear c hz aa;go_enter func317,ntmps317
  go_wp2_with(first|(go_at_call 60;refine gx o ?_)|(go_at_call 226;refine gx j ?_))
  go_ret;rw[f.o];exact⟨rfl,rfl⟩
 .have s:(g==0)=false:=by rw[beq_eq_false_iff_ne];exact hz
  have E:(g == -g)=false:=by rw[beq_eq_false_iff_ne];omega
  have⟨u,hu⟩:=zX (a*256 / 2^d);have A:0<=u:=by rw[hu];exact Int.ediv_nonneg (by omega) (by omega)
  have c:=c hz;rw[<-hu]at c;have B:a*256 / 2^d=u:=hu.symm;have f:=gd c;have C:IntKind.i64.wrap (-g)=-g:=IntWalk.i64_in _ (by omega);clear c hu aa hz;by_cases u3:u<3<;>by_cases u7:u<7<;>by_cases u21:u<21<;>by_cases hn:g<0
  all_goals try(exfalso;omega)
  all_goals
   first|have c1:decide (u<3)=true:=zB u3|have c1:decide (u<3)=false:=zA u3
   first|have c2:decide (u<7)=true:=zB u7|have c2:decide (u<7)=false:=zA u7
   first|have c3:decide (u<21)=true:=zB u21|have c3:decide (u<21)=false:=zA u21
   first|have c4:decide (g<0)=true:=zB hn|have c4:decide (g<0)=false:=zA hn
   first
    | have h:li u=1 := by(unfold li;rw[if_pos u3])
    | have h:li u=2 := by(unfold li;rw[if_neg u3,if_pos u7])
    | have h:li u=3 := by(unfold li;rw[if_neg u3,if_neg u7,if_pos u21])
    | have h:li u=4 := by(unfold li;rw[if_neg u3,if_neg u7,if_neg u21])
   first
    | have i:iu g d=-li u := by rw[f.o,if_pos hn]
    | have i:iu g d=li u := by rw[f.o,if_neg hn]
   rw[h]at i;have p:=gd i;clear i h f u3 u7 u21 hn;go_enter func317,ntmps317
   go_wp2_with(first|(go_at_call 60;refine gx o ?_)|(go_at_call 226;refine gx j ?_))
   go_ret;rw[p.o];exact⟨rfl,rfl⟩
theorem Cp(g:ll)(d:Nat)(w:World)(f:1<=d)(h:d<=16)(C:oI d g):Calls prog 288 #[g.w,g.n,g.nw,g.ne,d] w λe w'=>e=.returned (.tuple #[.int .i64 (iu (g.ne-g.n) d),.int .i64 (iu (g.n-g.nw) d),.int .i64 (iu (g.nw-g.w) d),.bool true])/\gf [] w w':=by
 obtain⟨D,ad⟩:=jl f h;obtain⟨a,b,c,e⟩:=g;obtain⟨⟨o,p⟩,⟨r,t⟩,⟨c1,c2⟩,⟨A,B⟩⟩:=C;simp only at o p r t c1 c2 A B⊢;have q:=λw'=>pG d w' f h;have i:=sm [a,b,c,e] (some ⟨w.heap.size,0,none⟩) 4 d (w.alloc (.cells #[a,b,c,.int .i64 e] 3)) f h (by simp) (by
  intro s j;simp at j;rcases j with rfl|rfl|rfl|rfl<;>omega) ((gv.made w 3 ([a,b,c,e].map vi) (by simp[maxLen])).S.cells)
 have u:gf [] w (w.alloc (.cells #[a,b,c,.int .i64 e] 3)):=(zR [] w).alloc _;simp only[zK,length_nil]at i;have k:=λw'=>yf (e-b) d w' f h (by omega) (by omega);have l:=λw'=>yf (b-c) d w' f h (by omega) (by omega);have m:=λw'=>yf (c-a) d w' f h (by omega) (by omega);have⟨x,hx⟩:=zX (iu (e-b) d);have⟨y,hy⟩:=zX (iu (b-c) d);have⟨z,hz⟩:=zX (iu (c-a) d);rw[<-hx]at k⊢;rw[<-hy]at l⊢;rw[<-hz]at m⊢;clear hx hy hz;go_enter func288,ntmps288
 go_wp2_with(first|(go_at_call 60;refine gx (q _) ?_)|(go_at_call 93;refine gx i ?_))
 refine gx (k _) ?_;go_wp2_with fail;refine gx (l _) ?_;go_wp2_with fail;refine gx (m _) ?_;go_wp2;exact bodyPost_ret (v:=.tuple #[x,y,z,.bool true]) (by simp[results,results288,go_sem]) rfl ⟨rfl,u⟩
theorem Ip(g:ll)(d:Nat)(w:World)(l:1<=d)(m:d<=16)(o:oI d g):Calls prog 223 #[g.w,g.n,g.nw,g.ne,d] w λe w'=>e=.returned (.tuple #[.int .i64 (mg g d),.bool (nm g d)])/\gf [] w w':=by
 have c:=Cp g d w l m o;have p:=lH (g.ne-g.n) d;have q:=lH (g.n-g.nw) d;have r:=lH (g.nw-g.w) d;have a:nM g d=81*iu (g.ne-g.n) d+9*iu (g.n-g.nw) d+iu (g.nw-g.w) d:=rfl;have f:((mg g d:Nat):Int)=gX (nM g d):=by
  have:0<=gX (nM g d):=by unfold gX;split<;>omega
  unfold mg;omega
 have h:nm g d=decide (nM g d<0):=rfl;rw[f,h];have⟨x,hx⟩:=zX (iu (g.ne-g.n) d);have⟨y,hy⟩:=zX (iu (g.n-g.nw) d);have⟨z,hz⟩:=zX (iu (g.nw-g.w) d);rw[<-hx]at c p a;rw[<-hy]at c q a;rw[<-hz]at c r a;have⟨C,hC⟩:=zX (nM g d);rw[<-hC]at a⊢;have ad:=λw'=>rA C w' (by unfold jB;omega);have u:81*x+9*y+z=C:=a.symm;have i:=gd ad;have j : -10000<=C/\C<=10000:=by omega
 obtain⟨s,t⟩:=j;clear f h hx hy hz hC a ad;go_enter func223,ntmps223;go_wp2_with fail;refine c.mono ?_;rintro e A ⟨rfl,k⟩
 go_wp2_with(go_at_call 226;refine gx (i.o _) ?_)
 exact bodyPost_ret (v:=.tuple #[.int .i64 (gX C),.bool (decide (C<0))]) (by simp[results,results223,go_sem]) rfl ⟨rfl,k⟩
theorem K4(g:ll)(d:Nat)(w:World)(m:1<=d)(o:d<=16)(s:oI d g):Calls prog 234 #[g.w,g.n,g.nw,g.ne,d] w λe w'=>e=.returned (.int .i64 (nF g d))/\gf [] w w':=by
 have a:=Cp g d w m o s;have t:=lH (g.ne-g.n) d;have u:=lH (g.n-g.nw) d;have v:=lH (g.nw-g.w) d;have h:nF g d=gX (iu (g.ne-g.n) d)+gX (iu (g.n-g.nw) d)+gX (iu (g.nw-g.w) d):=rfl;rw[h];have⟨x,hx⟩:=zX (iu (g.ne-g.n) d);have⟨y,hy⟩:=zX (iu (g.n-g.nw) d);have⟨z,hz⟩:=zX (iu (g.nw-g.w) d);rw[<-hx]at a t⊢;rw[<-hy]at a u⊢;rw[<-hz]at a v⊢;have c:=λw'=>rA x w' (by unfold jB;omega);have f:=λw'=>rA y w' (by unfold jB;omega);have ad:=λw'=>rA z w' (by unfold jB;omega);have j:0<=gX x/\gX x<=4:=by unfold gX;split<;>omega
 have k:0<=gX y/\gX y<=4:=by unfold gX;split<;>omega
 have l:0<=gX z/\gX z<=4:=by unfold gX;split<;>omega
 have⟨p,hp⟩:=zX (gX x);have⟨q,hq⟩:=zX (gX y);have⟨r,hr⟩:=zX (gX z);rw[<-hp]at c j⊢;rw[<-hq]at f k⊢;rw[<-hr]at ad l⊢;clear hx hy hz hp hq hr h;go_enter func234,ntmps234;go_wp2_with fail;refine a.mono ?_;rintro e A ⟨rfl,i⟩;go_wp2_with fail;refine gx (c _) ?_;go_wp2_with fail;refine gx (f _) ?_;go_wp2_with fail;refine gx (ad _) ?_;go_wp2;go_ret;exact⟨rfl,i⟩
theorem Dl:zeroCells215=(replicate 1461 (Value.int .i64 0)).toArray:=by kernel_rfl
theorem Dm:(zeroCells215).size=1461:=by rw[Dl,size_toArray,zV]
structure kP (w:World) (b d:Nat) (m:List gY):Prop where
 ex:∃cs,gn w b 215 cs/\pZ cs d m
theorem kP.Z{a:World}{m:List gY}(h:kP w b d m)(i:gf F w a)(g:b∉F):kP a b d m:=by
 obtain⟨c,e,f⟩:=h.ex;exact⟨c,e.Z i g,f⟩
theorem kP.set4{m:List gY}(h:kP w b d m){i:Nat}(hi:i<365)(s:gY):kP ((((w.setCell ⟨b,1+i*4,none⟩ (.int .i64 s.n)).setCell ⟨b,1+i*4+1,none⟩ (.int .i64 s.a)).setCell ⟨b,1+i*4+2,none⟩ (.int .i64 s.b)).setCell ⟨b,1+i*4+3,none⟩ (.int .i64 s.c)) b d (m.set i s):=by
 obtain⟨e,a,c⟩:=h.ex;exact⟨_,(((a.T _ _).T _ _).T _ _).T _ _,c.set4 hi s⟩
theorem kP.lt{m:List gY}(h:kP w b d m):b<w.heap.size:=by
 obtain⟨c,a,_⟩:=h.ex;exact a.lt
theorem kP.cells{m:List gY}(h:kP w b d m):w.cell? b=some (.int .i64 d)/\(∀i,w.frozen? ⟨b,i,none⟩=false) /\ ∀i s,m[i]?=some s->w.cell? ⟨b,1+i*4,none⟩=some (.int .i64 s.n)/\w.cell? ⟨b,1+i*4+1,none⟩=some (.int .i64 s.a)/\w.cell? ⟨b,1+i*4+2,none⟩=some (.int .i64 s.b)/\w.cell? ⟨b,1+i*4+3,none⟩=some (.int .i64 s.c):=by
 obtain⟨e,a,c⟩:=h.ex;refine⟨by rw[a.X];exact c.depth,a.V,λi s hs=>⟨?_,?_,?_,?_⟩⟩
 .rw[a.X];exact c.n i s hs
 .rw[a.X];exact c.a i s hs
 .rw[a.X];exact c.b i s hs
 .rw[a.X];exact c.c i s hs
theorem OI(b d:Nat)(m:List gY)(a:Nat)(w:World)(h:kP w b d m)(u:mz m)(r:a<365):Calls prog 152 #[.pointer b,a] w λe K=>e=.returned (.int .i64 (mJ (iS m a)))/\∃n,K=w.drewN n:=by
 obtain⟨t,c⟩:=ow u r;obtain⟨_,_,q⟩:=h.cells;obtain⟨A,z,_,_⟩:=q a _ t;have x:=c.n0;have n1:=c.n1;have p:=c.a0;have i:=c.a1;have⟨s,hs⟩:=zX (iS m a);rw[<-hs]at A z x n1 p i c⊢;have C:=zd a w r;have ad:mJ s=mG s 16 0:=rfl;have⟨sn,aj⟩:=zX s.n;have⟨sa,ai⟩:=zX s.a;rw[<-aj]at A x n1 i;rw[<-ai]at z p i;have⟨HD,af,ae,ak⟩:=gz ad aj ai c;clear ad hs t c q h aj ai u;go_enter func152,ntmps152
 go_wp2_with(go_at_call 225;refine gx C ?_)
 go_loopg [5] 16 (λj v wr=>∃(k n:Nat),v=.int .i64 k/\k+j=16/\gh (mJ s=mG s j k)/\wr=w.drewN n)
 .exact⟨0,0,rfl,rfl,HD,rfl⟩
 obtain⟨k,I,rfl,L,o,rfl⟩:=hrel;have M:=jZ k;by_cases hlt:sn*2^k<sa
 .have B:k<15:=Ec ak.o (by rw[<-af.o,<-ae.o];exact hlt)
  have G:(2:Int)^k<=32768:=by
   have:=Nat.pow_le_pow_right (n:=2) (by decide) (show k<=15 by omega)
   have e:(2:Int)^k<=2^15:=(by exact_mod_cast this);exact e
  have D:0<=sn*2^k:=Int.mul_nonneg (by omega) (by omega);have E:sn*2^k<=64*32768:=Int.le_trans (Int.mul_le_mul_of_nonneg_right n1 (by omega)) (by omega);have H:IntKind.i64.wrap (sn*2^k)=sn*2^k:=IntWalk.i64_in _ (by omega);have J:decide (sn*2^k<sa)=true:=zB hlt;obtain⟨g,rfl⟩:∃g,gk=g+1:=⟨gk-1,by omega⟩;have f:mJ s=mG s g (k+1):=by rw[o.o,Cd (by rw[<-af.o,<-ae.o];exact hlt)]
  have l:=gd f;clear f hlt;go_wp2_with fail
  go_quiet (fail)
  go_wp2
  go_roundg g
  .exact⟨k+1,_,by go_num,by omega,l,rfl⟩
  .omega
 .have f:=Ce (s:=s) (k:=k) (by rw[<-af.o,<-ae.o];exact hlt) gk
  rw[<-o.o]at f;have l:=gd f;have B:k<=15:=by have:=tA ak.o;omega
  have G:(2:Int)^k<=32768:=by
   have:=Nat.pow_le_pow_right (n:=2) (by decide) (show k<=15 by omega)
   have e:(2:Int)^k<=2^15:=(by exact_mod_cast this);exact e
  have D:0<=sn*2^k:=Int.mul_nonneg (by omega) (by omega);have E:sn*2^k<=64*32768:=Int.le_trans (Int.mul_le_mul_of_nonneg_right n1 (by omega)) (by omega);have H:IntKind.i64.wrap (sn*2^k)=sn*2^k:=IntWalk.i64_in _ (by omega);have J:decide (sn*2^k<sa)=false:=zA hlt;clear f hlt;go_wp2_with fail
  go_quiet (fail)
  go_wp2;go_ret;rw[l.o];exact⟨rfl,I+nq,by rw[World.drewN_drewN]⟩
theorem Jz{wr:World}{B k j nq:Nat}{g:Int}(a:kP wr B d (replicate k (lI d)++replicate (j+1) ⟨0,0,0,0⟩))(h:k<365)(c:g=rH d):kP (((((wr.drewN nq).setCell ⟨B,1+k*4,none⟩ (.int .i64 1)).setCell ⟨B,1+k*4+1,none⟩ (.int .i64 g)).setCell ⟨B,1+k*4+2,none⟩ (.int .i64 0)).setCell ⟨B,1+k*4+3,none⟩ (.int .i64 0)) B d (replicate (k+1) (lI d)++replicate j ⟨0,0,0,0⟩):=by
 have f:=(a.Z ((zR [] wr).drewN nq) (by simp)).set4 h (lI d);have e:(replicate k (lI d)++replicate (j+1) (⟨0,0,0,0⟩:gY)).set k (lI d)=replicate (k+1) (lI d)++replicate j ⟨0,0,0,0⟩:=by
  rw[set_append_right _ _ (by simp),zV,Nat.sub_self,replicate_succ' (n:=k)];simp[replicate_succ]
 rw[e]at f;subst c;exact f
theorem MY(d:Nat)(w:World)(q:1<=d)(r:d<=16):Calls prog 150 #[d] w λe u=>∃b,e=.returned (.tuple #[.pointer (some ⟨b,0,none⟩),(0:Int)])/\kP u b d (ri d)/\gf [] w u/\w.heap.size<=b:=by
 obtain⟨A,C⟩:=jl q r;have t:=pG d w q r;have o:=gn.new w 215 (mR zeroCells215 (d:Int));have g:gf [] w (w.alloc (.cells (mR zeroCells215 (d:Int)) 215)):=(zR [] w).alloc _;have c:kP (w.alloc (.cells (mR zeroCells215 (d:Int)) 215)) w.heap.size d (replicate 365 ⟨0,0,0,0⟩):=by
  have z:∀i s,(replicate 365 (⟨0,0,0,0⟩:gY))[i]?=some s->i<365/\s=⟨0,0,0,0⟩:=λi s h=>by
   rw[getElem?_replicate]at h;split at h
   .rename_i hi
    injection h with h;exact⟨hi,h.symm⟩
   .cases h
  refine⟨⟨_,o,BB Dm _,zV,BA Dm _,?_,?_,?_,?_⟩⟩
  all_goals
   intro i s h;obtain⟨hi,rfl⟩:=z i s h;exact Cm Dl _ _ (by omega) (by omega)
 unfold mR at g c;go_enter func150,ntmps150
 go_wp2_with(go_at_call 60;refine gx t ?_)
 have⟨B,hB⟩:=zX w.heap.size;rw[<-hB]at c⊢;have a:=gd hB;have⟨aj,ad⟩:=zX (zeroCells215.setIfInBounds 0 (Value.int .i64 d));rw[<-ad]at g c⊢;clear hB ad o t;have v:gh (rH d=max 2 ((2^d+32) / 64)):=gd rfl
 go_loopg [5] 365 (λj iv wr=>∃k:Nat,iv=.int .i64 k/\k+j=365/\kP wr B d (replicate k (lI d)++replicate j ⟨0,0,0,0⟩)/\gf [] w wr)
 .exact⟨0,rfl,rfl,by simpa using c,g⟩
 obtain⟨k,rfl,D,l,p⟩:=hrel;clear c g;rcases gk with _|j
 .obtain rfl:k=365:=by omega
  go_wp2
  go_ret2
  exact⟨B,rfl,by simpa[ri]using l,p,by rw[a.o];exact zQ _⟩
 .have x:k<365:=by omega
  have K:=i6 k 365 (by omega);obtain⟨_,f,m⟩:=l.cells;obtain⟨G,H,I,J⟩:=m k ⟨0,0,0,0⟩ (by rw[zS (by simp),zV,Nat.sub_self];rfl);have E:=f (1+k*4);have f1:=f (1+k*4+1);have f2:=f (1+k*4+2);have f3:=f (1+k*4+3);clear f m;go_wp2_with fail
  all_goals
   go_roundg j
   .refine⟨k+1,by go_num,by omega,?_,((((p.setCell (.inr (by have:=a.o;simp;omega)) _).setCell (.inr (by have:=a.o;simp;omega)) _).setCell (.inr (by have:=a.o;simp;omega)) _).setCell (.inr (by have:=a.o;simp;omega)) _)⟩
    exact Jz (nq:=0) l x (by rw[v.o];omega)
   .omega
theorem Jy(b d:Nat)(m:List gY)(a:Nat)(p:Int)(t:Bool)(w:World)(h:kP w b d m)(B:mz m)(r:1<=d)(u:d<=16)(v:a<365)(j:0<=p)(k:p<2^d):Calls prog 224 #[.pointer b,a,p,.bool t] w λe w'=>e=.returned (.int .i64 (mQ (iS m a) p t d))/\gf [] w w':=by
 obtain⟨D,E⟩:=jl r u;obtain⟨x,g⟩:=ow B v;have A:=g.c0;have c1:=g.c1;have f:mQ (iS m a) p t d=min (max (p+(if t then -(iS m a).c else(iS m a).c)) 0) (2^d-1):=rfl;have q:=λw'=>zd a w' v;have i:gf [] w (w.alloc (.cells #[p] 3)):=(zR [] w).alloc _;have ad:=sm [p] (some ⟨w.heap.size,0,none⟩) 1 d (w.alloc (.cells #[p] 3)) r u (by simp) (by
  intro s c;rw[zU.1 c];exact⟨j,k⟩) ((gv.made w 3 ([p].map vi) (by simp[maxLen])).S.cells)
 simp only[zK,length_nil]at ad;obtain⟨G,_,o⟩:=(h.Z i (by simp)).cells;obtain⟨_,_,_,C⟩:=o a _ x;have⟨s,c⟩:=zX ((iS m a).c);rw[<-c]at C A c1 f;have l:=gd f;clear f c x g o h
 cases t with
 | false=>
  go_enter func224,ntmps224
  go_wp2_with(first|(go_at_call 225;refine gx (q _) ?_)|(go_at_call 93;refine gx ad ?_))
  all_goals
   go_ret;rw[l.o];exact⟨congrArg (λz=>Ending.returned (.int .i64 z)) (show _=min (max (p+s) 0) (2^d-1)by omega),i⟩
 | true=>
  go_enter func224,ntmps224
  go_wp2_with(first|(go_at_call 225;refine gx (q _) ?_)|(go_at_call 93;refine gx ad ?_))
  all_goals
   go_ret;rw[l.o];exact⟨congrArg (λz=>Ending.returned (.int .i64 z)) (show _=min (max (p + -s) 0) (2^d-1)by omega),i⟩
theorem K8(b d : Nat)(m : List gY)(c : Nat)(e : Int)(w : World)(h : kP w b d m)(Y : mz m)(z : 1 <= d)(W : d <= 16)(L : c < 365)(M : -2 ^ (d - 1) <= e)(N : e < 2 ^ (d - 1)):Calls prog 153 #[.pointer b,c,e] w λx w'=>x=.returned (.tuple #[])/\kP w' b d (m.set c (nH (iS m c) e))/\gf [b] w w':=by
  obtain⟨au,av⟩:=jl z W;obtain⟨O,ay⟩:=ow Y L;obtain⟨q0,v,S⟩:=h.cells;obtain⟨qn,Z,qb,qc⟩:=S c _ O;have fn:=v (1+c*4);have fa:=v (1+c*4+1);have fb:=v (1+c*4+2);have fc:=v (1+c*4+3);have V:=zd c w L;have ah:=pE z;have az:=jZ (d-1);have H:=q8 e d w z W;rw[Ml z M N]at H;obtain⟨Q,n1,B,C,I,J,K,c1⟩:=ay;have X:0<=gX e/\gX e<=32768:=by unfold gX;split<;>omega
  have E:=λw=>rA e w (by unfold jB;omega);have⟨s,hs⟩:=zX (iS m c);rw[<-hs]at qn Z qb qc Q n1 B C I J K c1 O⊢;have T:=gd (λq (t:gY)=>(h.Z ((zR [] w).drewN q) (by simp)).set4 L t);have U:=gd (λq (t:gY)=>((((((zR [b] w).drewN q).setCell (p:=⟨b,1+c*4,none⟩) (by simp) (.int .i64 t.n)).setCell (p:=⟨b,1+c*4+1,none⟩) (by simp) (.int .i64 t.a)).setCell (p:=⟨b,1+c*4+2,none⟩) (by simp) (.int .i64 t.b)).setCell (p:=⟨b,1+c*4+3,none⟩) (by simp) (.int .i64 t.c)));obtain⟨i,l,o,f⟩:=s;simp only at qn Z qb qc Q n1 B C I J K c1;have ar:(2:Int)^(d-1)<=32768:=by omega
  have an : -32768<=e:=by omega
  have aw:e<=32767:=by omega
  have⟨u,hu⟩:=zX (gX e);rw[<-hu]at X E;obtain⟨u0,A⟩:=X;have j:=xV (s:=⟨i,l,o,f⟩) ⟨Q,n1,B,C,I,J,K,c1⟩ an (by omega);have ad:ma ⟨i,l,o,f⟩ e=if i=64 then⟨33,(l+u) / 2,(o+e) / 2,f⟩else⟨i+1,l+u,o+e,f⟩:=by rw[hu];rfl
  have k:nH ⟨i,l,o,f⟩ e=lC (ma ⟨i,l,o,f⟩ e):=rfl;clear ah hu hs O v S h Y au av;by_cases hn:i=64
  case pos=>
    subst hn;rw[if_pos rfl]at ad;rw[ad]at k j;simp only at j;obtain⟨g,D⟩:∃x,(l+u) / 2=x:=⟨_,rfl⟩;obtain⟨a,G⟩:∃x,(o+e) / 2=x:=⟨_,rfl⟩;rw[D,G]at k j;obtain⟨m0,m1,m2,m3,m4,m5,-⟩:=j;have r:lC ⟨33,g,a,f⟩=if a<=-33 then⟨33,g,max (a+33) (1-33),max (f-1) (-128)⟩else if 0<a then⟨33,g,min (a-33) 0,min (f+1) 127⟩else⟨33,g,a,f⟩:=rfl;have⟨aj,ai⟩:=gy k r;clear ad k r;by_cases hA:a<=-33<;>by_cases hB:0<a
    all_goals try(exfalso;omega)
    all_goals
      first|have A:decide (a<=-33)=true:=zB hA|have A:decide (a<=-33)=false:=zA hA
      first|have R:decide (0<a)=true:=zB hB|have R:decide (0<a)=false:=zA hB
      have⟨HA,HB⟩:=gy hA hB;clear hA hB;go_enter func153,ntmps153
      go_wp2_with(first|(go_at_call 225;refine gx V ?_)|(go_at_call 101;refine gx H ?_))
      go_quiet ((go_at_call 226;exact pO (E _)))
      go_wp2_with fail
    all_goals
      go_end0
      refine⟨rfl,?_,?_⟩
      · rw[aj.o,ai.o]
        first
          | (rw[if_pos (by have := HA.o;omega)]
             first|rw[show max (a+33) (1-33)=1-33 by omega]|rw[show max (a+33) (1-33)=a+33 by omega]
             first|rw[show max (f-1) (-128)=-128 by omega]|rw[show max (f-1) (-128)=f-1 by omega])
          | (rw[if_neg (by have := HA.o;omega), if_pos (by have := HB.o;omega)]
             first|rw[show min (a-33) 0=0 by omega]|rw[show min (a-33) 0=a-33 by omega]
             first|rw[show min (f+1) 127=127 by omega]|rw[show min (f+1) 127=f+1 by omega])
          | rw[if_neg (by have := HA.o;omega),if_neg (by have := HB.o;omega)]
        exact T.o nq ⟨33,g,_,_⟩
      · exact U.o nq ⟨33,g,_,_⟩
  case neg=>
    rw[if_neg hn]at ad;rw[ad]at k j;simp only at j;have u0:(i==64)=false:=(by rw[beq_eq_false_iff_ne];exact hn);obtain⟨n3,ax⟩:∃x,i+1=x:=⟨_,rfl⟩;obtain⟨g,D⟩:∃x,l+u=x:=⟨_,rfl⟩;obtain⟨a,G⟩:∃x,o+e=x:=⟨_,rfl⟩;rw[ax,D,G]at k j;obtain⟨m0,m1,m2,m3,m4,m5,-⟩:=j;have r:lC ⟨n3,g,a,f⟩=if a<=-n3 then⟨n3,g,max (a+n3) (1-n3),max (f-1) (-128)⟩else if 0<a then⟨n3,g,min (a-n3) 0,min (f+1) 127⟩else⟨n3,g,a,f⟩:=rfl;have⟨aj,ai⟩:=gy k r;clear ad k r;by_cases hA:a<=-n3<;>by_cases hB:0<a
    all_goals try(exfalso;omega)
    all_goals
      first|have A:decide (a<=-n3)=true:=zB hA|have A:decide (a<=-n3)=false:=zA hA
      first|have R:decide (0<a)=true:=zB hB|have R:decide (0<a)=false:=zA hB
      have⟨HA,HB⟩:=gy hA hB;clear hA hB;go_enter func153,ntmps153
      go_wp2_with(first|(go_at_call 225;refine gx V ?_)|(go_at_call 101;refine gx H ?_))
      go_quiet ((go_at_call 226;exact pO (E _)))
      go_wp2_with fail
    all_goals
      go_end0
      refine⟨rfl,?_,?_⟩
      · rw[aj.o,ai.o]
        first
          | (rw[if_pos (by have := HA.o;omega)]
             first|rw[show max (a+n3) (1-n3)=1-n3 by omega]|rw[show max (a+n3) (1-n3)=a+n3 by omega]
             first|rw[show max (f-1) (-128)=-128 by omega]|rw[show max (f-1) (-128)=f-1 by omega])
          | (rw[if_neg (by have := HA.o;omega), if_pos (by have := HB.o;omega)]
             first|rw[show min (a-n3) 0=0 by omega]|rw[show min (a-n3) 0=a-n3 by omega]
             first|rw[show min (f+1) 127=127 by omega]|rw[show min (f+1) 127=f+1 by omega])
          | rw[if_neg (by have := HA.o;omega),if_neg (by have := HB.o;omega)]
        exact T.o nq ⟨n3,g,_,_⟩
      · exact U.o nq ⟨n3,g,_,_⟩
theorem M3(b d:Nat)(m:List gY)(l:List Int)(A:Option Addr)(cap W i:Nat)(w:World)(h:kP w b d m)(B:mz m)(j:1<=d)(k:d<=16)(o:1<=W)(p:W<=64)(hi:i<=l.length)(r:i<64*W)(C:gU d l)(q:gu vi w A l)(M:l.length<=4096):Calls prog 151 #[.pointer b,.slice A l.length cap,W,i] w λe w'=>e=.returned (.tuple #[.int .i64 (jW l W d i),.bool (kD l W d i),.int .i64 (lK m l W d i)])/\gf [] w w':=by
 have⟨x,hx⟩:=zX (i%W);have⟨y,hy⟩:=zX (i / W);have K:x<W:=by rw[hx];exact mod_lt _ (by omega)
 have I:y<64:=by rw[hy];exact Nat.div_lt_of_lt_mul (by rw[zY];exact r)
 have L:y*W+x=i:=by rw[hx,hy,zY];exact div_add_mod i W
 have N:(i:Int)%(W:Int)=(x:Int):=by rw[hx];simp
 have O:(i:Int) / (W:Int)=(y:Int):=by rw[hy];simp
 have a:=λw q=>yJ l A cap W x y w o p K I (by omega) q (by omega);have c:=pf C W x y;have s:=λw=>Ip (ij l W x y) d w j k c;have t:=λw=>Fl 7 (ij l W x y) d w (by omega) j k c;have f:=sJ c 7;have G:=rx (ij l W x y) d;have d1:jW l W d i=mg (ij l W x y) d:=by unfold jW;rw[<-hx,<-hy]
 have d2:kD l W d i=nm (ij l W x y) d:=by unfold kD;rw[<-hx,<-hy]
 have d3:lK m l W d i=mQ (iS m (mg (ij l W x y) d)) (jL 7 (ij l W x y) d) (nm (ij l W x y) d) d:=by unfold lK jW kD;rw[<-hx,<-hy]
 rw[d1,d2,d3];have E:=λw h=>Jy b d m (mg (ij l W x y) d) (jL 7 (ij l W x y) d) (nm (ij l W x y) d) w h B j k G f.1 f.2;have⟨n,hn⟩:=zX l.length;rw[<-hn]at a⊢;generalize ij l W x y=g at *;generalize mg g d=cx at *;generalize nm g d=tb at *;generalize jL 7 g d=gs at *;generalize mQ (iS m cx) gs tb d=gm at *;obtain⟨Q,R,S,T⟩:=g;simp only at a s t;have D:=gd a;clear hx hy L a c f d1 d2 d3 hn C hi B;go_enter func151,ntmps151;go_wp2_with fail
 go_quiet ((go_at_call 214;exact sB (D.o _ (q.Y ((zR [] w).drewN _)))))
 have z:=h.Z ((zR [] w).drewN nq) (by simp);obtain⟨U,_,_⟩:=z.cells;go_wp2_with fail;refine(s _).mono ?_;rintro e X ⟨rfl,u⟩;have ad:=z.Z u (by simp);obtain⟨V,_,_⟩:=ad.cells;go_wp2_with fail;refine(t _).mono ?_;rintro e Y ⟨rfl,v⟩;have H:=ad.Z v (by simp);go_wp2_with fail;refine(E _ H).mono ?_;rintro e Z ⟨rfl,J⟩;go_wp2_with fail
 go_ret3
 exact⟨rfl,((((zR [] w).drewN nq).tq u).tq v).tq J⟩
theorem uB(w:World)(b:Nat)(F bs:List Nat)(k:Nat)(x:Int)(h:hO w b F bs)(m:k<=25)(p:ib x)(a:bs.length+65<274877906944):Calls prog 149 #[.pointer b,k,.slice (some ⟨w.heap.size,0,none⟩) 1 1] (w.alloc (.cells #[x] 3)) λe w'=>e=.returned (.int .i64 0)/\∃F',hO w' b F' (bs++jm k x)/\gB F F' w w':=by
 have f:gf [] w (w.alloc (.cells #[x] 3)):=(zR [] w).alloc _;have c:gv (w.alloc (.cells #[x] 3)) 3 (.slice (some ⟨w.heap.size,0,none⟩) 1 1) w.heap.size ([x].map vi):=gv.made w 3 [.int .i64 x] (by simp[maxLen]);have i:=c.S.cells;have g:=c.S.apt (l':=[x]) (F':=F) (λy hy=>by
  rw[zU.1 hy];intro o
  have:=h.lt _ o
  omega)
 refine(EB _ b F bs k [x] _ 1 (h.Y f) m (λy hy=>by rw[zU.1 hy];exact p) i g (by simpa using a)).mono ?_;rintro e w' ⟨rfl,F',l,j⟩;refine⟨rfl,F',?_,j.pre f⟩;have e:kt k [x]=jm k x:=by simp[kt]
 rw[<-e];exact l
theorem MZ(w:World)(b:Nat)(F bs:List Nat)(l:List Int)(A:Option Addr)(cap W H d:Nat)(h:hO w b F bs)(I:1<=W)(s:W<=64)(hh0:1<=H)(r:H<=64)(c:1<=d)(f:d<=16)(B:l.length=W*H)(S:gU d l)(z:gu vi w A l)(hA:gM A l F)(hbs:bs.length<137438953472):Calls prog 107 #[.pointer b,.slice A l.length cap,W,H,d] w λe w'=>e=.returned (.int .i64 0)/\∃F',hO w' b F' (bs++l4 l W d (W*H))/\gB F F' w w':=by
 have a0:l.length<=4096:=by rw[B];exact zL s r
 have aL:=ul l A cap W H d w I s hh0 r c f B S z;obtain⟨bi,M⟩:=jl c f;have a4:=λi=>uf l W c f M i;have a3:=λi=>vJ l W c f M i;have ag:=λi (hi:i<l.length) m (hm:mz m) a w (h:kP w a d m) (z:gu vi w A l)=>M3 a d m l A cap W i w h hm c f I s (by omega) (by rw[B]at hi;have:=mul_le_mul_left W r;rw[zY 64 W];omega) S z a0;have a2:∀x∈F,x<w.heap.size:=h.lt;have⟨n,hn⟩:=zX l.length;rw[<-hn]at aL ag a0 B⊢;rw[<-B];have⟨HL,be,bd,HS⟩:=gz ag a4 a3 S;have⟨HN,bc,HP,HA⟩:=gz hn a2 M hA;clear ag a4 a3 S hn B a2 M hA;go_enter func107,ntmps107;go_wp2_with fail;refine gx aL ?_;go_wp2_with fail;refine(MY d w c f).mono ?_;rintro e w1 ⟨a,rfl,bh,U,aU⟩;have aM:=h.Y U;have aF:a∉F:=λhm=>by have:=bc.o _ hm;omega
 have bg:=z.Y U;have bf:gh (gM A l (a::F)):=gd λc ad e hm=>by
  rcases zJ.1 hm with v|v
  .exact gM.fresh z (F:=[a]) (by simpa using aU) c ad e (by rw[v];simp)
  .exact HA.o c ad e v
 clear aL h z;go_wp2_with fail
 go_loopg [13] n (λj iv wr=>∃(i:Nat) (F' k:List Nat),iv=.int .i64 i/\i+j=n/\hO wr b F' k/\gh (k=bs++l4 l W d i)/\k.length<=bs.length+65*i/\kP wr a d (mB l W d i)/\a∉F'/\gB (a::F) (a::F') w1 wr)
 .exact⟨0,F,bs,rfl,by simp,aM,gd (by simp[l4]),by omega,bh,aF,gB.refl _ _⟩
 obtain⟨i,F',k,rfl,bl,a9,T,bj,an,Q,Y⟩:=hrel;rcases gk with _|j
 .obtain rfl:i=n:=by omega
  go_wp2;go_ret;refine⟨rfl,F',?_,gB.forget U Y aU⟩;rw[<-T.o];exact a9
 .have aY:i<n:=by omega
  have R:gu vi wr A l:=bg.Q bf.o Y.Z;have E:l4 l W d (i+1)=l4 l W d i++ru (mB l W d i) l W d i:=rfl;have L:mB l W d (i+1)=qH (mB l W d i) l W d i:=rfl;have u:=be.o i;have N:=bd.o (i+1);rw[E,zC]at N;have⟨m,hm⟩:=zX (mB l W d i);rw[<-hm]at an E L u N;have aV:=rx (ij l W (i%W) (i / W)) d;have a1:=HL.o i aY m u a wr an R;have Z:i<l.length:=by rw[<-HN.o];exact aY
  obtain⟨g,o,rfl,ai⟩:=R.at_ Z;have aN:l[i]=l.getD i 0:=by rw[zD,zF Z];rfl
  have hx:=HS.o l[i] (zG _);rw[aN]at ai hx;have aW:∀w',gf [] wr w'->w'.cell? ⟨g,o+i,none⟩=some (.int .i64 (l.getD i 0)):=λw' h'=>by
   obtain⟨g9,o9,G,v⟩:=(R.Y h').at_ Z;injection G with G;injection G with G e10;subst G;subst e10;rw[aN]at v;exact v
  clear ai;have a7:=CY (iS m (jW l W d i)) (jL 7 (ij l W (i%W) (i / W)) d) (kD l W d i) (d:=d) bi;have a6:lK m l W d i=mQ (iS m (jW l W d i)) (jL 7 (ij l W (i%W) (i / W)) d) (kD l W d i) d:=rfl;rw[<-a6]at a7;have J:=tW (l.getD i 0) (lK m l W d i) (kD l W d i) c;have X:=CR (l.getD i 0) (lK m l W d i) (kD l W d i) c f;have V:oc m l W d i=qG (l.getD i 0) (lK m l W d i) (kD l W d i) d:=rfl;rw[<-V]at J X;have aT:ru m l W d i=jm (mJ (iS m (jW l W d i))) (oc m l W d i):=rfl;have a5:qH m l W d i=m.set (jW l W d i) (nH (iS m (jW l W d i)) (oc m l W d i)):=rfl;rw[aT]at E N;rw[a5]at L;have aj:jW l W d i<365:=aV;have bn:=tA (ow u aj).2;generalize jW l W d i=cx at *;generalize lK m l W d i=pr at *;generalize kD l W d i=tb at *;generalize oc m l W d i=er at *;generalize l.getD i 0=x at *;have aZ:=λw h=>OI a d m cx w h u aj;generalize mJ (iS m cx)=kk at *;have af:=λw h=>K8 a d m cx er w h u c f aj J.1 J.2;obtain⟨bq,ba⟩:=hx;obtain⟨bo,a8⟩:=a7;have br:x<65536:=Int.lt_of_lt_of_le ba HP.o;have bp:pr<65536:=Int.lt_of_lt_of_le a8 HP.o;clear ba a8;have⟨bb,aQ,aP,aS⟩:=gz aW af aZ E;have⟨aR,aO⟩:=gy L V;clear aW af aZ E L V N hm a6 aV aN aT a5 u R J;go_wp2_with fail;refine a1.mono ?_;rintro e p ⟨rfl,O⟩;clear a1;have aG:=bb.o p O;have aw:=a9.Y O;have t:=an.Z O (by simp);have au:=Y.Y O
  cases tb with
  | false=>
   have K:=q8 (x-pr) d p c f;have e1:ii (x-pr) d=er:=(by rw[aO.o];rfl);rw[e1]at K;go_wp2_with fail;refine gx K ?_;go_wp2_with fail;refine(aP.o _ t).mono ?_;rintro e w3 ⟨rfl,n3,rfl⟩;go_wp2_with fail;refine(uB _ b F' k kk er (aw.Y ((zR [] p).drewN n3)) (by omega) X (by omega)).mono ?_;rintro e w4 ⟨rfl,F2,ao,q⟩;have D:a∉F2:=q.o t.lt Q;have al:=(t.Z ((zR [] p).drewN n3) (by simp)).Z q.Z Q;have ak:=(au.drewN n3).trans (q.cons a);go_wp2_with fail;refine(aQ.o _ al).mono ?_;rintro e w5 ⟨rfl,am,C⟩;go_wp2_with fail
   go_roundg j
   .refine⟨i+1,F2,k++jm kk er,by go_num,by omega,ao.Z C (λy hy hm=>by rw[zU.1 hm]at hy;exact D hy),gd (by rw[aS.o,<-zH,<-T.o]),?_,?_,D,?_⟩
    .rw[zC];have:=nz kk er;have:=mO kk er (by omega);omega
    .rw[aR.o];exact am
    .exact ak.trans ⟨C.mono λy hy _=>by rw[zU.1 hy];simp,λy hy=>.inl hy⟩
   .omega
  | true=>
   have K:=q8 (x-pr) d p c f;have ar:=q8 (-ii (x-pr) d) d p c f;have aX:=ny (x-pr) c;have e1:ii (-ii (x-pr) d) d=er:=(by rw[aO.o];rfl);rw[e1]at ar;have bk:=ql f aX;generalize ii (x-pr) d=fo at *;clear aX;go_wp2_with fail;refine gx K ?_;go_wp2_with fail;refine gx ar ?_;go_wp2_with fail;refine(aP.o _ t).mono ?_;rintro e w3 ⟨rfl,n3,rfl⟩;go_wp2_with fail;refine(uB _ b F' k kk er (aw.Y ((zR [] p).drewN n3)) (by omega) X (by omega)).mono ?_;rintro e w4 ⟨rfl,F2,ao,q⟩;have D:a∉F2:=q.o t.lt Q;have al:=(t.Z ((zR [] p).drewN n3) (by simp)).Z q.Z Q;have ak:=(au.drewN n3).trans (q.cons a);go_wp2_with fail;refine(aQ.o _ al).mono ?_;rintro e w5 ⟨rfl,am,C⟩;go_wp2_with fail
   go_roundg j
   .refine⟨i+1,F2,k++jm kk er,by go_num,by omega,ao.Z C (λy hy hm=>by rw[zU.1 hm]at hy;exact D hy),gd (by rw[aS.o,<-zH,<-T.o]),?_,?_,D,?_⟩
    .rw[zC];have:=nz kk er;have:=mO kk er (by omega);omega
    .rw[aR.o];exact am
    .exact ak.trans ⟨C.mono λy hy _=>by rw[zU.1 hy];simp,λy hy=>.inl hy⟩
   .omega
end Go.Proofs.YtnepiccbpokmiaaGreatDoor
