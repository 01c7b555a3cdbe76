/- Lemmas. -/
import Derived.Test.YtifdlkoepaepiaaGreatDoorMh11
import Derived.Test.YtifdlkoepaepiaaGreatDoorMh30
import Derived.Test.YtifdlkoepaepiaaGreatDoorMh34
import Derived.DeepKeys4
import Derived.Laws.CopyOwn
set_option linter.all false
set_option maxHeartbeats 1000000
set_option maxRecDepth 100000
namespace Go.Proofs.YtifdlkoepaepiaaGreatDoor
open _root_.Go.Proofs.Tryz List Nat Go.RowKit
open Go.RowKit Go.Maps
variable {S:List (List Int)}{GL:List Nat}{cap gL gP k oL x:Nat}{cL:Nat->Nat}{BL:Nat->Option Addr}{a b v:Value}
theorem PZ{a:Int}(h:mw a):(Lit.int .i64 a).wf=true:=by
 obtain⟨e,f⟩:=h;exact WalkArith.wf_i64 (by omega)
theorem OR{a b c e:Int}(q:mw a)(r:mw b)(s:mw c)(t:mw e):∃l,keyOf prog 146 (.agg #[a,b,c,e])=some l:=by
 have z:prog.keyType 146=true:=by kernel_rfl
 have h:prog.cellsOf 146=4:=by kernel_rfl
 have j:prog.cellsOf 3=1:=by kernel_rfl
 obtain⟨m,D⟩:∃m,prog.types.size=m+1:=⟨prog.types.size-1,by
  have:decide (0<prog.types.size)=true:=by kernel_rfl
  have:=of_decide_eq_true this
  omega⟩
 refine⟨.string (keyBytes [.int .i64 a,.int .i64 b,.int .i64 c,.int .i64 e]),?_⟩;unfold keyOf;rw[underlying146];have y:Value.formed prog 146 (.agg #[a,b,c,e])=true:=by
  simp[Value.formed,underlying146,h]
 have f:∀x:Int,mw x->prog.keyLits (m+1) 3 [.int .i64 x]=some [.int .i64 x]:=λx hx=>by
  simp[Program.keyLits,underlying3,PZ hx]
 have A:prog.keyLits (m+1+1) 146 [.int .i64 a,.int .i64 b,.int .i64 c,.int .i64 e]=some [.int .i64 a,.int .i64 b,.int .i64 c,.int .i64 e]:=by
  unfold Program.keyLits;rw[underlying146];simp[h,j,range_succ,f a q,f b r,f c s,f e t]
 simp only[z,y,Bool.and_self,if_true,D];show Option.map _ (prog.keyLits (m+1+1) _ [.int .i64 a,.int .i64 b,.int .i64 c,.int .i64 e])=_;rw[A];rfl
def tC(c:List Int):List Int:=[c.getD 0 0,c.getD 1 0,c.getD 2 0,c.getD 3 0]
theorem Pa{p:qc}(h:p.Ok)(i:Nat):tC (iJ p i)=oS p.P i:=by
 have e:∀k,(iJ p i).getD k 0=(p.P.getD k []).getD i 0:=λk=>by
  rcases zZ k p.P.length with f|f
  .exact GD p i f
  .rw[zD (l:=iJ p i),getElem?_eq_none (by rw[oY];exact f),zD (l:=p.P),getElem?_eq_none f]
   rfl
 rw[BI];unfold tC;rw[e,e,e,e]
def mB(c:List Int):Value:=jO (tC c)
theorem uI(c:List Int):mB c=.agg #[.int .i64 (c.getD 0 0),.int .i64 (c.getD 1 0),.int .i64 (c.getD 2 0),.int .i64 (c.getD 3 0)]:=rfl
def oF(n d:Nat)(c:List Int):Prop:=c.length=n/\ie d c
theorem xz{d:Nat}(e:d<=16){l:List Int}(h:ie d l)(k:Nat):mw (l.getD k 0):=by
 obtain⟨f,j⟩:=mK h k;have m:(2:Int)^d<=2^16:=by
  have:=Nat.pow_le_pow_right (n:=2) (by decide) e
  exact_mod_cast this
 constructor<;>omega
theorem xr{n d:Nat}(t:n<=4)(e:d<=16):xW prog 146 mB (oF n d) where
 key:=λc hc=>by
  rw[uI]
  exact OR (xz e hc.2 0) (xz e hc.2 1) (xz e hc.2 2) (xz e hc.2 3)
 inj:=λa b ha hb h=>by
  rw[uI,uI]at h
  simp only[Value.agg.injEq,Array.mk.injEq,List.cons.injEq,Value.int.injEq,true_and,and_true]at h
  obtain⟨r,s,e2,e3⟩:=h
  apply ext_getElem (by rw[ha.1,hb.1])
  intro k l m
  have q:k<4:=by have:=ha.1;omega
  have f:a.getD k 0=a[k]:=by rw[zD,zF l];rfl
  have j:b.getD k 0=b[k]:=by rw[zD,zF m];rfl
  rw[<-f,<-j]
  rcases(by omega:k=0\/k=1\/k=2\/k=3)with rfl|rfl|rfl|rfl<;>assumption
theorem xi:Keyed prog 146:=Keyed.of_law (deep_law_laid Gu (m:=3) (by decide) (of_decide_eq_true (by kernel_rfl)) (by kernel_rfl) (by rw[underlying146]))
theorem Np(w:World):(zeroValue 4).run prog w=.ok (.bool false) w:=by kernel_rfl
theorem ON(w:World):(zeroValue 3).run prog w=.ok (.int .i64 0) w:=by kernel_rfl
def mC(n d k:Nat)(g o cap:Nat):Value:=.agg #[d,n,.slice (some ⟨g,o,none⟩) k cap]
structure l8 (w:World) (n d:Nat) (C:List (List Int)) (g o:Nat) (B:Nat->Option Addr) (c:Nat->Nat) (G:List Nat):Prop where
 ok:uS n d C
 gG:g∈G
 lt:∀x∈G,x<w.heap.size
 X:∀i,i<C.length->w.cell? ⟨g,o+i,none⟩=some (.slice (B i) n (c i))
 cells:∀i,i<C.length->gz vi w (B i) (C.getD i [])
 blk:∀i,i<C.length->∀ad,B i=some ad->ad.block∈G
 cap:∀i,i<C.length->n<=c i/\c i<=9223372036854775807
section
variable {w w':World} {n d:Nat} {C:List (List Int)} {g o:Nat} {B:Nat->Option Addr} {c:Nat->Nat} {G F:List Nat}
theorem l8.Z(h:l8 w n d C g o B c G)(f:gg F w w')(j:∀x∈G,x∉F):l8 w' n d C g o B c G:=
 { h with
  lt:=λx hx=>Nat.lt_of_lt_of_le (h.lt x hx) f.size
  X:=λi hi=>(World.cell?_of_block (w:=w) (f.block g (h.lt g h.gG) (j g h.gG))).trans (h.X i hi)
  cells:=λi hi=>(h.cells i hi).Z f λad e=>j _ (h.blk i hi ad e) }
theorem l8.Y(h:l8 w n d C g o B c G)(e:gg [] w w'):l8 w' n d C g o B c G:=h.Z e (by simp)
theorem l8.len(h:l8 w n d C g o B c G){i:Nat}(e:i<C.length):(C.getD i []).length=n:=h.ok.len _ (jQ e)
theorem l8.at_(h:l8 w n d C g o B c G){i:Nat}(f:i<C.length):∃b q,B i=some ⟨b,q,none⟩/\b∈G/\∀k,k<n->w.cell? ⟨b,q+k,none⟩=some (.int .i64 ((C.getD i []).getD k 0)):=by
 have j:=h.len f;obtain⟨b,q,e,r,m⟩:=(h.cells i f).ex (by rw[j];exact h.ok.n0);refine⟨b,q,e,h.blk i f _ e,λk hk=>?_⟩;refine m k _ ?_;rw[zD (l:=C.getD i []),zF (by rw[j];exact hk)];rfl
end
structure pW (w:World) (n d:Nat) (C:List (List Int)) (gP cap:Nat) (xs:List Value) (gs:List Nat):Prop where
 ok:uS n d C
 row:gv w 22 (.slice gP C.length cap) gP xs
 pl:jm w xs C gs
theorem pW.at_{w:World}{n d:Nat}{C:List (List Int)}{xs:List Value}{gs:List Nat}(h:pW w n d C gP cap xs gs):l8 w n d C gP 0 (λi=>Hh xs[i]?) (λi=>Hi xs[i]?) (gP::gs):=by
 have m:∀i,i<C.length->∃g c,xs[i]?=some (.slice (some ⟨g,0,none⟩) n c)/\gs[i]?=some g/\gv w 3 (.slice (some ⟨g,0,none⟩) n c) g ((C.getD i []).map vi):=λi hi=>by
  have y:C[i]?=some (C.getD i []):=by rw[zD,zF hi];rfl
  obtain⟨u,g,f,l,j⟩:=h.pl.row i _ y;obtain⟨c,rfl,E,_⟩:=j.T;have r:(C.getD i []).length=n:=h.ok.len _ (mem_of_getElem? y);rw[r]at f j;exact⟨g,c,f,l,j⟩
 refine⟨h.ok,by simp,λx s=>?_,λi hi=>?_,λi hi=>?_,λi hi ad e=>?_,λi hi=>?_⟩
 .rcases zJ.1 s with rfl|s
  .exact h.row.lt
  .exact h.pl.lt x s
 .obtain⟨g,c,f,l,j⟩:=m i hi
  obtain⟨_,_,_,_,q,_⟩:=h.row.open_;rw[Nat.zero_add,q i (by rw[h.pl.lx];exact hi),f];rfl
 .obtain⟨g,c,f,l,j⟩:=m i hi
  rw[f];have A:=j.lt;obtain⟨D,e,_,_,q,_⟩:=j.T;exact⟨λ_=>⟨g,0,rfl,A,λk a ha=>by rw[Nat.zero_add];exact q k a ha⟩⟩
 .obtain⟨g,c,f,l,j⟩:=m i hi
  rw[f]at e;injection e with e;subst e;exact mem_cons_of_mem _ (mem_of_getElem? l)
 .obtain⟨g,c,f,l,j⟩:=m i hi
  rw[f];have r:=h.ok.len _ (jQ hi);obtain⟨D,e,t,z,_⟩:=j.T;injection e with _ e1 e2;subst e2;rw[r]at t;exact⟨t,z⟩
open Go.RowKit Go.Maps
theorem FJ{w:World}{p:qc}{g o:Nat}{B:Nat->Option Addr}{c:Nat->Nat}{G:List Nat}(cap:Nat)(h:ip w p g o B c G)(i:Nat)(T:i<p.W*p.H):Calls prog 96 #[gW p g o cap,i] w λe w'=>e=.returned (mB (iJ p i))/\gg [] w w':=by
 have D:=h.ok;have P:mB (iJ p i)=jO (oS p.P i):=by unfold mB;rw[Pa D]
 rw[P];obtain⟨a,b,c',e',E⟩:=xl (show(oS p.P i).length=4 from rfl);rw[E];have⟨n,hn⟩:=zX p.P.length;have⟨N,hN⟩:=zX (p.W*p.H);have aL:n<=4:=by rw[hn];exact D.n1
 have J:∀t:World,(∀b∈G,t.heap[b]?=w.heap[b]?)->∀j,j<n->∃b q,t.cell? ⟨g,o+j,none⟩=some (.slice (some ⟨b,q,none⟩) N (c j))/\t.cell? ⟨b,q+i,none⟩=some (.int .i64 ((p.P.getD j []).getD i 0)):=by
  intro t R j H;rw[hn]at H;obtain⟨b,q,e,l,aI⟩:=h.at_ H;have O:=h.X j H;rw[e,<-hN]at O;exact⟨b,q,(World.cell?_of_block (w:=w) (R g h.gG)).trans O,(World.cell?_of_block (w:=w) (R b l)).trans (aI i T)⟩
 have Q:=h.lt;rw[<-hN]at T;unfold gW;rw[<-hn];have⟨w1,ac⟩:=zX (((w.alloc (.cells #[p.W,p.H,p.d,.slice (some ⟨g,o,none⟩) n cap] 46)).alloc (.cells #[(0:Int),(0:Int),(0:Int),(0:Int)] 146)).alloc (.cells #[(0:Int),(0:Int),(0:Int),(0:Int)] 146));have⟨X2,aa⟩:=zX w.heap.size;have⟨X4,ae⟩:=zX (X2+1);have⟨X5,ag⟩:=zX (X4+1);have z:iF w1 X2 (.int .i64 p.W) (.int .i64 p.H) (.int .i64 p.d) (.slice (some ⟨g,o,none⟩) n cap):=⟨by rw[ac,aa];exact((gn.new w _ _).alloc _).alloc _⟩;have K:gn w1 X4 146 #[(0:Int),(0:Int),(0:Int),(0:Int)]:=by rw[ac,ae,aa];exact(gn.new2 w _ _ _).alloc _
 have L:gn w1 X5 146 ((oM p.P i 0).map vi).toArray:=by rw[ac,ag,ae,aa];exact gn.new3 w _ _ _ _
 have I:gg [] w w1:=by rw[ac];exact(((zR [] w).alloc _).alloc _).alloc _
 have aC:=gd E;have U:gh (n=p.P.length):=gd hn;have f:gh (X2=w.heap.size/\X4=X2+1/\X5=X4+1):=gd ⟨aa,ae,ag⟩;have⟨aF,aG,aH,aE⟩:=gu aa ae ag ac;have⟨az,aA,aB,ai⟩:=gu z K L I;have⟨ay,ak⟩:=gy J Q;obtain⟨W,Y,Z,a3⟩:=z.cells;clear ac z K L I aa ae ag D h hn hN J Q P E;go_enter func96,ntmps96;go_wp2_with fail;rw[<-aE.o,<-aF.o,<-aG.o,<-aH.o]
 go_loopg [6,7,11] n (λj v6 v7 v11 wr=>∃k:Nat,v11=.int .i64 k/\k+j=n/\gh (gn wr X5 146 ((oM p.P i k).map vi).toArray)/\gh (gg [X5] w1 wr))
 .exact⟨0,rfl,by omega,aB,gd (zR _ _)⟩
 obtain⟨k,rfl,aK,m,ad⟩:=hrel;rcases gk with _|j
 .obtain rfl:k=n:=by omega
  have t2:decide ((k:Int)<(k:Int))=false:=by simp
  have y:=m.o;rw[U.o,Aw,aC.o]at y;have⟨k0,k1,k2,k3⟩:=my y;simp[vi]at k0 k1 k2 k3;have s:=aA.o.Z ad.o (by simp;have:=f.o;omega);have⟨z0,z1,z2,z3⟩:=my s;have⟨f0,f1,f2,f3⟩:=RJ s 0 1 2 3;simp at z0 z1 z2 z3;have V:=gd s;clear s y;go_wp2_with fail;refine nR V.o ?_;intro X hX hY;have⟨x0,x1,x2,x3⟩:=my hX;simp at x0 x1 x2 x3;refine bodyPost_ret (v:=jO [a,b,c',e']) (by simp[results,results96,go_sem,x0,x1,x2,x3,jO,vi]) rfl ?_;exact⟨rfl,(ai.o.trans ad.o (λx hx=>.inr (by simp at hx;have:=f.o;omega))).trans hY (λx hx=>.inr (by simp at hx;have:=f.o;omega))⟩
 .have hk:k<n:=by omega
  obtain⟨b',q',e1,e2⟩:=ay.o wr (λb l=>(ad.o.block b (by have:=ak.o b l;have:=ai.o.size;omega) (by simp;have:=ak.o b l;have:=f.o;omega)).trans (ai.o.block b (ak.o b l) (by simp))) k hk;obtain⟨W,Y,Z,a3⟩:=(az.o.Z ad.o (by simp;have:=f.o;omega)).cells;have hf:=m.o.U k;have aJ:=m.o.vi_cell (k:=k) (by rw[AW];omega);have r:=m.o.set_vi k ((p.P.getD k []).getD i 0);rw[AX p.P i (by omega)]at r;have A:gg [X5] w1 (wr.setCell ⟨X5,k,none⟩ (.int .i64 ((p.P.getD k []).getD i 0))):=ad.o.setCell (.inl (by simp)) _;have⟨v,hv⟩:=zX ((p.P.getD k []).getD i 0);rw[<-hv]at e2 r A;have⟨aD,aj⟩:=gy r A;clear r A hv;go_wp2_with fail
  go_roundg j
  .exact⟨k+1,by go_num,by omega,aD,aj⟩
  .omega
theorem Ec:prog.underlying 146=some (.array 4 3):=underlying146
theorem OQ(X:Nat)(w:World):(Instr.sliceAt 146 (.pointer X) none none none).run prog w=.ok (.slice X 4 4) w:=by
 simp[Instr.sliceAt,Instr.sureAddr,run_underlying Ec,Instr.sliceBounds,nP w,Addr.add,Result.andThen]
theorem Pw(X h:Nat)(j:h<=4)(w:World):(Instr.sliceAt 146 (.pointer X) none (some (.int .i64 h)) none).run prog w=.ok (.slice X h 4) w:=by
 have f:(Instr.sliceBound (.int .i64 h) 4 .sliceAlen).run prog w=.ok h w:=by
  have e:(h:Int)<=4:=by omega
  simp[Instr.sliceBound,asIntOf,go_sem,Result.andThen,e]
 simp[Instr.sliceAt,Instr.sureAddr,run_underlying Ec,Instr.sliceBounds,nP w,Addr.add,Result.andThen,f]
theorem FF(n:Nat)(w:World)(l:1<=n)(m:n<=256):Calls prog 73 #[n] w λe w'=>e=.returned (.int .i64 (kA n))/\w=w':=by
 have q:=Ra n 1 (by omega);have r:=Ra 256 n (by omega);unfold kA;by_cases c1:n<=2
 .have f:=jB n 2 (by omega)
  rw[if_pos c1];go_enter func73,ntmps73;go_wp2_with fail;go_ret;exact⟨rfl,rfl⟩
 .have f:=mF n 2 (by omega)
  rw[if_neg c1];by_cases c2:n<=4
  .have h:=jB n 4 (by omega)
   rw[if_pos c2];go_enter func73,ntmps73;go_wp2_with fail;go_ret;exact⟨rfl,rfl⟩
  .have h:=mF n 4 (by omega)
   rw[if_neg c2];by_cases c3:n<=16
   .have j:=jB n 16 (by omega)
    rw[if_pos c3];go_enter func73,ntmps73;go_wp2_with fail;go_ret;exact⟨rfl,rfl⟩
   .have j:=mF n 16 (by omega)
    rw[if_neg c3];go_enter func73,ntmps73;go_wp2_with fail;go_ret;exact⟨rfl,rfl⟩
theorem NZ(w:World)(A:Option Addr)(cap:Nat)(c:List Int)(O:gz vi w A c)(s:1<=c.length)(t:c.length<=4):Calls prog 101 #[.slice A c.length cap] w λe w'=>e=.returned (mB c)/\gg [] w w':=by
 obtain⟨r,P,rfl,Q,z⟩:=O.ex s;have⟨w1,ac⟩:=zX ((w.alloc (.cells #[(0:Int),(0:Int),(0:Int),(0:Int)] 146)).alloc (.cells #[(0:Int),(0:Int),(0:Int),(0:Int)] 146));have⟨X2,ad⟩:=zX w.heap.size;have⟨X3,af⟩:=zX (X2+1);have E:=RG ac ad;have H:gn w1 X3 146 #[(0:Int),(0:Int),(0:Int),(0:Int)]:=by rw[ac,af,ad];exact gn.new2 w _ _ _
 have l:=RF ac;have q:splice [Value.int .i64 0,.int .i64 0,.int .i64 0,.int .i64 0] 0 (c.map vi)=(tC c).map vi:=by
  match c,s,t with
  | [a],_,_=>rfl
  | [a,b],_,_=>rfl
  | [a,b,c],_,_=>rfl
  | [a,b,c,d],_,_=>rfl
 have⟨n,hn⟩:=zX c.length;have I:mB c=jO (tC c):=rfl;rw[I];have Y:=OQ X3;obtain⟨a,b,L,N,K⟩:=xl (show(tC c).length=4 from rfl);rw[K]at q⊢;rw[<-hn]at s t⊢;have⟨az,ah,ai,ar⟩:=gu ac ad af E;have⟨au,av,ax⟩:=Q9 H l q;have T:gh (w1.heap.size=X3+1):=gd (by rw[ac,jt,jt,af,ad]);have R:gh (∀(j:Nat) (x:Int),c[j]?=some x->w1.cell? ⟨r,P+j,none⟩=some (vi x)):=gd (λj x hx=>(World.cell?_of_block (w:=w) (l.block r Q (by simp))).trans (z j x hx));have y:=gd hn;clear ac ad af E H l q hn K I z O;go_enter func101,ntmps101
 go_upto_region 2 with(fail)
 rw[<-az.o,<-ah.o,<-ai.o]
 go_wp2_with(refine wpList_copy_splice rfl (.tmp 4) (.tmp 5) 22 22 rfl 3 underlying22 (by kernel_rfl) (some ⟨X3,0,none⟩) (some ⟨r,P,none⟩) 4 4 n cap rfl rfl X3 0 [.int .i64 0,.int .i64 0,.int .i64 0,.int .i64 0] 146 au.o (c.map vi) ?c1 ?c2 ?c3 ?c4 X3 w1 (Below.refl _ _) (zQ _) ?_)
 case c1=>rw[zE,<-y.o];exact(Nat.min_eq_left t).symm
 case c2=>exact λ_=>R.o
 case c3=>rw[zE,<-y.o];simp;omega
 case c4=>intro v W;obtain⟨x,_,rfl⟩:=List.mem_map.1 W;rfl
 intro w4 J f;have D:gn w4 X3 146 #[a,b,L,N]:=by
  have:_=_:=J
  rw[ax.o]at this;exact this
 have⟨k0,k1,k2,k3⟩:=my D;have m:gg [X3] w1 w4:=⟨f.os,f.tape,f.output,f.size,λk hk hn=>f.block k (by have:=T.o;simp at hn;omega)⟩;have h:=ar.o.Z m (by simp;have:=ai.o;omega);have⟨z0,z1,z2,z3⟩:=my h;have⟨f0,f1,f2,f3⟩:=RJ h 0 1 2 3;simp at k0 k1 k2 k3 z0 z1 z2 z3;have⟨HZ,aw⟩:=gy h m;clear h m D J f;go_wp2_with fail;refine nR HZ.o ?_;intro X U V;have⟨x0,x1,x2,x3⟩:=my U;simp at x0 x1 x2 x3;refine bodyPost_ret (v:=jO [a,b,L,N]) (by simp[results,results101,go_sem,x0,x1,x2,x3,jO,vi]) rfl ?_;exact⟨rfl,(av.o.trans aw.o (λx hx=>.inr (by simp at hx;have:=ai.o;have:=ah.o;omega))).trans V (λx hx=>.inr (by simp at hx;have:=ah.o;omega))⟩
open Go.RowKit Go.Maps
structure lK (w:World) (x:Nat) (a b v:Value):Prop where
 blk:gn w x 117 #[a,b,v]
theorem lK.cells{w:World}(h:lK w x a b v):w.cell? x=some a/\w.cell? ⟨x,1,none⟩=some b/\w.cell? ⟨x,2,none⟩=some v:=⟨h.blk.X 0,h.blk.X 1,h.blk.X 2⟩
theorem lK.Z{w w':World}{F:List Nat}(h:lK w x a b v)(e:gg F w w')(f:x∉F):lK w' x a b v:=⟨h.blk.Z e f⟩
theorem lK.Y{w w':World}(h:lK w x a b v)(e:gg [] w w'):lK w' x a b v:=⟨h.blk.Z e (by simp)⟩
def uV(S:List (List Int))(c:List Int):Option Lit:=if c∈S then some (.bool true)else none
def qH(n d:Nat)(w:World)(M k:Nat)(S:List (List Int)):Prop:=ju prog 146 4 mB (oF n d) w M k (uV S)
theorem DU(n d:Nat)(w:World):qH n d (w.alloc (.map #[] 0)) w.heap.size 0 []:=ju.made w _ _ _ _ _
theorem EJ{n d:Nat}{w:World}{M:Nat}(h:qH n d w M k S)(j:n<=4)(f:d<=16){c:List Int}(e:oF n d c):(Instr.lookup 145 (.map (some M)) (mB c) false).run prog w=.ok (.bool (decide (c∈S))) w:=by
 refine ju.look_bool h (xr j f) xi underlying145 underlying4 (Np w) e ?_;unfold uV;by_cases hm:c∈S
 .exact .inl (by rw[if_pos hm,zB hm])
 .exact .inr ⟨by rw[if_neg hm],zA hm⟩
theorem DV{n d:Nat}{w:World}{M:Nat}(h:qH n d w M k S)(r:n<=4)(q:d<=16)(s:k<1000){c:List Int}(m:oF n d c):∃w',(Instr.mapUpdate 145 (.map (some M)) (mB c) (.bool true)).run prog w=.ok () w'/\qH n d w' M (k+1) (S++[c])/\gg [M] w w':=by
 obtain⟨w',f,j,l⟩:=ju.store h (xr r q) xi underlying145 (by unfold maxLen;omega) m (plainElem_bool underlying4 true);refine⟨w',f,?_,l⟩;have e:(λx=>if x=c then some (Lit.bool true)else uV S x)=uV (S++[c]):=by
  funext x
  unfold uV;by_cases f:x=c<;>by_cases j:x∈S<;>simp[f,j]
 unfold qH;rw[<-e];exact j
theorem FV{C:List (List Int)}(e:k<C.length):C.take (k+1)=C.take k++[C.getD k []]:=by
 rw[take_succ_eq_append_getElem e,zD,zF e];rfl
theorem LK{C:List (List Int)}(q:C.Nodup)(l:k<C.length):C.getD k []∉C.take k:=by
 intro m;obtain⟨j,h,e⟩:=getElem_of_mem m;rw[zI]at h;have f:C.getD k []=C[k]:=by rw[zD,zF l];rfl
 rw[getElem_take,f]at e
 have:=(getElem_inj q).1 e
 omega
theorem EC{w:World}{n d:Nat}{C:List (List Int)}{g o:Nat}{B:Nat->Option Addr}{c:Nat->Nat}{G:List Nat}(h:l8 w n d C g o B c G)(f:k<C.length):∃b q,w.cell? ⟨g,o+k,none⟩=some (.slice (some ⟨b,q,none⟩) n (c k))/\(∀i,i<n->∃v,w.cell? ⟨b,q+i,none⟩=some (.int .i64 v)/\0<=v/\v<2^d)/\∀w2,gg [] w w2->Calls prog 101 #[.slice (some ⟨b,q,none⟩) n (c k)] w2 λe w'=>e=.returned (mB (C.getD k []))/\gg [] w2 w':=by
 obtain⟨b,q,e,s,r⟩:=h.at_ f;have l:=h.X k f;rw[e]at l;have ad:=h.ok.smp _ (jQ f);refine⟨b,q,l,λi hi=>⟨_,r i hi,mK ad i⟩,λw2 hc2=>?_⟩;have m:=(h.Y hc2).cells k f;rw[e]at m;have j:=h.len f
 have:=NZ w2 (some ⟨b,q,none⟩) (c k) (C.getD k []) m (by rw[j];exact h.ok.n0) (by rw[j];exact h.ok.n1)
 rw[j]at this;exact this
theorem xK{w:World}{n d:Nat}{C:List (List Int)}{g o:Nat}{B:Nat->Option Addr}{c:Nat->Nat}{G:List Nat}(cap:Nat)(h:l8 w n d C g o B c G):Calls prog 100 #[mC n d C.length g o cap] w λe w'=>e=.returned (.bool true)/\gg [] w w':=by
 have f:=h.ok;obtain⟨a3,a4⟩:=jX f.d0 f.d1;have R:=f.n1;have N:=f.d1;have aU:=f.c1;have l:∀k,k<C.length->oF n d (C.getD k []):=λk r=>⟨f.len _ (jQ r),f.smp _ (jQ r)⟩;have⟨m,hm⟩:=zX C.length;have t1:decide ((d:Int)<1)=false:=zA (by have:=f.d0;omega);have t2:decide ((16:Int)<(d:Int))=false:=zA (by have:=f.d1;omega);have t3:decide ((n:Int)<1)=false:=zA (by have:=f.n0;omega);have t4:decide ((4:Int)<(n:Int))=false:=zA (by have:=f.n1;omega);have t5:decide ((m:Int)<1)=false:=zA (by have:=f.c0;omega);have t6:decide ((256:Int)<(m:Int))=false:=zA (by have:=f.c1;omega);have t7:((n:Int) != (n:Int))=false:=by simp
 unfold mC;have T:=f.nd;rw[<-hm]at l aU⊢;have⟨w1,ae⟩:=zX (w.alloc (.cells #[d,n,.slice (some ⟨g,o,none⟩) m cap] 117));have⟨X1,ad⟩:=zX w.heap.size;have⟨M,hM⟩:=zX (X1+1);have⟨w2,af⟩:=zX (w1.alloc (.map #[] 0));have U:w1.heap.size=M:=by rw[ae,jt,hM,ad]
 have Y:lK w2 X1 (.int .i64 d) (.int .i64 n) (.slice (some ⟨g,o,none⟩) m cap):=⟨by rw[af,ae,ad];exact(gn.new w _ _).alloc _⟩;have Q:qH n d w2 M 0 []:=by rw[af,<-U];exact DU n d w1
 have X:gg [] w w2:=by rw[af,ae];exact((zR [] w).alloc _).alloc _
 have A:gh (m=C.length):=gd hm;have y:gh (X1=w.heap.size/\M=X1+1):=gd ⟨ad,hM⟩;have⟨aT,HM,aR,aS⟩:=gu ad hM ae af;have⟨aI,aM,aq,ai⟩:=gu Y Q X l;have⟨aO,aw⟩:=gy T h;have aZ:=@run_makeMap prog;clear ae af Y Q X l T ad hM hm f h U;go_enter func100,ntmps100;go_wp2_with fail;rw[<-aR.o,<-aS.o,<-aT.o,<-HM.o]
 go_loopg [5,7,40,49,50,51] m (λj v5 v7 v40 v49 v50 v51 wr=>∃k:Nat,v40=.int .i64 k/\k+j=m/\gh (qH n d wr M k (C.take k))/\gh (gg [M] w2 wr))
 .exact⟨0,rfl,by omega,gd (by simpa using aM.o),gd (zR _ _)⟩
 obtain⟨k,rfl,aY,L,s⟩:=hrel;have E:∀wz,gg [] wr wz->gg [M] w2 wz:=λwz hz=>s.o.tq (hz.mono (by simp));have z:∀wz,gg [M] w2 wz->l8 wz n d C g o B c G:=λwz hz=>(aw.o.Y aq.o).Z hz (λx hx hm=>by
  have:=aw.o.lt x hx
  have:=y.o
  simp at hm;omega)
 rcases gk with _|j
 .obtain rfl:k=m:=by omega
  have t8:decide ((k:Int)<(k:Int))=false:=by simp
  have hE:=aq.o.trans s.o (λx hx=>.inr (by simp at hx;have:=y.o;omega));clear E z;go_wp2_with fail;go_ret;exact⟨rfl,hE⟩
 .have r:k<m:=by omega
  have al:=EC (z wr s.o) (show k<C.length by rw[<-A.o];exact r);obtain⟨b,q,e1,e2,e3⟩:=al;have⟨cc,aA⟩:=zX (C.getD k []);have l:=ai.o k r;have H:=LK aO.o (show k<C.length by rw[<-A.o];exact r);have J:=FV (show k<C.length by rw[<-A.o];exact r);rw[<-aA]at e3 l H J;have⟨au,aN,aQ⟩:=Q9 l H J;obtain⟨a0,a1,a2⟩:=(aI.o.Z s.o (by simp;have:=y.o;omega)).cells;have⟨aL,av,aK⟩:=Q9 e2 e3 E;clear e2 e3 E z l H J aA;have⟨wo,aW⟩:=zX wr;subst aW;go_wp2_with fail
  go_loopg [7,51] n (λK v7 v51 wr=>∃i:Nat,v51=.int .i64 i/\i+K=n/\wo=wr)
  .exact⟨0,rfl,by omega,rfl⟩
  obtain⟨i,rfl,aX,rfl⟩:=hrel;rcases gk with _|K
  .obtain rfl:i=n:=by omega
   have t9:decide ((i:Int)<(i:Int))=false:=(by simp);go_wp2_with fail;refine(av.o _ (zR _ _)).mono ?_;rintro e wA ⟨rfl,t⟩;have aV:=EJ (L.o.Z t (by simp)) R N au.o;have O:decide (cc∈C.take k)=false:=zA aN.o;rw[O]at aV;have P:=av.o wA t;have V:=gd t;clear t O;go_wp2_with fail;refine P.mono ?_;rintro e wB ⟨rfl,D⟩;obtain⟨wC,a5,I,W⟩:=DV (L.o.Z (V.o.tq D) (by simp)) R N (by omega) au.o;rw[<-aQ.o]at I;have aP:=gd I;have Z:=gd ((aK.o wB (V.o.tq D)).tq W);clear P D W I;go_wp2_with fail
   go_roundg j
   .exact⟨k+1,by go_num,by omega,aP,Z⟩
   .omega
  .have hi:i<n:=by omega
   obtain⟨v,e5,v0,v1⟩:=aL.o i hi;have a6:decide (v<0)=false:=zA (by omega);have a7:decide ((2:Int)^d<=v)=false:=zA (by omega);go_wp2_with fail
   go_roundg K
   .exact⟨i+1,by go_num,by omega,rfl⟩
   .omega
open Go.RowKit Go.Maps
theorem AO(x:Int)(w:World):Calls prog 162 #[x] w λe w'=>e=.returned (.bool false)/\w=w':=by
 go_enter func162,ntmps162;go_wp2_with fail;go_ret;exact⟨rfl,rfl⟩
def tB(x y:Int):Int:=if x<y then -1 else if y<x then 1 else 0
theorem K8(x y:Int)(w:World):Calls prog 121 #[x,y] w λe w'=>e=.returned (.int .i64 (tB x y))/\w=w':=by
 unfold tB;by_cases h1:x<y
 .have f:decide (x<y)=true:=zB h1
  rw[if_pos h1];clear h1;go_enter func121,ntmps121
  go_wp2_with(go_at_call 162;refine gB (AO _ _) ?_)
  go_ret;exact⟨rfl,rfl⟩
 .have f:decide (x<y)=false:=zA h1
  rw[if_neg h1];by_cases h2:y<x
  .have h:decide (y<x)=true:=zB h2
   rw[if_pos h2];clear h1 h2;go_enter func121,ntmps121
   go_wp2_with(go_at_call 162;refine gB (AO _ _) ?_)
   go_ret;exact⟨rfl,rfl⟩
  .have h:decide (y<x)=false:=zA h2
   rw[if_neg h2];clear h1 h2;go_enter func121,ntmps121
   go_wp2_with(go_at_call 162;refine gB (AO _ _) ?_)
   go_ret;exact⟨rfl,rfl⟩
theorem L8{a b:List Int}{i:Nat}(e:i<a.length)(f:i<b.length):iT (a.drop i) (b.drop i)=if tB (a.getD i 0) (b.getD i 0)=0 then iT (a.drop (i+1)) (b.drop (i+1))else tB (a.getD i 0) (b.getD i 0):=by
 have h:a.getD i 0=a[i]:=by rw[zD,zF e];rfl
 have e2:b.getD i 0=b[i]:=by rw[zD,zF f];rfl
 rw[drop_eq_getElem_cons e,drop_eq_getElem_cons f,h,e2];unfold tB;rw[iT];by_cases h1:a[i]<b[i]
 .rw[if_pos h1,if_pos h1,if_neg (by omega)]
 .rw[if_neg h1,if_neg h1]
  by_cases h2:b[i]<a[i]
  .rw[if_pos h2,if_pos h2,if_neg (by omega)]
  .rw[if_neg h2,if_neg h2,if_pos rfl]
theorem K9(w:World)(A B:Option Addr)(Q R:Nat)(a b:List Int)(L:gz vi w A a)(N:gz vi w B b)(O:a.length=b.length)(V:a.length<=4):Calls prog 99 #[.slice A a.length Q,.slice B b.length R] w λe w'=>e=.returned (.int .i64 (iT a b))/\w=w':=by
 have⟨n,ae⟩:=zX a.length;rw[<-O,<-ae];rw[<-ae]at V;have I:∀i,i<n->∃h q l r,A=some ⟨h,q,none⟩/\B=some ⟨l,r,none⟩/\w.cell? ⟨h,q+i,none⟩=some (.int .i64 (a.getD i 0))/\w.cell? ⟨l,r+i,none⟩=some (.int .i64 (b.getD i 0)):=λi s=>by
  obtain⟨h,q,D,_,T⟩:=L.ex (by omega);obtain⟨l,r,e2,_,U⟩:=N.ex (by omega);refine⟨h,q,l,r,D,e2,T i _ ?_,U i _ ?_⟩
  .rw[zD,zF (by omega)];rfl
  .rw[zD,zF (by omega)];rfl
 have K:∀i,i<n->_:=λi s=>L8 (a:=a) (b:=b) (i:=i) (by omega) (by omega);have H:iT (a.drop n) (b.drop n)=0:=by rw[drop_eq_nil_of_le (by omega),drop_eq_nil_of_le (by omega)];rfl
 have⟨ai,aj,ac⟩:=Q9 I K H;have Y:decide ((n:Int)<(n:Int))=false:=by simp
 have P:gh (iT a b=iT (a.drop 0) (b.drop 0)):=gd rfl;clear L N O ae I K H;go_enter func99,ntmps99;go_wp2_with fail
 go_loopg [5,6,7,8,11] n (λj v5 v6 v7 v8 v11 wr=>∃i:Nat,v11=.int .i64 i/\i+j=n/\gh (iT a b=iT (a.drop i) (b.drop i))/\w=wr)
 .exact⟨0,rfl,by omega,P,rfl⟩
 obtain⟨i,rfl,X,t,rfl⟩:=hrel;rcases gk with _|j
 .obtain rfl:i=n:=by omega
  have Z:decide ((i:Int)<(i:Int))=false:=by simp
  go_wp2_with fail;go_ret;exact⟨by rw[t.o,ac.o];rfl,rfl⟩
 .have s:i<n:=by omega
  obtain⟨h,q,l,r,rfl,rfl,D,e2⟩:=ai.o i s;have m:=aj.o i s;have⟨x,hx⟩:=zX (a.getD i 0);have⟨y,hy⟩:=zX (b.getD i 0);rw[<-hx]at D m;rw[<-hy]at e2 m;have J:=K8 x y w;have⟨z,hz⟩:=zX (tB x y);rw[<-hz]at J m;have E:=gd m;clear m hx hy hz;go_wp2_with fail;refine gB J ?_;by_cases hz0:z=0
  .have W:(z != 0)=false:=by rw[hz0];rfl
   have f:iT a b=iT (a.drop (i+1)) (b.drop (i+1)):=(by rw[t.o,E.o,if_pos hz0]);have ad:=gd f;clear f hz0;go_wp2_with fail
   go_roundg j
   .exact⟨i+1,by go_num,by omega,ad,rfl⟩
   .omega
  .have W:(z != 0)=true:=by simpa using hz0
   have f:iT a b=z:=(by rw[t.o,E.o,if_neg hz0]);have ad:=gd f;clear f hz0;go_wp2_with fail;go_ret;exact⟨by rw[ad.o];rfl,rfl⟩
open Go.RowKit Go.Maps Go.Sort
theorem PD(w:World)(A B:Option Addr)(h j:Nat)(a b:List Int)(l:gz vi w A a)(m:gz vi w B b)(f:a.length=b.length)(r:a.length<=4):Calls prog 98 #[.slice A a.length h,.slice B b.length j] w λe w'=>e=.returned (.int .i64 (iT a b))/\w=w':=by
 have q:=K9 w A B h j a b l m f r;have⟨n,aa⟩:=zX a.length;have⟨z,hz⟩:=zX (iT a b);rw[<-f,<-aa,<-hz]at q⊢;clear l m f r aa hz;go_enter func98,ntmps98;go_wp2_with fail;refine gB q ?_;go_wp2_with fail;go_ret;exact⟨rfl,rfl⟩
theorem jm.perm{w:World}{xs:List Value}{C:List (List Int)}{gs:List Nat}(h:jm w xs C gs){f:List Nat}(s:f.Perm (range C.length))(A:Value)(q:List Int):jm w (f.map (xs.getD · A)) (f.map (C.getD · q)) (f.map (gs.getD · 0)):=by
 have y:∀k∈f,k<C.length:=λk j=>List.mem_range.1 (s.mem_iff.1 j);refine⟨by simp,by simp,?_,λi l hl=>?_⟩
 .have e:(range C.length).map (gs.getD · 0)=gs:=by
   apply ext_getElem (by simp[h.lg]);intro k r m;simp[zD,zF m]
  rw[(s.map (gs.getD · 0)).nodup_iff,e];exact h.nd
 .rw[zW,Option.map_eq_some_iff]at hl
  obtain⟨k,j,e⟩:=hl;have t:=y k (mem_of_getElem? j);obtain⟨u,g,r,m,z⟩:=h.row k (C.getD k q) (by rw[zD,zF t];rfl);refine⟨u,g,?_,?_,by rw[<-e];exact z⟩
  .rw[zW,j,Option.map_some,zD,r];rfl
  .rw[zW,j,Option.map_some,zD,m];rfl
def EV(w:World)(n:Nat)(C:List (List Int))(gP cap:Nat)(gs:List Nat)(e:Ending)(w':World):Prop:=
 e=.returned (.tuple #[])/\∃(D:List (List Int)) (ys:List Value) (hs:List Nat),D.Perm C/\(D.Pairwise λa b=>¬iT b a<0)/\gv w' 22 (.slice gP D.length cap) gP ys/\jm w' ys D hs/\(∀x∈hs,x∈gs)/\gg [gP] w w'
theorem Nf{w:World}{n:Nat}{C:List (List Int)}{xs:List Value}{gs:List Nat}(Z:gv w 22 (.slice gP C.length cap) gP xs)(t:jm w xs C gs)(I:gP∉gs)(hn:n<=4)(hl:∀c∈C,c.length=n)(h0:0<C.length)(hm:C.length<=256):Calls prog 97 #[.slice gP C.length cap,.func (.func 98) #[] #[]] w (EV w n C gP cap gs):=by
 have ap:xs.length=C.length:=t.lx;have⟨x0,ao⟩:=zX (xs.getD 0 (.slice none 0 0));have⟨c0,ak⟩:=zX (C.getD 0 []);have z:∀k,∃(g c:Nat),xs.getD k x0=.slice g n c/\g∈gs/\gv w 3 (.slice g n c) g ((C.getD k c0).map vi)/\(C.getD k c0).length=n:=by
  have P:∀k,k<C.length->∃(g c:Nat),xs[k]?=some (.slice g n c)/\g∈gs/\gv w 3 (.slice g n c) g ((C.getD k []).map vi)/\(C.getD k []).length=n:=λk q=>by
   have V:C[k]?=some (C.getD k []):=(by rw[zD,zF q];rfl);obtain⟨u,g,l,f,r⟩:=t.row k _ V;obtain⟨c,rfl,aq,_⟩:=r.T;have Q:=hl _ (mem_of_getElem? V);rw[Q]at l r;exact⟨g,c,l,mem_of_getElem? f,r,Q⟩
  intro k;rcases zZ k C.length with q|q
  .obtain⟨g,c,l,f,r,H⟩:=P k q
   have e:C.getD k c0=C.getD k []:=(by rw[zD,zD,zF q];rfl);exact⟨g,c,by rw[zD,l];rfl,f,by rw[e];exact r,by rw[e];exact H⟩
  .obtain⟨g,c,l,f,r,H⟩:=P 0 h0
   have e:C.getD k c0=C.getD 0 []:=(by rw[zD,getElem?_eq_none q,ak];rfl);exact⟨g,c,by rw[zD,getElem?_eq_none (by omega),ao,zD,l];rfl,f,by rw[e];exact r,by rw[e];exact H⟩
 have aa:(range C.length).map (xs.getD · x0)=xs:=by
  apply ext_getElem (by simp[ap]);intro k l f;simp[zD,zF f]
 have R:gv w 22 (.slice gP C.length cap) gP ((range C.length).map (xs.getD · x0)):=by rw[aa];exact Z
 have s:∀m os (dk:Array Nat),gg [gP] w (sortWorld (xs.getD · x0) w gP 0 m dk os):=λm os dk=>(((zR [gP] w).aheadN m).putRow (enc:=(xs.getD · x0)) (.inl (by simp)) 0 dk).growO os;have D:(range C.length).toArray.size=C.length:=by simp
 have W:=slices_SortFunc (α:=Nat) (xs.getD · x0) (λk=>by obtain⟨g,c,e,_⟩:=z k;show(xs.getD k x0).oneCell'=true;rw[e];rfl)
  (λi j=>iT (C.getD i c0) (C.getD j c0)) (OJ λi=>C.getD i c0) 98 #[] gP 0 cap (range C.length).toArray w
  (enters_of func98 (by kernel_rfl) rfl)
  (λm os dk _ x y=>by
   obtain⟨T,c1,E,m1,r1,l1⟩:=z x;obtain⟨U,c2,e2,m2,r2,l2⟩:=z y;have q1:=r1.Z (s m os dk) (by simp;exact λe=>I (e ▸ m1));have q2:=r2.Z (s m os dk) (by simp;exact λe=>I (e ▸ m2));have k1:gz vi _ (some ⟨T,0,none⟩) _:=q1.R.cells;have k2:gz vi _ (some ⟨U,0,none⟩) _:=q2.R.cells;show Calls _ _ #[xs.getD x x0,xs.getD y x0] _ _;have Y:=PD (sortWorld (xs.getD · x0) w gP 0 m dk os) (some ⟨T,0,none⟩) (some ⟨U,0,none⟩) c1 c2 _ _ k1 k2 (by rw[l1,l2]) (by omega);rw[l1,l2]at Y;rw[E,e2];refine Y.mono λe w' h=>⟨h.1,0,#[],?_⟩;rw[grow_empty];exact h.2.symm)
  R.holds Z.lt (by rw[D];omega)
 rw[D]at W;refine W.mono ?_;rintro e w' ⟨rfl,d',m,os,am,an,rfl⟩;have ad:d'.toList.Perm (range C.length):=by
  obtain⟨L,_,N⟩:=am;simp only[D]at L;have E:d'.extract 0 C.length=d':=by rw[<-L];exact Array.extract_size
  have e2:(range C.length).toArray.extract 0 C.length=(range C.length).toArray:=by simp
  rw[E,e2]at N
  simpa using N
 have A:d'.toList.length=C.length:=by rw[ad.length_eq,length_range]
 refine⟨rfl,d'.toList.map (C.getD · c0),d'.toList.map (xs.getD · x0),d'.toList.map (gs.getD · 0),?_,?_,?_,?_,?_,s m os d'⟩
 .have e:(range C.length).map (C.getD · c0)=C:=by
   apply ext_getElem (by simp);intro k l f;simp[zD,zF f]
  have:=ad.map (C.getD · c0)
  rw[e]at this;exact this
 .rw[pairwise_map,pairwise_iff_getElem]
  intro i j X J al
  have:=an i j (zero_le _) al (by rw[<-A];exact J)
  simp only[Array.length_toList]at X J;rw[getElem!_pos d' i X,getElem!_pos d' j J]at this
  simpa[ltOf]using this
 .rw[zE,A]
  have hq:=(R.aheadN m).putRow (ys:=d'.toList) (by rw[A];simp);exact hq.growO os
 .exact(t.Z (s m os d') (by simp;exact λx K e=>I (e ▸ K))).perm ad x0 c0
 .intro x K
  obtain⟨k,q,rfl⟩:=List.mem_map.1 K;have O:k<gs.length:=by rw[t.lg];exact List.mem_range.1 (ad.mem_iff.1 q)
  rw[zD,zF O];exact zG O
open Go.RowKit Go.Maps
def x8:Value:=.agg #[(0:Int),(0:Int),.slice none 0 0]
theorem Bt{F:Func}{Q:Ending->World->Prop}{a:Act}{Y:World}{C:Nat}{m q r e f j:Value}(l:lK Y C m q r)(h:∀X,lK X C e f j->gg [C] Y X->bodyPost prog F Q .ret a X):bodyPost prog F Q .ret a (((Y.setCell C e).setCell ⟨C,1,none⟩ f).setCell ⟨C,2,none⟩ j):=by
 refine h _ ⟨?_⟩ ?_
 .have:=((l.blk.S 0 e).S 1 f).S 2 j
  simpa using this
 .exact(((zR [C] Y).zs 0 _).zs 1 _).zs 2 _
def BA(w:World)(p:qc)(most:Nat)(e:Ending)(w':World):Prop:=
 gg [] w w'/\(((ic p).length<=most/\∃(gP cap:Nat) (xs:List Value) (gs:List Nat),e=.returned (.tuple #[mC p.P.length p.d (ic p).length gP 0 cap,.bool true])/\pW w' p.P.length p.d (ic p) gP cap xs gs/\∀x∈gP::gs,w.heap.size<=x) \/
  (most<(ic p).length/\e=.returned (.tuple #[x8,.bool false])))
structure pk (w2:World) (p:qc) (M:Nat) (w:World) (vC:Value) (F:List Nat) (xs:List Value) (gs:List Nat) (i:Nat):Prop where
 own:jj w 22 vC F xs
 pl:jm w xs (iH p i) gs
 seen:qH p.P.length p.d w M (iH p i).length (iH p i)
 dg:∀x∈F,x∉gs
 new:∀x∈F++gs,w2.heap.size<=x
 Z:gg [M] w2 w
section
variable {w2 w wa wb wc:World} {p:qc} {M:Nat} {vC v':Value} {F:List Nat} {xs:List Value} {gs:List Nat} {i g5 g6:Nat} {u:Value}
theorem pk.Y(h:pk w2 p M w vC F xs gs i)(e:gg [] w wa):pk w2 p M wa vC F xs gs i:=⟨h.own.Y e,h.pl.Y e,ju.Y h.seen e,h.dg,h.new,h.Z.tq (e.mono (by simp))⟩
theorem pk.skip(h:pk w2 p M w vC F xs gs i)(f:iJ p i∈iH p i):pk w2 p M w vC F xs gs (i+1):=by
 have e:iH p (i+1)=iH p i:=by rw[iH,if_pos f]
 exact⟨h.own,by rw[e];exact h.pl,by rw[e];exact h.seen,h.dg,h.new,h.Z⟩
theorem pk.next(h:pk w2 p M w vC F xs gs i)(J:iJ p i∉iH p i)(O:M<w2.heap.size)(K:qH p.P.length p.d wa M ((iH p i).length+1) (iH p i++[iJ p i]))(q:gg [M] w wa)(s:gg [] wa wb)(I:wa.heap.size<=g5)(r:gv wb 3 u g5 ((iJ p i).map vi))(L:gv wc 22 v' g6 (xs++[u]))(t:gE F [g6] wb wc):pk w2 p M wc v' [g6] (xs++[u]) (gs++[g5]) (i+1):=by
 have e:iH p (i+1)=iH p i++[iJ p i]:=by rw[iH,if_neg J]
 have D:∀x∈F,x≠M:=λx f e=>by have:=h.new x (by simp[f]);omega
 have ad:∀x∈gs,x≠M:=λx f e=>by have:=h.new x (by simp[f]);omega
 have z:g5∉F:=λj=>by have:=h.own.lt g5 j;have:=q.size;omega
 have A:g5∉gs:=λj=>by have:=h.pl.lt g5 j;have:=q.size;omega
 have H:∀x∈gs,x<wb.heap.size:=λx f=>by have:=h.pl.lt x f;have:=q.size;have:=s.size;omega
 have E:∀x∈gs,x∉F:=λx f j=>h.dg x j f;have y:g6∈F\/wb.heap.size<=g6:=t.new g6 (by simp);have N:=r.lt;refine⟨L.R,?_,?_,?_,?_,?_⟩
 .rw[e]
  refine(((h.pl.Z q (by simpa using ad)).Y s).snoc r A).Z t.Z ?_;intro x f j;rcases zP.1 f with l|l
  .exact E x l j
  .simp at l;subst l;exact z j
 .rw[e,zC]
  exact ju.Z (ju.Y K s) t.Z (λj=>D M j rfl)
 .intro x f j
  simp at f;subst f;rcases zP.1 j with l|l
  .rcases y with m|m
   .exact h.dg x m l
   .have:=H x l;omega
  .simp at l
   subst l;rcases y with m|m
   .exact z m
   .omega
 .intro x f
  have:=q.size
  have:=s.size
  have:=h.Z.size
  simp only[zP,zJ,not_mem_nil,or_false]at f;rcases f with rfl|f|rfl
  .rcases y with m|m
   .exact h.new x (by simp[m])
   .omega
  .exact h.new x (by simp[f])
  .omega
 .exact((h.Z.trans q (λx f=>.inl f)).tq (s.mono (by simp))).trans t.Z (λx f=>.inr (h.new x (by simp[f])))
end
theorem PJ{w:World}{p:qc}{g o:Nat}{B:Nat->Option Addr}{c:Nat->Nat}{G:List Nat}(cap:Nat)(h:ip w p g o B c G)(most:Nat)(m0:1<=most)(m1:most<=256):Calls prog 69 #[gW p g o cap,most] w (BA w p most):=by
 have I:=h.ok;have aR:∀w',gg [] w w'->_:=λw' (hc':gg [] w w')=>oJ cap (h.Y hc');have⟨n,hn⟩:=zX p.P.length;have⟨N,hN⟩:=zX (p.W*p.H);have aT:n<=4:=by rw[hn];exact I.n1
 have cp:1<=n:=by rw[hn];exact I.n0
 have bz:=I.d1;have ck:N<=4096:=by rw[hN];exact I.area
 have cd:0<N:=by rw[hN];exact I.pos
 have L:∀i,i<N->∃Y Z y2 y3:Int,mB (iJ p i)=.agg #[Y,Z,y2,y3]/\(∀k,k<n->(iJ p i)[k]?=some ([Y,Z,y2,y3].getD k 0))/\∀w',gg [] w w'->Calls prog 96 #[gW p g o cap,.int .i64 i] w' λe w''=>e=.returned (.agg #[Y,Z,y2,y3])/\gg [] w' w'':=by
  intro i W;refine⟨_,_,_,_,uI _,λk hk=>?_,λw' hc=>?_⟩
  .have bC:k<(iJ p i).length:=by rw[oY,<-hn];exact hk
   rw[zF bC];have e:(iJ p i)[k]=(iJ p i).getD k 0:=(by rw[zD,zF bC];rfl);rw[e];rcases(by omega:k=0\/k=1\/k=2\/k=3)with rfl|rfl|rfl|rfl<;>rfl
  .have:=FJ cap (h.Y hc) i (by rw[<-hN];exact W)
   rw[uI]at this;exact this
 have P:(ic p).length=(iH p N).length:=by rw[hN];exact Oq p
 have aj:∀i,i<=N->(iH p i).length<=(ic p).length:=λi W=>by
  have:=CW p i (N-i)
  rw[show i+(N-i)=N by omega]at this;rw[P];exact this
 have bw:∀i,oF p.P.length p.d (iJ p i):=λi=>⟨oY p i,Bu I i⟩;have bE:=uO I;unfold BA mC;unfold gW at aR L⊢;rw[<-hn]at aR L⊢;have⟨w1,aL⟩:=zX ((w.alloc (.cells #[p.W,p.H,p.d,.slice (some ⟨g,o,none⟩) n cap] 46)).alloc (.cells #[(0:Int),(0:Int),.slice none 0 0] 117));have⟨X2,aF⟩:=zX w.heap.size;have⟨X4,T⟩:=zX (X2+1);have bd:iF w1 X2 (.int .i64 p.W) (.int .i64 p.H) (.int .i64 p.d) (.slice (some ⟨g,o,none⟩) n cap):=⟨RG aL aF⟩;have be:lK w1 X4 (.int .i64 0) (.int .i64 0) (.slice none 0 0):=⟨by rw[aL,T,aF];exact gn.new2 w _ _ _⟩;have bn:=RF aL;have t1:=Ra most 1 (by omega);have t2:=Ra 256 most (by omega);have cl:(p.W:Int)*(p.H:Int)=(N:Int):=by rw[hN];simp
 have s:gh (n=p.P.length/\N=p.W*p.H):=gd ⟨hn,hN⟩;have HX:gh (X2=w.heap.size/\X4=X2+1):=gd ⟨aF,T⟩;have⟨ar,bZ,b4,bW⟩:=gu be.blk.lt aF T aL;have⟨aW,bH,ai,bO⟩:=gu bd be bn aR;have⟨bT,ci,bQ,bj⟩:=gu L P aj bw;have bS:=gd bE;have co:=@run_makeMap prog;obtain⟨t,y,z,A⟩:=bd.cells;clear aL bd be bn aR L P aj bw bE I h hn hN aF T;go_enter func69,ntmps69;go_wp2_with fail;rw[<-bW.o,<-bZ.o,<-b4.o];refine(bO.o w1 ai.o).mono ?_;rintro e w2 ⟨rfl,R⟩;obtain⟨t,y,z,A⟩:=(aW.o.Y R).cells;have⟨w3,ay⟩:=zX (w2.alloc (.map #[] 0));have⟨M,hM⟩:=zX w2.heap.size;have a9:=H4 ay;have br:M<w3.heap.size:=by rw[ay,jt,hM];omega
 have aU:pk w3 p M w3 (.slice none 0 0) [] [] [] 0:=⟨jj.nil _ _,jm.nil _,by rw[ay,hM];exact DU _ _ _,by simp,by simp,zR _ _⟩;have⟨bX,HM,a5,bV⟩:=gu ay hM br aU;have J:=gd (R.tq a9);have Q:gh (w1.heap.size<=M):=gd (by rw[hM];exact R.size);obtain⟨b0,b1,b2,b3⟩:=(aW.o.Y (R.tq a9)).cells;rw[ay]at b0 b1 b2 b3;clear R a9 br aU ay hM;go_wp2_with fail;rw[<-bX.o,<-HM.o];clear t y z A b0 b1 b2 b3
 go_loopg [7,8,9,28] N (λj v7 v8 v9 v28 wr=>∃(i:Nat) (F:List Nat) (xs:List Value) (gs:List Nat),v28=.int .i64 i/\i+j=N/\gh (pk w3 p M wr v7 F xs gs i)/\gh ((iH p i).length<=most))
 .exact⟨0,[],[],[],rfl,by omega,bV,gd (zero_le _)⟩
 obtain⟨i,F,xs,gs,rfl,cm,l,a4⟩:=hrel;have bu:=λwz (hz:gg [M] w3 wz)=>And.intro ((aW.o.Y J.o).Z hz (by simp;have:=HX.o;have:=ar.o;have:=Q.o;omega)) ((bH.o.Y J.o).Z hz (by simp;have:=ar.o;have:=Q.o;omega));have aM:=gd bu;clear bu;rcases gk with _|j
 .obtain rfl:i=N:=by omega
  have t3:decide ((i:Int)<(i:Int))=false:=by simp
  have cc:0<(iH p i).length:=by
   have h1:iJ p 0∈iH p i:=(uc p i _).2 ⟨0,cd,rfl⟩;exact length_pos_of_mem h1
  have E:xs.length=(iH p i).length:=l.o.pl.lx;have bq:=a4.o;rcases l.o.own.cases with⟨_,he,_⟩|⟨gP,r,hF⟩
  .exfalso
   rw[he]at E;simp at E;omega
  have hr:=r;obtain⟨aD,rfl,_,_,-,-⟩:=r.open_;rw[E]at hr l⊢;have bB:gP∉gs:=l.o.dg gP (by rw[hF];simp);have bh:=Nf (n:=n) hr l.o.pl bB aT (λc' hc'=>by
   obtain⟨k,_,rfl⟩:=(uc p i c').1 hc';rw[oY,s.o.1]) cc (by omega)
  unfold EV at bh;have al:=l.o.new gP (by rw[hF];simp);have ak:∀x∈gs,w3.heap.size<=x:=λx f=>l.o.new x (by simp[f]);have⟨K,hK⟩:=zX ((iH p i).length);rw[<-hK]at bh bq⊢;have⟨HK,bM,a6,bl⟩:=gu hK l.o.Z al ak;clear hr r bB E hK l al ak;go_wp2_with fail;refine bh.mono ?_;rintro e w5 ⟨rfl,D,ys,hs,bc,bp,r,P,aK,O⟩;have bo:D.length=K:=by rw[bc.length_eq,HK.o]
  have cb:D=ic p:=Pc (by rw[<-s.o.2];exact bc) (bp.imp fun {a b} h=>by omega);subst cb;have bb:gg [M] w3 w5:=bM.o.trans O (λx f=>.inr (by simp at f;have:=a6.o;omega));obtain⟨⟨U⟩,⟨m⟩⟩:=aM.o w5 bb;have⟨t,y,z,A⟩:=my U;have z0:=m.X 0;have z1:=m.X 1;have z2:=m.X 2;have⟨f0,f1,f2⟩:=RK m 0 1 2;simp at t y z A z0 z1 z2;have⟨aY,bJ,aq,a7⟩:=gu m bb r P;have⟨aC,aX⟩:=gy aK bo;clear U m bb r P aK O bc bp bo;go_wp2_with fail;refine Bt ⟨aY.o⟩ ?_;intro X hX V;obtain⟨x0,x1,x2⟩:=hX.cells;refine bodyPost_ret (v:=.tuple #[.agg #[.int .i64 p.d,.int .i64 n,.slice gP K aD],.bool true]) (by simp[results,results69,go_sem,x0,x1,x2]) rfl ?_;have T:X4<w3.heap.size:=by have:=ar.o;have:=J.o.size;omega
  refine⟨((ai.o.tq J.o).trans bJ.o (λx f=>.inr (by simp at f;have:=Q.o;have:=ai.o.size;omega))).trans V (λx f=>.inr (by simp at f;have:=HX.o;omega)),.inl ⟨by rw[aX.o];exact bq,gP,aD,ys,hs,by rw[aX.o],⟨?_,?_,?_⟩,λx f=>?_⟩⟩
  .rw[s.o.1]
   exact bS.o (by rw[aX.o];omega)
  .exact aq.o.Z V (by simp;have:=a6.o;omega)
  .exact a7.o.Z V (λx f hm=>by simp at hm;have:=bl.o x (aC.o x f);omega)
  .have h3:w.heap.size<=w3.heap.size:=by have:=ai.o.size;have:=J.o.size;omega
   rcases zJ.1 f with rfl|f
   .have:=a6.o;omega
   .have:=bl.o x (aC.o x f);omega
 .have W:i<N:=by omega
  obtain⟨Y,Z,y2,y3,bx,aI,L⟩:=bT.o i W;have bG:gg [] w wr:=(ai.o.tq J.o).trans l.o.Z (λx f=>.inr (by simp at f;have:=Q.o;have:=ai.o.size;omega));have aJ:=L wr bG;obtain⟨⟨h1⟩,-⟩:=aM.o wr l.o.Z;have⟨t,y,z,A⟩:=my h1;simp at t y z A;have⟨bk,aZ⟩:=gy bx aI;have⟨wo,ch⟩:=zX wr;subst ch;clear L bx aI h1 bG;go_wp2_with fail;refine aJ.mono ?_;rintro e w5 ⟨rfl,O⟩;have⟨w6,az⟩:=zX (w5.alloc (.cells #[Y,Z,y2,y3] 146));have⟨X9,aH⟩:=zX w5.heap.size;have bm:=H4 az;have H:=RD az aH;have q:=gd (l.o.Y (O.tq bm));have aS:=EJ q.o.seen (by rw[<-s.o.1];exact aT) bz (bj.o i);rw[bk.o]at aS;have⟨k0,k1,k2,k3⟩:=my H;simp at k0 k1 k2 k3;have⟨aN,b5,bI⟩:=Q9 az aH H;have a8:gh (X9≠M/\w3.heap.size<=X9):=gd (by
   have:=l.o.Z.size
   have:=O.size
   have:=a5.o
   rw[aH];omega)
  rw[az,aH]at k0 k1 k2 k3;rw[az]at aS;clear O bm az aH H aJ t y z A;by_cases hmem:iJ p i∈iH p i
  .rw[zB hmem]at aS
   have ad:=gd hmem;clear hmem;go_wp2_with fail;rw[<-aN.o]
   go_roundg j
   .exact⟨i+1,F,xs,gs,by go_num,by omega,gd (q.o.skip ad.o),gd (by rw[iH,if_pos ad.o];exact a4.o)⟩
   .omega
  .rw[zA hmem]at aS
   have ad:=gd hmem;clear hmem;have aQ:=bQ.o (i+1) W;rw[iH,if_neg ad.o,zC]at aQ;have aQ:(iH p i).length+1<=(ic p).length:=aQ;obtain⟨A7,c7,rfl,b9,cj,cf,ca⟩:=q.o.own.open_;have E:xs.length=(iH p i).length:=q.o.pl.lx;have⟨K,hK⟩:=zX ((iH p i).length);rw[<-hK]at aQ E;have cn:K<=most:=(by rw[hK];exact a4.o);have⟨HK,b6⟩:=gy hK E;rw[E]at q b9⊢;clear hK E cf ca;by_cases hfull:K=most
   .have t4:((K:Int)==(most:Int))=true:=by rw[hfull];simp
    obtain⟨-,⟨m⟩⟩:=aM.o w6 q.o.Z;have z0:=m.X 0;have z1:=m.X 1;have z2:=m.X 2;have⟨f0,f1,f2⟩:=RK m 0 1 2;simp at z0 z1 z2;have⟨aY,aA⟩:=gy m hfull;rw[aN.o]at z0 z1 z2 f0 f1 f2;clear m hfull;go_wp2_with fail;rw[<-aN.o];refine Bt ⟨aY.o⟩ ?_;intro X hX V;obtain⟨x0,x1,x2⟩:=hX.cells;refine bodyPost_ret (v:=.tuple #[x8,.bool false]) (by simp[results,results69,go_sem,x0,x1,x2,x8]) rfl ?_;refine⟨?_,.inr ⟨by have:=aA.o;omega,rfl⟩⟩;exact(((ai.o.tq J.o).trans q.o.Z (λx f=>.inr (by simp at f;have:=Q.o;have:=ai.o.size;omega))).trans V (λx f=>.inr (by simp at f;have:=HX.o;omega)))
   .have t4:((K:Int)==(most:Int))=false:=by simp;omega
    have bP:gh (K+1<=most):=gd (by omega);clear hfull;obtain⟨w7,aU,bF,aO⟩:=DV q.o.seen (by rw[<-s.o.1];exact aT) bz (by rw[<-HK.o];omega) (bj.o i);rw[bk.o,aN.o]at aU;have H:=bI.o.Z aO (by simp;exact a8.o.1);have⟨k0,k1,k2,k3⟩:=my H;simp at k0 k1 k2 k3;obtain⟨⟨U⟩,-⟩:=aM.o w7 (q.o.Z.trans aO (λx f=>.inl f));have⟨t,y,z,A⟩:=my U;simp at t y z A;have ce:=Pw X9 n aT;have bv:gz vi w7 (some ⟨X9,0,none⟩) (iJ p i):=⟨λ_=>⟨X9,0,rfl,H.lt,λk v hk=>by
     have cg:k<n:=(by rw[s.o.1,<-oY p i];exact(List.getElem?_eq_some_iff.1 hk).1);have e:=aZ.o k cg;rw[hk]at e;injection e with e;rw[Nat.zero_add,H.X k,e];rcases(by omega:k=0\/k=1\/k=2\/k=3)with rfl|rfl|rfl|rfl<;>rfl⟩⟩
    have ab:=DA w7 (some ⟨X9,0,none⟩) 4 (iJ p i) bv (by rw[oY,<-s.o.1];omega) (by rw[oY,<-s.o.1];omega);rw[oY,<-s.o.1]at ab;have⟨bU,bi⟩:=gy bF aO;rw[b5.o]at k0 k1 k2 k3 ce ab;have bL:=gd ab;clear bF aO H U bv ab;go_wp2_with fail;refine bL.o.mono ?_;rintro e w8 ⟨v8,g5,rfl,r,ba,bA⟩;have bg:=r;obtain⟨c8,rfl,_⟩:=r.T;rw[oY,<-s.o.1]at bg⊢;have⟨wB,aV⟩:=zX (w8.alloc (.cells #[.slice g5 n c8] 22));have aP:=H4 aV;have bs:=gn.new w8 22 #[.slice g5 n c8];have af:=(q.o.own.Z bi.o (λx f=>by have:=q.o.new x (by simp[f]);have:=a5.o;simp;omega)).Y (ba.tq aP);have ao:=bg.Z aP (by simp);rw[aV]at af;have⟨bY,aq,bK,bN⟩:=gu aV ao (ba.tq aP) bA;have bf:=b6.o;clear aV aP r bg ao ba bA
    go_wp2_with(at_builtin;refine ka rfl rfl rj rfl rfl af (.slice g5 n c8) rfl ?c1 rfl ?c3 ?c4 ?_)
    case c1=>exact bs.X 0
    case c3=>rw[bf];omega
    case c4=>rw[bf];omega
    intro g6 b7 w9 an au;rw[<-bY.o]at au;have bD:=q.o.next ad.o a5.o bU.o bi.o bK.o bN.o aq.o an au;have bR:=gd bD;clear bD au an af bs bf;go_wp2_with fail
    go_roundg j
    .exact⟨i+1,[g6],_,_,by go_num,by omega,bR,gd (by rw[iH,if_neg ad.o,zC,<-HK.o];exact bP.o)⟩
    .omega
open Go.RowKit Go.Maps
def rZ(C:List (List Int))(k:Nat)(c:List Int):Option Lit:=if c∈C.take k then some (.int .i64 (C.idxOf c:Nat))else none
def oW(n d:Nat)(w:World)(M:Nat)(C:List (List Int))(k:Nat):Prop:=ju prog 146 3 mB (oF n d) w M k (rZ C k)
theorem KB(n d:Nat)(w:World)(C:List (List Int)):oW n d (w.alloc (.map #[] 0)) w.heap.size C 0:=by
 have h:=ju.made w prog 146 3 mB (oF n d);have e:rZ C 0=λ_=>none:=by
  funext c
  unfold rZ;rw[if_neg (by simp)]
 unfold oW;rw[e];exact h
theorem LP{n d:Nat}{w:World}{M:Nat}{C:List (List Int)}(h:oW n d w M C C.length)(l:n<=4)(f:d<=16){c:List Int}(e:oF n d c)(j:c∈C):(Instr.lookup 151 (.map (some M)) (mB c) true).run prog w=.ok (.tuple #[.int .i64 (C.idxOf c:Nat),.bool true]) w:=by
 refine ju.look_int h (xr l f) xi underlying151 underlying3 (ON w) e ?_;unfold rZ;rw[zN,if_pos j]
theorem KC{n d:Nat}{w:World}{M:Nat}{C:List (List Int)}(h:oW n d w M C k)(A:n<=4)(t:d<=16)(l:k<C.length)(z:k<1000)(m:C.Nodup)(s:oF n d (C.getD k [])):∃w',(Instr.mapUpdate 151 (.map (some M)) (mB (C.getD k [])) (.int .i64 k)).run prog w=.ok () w'/\oW n d w' M C (k+1)/\gg [M] w w':=by
 obtain⟨w',f,j,r⟩:=ju.store h (xr A t) xi underlying151 (by unfold maxLen;omega) s (plainElem_int underlying3 (WalkArith.wf_i64 (n:=(k:Int)) (by omega)));refine⟨w',f,?_,r⟩;have y:C.getD k []=C[k]:=by rw[zD,zF l];rfl
 have q:C.idxOf (C.getD k [])=k:=by rw[y];exact m.idxOf_getElem k l
 have e:(λx=>if x=C.getD k []then some (Lit.int .i64 k)else rZ C k x)=rZ C (k+1):=by
  funext x
  unfold rZ;rw[FV l];by_cases f:x=C.getD k []
  .rw[if_pos f,if_pos (by simp[f]),f,q]
  .by_cases j:x∈C.take k
   .rw[if_neg f,if_pos j,if_pos (by simp[j])]
   .rw[if_neg f,if_neg j,if_neg (by simp only[zP,zU];exact λh=>h.elim j f)]
 unfold oW;rw[<-e];exact j
theorem Et{p:qc}{i:Nat}(e:i<p.W*p.H):(jc p)[i]?=some (((ic p).idxOf (iJ p i):Nat):Int):=by
 unfold jc u9;rw[zW,zW,getElem?_range e];rfl
theorem MY{w:World}{p:qc}{g o:Nat}{B:Nat->Option Addr}{c:Nat->Nat}{G:List Nat}(cap:Nat)(h:ip w p g o B c G)(l:Nat)(D:l8 w p.P.length p.d (ic p) gL oL BL cL GL):Calls prog 70 #[gW p g o cap,mC p.P.length p.d (ic p).length gL oL l] w λe w'=>∃g9,e=.returned (.tuple #[.slice (some ⟨g9,0,none⟩) (p.W*p.H) (p.W*p.H),.bool true])/\gv w' 3 (.slice (some ⟨g9,0,none⟩) (p.W*p.H) (p.W*p.H)) g9 ((jc p).map vi)/\gg [] w w'/\w.heap.size<=g9:=by
 have L:=h.ok;have O:=D.ok;have V:∀w',gg [] w w'->_:=λw' (hc':gg [] w w')=>oJ cap (h.Y hc');have H:∀w',gg [] w w'->_:=λw' (hc':gg [] w w')=>xK l (D.Y hc');have⟨n,hn⟩:=zX p.P.length;have⟨N,hN⟩:=zX (p.W*p.H);have⟨m,hm⟩:=zX ((ic p).length);have bl:n<=4:=by rw[hn];exact L.n1
 have bi:=L.d1;have bO:N<=4096:=by rw[hN];exact L.area
 have bU:m<=256:=by rw[hm];exact O.c1
 have A:∀i w',i<N->gg [] w w'->Calls prog 96 #[gW p g o cap,.int .i64 i] w' λe w''=>e=.returned (mB (iJ p i))/\gg [] w' w'':=λi w' f hc=>FJ cap (h.Y hc) i (by rw[<-hN];exact f);have bg:∀i,oF n p.d (iJ p i):=λi=>⟨by rw[hn];exact oY p i,Bu L i⟩;have J:∀k,k<m->oF n p.d ((ic p).getD k []):=λk R=>⟨by rw[hn];exact O.len _ (jQ (by rw[<-hm];exact R)),O.smp _ (jQ (by rw[<-hm];exact R))⟩;have X:∀i,i<N->iJ p i∈ic p:=λi f=>(qB p _).2 ⟨i,by rw[<-hN];exact f,rfl⟩;have a6:=O.nd;have a4:=ud p;have aZ:∀i,i<N->(jc p)[i]?=some (((ic p).idxOf (iJ p i):Nat):Int):=λi f=>Et (by rw[<-hN];exact f);have a5:∀i,i<N->(ic p).idxOf (iJ p i)<m:=λi f=>by rw[hm];exact idxOf_lt_length_of_mem (X i f)
 have bV:=kg (P:=prog) iO rfl .i64 .i64 N (by omega) (by omega);have⟨C,hC⟩:=zX (ic p);rw[<-hC]at D H J X a6 aZ a5 hm⊢;rw[<-hN]at a4⊢;unfold mC at H⊢;unfold gW at V A⊢;rw[<-hn]at V A H D⊢;rw[<-hm]at H⊢;have⟨w1,az⟩:=zX ((w.alloc (.cells #[p.W,p.H,p.d,.slice (some ⟨g,o,none⟩) n cap] 46)).alloc (.cells #[p.d,n,.slice (some ⟨gL,oL,none⟩) m l] 117));have⟨X2,aq⟩:=zX w.heap.size;have⟨X3,aE⟩:=zX (X2+1);have aY:iF w1 X2 (.int .i64 p.W) (.int .i64 p.H) (.int .i64 p.d) (.slice (some ⟨g,o,none⟩) n cap):=⟨RG az aq⟩;have U:lK w1 X3 (.int .i64 p.d) (.int .i64 n) (.slice (some ⟨gL,oL,none⟩) m l):=⟨by rw[az,aE,aq];exact gn.new2 w _ _ _⟩;have bd:=RF az;have bP:(p.W:Int)*(p.H:Int)=(N:Int):=by rw[hN];simp
 have HX:gh (X2=w.heap.size/\X3=X2+1):=gd ⟨aq,aE⟩;have⟨ah,bJ,bK,bG⟩:=gu U.blk.lt aq aE az;have⟨aB,aK,ac,bw⟩:=gu aY U bd V;have⟨aN,bC,bq,bp⟩:=gu H A bg J;have⟨aO,bB,aM,bv⟩:=gu X a6 a4 aZ;have⟨bx,aP⟩:=gy a5 D;have a9:gh (m=C.length):=gd hm;have aQ:=gd D.lt;have bW:=@run_makeMap prog;obtain⟨r,s,t,y⟩:=aY.cells;obtain⟨b0,b1,b2⟩:=U.cells;clear az aY U bd V H A bg J X a6 a4 aZ a5 L O h D hn hN hm aq aE hC;go_enter func70,ntmps70;go_wp2_with fail;rw[<-bG.o,<-bJ.o,<-bK.o];refine(aN.o w1 ac.o).mono ?_;rintro e w2 ⟨rfl,aU⟩;obtain⟨r,s,t,y⟩:=(aB.o.Y aU).cells;have an:=gd aU;clear aU;go_wp2_with fail;refine(bw.o w2 (ac.o.tq an.o)).mono ?_;rintro e w3 ⟨rfl,ba⟩;have ad:=gd (an.o.tq ba);obtain⟨r,s,t,y⟩:=(aB.o.Y ad.o).cells;obtain⟨b0,b1,b2⟩:=(aK.o.Y ad.o).cells;have⟨w4,aA⟩:=zX (w3.alloc (.map #[] 0));have⟨M,hM⟩:=zX w3.heap.size;have bb:=H4 aA;have aX:oW n p.d w4 M C 0:=by rw[aA,hM];exact KB _ _ _ _
 have be:w1.heap.size<=M:=by rw[hM];exact ad.o.size
 have⟨bH,HM,bA,ao⟩:=gu aA hM aX be;have⟨bz,af⟩:=gy (ju.lt aX) (ad.o.tq bb);obtain⟨d0,d1,d2⟩:=(aK.o.Y af.o).cells;rw[aA]at d0 d1 d2;clear ba aA hM bb aX be;go_wp2_with fail;rw[<-bH.o,<-HM.o];clear r s t y b0 b1 b2 d0 d1 d2
 go_loopg [7,8,40] m (λj v7 v8 v40 wr=>∃k:Nat,v40=.int .i64 k/\k+j=m/\gh (oW n p.d wr M C k)/\gh (gg [M] w4 wr))
 .exact⟨0,rfl,by omega,bA,gd (zR _ _)⟩
 obtain⟨k,rfl,bT,E,I⟩:=hrel;have aj:∀wz,gg [M] w4 wz->l8 wz n p.d C gL oL BL cL GL:=λwz hz=>((aP.o.Y ac.o).Y af.o).Z hz (λx hx hm=>by
  have:=aQ.o x hx
  have:=ac.o.size
  have:=ao.o
  simp at hm;omega)
 rcases gk with _|j
 .obtain rfl:k=m:=by omega
  have t8:decide ((k:Int)<(k:Int))=false:=by simp
  have z:∀x,x<w1.heap.size->x∉[M]:=λx hx hm=>by simp at hm;have:=ao.o;omega
  obtain⟨r,s,t,y⟩:=((aB.o.Y af.o).Z I.o (z X2 (by have:=HX.o;have:=ah.o;omega))).cells;have⟨g9,aG⟩:=zX wr.heap.size;have⟨w5,aJ⟩:=zX (wr.alloc (.cells (Array.replicate N (Value.int .i64 0)) 3));have ax:gv w5 3 (.slice (some ⟨g9,0,none⟩) N N) g9 ((ia [] N).map vi):=by
   have:=gv.zeros wr N (by omega)
   rw[toArray_replicate]at this;rw[aJ,aG];exact this
  have aV:=H4 aJ;have bm:oW n p.d w5 M C C.length:=by
   have:=ju.Y E.o aV
   rw[a9.o]at this;exact this
  have ar:M<g9:=by rw[aG];exact Nat.lt_of_lt_of_le bz.o I.o.size
  have⟨bI,bs,aR⟩:=Q9 aJ aG ax;have aL:=gd (I.o.tq (aV.mono (F':=[M]) (by simp)));have⟨bE,ag⟩:=gy bm ar;clear aJ aG ax aV bm ar aj z E;go_wp2_with fail;rw[<-bI.o,<-bs.o];clear r s t y
  go_loopg [10,11,12,58,61] N (λj2 v10 v11 v12 v58 v61 wr=>∃i:Nat,v58=.int .i64 i/\i+j2=N/\gh (gv wr 3 (.slice (some ⟨g9,0,none⟩) N N) g9 ((ia ((jc p).take i) N).map vi))/\gh (oW n p.d wr M C C.length)/\gh (gg [M,g9] w4 wr))
  .exact⟨0,rfl,by omega,aR,bE,gd (aL.o.mono (by simp +contextual))⟩
  obtain⟨i,rfl,bS,HR,E,T⟩:=hrel;have bL:w1.heap.size<=g9:=by have:=ag.o;have:=ao.o;omega
  have z:∀x,x<w1.heap.size->x∉[M,g9]:=λx hx hm=>by simp at hm;have:=ao.o;have:=ag.o;omega
  rcases gk with _|j2
  .obtain rfl:i=N:=by omega
   have t9:decide ((i:Int)<(i:Int))=false:=(by simp);have hE:=(ac.o.tq af.o).trans T.o (λx hx=>.inr (by have Y:¬x<w1.heap.size:=λh=>z x h hx;have:=ac.o.size;omega));have hr:=HR.o;have e:ia ((jc p).take i) i=jc p:=by
    have:=uw (jc p)
    rw[aM.o]at this;exact this
   rw[e]at hr;go_wp2_with fail;refine bodyPost_ret (v:=.tuple #[.slice (some ⟨g9,0,none⟩) i i,.bool true]) (by simp[results,results70,go_sem]) rfl ?_;exact⟨g9,rfl,hr,hE,by have:=ac.o.size;omega⟩
  .have f:i<N:=by omega
   have bh:gg [] w wr:=(ac.o.tq af.o).trans T.o (λx hx=>.inr (by have Y:¬x<w1.heap.size:=λh=>z x h hx;have:=ac.o.size;omega));have A:=bC.o i wr f bh;obtain⟨r,s,t,y⟩:=((aB.o.Y af.o).Z T.o (z X2 (by have:=HX.o;have:=ah.o;omega))).cells;have au:((jc p).take i).length=i:=(by rw[zI,aM.o];omega);have bN:=bx.o i f;have⟨x,hx⟩:=zX (C.idxOf (iJ p i));rw[<-hx]at bN;have Q:(jc p).take (i+1)=(jc p).take i++[(x:Int)]:=by
    have Y:i<(jc p).length:=(by rw[aM.o];exact f);have Z:=bv.o i f;rw[zF Y,<-hx]at Z;injection Z with Z;rw[take_succ_eq_append_getElem Y,Z]
   have⟨wo,a8⟩:=zX wr;subst a8;have⟨bu,aS,aD⟩:=Q9 hx Q au;clear bh hx Q au bL z;go_wp2_with fail;refine A.mono ?_;rintro e w6 ⟨rfl,K⟩;have bM:=LP (ju.Y E.o K) bl bi (bq.o i) (aO.o i f);rw[<-bu.o]at bM;have a7:=HR.o.Z K (by simp);have bj:=a7.fill_cell (by rw[aD.o];exact f);rw[aD.o]at bj;obtain⟨bQ,bR⟩:=bj;have W:=a7.fill (by rw[aD.o];exact f) (x:Int);rw[aD.o,<-aS.o]at W;have bf:=E.o.Y K;have bD:gh (oW n p.d (w6.setCell ⟨g9,i,none⟩ (.int .i64 x)) M C C.length):=gd (ju.Z bf ((zR [g9] w6).zs i _) (by simp;have:=ag.o;omega));have bF:=gd W;have bn:gh (gg [M,g9] w4 (w6.setCell ⟨g9,i,none⟩ (.int .i64 x))):=gd ((T.o.tq (K.mono (by simp))).setCell (.inl (by simp)) _);clear W K a7 bf A r s t y;go_wp2_with fail
   go_roundg j2
   .exact⟨i+1,by go_num,by omega,bF,bD,bn⟩
   .omega
 .have R:k<m:=by omega
  have bk:k<C.length:=by rw[<-a9.o];exact R
  obtain⟨b,q,e1,-,e3⟩:=EC (aj wr I.o) bk;obtain⟨b0,b1,b2⟩:=((aK.o.Y af.o).Z I.o (by simp;have:=HX.o;have:=ah.o;have:=ao.o;omega)).cells;have aa:=λwz (hz:gg [] wr wz)=>KC (ju.Y E.o hz) bl bi bk (by omega) bB.o (bp.o k R);have⟨cc,J⟩:=zX (C.getD k []);rw[<-J]at e3 aa;have⟨aT,br⟩:=gy aa e3;have⟨wo,a8⟩:=zX wr;subst a8;clear J e3 aa aj;go_wp2_with fail;refine(br.o _ (zR _ _)).mono ?_;rintro e wA ⟨rfl,aW⟩;obtain⟨wB,W,Q,bc⟩:=aT.o wA aW;have aS:=gd Q;have bo:gh (gg [M] w4 wB):=gd ((I.o.tq (aW.mono (by simp))).tq bc);clear Q aW bc;go_wp2_with fail
  go_roundg j
  .exact⟨k+1,by go_num,by omega,aS,bo⟩
  .omega
theorem Oo{p:qc}{i:Nat}(f:k<p.P.length)(e:i<p.W*p.H):((ic p).getD ((ic p).idxOf (iJ p i)) []).getD k 0=(p.P.getD k []).getD i 0:=by
 have h:iJ p i∈ic p:=(qB p _).2 ⟨i,e,rfl⟩;have e3:(ic p).getD ((ic p).idxOf (iJ p i)) []=iJ p i:=by
  rw[zD,zF (idxOf_lt_length_of_mem h),getElem_idxOf];rfl
 rw[e3,GD p i f]
theorem Op{w:World}{p:qc}(f:p.Ok)(r:Nat)(hp:l8 w p.P.length p.d (ic p) gL oL BL cL GL){A:Option Addr}(cap:Nat)(hl:gz vi w A (jc p)):Calls prog 91 #[.slice A (jc p).length cap,p.W,p.H,mC p.P.length p.d (ic p).length gL oL r] w (lA w p):=by
 unfold lA gW;have bu:=hp.ok;have Q:∀w',gg [] w w'->_:=λw' (hc':gg [] w w')=>xK r (hp.Y hc');have aB:=λi (s:i<p.P.length)=>f.len _ (jQ s);have az:∀i,i<p.W*p.H->(ic p).idxOf (iJ p i)<(ic p).length:=λi s=>idxOf_lt_length_of_mem ((qB p _).2 ⟨i,s,rfl⟩);have X:∀i,i<p.W*p.H->∃(x a o:Nat),x<(ic p).length/\A=some ⟨a,o,none⟩/\∀wz,gg [] w wz->wz.cell? ⟨a,o+i,none⟩=some (.int .i64 x)/\∃b q c,wz.cell? ⟨gL,oL+x,none⟩=some (.slice (some ⟨b,q,none⟩) p.P.length c)/\∀k,k<p.P.length->wz.cell? ⟨b,q+k,none⟩=some (.int .i64 ((p.P.getD k []).getD i 0)):=λi s=>by
  have H:=Et s;have h2:i<(jc p).length:=by rw[ud];exact s
  obtain⟨a,o,rfl,br,ay⟩:=hl.ex (by omega);refine⟨(ic p).idxOf (iJ p i),a,o,az i s,rfl,λwz z=>⟨(World.cell?_of_block (w:=w) (z.block a br (by simp))).trans (ay i _ H),?_⟩⟩;have a2:=hp.Y z;obtain⟨b,q,e1,-,e3⟩:=a2.at_ (az i s);refine⟨b,q,_,(a2.X _ (az i s)).trans (by rw[e1]),λk t=>?_⟩;rw[e3 k t,Oo t s]
 have bo:=f.area;have aZ:=ud p;have⟨n,hn⟩:=zX p.P.length;have⟨N,hN⟩:=zX (p.W*p.H);have⟨m,hm⟩:=zX ((ic p).length);have bI:n<=4:=by rw[hn];exact f.n1
 unfold mC at Q⊢;rw[aZ];rw[<-hn]at Q X aB⊢;rw[<-hm]at Q X⊢;rw[<-hN]at X aB bo⊢;have bH:=kg (P:=prog) rj rfl .i64 .i64 n (by omega) (by omega);have bs:=kg (P:=prog) iO rfl .i64 .i64 N (by omega) (by omega);have bC:(p.W:Int)*(p.H:Int)=(N:Int):=by rw[hN];simp
 have bB:=f.w1;have bA:=f.h1;have bp:=f.w0;have bn:=f.h0;have t1:=Ra p.W 1 (by omega);have t2:=Ra 64 p.W (by omega);have t3:=Ra p.H 1 (by omega);have t4:=Ra 64 p.H (by omega);have t5:((N:Int) != (N:Int))=false:=by simp
 have⟨w1,aq⟩:=zX ((w.alloc (.cells #[p.d,n,.slice (some ⟨gL,oL,none⟩) m r] 117)).alloc (.cells #[(0:Int),(0:Int),(0:Int),.slice none 0 0] 46));have⟨X7,aj⟩:=zX w.heap.size;have⟨R,hR⟩:=zX (X7+1);have aH:lK w1 X7 (.int .i64 p.d) (.int .i64 n) (.slice (some ⟨gL,oL,none⟩) m r):=⟨RG aq aj⟩;have aI:iF w1 R (.int .i64 0) (.int .i64 0) (.int .i64 0) (.slice none 0 0):=⟨by rw[aq,hR,aj];exact gn.new2 w _ _ _⟩;have aW:=RF aq;obtain⟨K,L,O⟩:=aH.cells;have aT:gh (X7=w.heap.size/\R=X7+1/\R<w1.heap.size):=gd ⟨aj,hR,aI.blk.lt⟩;have⟨bg,bk,bd,aC⟩:=gu aq aj hR aH;have⟨a5,af,aD,aS⟩:=gu aI aW Q X;have au:=gd aB;have av:gh (n=p.P.length):=gd hn;have bc:=gd f;clear aq aj hR aH aI aW Q X aB hn f bu az hl aZ hp hm hN bp bn;go_enter func91,ntmps91;go_wp2_with fail;rw[<-bg.o,<-bk.o,<-bd.o];refine(aD.o w1 af.o).mono ?_;rintro e w2 ⟨rfl,aV⟩;have T:=gd aV;clear aV K L O;go_wp2_with fail
 go_loopg [11,46] N (λj v11 v46 wr=>∃i:Nat,v46=.int .i64 i/\i+j=N/\w2=wr)
 .exact⟨0,rfl,by omega,rfl⟩
 obtain⟨i,rfl,bF,rfl⟩:=hrel;obtain⟨K,L,O⟩:=(aC.o.Y T.o).cells;rcases gk with _|j
 .obtain rfl:i=N:=by omega
  have t6:decide ((i:Int)<(i:Int))=false:=by simp
  have⟨wA,aN⟩:=zX (w2.alloc (.cells (Array.replicate n (Value.slice none 0 0)) 22));have⟨gC,aK⟩:=zX w2.heap.size;have Y:j1 w2 [] n gC wA [] [] []:=by
   have:=j1.start (w0:=w2) (E:=[]) (n:=n) (by omega) (by simp)
   rw[toArray_replicate]at this;rw[aK,aN];exact this
  have⟨bf,bh,a8⟩:=Q9 Y aN aK;clear aN aK Y t6;go_wp2_with fail;rw[<-bh.o,<-a8.o];clear K L O
  go_loopg [13,14,15,66] n (λj v13 v14 v15 v66 wr=>∃(k:Nat) (xs:List Value) (gs:List Nat),v66=.int .i64 k/\k+j=n/\gh (j1 w2 [] n gC wr (p.P.take k) xs gs))
  .exact⟨0,[],[],rfl,by omega,bf⟩
  obtain⟨k,xs,gs,rfl,bG,D⟩:=hrel;have U:gg [] w1 wr:=T.o.tq D.o.Z;obtain⟨K,L,O⟩:=(aC.o.Y U).cells;rcases gk with _|j
  .obtain rfl:k=n:=by omega
   have t7:decide ((k:Int)<(k:Int))=false:=(by simp);have Z:=D.o;rw[zT (by rw[<-av.o];exact zQ _)]at Z;have ae:=Z.row;rw[<-av.o,Nat.sub_self,replicate_zero,append_nil]at ae;have an:iL wr p gC k xs gs:=⟨bc.o,by rw[<-av.o];exact ae,Z.pl⟩;have z:=a5.o.Y U;obtain⟨z0,z1,z2,z3⟩:=z.cells;have⟨f0,f1,f2,f3⟩:=RJ z.blk 0 1 2 3;have ah:gh (∀x∈gC::gs,w1.heap.size<=x):=gd (λx hx=>by have:=Z.new x hx;have:=T.o.size;omega);have⟨aE,HZ,a6⟩:=Q9 an z (af.o.tq U);clear Z ae an z U;go_wp2_with fail;refine qF HZ.o ?_;intro V hV hY;obtain⟨x0,x1,x2,x3⟩:=hV.cells;refine bodyPost_ret (v:=.tuple #[.agg #[.int .i64 p.W,.int .i64 p.H,.int .i64 p.d,.slice gC k k],(0:Int)]) (by simp[results,results91,go_sem,x0,x1,x2,x3]) rfl ?_;have aX:∀x∈gC::gs,x∉[R]:=λx hx hm=>by have:=ah.o x hx;have:=aT.o;simp at hm;omega
   exact⟨gC,k,xs,gs,rfl,aE.o.Z hY (aX gC (by simp)) (λx hx=>aX x (by simp[hx])),a6.o.trans hY (λx hx=>.inr (by simp at hx;have:=aT.o;omega)),λx hx=>by have:=ah.o x hx;have:=af.o.size;omega⟩
  .have t:k<n:=by omega
   have t7:=jo k n (by omega);have a0:k<p.P.length:=(by rw[<-av.o];exact t);have y:(p.P.take k).length=k:=(by rw[zI];omega);obtain⟨_,-,-,-,ay,bq⟩:=D.o.row.open_;have aP:xs.length=k:=(by rw[D.o.pl.lx,y]);have y1:wr.cell? ⟨gC,k,none⟩=some (.slice none 0 0):=by
    rw[ay k (by rw[zC,zV,aP,y];omega),zS (by omega),getElem?_replicate,if_pos (by omega)]
   have aY:=D.o.row.lt;have⟨wB,ar⟩:=zX (wr.alloc (.cells (Array.replicate i (Value.int .i64 0)) 3));have⟨g5,aJ⟩:=zX wr.heap.size;have aw:=H4 ar;have a3:gv wB 3 (.slice g5 i i) g5 ((ia [] i).map vi):=by
    have:=gv.zeros wr i (by omega)
    rw[toArray_replicate]at this;rw[ar,aJ];exact this
   have aA:=D.o.next (by rw[y];exact t) aw (by omega) a3;rw[y]at aA;have y2:wB.cell? ⟨gC,k,none⟩=some (.slice none 0 0):=(World.cell?_of_block (w:=wr) (aw.block gC aY (by simp))).trans y1;have f2:wB.frozen? ⟨gC,k,none⟩=false:=by
    obtain⟨_,_,_,_,_,ax⟩:=(D.o.row.Z aw (by simp)).open_;exact ax k
   have⟨wD,aO⟩:=zX (wB.setCell ⟨gC,k,none⟩ (.slice g5 i i));rw[<-aO]at aA;have aQ:(xs++[Value.slice g5 i i])[k]?=some (.slice g5 i i):=(by rw[<-aP];simp);have al:gs.length=k:=(by rw[D.o.pl.lg,y]);have aL:(gs++[g5])[k]?=some g5:=(by rw[<-al];simp);have ad:∀wz l,j1 w2 [] n gC wz (p.P.take k++[l]) (xs++[Value.slice g5 i i]) (gs++[g5])->wz.cell? ⟨gC,k,none⟩=some (.slice g5 i i)/\gv wz 3 (.slice g5 i i) g5 (l.map vi):=λwz l h=>by
    obtain⟨g,c,H,h2,I,J,_⟩:=h.last (by rw[y];exact t);rw[y]at H I J;rw[aQ]at I;rw[aL]at J;injection J with J;subst J;injection I with I;rw[<-I]at H h2;exact⟨H,h2⟩
   have⟨bl,a9,ac,bi⟩:=gu aQ aL ad ar;have⟨a7,bj⟩:=gy aJ aO;have bb:gh (j1 w2 [] n gC wD (p.P.take k++[ia ((p.P.getD k []).take 0) i]) (xs++[Value.slice g5 i i]) (gs++[g5])):=gd (by rw[take_zero];exact aA);have⟨aU,aR⟩:=gy y a0;rw[ar]at y2 f2;clear ay bq aP aY aw a3 aA ar aJ aO aQ al aL ad y a0 K L O U;have⟨wo,bw⟩:=zX wr;subst bw;go_wp2_with fail;rw[<-a7.o,<-bi.o,<-bj.o];clear y1 y2 f2
   go_loopg [14,15,77] i (λj2 v14 v15 v77 wr2=>∃q:Nat,v77=.int .i64 q/\q+j2=i/\gh (j1 w2 [] n gC wr2 (p.P.take k++[ia ((p.P.getD k []).take q) i]) (xs++[Value.slice g5 i i]) (gs++[g5])))
   .exact⟨0,rfl,by omega,bb⟩
   obtain⟨q,rfl,bJ,HK⟩:=hrel;rcases gk with _|j2
   .obtain rfl:q=i:=by omega
    have t8:decide ((q:Int)<(q:Int))=false:=(by simp);have aM:=HK.o;have e5:p.P.take k++[ia ((p.P.getD k []).take q) q]=p.P.take (k+1):=by
     rw[zT (l:=p.P.getD k []) (by rw[au.o k t];exact zQ _),q7 (au.o k t),take_succ_eq_append_getElem aR.o,zD,zF aR.o];rfl
    rw[e5]at aM;have ba:=gd aM;clear aM e5;go_wp2_with fail
    go_roundg j
    .exact⟨k+1,_,_,by go_num,by omega,ba⟩
    .omega
   .have hq:q<i:=by omega
    have t8:=jo q i (by omega);obtain⟨y5,ao⟩:=ac.o wr _ HK.o;have aG:gg [] w1 wr:=T.o.tq HK.o.Z;obtain⟨x,a,o,bz,rfl,W⟩:=aS.o q hq;obtain⟨cx,bx,qx,c',bm,cv⟩:=W wr (af.o.tq aG);specialize cv k t;obtain⟨K,L,O⟩:=(aC.o.Y aG).cells;have a1:((p.P.getD k []).take q).length=q:=(by rw[zI,au.o k t];omega);have⟨v,hv⟩:=zX ((p.P.getD k []).getD q 0);rw[<-hv]at cv;have e6:(ia ((p.P.getD k []).take q) i).set q v=ia ((p.P.getD k []).take (q+1)) i:=by
     have h5:=sX (done:=(p.P.getD k []).take q) (n:=i) (by omega) v;rw[a1]at h5;have h7:q<(p.P.getD k []).length:=(by rw[au.o k t];exact hq);rw[h5,take_succ_eq_append_getElem h7,hv,zD (l:=p.P.getD k []),zF h7];rfl
    have Y:∀wz,gg [] wr wz->j1 w2 [] n gC (wz.setCell ⟨g5,q,none⟩ (.int .i64 v)) (p.P.take k++[ia ((p.P.getD k []).take (q+1)) i]) (xs++[Value.slice g5 i i]) (gs++[g5])/\(∃x,wz.cell? ⟨g5,q,none⟩=some (.int .i64 x))/\wz.frozen? ⟨g5,q,none⟩=false:=λwz z=>by
     have H:=HK.o.turn z;obtain⟨h2,I⟩:=ac.o wz _ H;have J:=H.fill (by rw[aU.o];exact bl.o) (by rw[aU.o];exact a9.o) I (j:=q) (by rw[nM (by omega)];exact hq) v;rw[e6]at J;obtain⟨_,_,_,_,h8,h9⟩:=I.open_;refine⟨J,?_,h9 q⟩;have ax:q<(ia ((p.P.getD k []).take q) i).length:=(by rw[nM (by omega)];exact hq);refine⟨(ia ((p.P.getD k []).take q) i)[q],?_⟩;rw[h8 q (by rw[zE];exact ax),zW,zF ax];rfl
    have aF:=gd Y;clear a1 ao Y e6 hv aG W;go_wp2_with fail;refine i9 14 (by kernel_rfl) (by kernel_rfl) ?_;simp only[take_succ_cons,take_zero,drop_succ_cons,drop_zero]
    repeat(go_big_quiet_step (fail))
    refine wpQuiet_nil ?_;intro _ bv;obtain⟨nq,rfl⟩:=bv;obtain⟨a4,⟨x6,bD⟩,bE⟩:=aF.o _ ((zR [] wr).drewN nq);have be:=gd a4;clear a4 cx bm cv K L O y5;go_wp2_with fail
    go_roundg j2
    .exact⟨q+1,by go_num,by omega,be⟩
    .omega
 .have s:i<N:=by omega
  obtain⟨x,a,o,bz,rfl,W⟩:=aS.o i s;obtain⟨cx,-⟩:=W w2 (af.o.tq T.o);have t7:=Ra x 0 (by omega);have t9:decide (m<=x)=false:=zA (by omega);clear W;go_wp2_with fail
  go_roundg j
  .exact⟨i+1,by go_num,by omega,rfl⟩
  .omega
end Go.Proofs.YtifdlkoepaepiaaGreatDoor
