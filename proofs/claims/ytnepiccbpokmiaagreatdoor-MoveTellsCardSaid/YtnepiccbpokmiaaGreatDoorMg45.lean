/- Lemmas. -/
import Derived.Test.YtnepiccbpokmiaaGreatDoorMg44
import Derived.ChangeKeysEq
set_option linter.all false
set_option maxHeartbeats 4000000
set_option maxRecDepth 100000
namespace Go.Proofs.YtnepiccbpokmiaaGreatDoor
open Tryz List Nat Go.RowKit
variable {D l now old q:List Int}{G G' bs:List Nat}{H W d g g' h i k o o':Nat}{c c':Nat->Nat}{B B':Nat->Option Addr}{w:World}
def gC(l:List Sq)(i:Nat):Sq:=l.getD i ⟨0,0,0,0⟩
theorem BM:∀(l:List Sq) (i:Nat),i<l.length -> (l.flatMap nE)[i*4]?=some (.int .i64 (gC l i).x)/\(l.flatMap nE)[i*4+1]?=some (.int .i64 (gC l i).y)/\(l.flatMap nE)[i*4+2]?=some (.int .i64 (gC l i).w)/\(l.flatMap nE)[i*4+3]?=some (.int .i64 (gC l i).h)
 | [],i,h=>by simp at h
 | s::l,0,_=>by
  rw[flatMap_cons];exact⟨rfl,rfl,rfl,rfl⟩
 | s::l,i+1,h=>by
  have j:(nE s).length=4:=rfl;obtain⟨a,b,c,d⟩:=BM l i (by simpa using h);have e:gC (s::l) (i+1)=gC l i:=rfl;rw[flatMap_cons,e];refine⟨?_,?_,?_,?_⟩
  .rw[zS (by omega),j,show(i+1)*4-4=i*4 by omega];exact a
  .rw[zS (by omega),j,show(i+1)*4+1-4=i*4+1 by omega];exact b
  .rw[zS (by omega),j,show(i+1)*4+2-4=i*4+2 by omega];exact c
  .rw[zS (by omega),j,show(i+1)*4+3-4=i*4+3 by omega];exact d
theorem oE{A:Option Addr}{l:List Sq}(j:gu (λv=>v) w A (l.flatMap nE))(hi:i<l.length):∃g o,A=some ⟨g,o,none⟩/\w.cell? ⟨g,o+i*4,none⟩=some (.int .i64 (gC l i).x)/\w.cell? ⟨g,o+i*4+1,none⟩=some (.int .i64 (gC l i).y)/\w.cell? ⟨g,o+i*4+2,none⟩=some (.int .i64 (gC l i).w)/\w.cell? ⟨g,o+i*4+3,none⟩=some (.int .i64 (gC l i).h):=by
 have m:=zx l;obtain⟨g,o,e,_,h⟩:=j.ex (by omega);obtain⟨a,b,c,d⟩:=BM l i hi;exact⟨g,o,e,h _ _ a,by have:=h _ _ b;rwa [<-Nat.add_assoc]at this,by have:=h _ _ c;rwa [<-Nat.add_assoc]at this,by have:=h _ _ d;rwa [<-Nat.add_assoc]at this⟩
def iB(W H:Nat)(s:Sq)(m:Int × Int):Prop:=-4<=m.1/\m.1<=4/\-4<=m.2/\m.2<=4/\0<=(s.x:Int)+m.1/\0<=(s.y:Int)+m.2/\(s.x:Int)+m.1+s.w<=W/\(s.y:Int)+m.2+s.h<=H
def gV(p:gH)(i:Nat)(s:Sq)(m:Int × Int):List Int:=jb (p.P.getD i []) p.W ((s.x:Int)+m.1).toNat ((s.y:Int)+m.2).toNat s.w s.h
theorem ka(p:gH)(i:Nat)(s:Sq)(m:Int × Int):(gV p i s m).length=s.h*s.w:=pK _ _ _ _ _ _
theorem oA{p:gH}(h:p.Ok)(hi:i<p.P.length)(s:Sq)(m:Int × Int):gU p.d (gV p i s m):=yd (h.smp _ (mM hi)) _ _ _ _ _
def kF(now old:List Int)(d:Nat):Nat:=(List.zipWith (λa b=>(ii (a-b) d).natAbs) now old).sum
def iT(p q:gH)(s:Sq)(m:Int × Int):Nat:=((range q.P.length).map λi=>kF (gV q i s (0,0)) (gV p i s m) q.d).sum
def p9(p q:gH)(s:Sq)(m:Int × Int):Bool:=(range q.P.length).all λi=>decide (gV q i s (0,0)=gV p i s m)
def iM(p q:gH)(i:Nat)(s:Sq)(m:Int × Int):List Int:=oK (gV q i s (0,0)) (gV p i s m) q.d
theorem q7(p q:gH)(i:Nat)(s:Sq)(m:Int × Int):(iM p q i s m).length=s.w*s.h:=by
 unfold iM;rw[Kl (by rw[ka,ka]),ka,zY]
def my(D:List Int)(w h d:Nat):List Nat:=iz (kh D w h d) D w h d
def kC(m:Int × Int):List Nat:=gA (m.1+4).toNat 4++gA (m.2+4).toNat 4
def jq(p q:gH)(s:Sq)(m:Int × Int)(n:Nat):List Nat:=(range n).flatMap λi=>my (iM p q i s m) s.w s.h q.d
theorem rX(p q:gH)(s:Sq)(m:Int × Int)(n:Nat):jq p q s m (n+1)=jq p q s m n++my (iM p q n s m) s.w s.h q.d:=by
 unfold jq;rw[range_succ,flatMap_append];simp
def kA(p q:gH)(s:Sq)(m:Int × Int):List Nat:=
 if p9 p q s m=true then(if m=(0,0)then gA 0 2 else gA 1 2++kC m)else gA 2 2++(kC m++jq p q s m q.P.length)
def iD(p q:gH)(ss:List Sq)(ms:List (Int × Int))(n:Nat):List Nat:=(range n).flatMap λi=>kA p q (gC ss i) (ms.getD i (0,0))
theorem qg(p q:gH)(ss:List Sq)(ms:List (Int × Int))(n:Nat):iD p q ss ms (n+1)=iD p q ss ms n++kA p q (gC ss n) (ms.getD n (0,0)):=by
 unfold iD;rw[range_succ,flatMap_append];simp
theorem Hk{w:Nat}(r:1<=w)(m:1<=h)(s:1<=d)(e:d<=16)(p:w<=16)(j:h<=16)(n:D.length=w*h):0<(my D w h d).length/\(my D w h d).length<200000:=
 by
  have a:=ut (kh D w h d) D w h d;have b:=LC D w h d;have c:d*D.length<=16*(16*16):=by rw[n];exact zL e (zL p j)
  unfold my;unfold ja at a b;omega
theorem tK(p q:gH){s:Sq}(m:Int × Int)(b:1<=s.w)(a:1<=s.h)(t:s.w<=8)(r:s.h<=8)(e:1<=q.d)(j:q.d<=16):∀n,(jq p q s m n).length<=200000*n
 | 0=>by simp[jq]
 | n+1=>by
  rw[rX,zC];have u:=tK p q m b a t r e j n;have v:=(Hk (D:=iM p q n s m) b a e j (by omega) (by omega) (q7 _ _ _ _ _)).2;omega
theorem qU(m:Int × Int):(kC m).length=8:=by unfold kC;rw[zC,gJ,gJ]
theorem Gs(p q:gH){s:Sq}(m:Int × Int)(b:1<=s.w)(a:1<=s.h)(r:s.w<=8)(n:s.h<=8)(e:1<=q.d)(j:q.d<=16)(t:q.P.length<=4):(kA p q s m).length<=800010:=by
 unfold kA;split
 .split
  .rw[gJ];omega
  .rw[zC,gJ,qU];omega
 .have:=tK p q m b a r n e j q.P.length
  rw[zC,zC,gJ,qU];omega
theorem jK{ss:List Sq}(h:i<ss.length):gC ss i∈ss:=by
 unfold gC;rw[zD,zF h];exact zG h
theorem r7(p q:gH){ss:List Sq}(ms:List (Int × Int))(r:∀s∈ss,1<=s.w/\s.w<=8/\1<=s.h/\s.h<=8)(e:1<=q.d)(j:q.d<=16)(m:q.P.length<=4):∀n,n<=ss.length->(iD p q ss ms n).length<=800010*n
 | 0,_=>by simp[iD]
 | n+1,h=>by
  rw[qg,zC];have t:=r7 p q ms r e j m n (by omega);obtain⟨a,b,c,d⟩:=r _ (jK (i:=n) h);have u:=Gs p q (ms.getD n (0,0)) a c b d e j m;omega
def iV(s:Sq):Value:=.agg #[s.x,s.y,s.w,s.h]
theorem tv{p:gH}(cap:Nat)(h:gW w p g o B c G)(i:Nat)(hi:i<p.P.length)(s:Sq)(m:Int × Int)(x0:0<=(s.x:Int)+m.1)(x1:(s.x:Int)+m.1+s.w<=p.W)(y0:0<=(s.y:Int)+m.2)(y1:(s.y:Int)+m.2+s.h<=p.H)(sx4:s.x<=64)(sy4:s.y<=64):Calls prog 67 #[gN p g o cap,.int .i64 i,iV s,m.1,m.2] w λe C=>∃v F,e=.returned v/\gE C 3 v F ((gV p i s m).map vi)/\gf [] w C/\∀x∈F,w.heap.size<=x:=by
 have O:=h.ok;obtain⟨dx,dy⟩:=m;simp only at x0 x1 y0 y1⊢;unfold gN iV;have⟨W,hW⟩:=zX p.W;have⟨H,hH⟩:=zX p.H;have⟨d,hd⟩:=zX p.d;have⟨n,hn⟩:=zX p.P.length;obtain⟨sx,sy,sw,sh⟩:=s;simp only at x0 x1 y0 y1 sx4 sy4⊢;obtain⟨X,T⟩:∃X:Nat,(X:Int)=(sx:Int)+dx:=⟨((sx:Int)+dx).toNat,by omega⟩;obtain⟨Y,Z⟩:∃Y:Nat,(Y:Int)=(sy:Int)+dy:=⟨((sy:Int)+dy).toNat,by omega⟩;have aZ:X+sw<=W:=by omega
 have a1:Y+sh<=H:=by omega
 have aY:W<=64:=by rw[hW];exact O.w1
 have bc:H<=64:=by rw[hH];exact O.h1
 have⟨l,hl⟩:=zX (p.P.getD i []);have aP:l.length=W*H:=by rw[hl,hW,hH];exact h.len hi
 have aj:gV p i ⟨sx,sy,sw,sh⟩ (dx,dy)=jb l W X Y sw sh:=by
  unfold gV;simp only;rw[<-T,<-Z,<-hl,<-hW];rfl
 rw[aj];obtain⟨b,q,aD,hb,-⟩:=h.at_ hi;have ah:=h.cap i hi;have⟨N,hN⟩:=zX (W*H);have ai:∀C,gf [] w C->C.cell? ⟨g,o+i,none⟩=some (.slice (some ⟨b,q,none⟩) N (c i))/\gu vi C (some ⟨b,q,none⟩) l:=by
  intro C hc;have A:=(h.Y hc).X i hi;have E:=(h.Y hc).cells i hi;rw[aD]at A E;rw[<-hW,<-hH,<-hN]at A;exact⟨A,by rw[hl];exact E⟩
 rw[<-hW,<-hH,<-hN]at ah;have⟨M,hM⟩:=zX (sw*sh);have bd:M<=4096:=by rw[hM];exact zL (show sw<=64 by omega) (show sh<=64 by omega)
 have a6:(sw:Int)*(sh:Int)=(M:Int):=by rw[hM];simp
 have bm:=Ay (P:=prog) iJ rfl .i64 .i64 M (by omega) (by omega);rw[<-hW,<-hH,<-hd,<-hn];have aJ:gn (w.alloc (.cells #[W,H,d,.slice (some ⟨g,o,none⟩) n cap] 25)) w.heap.size 25 #[W,H,d,.slice (some ⟨g,o,none⟩) n cap]:=gn.new w _ _;have⟨wA,ad⟩:=zX ((w.alloc (.cells #[W,H,d,.slice (some ⟨g,o,none⟩) n cap] 25)).alloc (.cells #[sx,sy,sw,sh] 49));have aC:=rT ad;have aI:gn wA w.heap.size 25 #[W,H,d,.slice (some ⟨g,o,none⟩) n cap]:=by rw[ad];exact aJ.alloc _
 have aR:gn wA (w.heap.size+1) 49 #[sx,sy,sw,sh]:=by rw[ad];exact gn.new2 w _ _ _
 have⟨w1,an⟩:=zX (wA.alloc (.cells (replicate M (Value.int .i64 0)).toArray 3));have aa:gv w1 3 (.slice (some ⟨wA.heap.size,0,none⟩) 0 M) wA.heap.size []:=by rw[an];exact gv.room wA M (by omega)
 have aB:=jD an;have aS:wA.heap.size=w.heap.size+1+1:=by rw[ad,iO,iO]
 have⟨ak,aT,ax,al⟩:=gz aC aB aI aR;have⟨aW,HZ⟩:=gy aa aS;have aX:gh (w1=((w.alloc (.cells #[W,H,d,.slice (some ⟨g,o,none⟩) n cap] 25)).alloc (.cells #[sx,sy,sw,sh] 49)).alloc (.cells (Array.replicate M (Value.int .i64 0)) 3)):=gd (by rw[an,ad,toArray_replicate]);have ay:=gd ai;have bk:i<n:=by omega
 have⟨az,HN⟩:=gy aP hN;have eX:(sx:Int)+dx=(X:Int):=T.symm;have eY:(sy:Int)+dy=(Y:Int):=Z.symm;have⟨af,ae⟩:=gy a1 aZ;clear hW hH hd hn O T aj hl aP aD hb ai hM aJ ad an aa aB aC aI aR aS h hi hN x0 x1 y0 y1 Z;go_enter func67,ntmps67;go_wp2_with fail;rw[<-aX.o,<-HZ.o];have⟨YH,ag⟩:=zX (Y+sh);have a9:(Y:Int)+(sh:Int)=(YH:Int):=by omega
 have aq:=gd ag;have a2:YH<=64:=by have:=af.o;omega
 have bn:sh<=64:=by have:=af.o;omega
 have bh:Y<=64:=by have:=af.o;omega
 clear ag
 go_loopg [11,12,13] sh (λj v11 v12 v13 wr=>∃(k r:Nat) (F:List Nat),v12=.int .i64 r/\gh (r=Y+k)/\k+j=sh/\r+j=YH/\gh (gE wr 3 v11 F ((jb l W X Y sw k).map vi))/\gh (gf [] wA wr)/\gh (∀x∈F,wA.heap.size<=x))
 .exact⟨0,Y,[wA.heap.size],rfl,gd rfl,by omega,by have:=aq.o;omega,gd (by simpa[jb]using aW.o.S),aT,gd (by intro x z;simp at z;omega)⟩
 obtain⟨k,r,F,rfl,I,bl,bi,HO,t,K⟩:=hrel;have a0:=(ax.o.Z t.o (by simp)).X 0;have a3:=(ax.o.Z t.o (by simp)).X 3;have s0:=(al.o.Z t.o (by simp)).X 0;have s1:=(al.o.Z t.o (by simp)).X 1;have s2:=(al.o.Z t.o (by simp)).X 2;have s3:=(al.o.Z t.o (by simp)).X 3;simp at a0 a3 s0 s1 s2 s3;rcases gk with _|j
 .have t1:decide (r<YH)=false:=zA (by omega)
  have aO:k=sh:=by omega
  have L:=HO.o;rw[aO]at L;have ao:=gd L;have au:gh (∀x∈F,w.heap.size<=x):=gd (λx z=>by have:=K.o x z;have:=ak.o.size;omega);clear aO L;go_wp2;go_ret;exact⟨_,F,rfl,ao.o,ak.o.tq t.o,au.o⟩
 .have t1:decide (r<YH)=true:=zB (by omega)
  have⟨P,hP⟩:=zX (r*W);have eP:(r:Int)*(W:Int)=(P:Int):=by rw[hP];simp
  have aG:r<64:=by omega
  have be:P<=4096:=by rw[hP];exact zL (show r<=64 by omega) aY
  have⟨Q,hQ⟩:=zX (P+sx);have eQ:(P:Int)+(sx:Int)=(Q:Int):=by omega
  have⟨at_,aH⟩:=zX (P+X);have ba:(Q:Int)+dx=(at_:Int):=by omega
  have⟨hi,aN⟩:=zX (at_+sw);have bb:(at_:Int)+(sw:Int)=(hi:Int):=by omega
  have ar:hi<=N:=by
   have A:=ae.o;have E:r+1<=H:=(by have:=af.o;have:=I.o;omega);have J:=mul_le_mul_right W E;rw[succ_mul]at J;have h4:=HN.o;rw[zY W H]at h4;omega
  obtain⟨A',bo,-,aL⟩:=sN (P:=prog) underlying22 oY (some ⟨b,q,none⟩) N (c i) at_ sw hi aN ar ah.1;have ab:gh ((l.drop at_).take sw=(range sw).map λi=>l.getD ((Y+k)*W+(X+i)) 0):=gd (by
   have A:=Ly (l:=l) (W:=W) (H:=H) (x:=X) (Y:=r) (w:=sw) az.o ae.o (by have:=af.o;have:=I.o;omega);rw[aH,hP,A,I.o])
  have⟨R,hR⟩:=zX ((l.drop at_).take sw);have aF:R.length=sw:=by rw[hR,ab.o];simp
  have aE:l.length=N:=by rw[az.o,HN.o]
  have aK:∀wz,gf [] w wz->gu vi wz A' R:=λwz hz=>by rw[hR];exact aL Int vi wz l aE (ay.o wz hz).2
  have aQ:(jb l W X Y sw k).length<=4096:=by rw[pK];exact zL (show k<=64 by omega) (show sw<=64 by have:=ae.o;omega)
  have a7:gh (jb l W X Y sw (k+1)=jb l W X Y sw k++R):=gd (by rw[Co,hR,ab.o]);have bj:=(ay.o wr (ak.o.tq t.o)).1;have⟨aU,aA,ap⟩:=gS aK aQ aF;have bp:sw<=64:=by have:=ae.o;omega
  have bg:X<=64:=by have:=ae.o;omega
  have bf:Q<=4200:=by omega
  have a4:at_<=4200:=by omega
  have a5:hi<=4300:=by omega
  clear hP hQ aH aN hR aL aK aQ aF aE;go_wp2_with fail;refine jE 12 (by kernel_rfl) (by kernel_rfl) ?_;simp only[take_succ_cons,take_zero,drop_succ_cons,drop_zero]
  repeat(go_big_quiet_step (fail))
  trace_state
  refine wpQuiet_nil ?_;intro _ a8;obtain⟨nq,rfl⟩:=a8;have aw:=HO.o.drewN nq;have aM:gu (λu=>u) (wr.drewN nq) A' (R.map vi):=by
   have A:=aU.o (wr.drewN nq) ((ak.o.tq t.o).drewN nq);refine⟨λh0=>?_⟩;obtain⟨b,o,e1,e2,e3⟩:=A.ex (by simpa using h0);refine⟨b,o,e1,e2,λi a ha=>?_⟩;rw[zW]at ha;obtain⟨x,z,rfl⟩:=Option.map_eq_some_iff.1 ha;exact e3 i x z
  have aV:=gd aM;clear aM
  go_wp2_with(at_builtin;refine na rfl rfl iJ rfl rfl aw (R.map vi) sw rfl ?c1 ?c2 ?c3 ?c4 ?c5 ?_)
  case c1=>rw[zE];exact ap.o.symm
  case c2=>exact aV.o
  case c3=>exact pX _
  case c4=>rw[zE,zE,ap.o];have:=aA.o;omega
  case c5=>rw[zE,zE,ap.o];have:=aA.o;omega
  intro v' F' w2 E J;go_wp2_with fail
  go_roundg j
  .refine⟨k+1,r+1,F',by go_num,gd (by rw[I.o];omega),by omega,by omega,gd ?_,gd ?_,gd ?_⟩
   .rw[a7.o,zM]
    exact E
   .refine(t.o.drewN nq).trans J.Z λx z=>.inr ?_
    exact K.o x z
   .intro x z
    rcases J.new x z with h|h
    .exact K.o x h
    .have:=t.o.size;simp at h;omega
  .omega
theorem tu(v:Int)(w:World)(b : -1099511627776<=v)(j:v<=1099511627776):Calls prog 63 #[v] w λe w'=>e=.returned v.natAbs/\w=w':=by
 by_cases hv:v<0
 .have a:decide (v<0)=true:=zB hv
  have e:(v.natAbs:Int)=-v:=by omega
  rw[e];clear e;go_enter func63,ntmps63;go_wp2;go_ret;exact⟨rfl,rfl⟩
 .have a:decide (v<0)=false:=zA hv
  have e:(v.natAbs:Int)=v:=by omega
  rw[e];clear e;go_enter func63,ntmps63;go_wp2;go_ret;exact⟨rfl,rfl⟩
def m7(W H:Nat)(s:Sq)(m:Int × Int):Bool:=decide (-4<=m.1)&&(decide (m.1<=4)&&(decide (-4<=m.2)&&(decide (m.2<=4)&&(decide (0<=(s.x:Int)+m.1)&&(decide (0<=(s.y:Int)+m.2)&&(decide ((s.x:Int)+m.1+s.w<=W)&&decide ((s.y:Int)+m.2+s.h<=H)))))))
theorem oD(W H:Nat)(s:Sq)(m:Int × Int):m7 W H s m=true ↔ iB W H s m:=by
 unfold m7 iB;simp only[Bool.and_eq_true,decide_eq_true_eq]
theorem ya{s:Sq}{m:Int × Int}(h:¬iB W H s m):m7 W H s m=false:=by
 rw[<-Bool.not_eq_true];exact λe=>h ((oD W H s m).1 e)
theorem ux(W H d n g o cap:Nat)(s:Sq)(m:Int × Int)(w:World)(hW:W<=64)(hH:H<=64)(I:s.x<=64)(J:s.y<=64)(K:s.w<=64)(L:s.h<=64)(M : -64<=m.1)(N:m.1<=64)(O : -64<=m.2)(P:m.2<=64):Calls prog 35 #[.agg #[.int .i64 W,.int .i64 H,.int .i64 d,.slice (some ⟨g,o,none⟩) n cap],iV s,m.1,m.2] w λe w'=>e=.returned (.bool (m7 W H s m))/\gf [] w w':=by
 have a:=λh=>ya (W:=W) (H:=H) (s:=s) (m:=m) h;have b:=(oD W H s m).2;generalize m7 W H s m=z at *;unfold iB at a b;obtain⟨dx,dy⟩:=m;obtain⟨sx,sy,sw,sh⟩:=s;unfold iV;simp only at I J K L M N O P a b⊢;obtain⟨X,t⟩:∃X:Int,X=(sx:Int)+dx:=⟨_,rfl⟩;obtain⟨Y,u⟩:∃Y:Int,Y=(sy:Int)+dy:=⟨_,rfl⟩;rw[<-t,<-u]at a b;have eX:(sx:Int)+dx=X:=t.symm;have eY:(sy:Int)+dy=Y:=u.symm;obtain⟨XW,j⟩:∃XW:Int,XW=X+(sw:Int):=⟨_,rfl⟩;obtain⟨YH,p⟩:∃YH:Int,YH=Y+(sh:Int):=⟨_,rfl⟩;rw[<-j,<-p]at a b;have aw:X+(sw:Int)=XW:=j.symm;have ax:Y+(sh:Int)=YH:=p.symm;have aq : -64<=X:=by omega
 have ar:X<=128:=by omega
 have au : -64<=Y:=by omega
 have av:Y<=128:=by omega
 have am : -64<=XW:=by omega
 have an:XW<=256:=by omega
 have ao : -64<=YH:=by omega
 have ap:YH<=256:=by omega
 clear t u j p;have⟨wA,af⟩:=zX ((w.alloc (.cells #[W,H,d,.slice (some ⟨g,o,none⟩) n cap] 25)).alloc (.cells #[sx,sy,sw,sh] 49));have E:gh (gf [] w wA):=gd (by rw[af];exact((zR [] w).alloc _).alloc _);have r:gn wA w.heap.size 25 #[W,H,d,.slice (some ⟨g,o,none⟩) n cap]:=by rw[af];exact(gn.new w _ _).alloc _
 have v:gn wA (w.heap.size+1) 49 #[sx,sy,sw,sh]:=by rw[af];exact gn.new2 w _ _ _
 have F:=gd af;have A:=r.X 0;have C:=r.X 1;have⟨s0,s1,s2,s3⟩:=jM v;simp at A C s0 s1 s2 s3;have⟨aa,ak⟩:=gy a b;clear af r v a b;by_cases c1:dx < -4
 .obtain rfl:z=false:=aa.o (by omega)
  have t1:decide (dx < -4)=true:=zB c1;go_enter func35,ntmps35;go_wp2_with fail;go_ret;exact⟨rfl,((zR [] w).alloc _).alloc _⟩
 by_cases c2:4<dx
 .obtain rfl:z=false:=aa.o (by omega)
  have t2:decide (4<dx)=true:=zB c2;go_enter func35,ntmps35;go_wp2_with fail;go_ret;exact⟨rfl,((zR [] w).alloc _).alloc _⟩
 by_cases c3:dy < -4
 .obtain rfl:z=false:=aa.o (by omega)
  have t3:decide (dy < -4)=true:=zB c3;go_enter func35,ntmps35;go_wp2_with fail;go_ret;exact⟨rfl,((zR [] w).alloc _).alloc _⟩
 by_cases c4:4<dy
 .obtain rfl:z=false:=aa.o (by omega)
  have t4:decide (4<dy)=true:=zB c4;go_enter func35,ntmps35;go_wp2_with fail;go_ret;exact⟨rfl,((zR [] w).alloc _).alloc _⟩
 go_enter func35,ntmps35;go_wp2_with fail;rw[<-F.o]
 go_quiet (fail)
 have ad:=gd (E.o.drewN nq);by_cases c5:X<0
 .obtain rfl:z=false:=aa.o (by omega)
  have Q:decide (0<=X)=false:=zA (by omega);go_wp2_with fail;go_ret;exact⟨rfl,ad.o⟩
 have Q:decide (0<=X)=true:=zB (by omega);by_cases c6:Y<0
 .obtain rfl:z=false:=aa.o (by omega)
  have R:decide (0<=Y)=false:=zA (by omega);go_wp2_with fail;go_ret;exact⟨rfl,ad.o⟩
 have R:decide (0<=Y)=true:=zB (by omega);by_cases c7:XW<=W
 .have T:decide (XW<=(W:Int))=true:=zB c7
  by_cases c8:YH<=H
  .have Z:decide (YH<=(H:Int))=true:=zB c8
   obtain rfl:z=true:=ak.o (by omega);go_wp2_with fail;go_ret;exact⟨rfl,ad.o⟩
  .have Z:decide (YH<=(H:Int))=false:=zA c8
   obtain rfl:z=false:=aa.o (by omega);go_wp2_with fail;go_ret;exact⟨rfl,ad.o⟩
 .have T:decide (XW<=(W:Int))=false:=zA c7
  obtain rfl:z=false:=aa.o (by omega);go_wp2_with fail;go_ret;exact⟨rfl,ad.o⟩
def mp(now old:List Int)(d k:Nat):Nat:=kF (now.take k) (old.take k) d
theorem Br(a:k<now.length)(b:k<old.length):mp now old d (k+1)=mp now old d k+(ii (now[k]-old[k]) d).natAbs:=by
 unfold mp kF;rw[take_succ_eq_append_getElem a,take_succ_eq_append_getElem b,List.zipWith_append (by rw[zI,zI];omega)];simp
theorem Bq(h:now.length=old.length):mp now old d now.length=kF now old d:=by
 unfold mp;rw[zN,zT (by omega)]
theorem DW(e:1<=d)(j:d<=16)(v:Int):(ii v d).natAbs<=32768:=by
 obtain⟨a,b⟩:=ny v e;have m:=(jl e j).2;have n:=pE e;generalize (2:Int)^(d-1)=x at *;generalize (2:Int)^d=y at *;omega
theorem xU{d:Nat}(a:1<=d)(b:d<=16)(now old:List Int):∀k,mp now old d k<=32768*k
 | 0=>by simp[mp,kF]
 | k+1=>by
  have n:=xU a b now old k;rcases zZ k now.length with j|j
  .rcases zZ k old.length with m|m
   .rw[Br j m]
    have:=DW a b (now[k]-old[k])
    omega
   .have e:mp now old d (k+1)=mp now old d k:=by
     unfold mp kF;rw[zT (i:=k+1) (by omega:old.length<=k+1),zT (i:=k) (by omega:old.length<=k)];rw[List.zipWith_eq_zipWith_take_min (l₁:=now.take (k+1)),List.zipWith_eq_zipWith_take_min (l₁:=now.take k),zI,zI,take_take,take_take];rw[show min (min (k+1) now.length) old.length=min (min k now.length) old.length by omega,show min (min (min k now.length) old.length) (k+1)=min (min (min k now.length) old.length) k by omega]
    omega
  .have e:mp now old d (k+1)=mp now old d k:=by
    unfold mp kF;rw[zT (i:=k+1) (by omega:now.length<=k+1),zT (i:=k) (by omega:now.length<=k)];rw[List.zipWith_eq_zipWith_take_min (l₂:=old.take (k+1)),List.zipWith_eq_zipWith_take_min (l₂:=old.take k),zI,zI,take_take,take_take];rw[show min now.length (min (k+1) old.length)=min now.length (min k old.length)by omega,show min (min now.length (min k old.length)) (k+1)=min (min now.length (min k old.length)) k by omega]
   omega
def mD(p q:gH)(s:Sq)(m:Int × Int)(i:Nat):Nat:=((range i).map λi=>kF (gV q i s (0,0)) (gV p i s m) q.d).sum
theorem vZ(p q:gH)(s:Sq)(m:Int × Int)(i:Nat):mD p q s m (i+1)=mD p q s m i+kF (gV q i s (0,0)) (gV p i s m) q.d:=by
 unfold mD;rw[range_succ,zM,sum_append];simp
theorem sF(p q:gH)(s:Sq)(m:Int × Int)(a:1<=q.d)(b:q.d<=16)(j:s.w<=64)(e:s.h<=64):∀i,mD p q s m i<=134217728*i
 | 0=>by simp[mD]
 | i+1=>by
  have h:=sF p q s m a b j e i;rw[vZ,<-Bq (by rw[ka,ka])];have n:=xU a b (gV q i s (0,0)) (gV p i s m) (gV q i s (0,0)).length;have r:(gV q i s (0,0)).length<=4096:=by rw[ka];exact zL e j
  omega
structure qK (W H:Nat) (s:Sq) (m:Int × Int):Prop where
 x0:0<=(s.x:Int)+m.1
 x1:(s.x:Int)+m.1+s.w<=W
 y0:0<=(s.y:Int)+m.2
 y1:(s.y:Int)+m.2+s.h<=H
structure lT (W H:Nat) (s:Sq):Prop where
 x:s.x+s.w<=W
 y:s.y+s.h<=H
theorem lT.fit{s:Sq}(h:lT W H s):qK W H s (0,0):=⟨by simp,by have:=h.x;simp;omega,by simp,by have:=h.y;simp;omega⟩
theorem iB.fit{s:Sq}{m:Int × Int}(h:iB W H s m):qK W H s m:=⟨h.2.2.2.2.1,h.2.2.2.2.2.2.1,h.2.2.2.2.2.1,h.2.2.2.2.2.2.2⟩
theorem Kh{p q:gH}(cap:Nat)(h:gW w p g o B c G)(cap':Nat)(t:gW w q g' o' B' c' G')(A:jv p q)(s:Sq)(m:Int × Int)(F:lT p.W p.H s)(Y:qK p.W p.H s m):Calls prog 62 #[gN p g o cap,gN q g' o' cap',iV s,m.1,m.2] w λe w'=>e=.returned (.int .i64 (iT p q s m:Int))/\gf [] w w':=by
 have R:=h.ok;have aZ:s.w<=64:=by have:=F.x;have:=R.w1;omega
 have aR:s.h<=64:=by have:=F.y;have:=R.h1;omega
 have a4:s.x<=64:=by have:=F.x;have:=R.w1;omega
 have a5:s.y<=64:=by have:=F.y;have:=R.h1;omega
 have aB:∀w',gf [] w w'->∀i,i<q.P.length->_:=λw' hc i hi=>tv cap (h.Y hc) i (by rw[A.n];exact hi) s m Y.x0 Y.x1 Y.y0 Y.y1 a4 a5;have O:=F.fit;have T:∀w',gf [] w w'->∀i,i<q.P.length->_:=λw' hc i hi=>tv cap' (t.Y hc) i hi s (0,0) O.x0 (by rw[<-A.W];exact O.x1) O.y0 (by rw[<-A.H];exact O.y1) a4 a5;have bg:=sF p q s m t.ok.d0 t.ok.d1 aZ aR;have aX:=vZ p q s m;have aO:mD p q s m q.P.length=iT p q s m:=rfl;have aY:∀i k,mp (gV q i s (0,0)) (gV p i s m) q.d k<=32768*k:=λi k=>xU t.ok.d0 t.ok.d1 _ _ k;have⟨n,hn⟩:=zX q.P.length;have⟨d,hd⟩:=zX q.d;have⟨M,hM⟩:=zX (s.h*s.w);have bV:M<=4096:=by rw[hM];exact zL aR aZ
 have bY:n<=4:=by rw[hn];exact t.ok.n1
 have az:1<=d:=by rw[hd];exact t.ok.d0
 have aA:d<=16:=by rw[hd];exact t.ok.d1
 have ag:∀i,(gV q i s (0,0)).length=M:=λi=>by rw[ka,hM]
 have ah:∀i,(gV p i s m).length=M:=λi=>by rw[ka,hM]
 have ad:∀i,i<q.P.length->gU q.d (gV q i s (0,0)):=λi hi=>oA t.ok hi s (0,0);have ae:∀i,i<q.P.length->gU q.d (gV p i s m):=λi hi=>by rw[<-A.d];exact oA h.ok (by rw[A.n];exact hi) s m
 have aN:p.d=d:=by rw[hd];exact A.d
 have aU:p.P.length=n:=by rw[hn];exact A.n
 unfold gN iV at aB T⊢;rw[<-A.W,<-A.H]at T⊢;rw[<-hn,aN,aU]at aB;rw[<-hn,<-hd]at T;rw[<-hn]at aO ad ae;rw[<-hd]at aY aX ad ae;rw[<-hn,<-hd,aN,aU];have⟨w1,E⟩:=zX ((((w.alloc (.cells #[p.W,p.H,d,.slice (some ⟨g,o,none⟩) n cap] 25)).alloc (.cells #[p.W,p.H,d,.slice (some ⟨g',o',none⟩) n cap'] 25)).alloc (.cells #[s.x,s.y,s.w,s.h] 49)));have bb:gn w1 w.heap.size 25 #[p.W,p.H,d,.slice (some ⟨g,o,none⟩) n cap]:=by rw[E];exact((gn.new w _ _).alloc _).alloc _
 have bc:gn w1 (w.heap.size+1) 25 #[p.W,p.H,d,.slice (some ⟨g',o',none⟩) n cap']:=by rw[E];exact(gn.new2 w _ _ _).alloc _
 have bd:gn w1 (w.heap.size+1+1) 49 #[s.x,s.y,s.w,s.h]:=by rw[E];exact gn.new3 w _ _ _ _
 have aE:gh (gf [] w w1):=gd (by rw[E];exact(((zR [] w).alloc _).alloc _).alloc _);have⟨bJ,ay,am,af⟩:=gz E bb bc bd;have⟨bA,bz,bx,bH⟩:=gz aB T bg aX;have⟨bq,bI,bB,bC⟩:=gz aO aY ad ae;have⟨bv,bw⟩:=gy ag ah;have bf:∀v w,_:=λv w=>qx v d w az aA;have be:∀v,(ii v d).natAbs<=32768:=λv=>DW az aA v;obtain⟨bN,bO⟩:=jl az aA;have⟨bp,bo⟩:=gy bf be;clear E bb bc bd aB T bg aX aO aY ad ae ag ah bf be aN aU hn hd hM R h t A F Y O aZ aR a4 a5 az aA;go_enter func62,ntmps62;go_wp2_with fail;rw[<-bJ.o]
 go_loopg [11,12,13,14,15,19] n (λj v11 v12 v13 v14 v15 v19 wr=>∃i C:Nat,v11=.int .i64 C/\v19=.int .i64 i/\i+j=n/\C<=536870912/\gh (C=mD p q s m i)/\gh (gf [] w1 wr))
 .exact⟨0,0,rfl,rfl,by omega,by omega,gd (by simp[mD]),gd (zR _ _)⟩
 obtain⟨i,C,rfl,rfl,bW,hC,HC,a⟩:=hrel;rcases gk with _|j
 .obtain rfl:i=n:=by omega
  have t1:decide (i<i)=false:=by simp
  have aP:gh ((C:Int)=(iT p q s m:Int)):=gd (by rw[HC.o,bq.o]);go_wp2;go_ret;exact⟨by rw[<-aP.o];rfl,aE.o.tq a.o⟩
 .have hi:i<n:=by omega
  have J:=(ay.o.Z a.o (by simp)).X 0;have K:=(ay.o.Z a.o (by simp)).X 1;have L:=(ay.o.Z a.o (by simp)).X 2;have N:=(ay.o.Z a.o (by simp)).X 3;have Z:=(af.o.Z a.o (by simp)).X 0;have s1:=(af.o.Z a.o (by simp)).X 1;have s2:=(af.o.Z a.o (by simp)).X 2;have s3:=(af.o.Z a.o (by simp)).X 3;simp at J K L N Z s1 s2 s3;have bi:=bA.o wr (aE.o.tq a.o) i hi;go_wp2_with fail;refine bi.mono ?_;rintro e w4 ⟨v4,F4,rfl,aw,a8,bL⟩;have r:=gd (a.o.tq a8);have bj:=bz.o w4 (aE.o.tq r.o) i hi;clear bi J K L N Z s1 s2 s3;have J:=(am.o.Z r.o (by simp)).X 0;have K:=(am.o.Z r.o (by simp)).X 1;have L:=(am.o.Z r.o (by simp)).X 2;have N:=(am.o.Z r.o (by simp)).X 3;have Z:=(af.o.Z r.o (by simp)).X 0;have s1:=(af.o.Z r.o (by simp)).X 1;have s2:=(af.o.Z r.o (by simp)).X 2;have s3:=(af.o.Z r.o (by simp)).X 3;simp at J K L N Z s1 s2 s3;go_wp2_with fail;refine bj.mono ?_;rintro e w5 ⟨v5,F5,rfl,ax,aG,bM⟩;have ai:=gd (r.o.tq aG);clear bj J K L N Z s1 s2 s3;have b2:=(am.o.Z ai.o (by simp)).X 2;simp at b2;obtain⟨A4,c4,rfl,a9,bR,aJ⟩:=aw.oq;obtain⟨A5,c5,rfl,ba,bS,aK⟩:=ax.oq;have⟨aD,ak⟩:=zX (gV p i s m);have⟨aC,aj⟩:=zX (gV q i s (0,0));have Q:=bw.o i;have P:=bv.o i;have aW:=bC.o i hi;have aV:=bB.o i hi;have ab:=bH.o i;have aI:=bI.o i;rw[<-ak]at Q aW aJ a9 ab aI;rw[<-aj]at P aV aK ba ab aI;rw[<-ak,<-aj,Q,P];rw[Q]at a9;rw[P]at ba;have an:=aJ.Y aG;have⟨a7,aF,bF,bE⟩:=gz Q P aW aV;have⟨bG,bs,bu⟩:=gS ab an aK;clear ak aj Q P aW aV ab aI aJ aK an aw ax a8 aG bL bM;go_wp2_with fail
  go_loopg [11,14,15,33] M (λj2 v11 v14 v15 v33 wr2=>∃k b:Nat,v11=.int .i64 b/\v33=.int .i64 k/\k+j2=M/\b<=536870912+32768*k/\gh (b=C+mp aC aD d k)/\gh (gf [] w5 wr2))
  .exact⟨0,C,rfl,rfl,by omega,by omega,gd (by simp[mp,kF]),gd (zR _ _)⟩
  obtain⟨k,b,rfl,rfl,bX,bT,a6,I⟩:=hrel;rcases gk with _|j2
  .obtain rfl:k=M:=by omega
   have t2:decide (k<k)=false:=(by simp);have bh:gh (b=mD p q s m (i+1)):=gd (by
    have h1:=bG.o;rw[<-Bq (by rw[a7.o,aF.o]),aF.o]at h1;rw[h1,a6.o,HC.o])
   have hb:b<=536870912:=(by have h1:=bx.o (i+1);rw[<-bh.o]at h1;omega);go_wp2
   go_roundg j
   .exact⟨i+1,b,rfl,by go_num,by omega,hb,bh,gd (ai.o.tq I.o)⟩
   .omega
  .have hk:k<M:=by omega
   have aS:k<aC.length:=(by rw[aF.o];exact hk);have aT:k<aD.length:=(by rw[a7.o];exact hk);obtain⟨ga,oa,rfl,aL⟩:=(bs.o.Y I.o).at_ aT;obtain⟨gb,ob,rfl,aM⟩:=(bu.o.Y I.o).at_ aS;have⟨x,hx⟩:=zX (aC[k]);have⟨y,hy⟩:=zX (aD[k]);rw[<-hy]at aL;rw[<-hx]at aM;have cA:wr.cell? ⟨ga,oa+k,none⟩=some (.int .i64 y):=aL;have cB:wr.cell? ⟨gb,ob+k,none⟩=some (.int .i64 x):=aM;have bk:=bE.o aC[k] (zG _);have bl:=bF.o aD[k] (zG _);rw[<-hx]at bk;rw[<-hy]at bl;obtain⟨b0,bP⟩:=bk;obtain⟨b3,bQ⟩:=bl;have b1:x<65536:=(by omega);have b4:y<65536:=(by omega);have aQ:=bp.o (x-y);have bm:=bo.o (x-y);have bK:=(am.o.Z (ai.o.tq I.o) (by simp)).X 2;simp at bK;have X:=Br (d:=d) aS aT;rw[<-hx,<-hy]at X;have⟨z,hz⟩:=zX (ii (x-y) d);rw[<-hz]at aQ bm X;have aH:=λw=>tu z w (by omega) (by omega);have⟨u,hu⟩:=zX z.natAbs;rw[<-hu]at aH bm X;have bD:=gd X;have br:gh (∀w,Calls prog 92 #[.int .i64 (x-y),d] w λe w'=>e=.returned z/\w'=w):=gd (λw=>(aQ w).mono λe w' h=>⟨h.1,h.2.symm⟩);have bn:gh (∀w,Calls prog 63 #[z] w λe w'=>e=.returned u/\w'=w):=gd (λw=>(aH w).mono λe w' h=>⟨h.1,h.2.symm⟩);clear aL aM hx hy X hz hu aS aT aQ aH bP bQ;have E:IntKind.i64.wrap (x-y)=x-y:=IntWalk.i64_in _ (by omega);have bZ:IntKind.i64.wrap ((b:Int)+(u:Int))=(b:Int)+(u:Int):=IntWalk.i64_in _ (by omega);go_wp2_with fail
   go_quiet ((first|(go_at_call 92;exact Calls.quiet_of_same (br.o _))|(go_at_call 63;exact Calls.quiet_of_same (bn.o _))))
   go_wp2
   go_roundg j2
   .exact⟨k+1,b+u,by go_num,by go_num,by omega,by omega,gd (by rw[bD.o,a6.o];omega),gd (I.o.drewN nq)⟩
   .omega
structure tD (p q:gH) (s:Sq) (tried:Int × Int->Prop) (dx dy:Int) (c:Nat):Prop where
 ok:iB p.W p.H s (dx,dy)
 cost:c=iT p q s (dx,dy)
 le:∀m,tried m->iB p.W p.H s m->c<=iT p q s m
 le0:c<=iT p q s (0,0)
 zero:iT p q s (0,0)=0->dx=0/\dy=0
 least:iP (iT p q s) (iB p.W p.H s) (λ_=>True) (dx,dy)
theorem Dc{s:Sq}(h:lT W H s):iB W H s (0,0):=⟨by simp,by simp,by simp,by simp,by simp,by simp,by have:=h.x;simp;omega,by have:=h.y;simp;omega⟩
def qV(w:World)(p q:gH)(s:Sq)(e:Ending)(w':World):Prop:=
 ∃(dx dy:Int) (c:Nat),e=.returned (.tuple #[dx,dy,c])/\tD p q s (λ_=>True) dx dy c/\gf [] w w'
theorem Du{p q:gH}(cap:Nat)(h:gW w p g o B c G)(cap':Nat)(N:gW w q g' o' B' c' G')(ha:jv p q)(s:Sq)(t:lT p.W p.H s):Calls prog 31 #[gN p g o cap,gN q g' o' cap',iV s] w (qV w p q s):=by
 have ad:=h.ok;have aB:s.w<=64:=by have:=t.x;have:=ad.w1;omega
 have az:s.h<=64:=by have:=t.y;have:=ad.h1;omega
 have aS:s.x<=64:=by have:=t.x;have:=ad.w1;omega
 have aT:s.y<=64:=by have:=t.y;have:=ad.h1;omega
 have T:∀w',gf [] w w'->∀m:Int × Int,qK p.W p.H s m->_:=λw' r m hm=>Kh cap (h.Y r) cap' (N.Y r) ha s m t hm;have aA:∀w' (m:Int × Int),-4<=m.1->m.1<=4->-4<=m.2->m.2<=4->_:=λw' m m1 m2 m3 m4=>ux p.W p.H p.d p.P.length g o cap s m w' ad.w1 ad.h1 aS aT aB az (by omega) (by omega) (by omega) (by omega);have aP:∀m,iT p q s m<=536870912:=λm=>by
  have h1:=sF p q s m N.ok.d0 N.ok.d1 aB az q.P.length;have h2:=N.ok.n1;have h3:iT p q s m=mD p q s m q.P.length:=rfl;omega
 have aR:=kE.start (f:=iT p q s) (ok:=iB p.W p.H s) (Dc t);have aO:=t.fit;unfold gN iV at T⊢;unfold iV at aA;have⟨w1,ai⟩:=zX ((((w.alloc (.cells #[p.W,p.H,p.d,.slice (some ⟨g,o,none⟩) p.P.length cap] 25)).alloc (.cells #[q.W,q.H,q.d,.slice (some ⟨g',o',none⟩) q.P.length cap'] 25)).alloc (.cells #[s.x,s.y,s.w,s.h] 49)));have J:gn w1 w.heap.size 25 #[p.W,p.H,p.d,.slice (some ⟨g,o,none⟩) p.P.length cap]:=by rw[ai];exact((gn.new w _ _).alloc _).alloc _
 have K:gn w1 (w.heap.size+1) 25 #[q.W,q.H,q.d,.slice (some ⟨g',o',none⟩) q.P.length cap']:=by rw[ai];exact(gn.new2 w _ _ _).alloc _
 have M:gn w1 (w.heap.size+1+1) 49 #[s.x,s.y,s.w,s.h]:=by rw[ai];exact gn.new3 w _ _ _ _
 have au:gh (gf [] w w1):=gd (by rw[ai];exact(((zR [] w).alloc _).alloc _).alloc _);have a6:=gd ai
 have ap:∀wr,gf [] w1 wr->(wr.cell? ⟨w.heap.size,0,none⟩=some (.int .i64 p.W)/\wr.cell? ⟨w.heap.size,1,none⟩=some (.int .i64 p.H)/\wr.cell? ⟨w.heap.size,2,none⟩=some (.int .i64 p.d)/\wr.cell? ⟨w.heap.size,3,none⟩=some (.slice (some ⟨g,o,none⟩) p.P.length cap)) /\
   (wr.cell? ⟨w.heap.size+1,0,none⟩=some (.int .i64 q.W)/\wr.cell? ⟨w.heap.size+1,1,none⟩=some (.int .i64 q.H)/\wr.cell? ⟨w.heap.size+1,2,none⟩=some (.int .i64 q.d)/\wr.cell? ⟨w.heap.size+1,3,none⟩=some (.slice (some ⟨g',o',none⟩) q.P.length cap')) /\
   (wr.cell? ⟨w.heap.size+1+1,0,none⟩=some (.int .i64 s.x)/\wr.cell? ⟨w.heap.size+1+1,1,none⟩=some (.int .i64 s.y)/\wr.cell? ⟨w.heap.size+1+1,2,none⟩=some (.int .i64 s.w)/\wr.cell? ⟨w.heap.size+1+1,3,none⟩=some (.int .i64 s.h)):=λwr r=>
  ⟨⟨(J.Z r (by simp)).X 0,(J.Z r (by simp)).X 1,(J.Z r (by simp)).X 2,(J.Z r (by simp)).X 3⟩,⟨(K.Z r (by simp)).X 0,(K.Z r (by simp)).X 1,(K.Z r (by simp)).X 2,(K.Z r (by simp)).X 3⟩,⟨(M.Z r (by simp)).X 0,(M.Z r (by simp)).X 1,(M.Z r (by simp)).X 2,(M.Z r (by simp)).X 3⟩⟩
 have⟨aj,aZ,a4,aC⟩:=gz ap T aA aP;have aD:=gd aR;have av:=T w1 au.o (0,0) aO;simp only at av;clear ai J K M ap T aA aP aR ad h N ha t aO aB az aS aT;go_enter func31,ntmps31;go_wp2_with fail;rw[<-a6.o];refine av.mono ?_;rintro e w2 ⟨rfl,aE⟩;have aY:=gd aE;have⟨c0,ac⟩:=zX (iT p q s (0,0));rw[<-ac];have aX:=gd ac;have aw:c0<=536870912:=by rw[ac];exact aC.o _
 clear av aE ac;go_wp2_with fail
 go_loopg [6,7,8,9,10,11] 9 (λj v6 v7 v8 v9 v10 v11 wr=>∃(a b V:Int) (C:Nat),v6=.int .i64 a/\v7=.int .i64 b/\v8=.int .i64 C/\v9=.int .i64 V/\V+j=5/\-4<=V/\C<=536870912/\gh (kE (iT p q s) (iB p.W p.H s) (-4) V a b/\C=iT p q s (a,b))/\gh (gf [] w1 wr))
 .exact⟨0,0,-4,c0,rfl,rfl,rfl,rfl,by omega,by omega,aw,gd ⟨aD.o,aX.o⟩,aY⟩
 obtain⟨a,b,V,C,rfl,rfl,rfl,rfl,aJ,bc,O,n,F⟩:=hrel;rcases gk with _|j
 .have t1:decide (V<=4)=false:=zA (by omega)
  have bd:V=5:=by omega
  go_wp2;refine bodyPost_ret (v:=.tuple #[a,b,C]) (by simp[results,results31,go_sem]) rfl ?_;have hb:=n.o.1;rw[bd]at hb;have L:=hb.done (λm ho=>⟨ho.1,ho.2.1,ho.2.2.1,ho.2.2.2.1⟩);have aW:=aD.o.least.may;exact⟨a,b,C,rfl,⟨L.may,n.o.2,λm _ ho=>by rw[n.o.2];exact L.cost trivial ho,by rw[n.o.2];exact L.cost trivial aW,λh0=>L.none trivial aW h0,L⟩,au.o.tq F.o⟩
 .have t1:decide (V<=4)=true:=zB (by omega)
  have bb:V<=4:=by omega
  have a5:=gd aJ;clear aJ;go_wp2_with fail
  go_loopg [6,7,8,10,11] 9 (λA v6 v7 v8 v10 v11 wr2=>∃(a b U:Int) (C:Nat),v6=.int .i64 a/\v7=.int .i64 b/\v8=.int .i64 C/\v10=.int .i64 U/\U+A=5/\-4<=U/\C<=536870912/\gh (kE (iT p q s) (iB p.W p.H s) U V a b/\C=iT p q s (a,b))/\gh (gf [] w1 wr2))
  .exact⟨a,b,-4,C,rfl,rfl,rfl,rfl,by omega,by omega,O,n,F⟩
  obtain⟨a,b,U,C,rfl,rfl,rfl,rfl,aI,ba,O,n,F⟩:=hrel;rcases gk with _|A
  .have t2:decide (U<=4)=false:=zA (by omega)
   have aH:U=5:=(by omega);have HU:=gd aH;clear aH;go_wp2
   go_roundg j
   .exact⟨a,b,V+1,C,rfl,rfl,rfl,by go_num,by have:=a5.o;omega,by omega,O,gd ⟨by have h:=n.o.1;rw[HU.o]at h;exact h.row h.least.may.2.1,n.o.2⟩,F⟩
   .omega
  .have t2:decide (U<=4)=true:=zB (by omega)
   have a9:U<=4:=(by omega);have I:=gd aI;clear aI;obtain⟨⟨a0,a1,a2,a3⟩,⟨b0,X,Y,Z⟩,⟨s0,s1,s2,s3⟩⟩:=aj.o wr F.o;have hi:=a4.o wr (U,V) ba a9 bc bb;simp only at hi;have ae:=oD p.W p.H s (U,V);have⟨z,hz⟩:=zX (m7 p.W p.H s (U,V));rw[<-hz]at hi ae;have ak:=gd ae;clear hz ae;go_wp2_with fail;refine hi.mono ?_;rintro e w3 ⟨rfl,aF⟩;have P:=gd (F.o.tq aF);clear hi aF a0 a1 a2 a3 b0 X Y Z s0 s1 s2 s3
   cases z with
   | false=>
    have bg:gh (¬iB p.W p.H s (U,V)):=gd (λh=>by have:=ak.o.2 h;simp at this);go_wp2_with fail
    go_roundg A
    .exact⟨a,b,U+1,C,rfl,rfl,rfl,by go_num,by have:=I.o;omega,by omega,O,gd ⟨n.o.1.skip bg.o,n.o.2⟩,P⟩
    .omega
   | true=>
    have ag:gh (iB p.W p.H s (U,V)):=gd (ak.o.1 rfl);obtain⟨⟨a0,a1,a2,a3⟩,⟨b0,X,Y,Z⟩,⟨s0,s1,s2,s3⟩⟩:=aj.o w3 P.o;have r:=aZ.o w3 (au.o.tq P.o) (U,V) ag.o.fit;have R:=aC.o (U,V);simp only at r;have⟨D,hD⟩:=zX (iT p q s (U,V));rw[<-hD]at r R;have E:=gd hD;clear hD;go_wp2_with fail;refine r.mono ?_;rintro e w4 ⟨rfl,aG⟩;have Q:=gd (P.o.tq aG);clear r aG a0 a1 a2 a3 b0 X Y Z s0 s1 s2 s3;rcases Nat.lt_trichotomy D C with aQ|be|bf
    .have t3:decide (D<C)=true:=zB aQ
     have u:gh (kE (iT p q s) (iB p.W p.H s) (U+1) V U V/\D=iT p q s (U,V)):=gd ⟨n.o.1.take ag.o (.inl (by rw[<-n.o.2,<-E.o];exact aQ)),E.o⟩;go_wp2_with fail
     go_roundg A
     .exact⟨U,V,U+1,D,rfl,rfl,rfl,by go_num,by have:=I.o;omega,by omega,R,u,Q⟩
     .omega
    .subst be
     have t3:decide (D<D)=false:=(by simp);have t4:((D:Int)==(D:Int))=true:=(by simp);have ad:=n.o.1.least.may;obtain⟨k1,k2,k3,k4,_⟩:=ad;simp only at k1 k2 k3 k4;have h1:=λw=>tu U w (by omega) (by omega);have h2:=λw=>tu V w (by omega) (by omega);have h3:=λw=>tu a w (by omega) (by omega);have h4:=λw=>tu b w (by omega) (by omega);have⟨aU,aK⟩:=zX U.natAbs;have⟨aV,aL⟩:=zX V.natAbs;have⟨ax,aM⟩:=zX a.natAbs;have⟨ay,aN⟩:=zX b.natAbs;rw[<-aK]at h1;rw[<-aL]at h2;rw[<-aM]at h3;rw[<-aN]at h4;have X:aU<=4:=(by omega);have Y:aV<=4:=(by omega);have Z:ax<=4:=(by omega);have b4:ay<=4:=(by omega);have⟨S1,a7⟩:=zX (aU+aV);have⟨S2,a8⟩:=zX (ax+ay);have e1:(aU:Int)+(aV:Int)=(S1:Int):=(by omega);have e2:(ax:Int)+(ay:Int)=(S2:Int):=(by omega);have HA:gh (S1=U.natAbs+V.natAbs/\S2=a.natAbs+b.natAbs):=gd ⟨by omega,by omega⟩;have b5:S1<=8:=(by omega);have b6:S2<=8:=(by omega);clear aK aL aM aN a7 a8;by_cases hS:S1<S2
     .have t5:decide (S1<S2)=true:=zB hS
      have u:gh (kE (iT p q s) (iB p.W p.H s) (U+1) V U V/\D=iT p q s (U,V)):=gd ⟨n.o.1.take ag.o (.inr ⟨by rw[<-n.o.2,<-E.o],by have hA:=HA.o;omega⟩),E.o⟩;go_wp2_with fail;refine gx (h1 _) ?_;go_wp2_with fail;refine gx (h2 _) ?_;go_wp2_with fail;refine gx (h3 _) ?_;go_wp2_with fail;refine gx (h4 _) ?_;go_wp2_with fail
      go_roundg A
      .exact⟨U,V,U+1,D,rfl,rfl,rfl,by go_num,by have:=I.o;omega,by omega,R,u,Q⟩
      .omega
     .have t5:decide (S1<S2)=false:=zA hS
      have u:gh (kE (iT p q s) (iB p.W p.H s) (U+1) V a b/\D=iT p q s (a,b)):=gd ⟨n.o.1.keepS (.inr ⟨by rw[<-n.o.2,<-E.o],by have hA:=HA.o;omega⟩),n.o.2⟩;go_wp2_with fail;refine gx (h1 _) ?_;go_wp2_with fail;refine gx (h2 _) ?_;go_wp2_with fail;refine gx (h3 _) ?_;go_wp2_with fail;refine gx (h4 _) ?_;go_wp2_with fail
      go_roundg A
      .exact⟨a,b,U+1,D,rfl,rfl,rfl,by go_num,by have:=I.o;omega,by omega,R,u,Q⟩
      .omega
    .have t3:decide (D<C)=false:=zA (by omega)
     have t4:((D:Int)==(C:Int))=false:=(by rw[beq_eq_false_iff_ne];omega);have u:gh (kE (iT p q s) (iB p.W p.H s) (U+1) V a b/\C=iT p q s (a,b)):=gd ⟨n.o.1.keepS (.inl (by rw[<-n.o.2,<-E.o];exact bf)),n.o.2⟩;go_wp2_with fail
     go_roundg A
     .exact⟨a,b,U+1,C,rfl,rfl,rfl,by go_num,by have:=I.o;omega,by omega,O,u,Q⟩
     .omega
def kg(now old:List Int):List Int:=List.zipWith (λa b=>a-b) now old
theorem qw(h:now.length=old.length):(kg now old).length=now.length:=by unfold kg;rw[List.length_zipWith];omega
theorem BR(d:Nat):∀(now old:List Int),ji (kg now old) d=((kF now old d:Nat):Int)
 | [],_=>by simp[kg,ji,kF]
 | _::_,[]=>by simp[kg,ji,kF]
 | a::now,b::old=>by
  have n:=BR d now old;have e:ji (kg (a::now) (b::old)) d=nD d (a-b)+ji (kg now old) d:=by simp[kg,ji]
  have j:kF (a::now) (b::old) d=(ii (a-b) d).natAbs+kF now old d:=by simp[kF]
  rw[e,j,n];have m:nD d (a-b)=((ii (a-b) d).natAbs:Int):=by
   unfold nD iA;split<;>omega
  rw[m];simp
def mW(now old:List Int)(k:Nat):List Int:=(kg now old).take k++now.drop k
theorem JX(now old:List Int):mW now old 0=now:=by simp[mW]
theorem JW(h:now.length=old.length):mW now old now.length=kg now old:=by
 unfold mW;rw[drop_length,append_nil,zT (by rw[qw h];exact zQ _)]
theorem LG(h:now.length=old.length)(k:Nat):(mW now old k).length=now.length:=by
 unfold mW;rw[zC,zI,zO,qw h];omega
theorem Ni(h:now.length=old.length)(a:k<now.length):(mW now old k)[k]?=some now[k]:=by
 unfold mW;rw[zS (by rw[zI];omega),zI,qw h,Nat.min_eq_left (by omega),Nat.sub_self,getElem?_drop,Nat.add_zero,zF a]
theorem LH(h:now.length=old.length)(a:k<now.length):(mW now old k).set k (now[k]-old[k]'(by omega))=mW now old (k+1):=by
 unfold mW;have e:((kg now old).take k).length=k:=by rw[zI,qw h];omega
 have b:k<(kg now old).length:=by rw[qw h];exact a
 rw[set_append_right _ _ (by omega),e,Nat.sub_self,drop_eq_getElem_cons a,set_cons_zero,take_succ_eq_append_getElem b,zH]
 congr 2
 simp[kg]
theorem EA(w:World)(R T:Option Addr)(c1 c2:Nat)(p r:List Int)(W H d:Nat)(s:Sq)(m:Int × Int)(h1:p.length=W*H)(h2:r.length=W*H)(hW:W<=64)(hH:H<=64)(hs:lT W H s)(hm:qK W H s m)(v:1<=s.w)(u:1<=s.h)(hd1:d<=16)(I:gU d p)(J:gU d r)(E:gu vi w R p)(F:gu vi w T r):Calls prog 44 #[.slice R p.length c1,.slice T r.length c2,W,iV s,m.1,m.2] w λe t=>∃g c,e=.returned (.slice (some ⟨g,0,none⟩) (s.h*s.w) c)/\gv t 3 (.slice (some ⟨g,0,none⟩) (s.h*s.w) c) g ((kg (jb r W s.x s.y s.w s.h) (jb p W ((s.x:Int)+m.1).toNat ((s.y:Int)+m.2).toNat s.w s.h)).map vi)/\gf [] w t/\w.heap.size<=g:=by
 obtain⟨x0,x1,y0,y1⟩:=hm;obtain⟨Q,hy⟩:=hs;obtain⟨dx,dy⟩:=m;obtain⟨sx,sy,sw,sh⟩:=s;simp only at x0 x1 y0 y1 Q hy v u⊢;obtain⟨X,hX⟩:∃X:Nat,(X:Int)=(sx:Int)+dx:=⟨((sx:Int)+dx).toNat,by omega⟩;obtain⟨Y,hY⟩:∃Y:Nat,(Y:Int)=(sy:Int)+dy:=⟨((sy:Int)+dy).toNat,by omega⟩;have eX:(sx:Int)+dx=(X:Int):=hX.symm;have eY:(sy:Int)+dy=(Y:Int):=hY.symm;have tX:((sx:Int)+dx).toNat=X:=by omega
 have tY:((sy:Int)+dy).toNat=Y:=by omega
 rw[tX,tY];have aK:=λt (hc:gf [] w t)=>Df t R c1 p W H X Y sw sh h1 hW hH (by omega) (by omega) (E.Y hc);have aL:=λt (hc:gf [] w t)=>Df t T c2 r W H sx sy sw sh h2 hW hH (by omega) (by omega) (F.Y hc);have aE:=pK p W X Y sw sh;have N:=pK r W sx sy sw sh;have aM:=yd I W X Y sw sh;have aN:=yd J W sx sy sw sh;generalize jb p W X Y sw sh=a at *;generalize jb r W sx sy sw sh=b at *;have⟨n,hn⟩:=zX (sh*sw);rw[<-hn]at aE N⊢;have be:1<=n:=by rw[hn];exact zL u v
 have bf:n<=4096:=by rw[hn];exact zL (show sh<=64 by omega) (show sw<=64 by omega)
 have bg:(2:Int)^d<=65536:=by
  have:=Nat.pow_le_pow_right (n:=2) (by decide) hd1
  have e2:((2^d:Nat):Int)=(2:Int)^d:=by simp
  omega
 unfold iV;simp only;have ab:=JW (now:=b) (old:=a) (by omega);have ai:=JX b a;rw[N]at ab;have⟨aH,aI,ar,au⟩:=gz aK aL aE N;have⟨aR,aS,aQ,aT⟩:=gz aM aN ab ai;have bb : -64<=dx:=by omega
 have aW:dx<=64:=by omega
 have bc : -64<=dy:=by omega
 have aX:dy<=64:=by omega
 have a0:sx<=64:=by omega
 have a1:sy<=64:=by omega
 clear hX hY tX tY aK aL aE N aM aN hn ab ai h1 h2 I J E F x0 x1 y0 y1 Q hy v u;go_enter func44,ntmps44;go_wp2_with fail;refine(aH.o _ ((zR [] w).alloc _)).mono ?_;rintro e w2 ⟨v1,F1,rfl,ap,Z,aV⟩;obtain⟨B1,a6,rfl,_,_,ak⟩:=ap.oq;have ax:=gd (((zR [] w).alloc (.cells #[sx,sy,sw,sh] 49)).tq Z);have aj:=(gn.new w 49 #[sx,sy,sw,sh]).Z Z (by simp);have⟨d0,d1,d2,d3⟩:=jM aj;simp at d0 d1 d2 d3;have aG:=gd ak;rw[ar.o];clear ap ak aV aj;go_wp2_with fail;refine(aI.o _ ax.o).mono ?_;rintro e w3 ⟨v2,F2,rfl,aq,aB,aJ⟩;rcases aq.cases with⟨_,aF,_⟩|⟨g2,L,rfl⟩
 .exfalso
  have:=congrArg length aF
  rw[zE,au.o]at this;simp at this;omega
 obtain⟨K,rfl,_,_,_,_⟩:=L.oq;have aZ:w2.heap.size<=g2:=aJ g2 (by simp);have am:w.heap.size<=g2:=Nat.le_trans ax.o.size aZ;have⟨aO,ay⟩:=gy (ax.o.tq aB) (aG.o.Y aB);have aC:gh (∀ad,B1=some ad->ad.block≠g2):=gd λad had=>by
  obtain⟨b9,o9,O,ba,_⟩:=aG.o.ex (by rw[ar.o];omega);rw[had]at O;injection O with O;subst O;show b9≠g2;omega
 rw[au.o]at L⊢;clear aq aJ d0 d1 d2 d3 Z aB aH aI;go_wp2_with fail
 go_loopg [15] n (λj iv wr=>∃i:Nat,iv=.int .i64 i/\i+j=n/\gv wr 3 (.slice g2 n K) g2 ((mW b a i).map vi)/\gf [g2] w3 wr)
 .exact⟨0,rfl,by omega,by rw[aT.o];exact L,zR _ _⟩
 clear L;obtain⟨i,rfl,bd,A,M⟩:=hrel;rcases gk with _|j
 .obtain rfl:i=n:=by omega
  have t1:decide (i<i)=false:=by simp
  rw[aQ.o]at A;have HR:=gd A;have aP:gh (gf [] w wr):=gd (aO.o.trans M (λx Q=>by rw[zU.1 Q];exact .inr am));clear A M;go_wp2;go_ret;exact⟨g2,K,rfl,HR.o,aP.o,am⟩
 .have hi:i<n:=by omega
  have C:i<b.length:=by rw[au.o];exact hi
  have aD:i<a.length:=by rw[ar.o];exact hi
  have P:b.length=a.length:=by rw[ar.o,au.o]
  obtain⟨aU,aY,_,_,ag,al⟩:=A.oq;have ce:=ag i _ (Ni P C);have fr:=al i;have ao:=λq=>(A.drewN q).T (i:=i) (by rw[zE,LG P];exact C) (vi (b[i]-a[i]));have ah:∀q,gv ((wr.drewN q).setCell ⟨g2,i,none⟩ (vi (b[i]-a[i]))) 3 (.slice g2 n K) g2 ((mW b a (i+1)).map vi):=λq=>by
   have:=ao q
   rw[<-map_set,LH P C]at this;exact this
  obtain⟨ga,oa,hA,ca⟩:=(ay.o.Q (λ_ ad had hm=>aC.o ad had (by simpa using hm)) M).at_ aD;have a2:=aR.o a[i] (zG aD);have a3:=aS.o b[i] (zG C);generalize a[i]=x at *;generalize b[i]=y at *;subst hA;have a7:wr.cell? ⟨g2,i,none⟩=some (.int .i64 y):=ce;have a5:wr.cell? ⟨ga,oa+i,none⟩=some (.int .i64 x):=ca;have ac:∀q,gv ((wr.drewN q).setCell ⟨g2,i,none⟩ (.int .i64 (y-x))) 3 (.slice g2 n K) g2 ((mW b a (i+1)).map vi):=ah;obtain⟨z,hz⟩:∃z,y-x=z:=⟨_,rfl⟩;rw[hz]at ac;have az:=gd ac;have bh:IntKind.i64.wrap z=z:=IntWalk.i64_in _ (by omega);have a8:(0:Int)<=(i:Int):=by omega
  have a9:(i:Int)<(n:Int):=by omega
  clear aY ag al ce ca ao ah ac A a2 a3 aD C P;go_wp2_with fail;refine jE 12 (by kernel_rfl) (by kernel_rfl) ?_;simp only[take_succ_cons,take_zero,drop_succ_cons,drop_zero]
  repeat(go_big_quiet_step (fail))
  refine wpQuiet_nil ?_;intro _ a4;obtain⟨nq,rfl⟩:=a4;go_wp2_with fail
  go_roundg j
  .exact⟨i+1,by go_num,by omega,az.o nq,(M.drewN nq).setCell (.inl (by simp)) _⟩
  .omega
theorem Dk{p q:gH}(cap:Nat)(h:gW w p g o B c G)(cap':Nat)(b:gW w q g' o' B' c' G')(a:jv p q)(s:Sq)(m:Int × Int)(P:lT p.W p.H s)(hm:qK p.W p.H s m)(J:1<=s.w)(I:1<=s.h):Calls prog 41 #[gN p g o cap,gN q g' o' cap',iV s,m.1,m.2] w λe w'=>e=.returned (.int .i64 (iT p q s m:Nat))/\gf [] w w':=by
 have u:=h.ok;have T:s.w<=64:=by have:=P.x;have:=u.w1;omega
 have ay:s.h<=64:=by have:=P.y;have:=u.h1;omega
 have aO:∀w',gf [] w w'->∀i,i<q.P.length->_:=λw' hc i hi=>EA w' (B i) (B' i) (c i) (c' i) (p.P.getD i []) (q.P.getD i []) p.W p.H p.d s m (h.len (by rw[a.n];exact hi)) (by rw[a.W,a.H];exact b.len hi) u.w1 u.h1 P hm J I u.d1 (u.smp _ (mM (by rw[a.n];exact hi))) (by rw[a.d];exact b.ok.smp _ (mM hi)) ((h.Y hc).cells i (by rw[a.n];exact hi)) ((b.Y hc).cells i hi);have ad:∀w',gf [] w w'->∀i,i<q.P.length->w'.cell? ⟨g,o+i,none⟩=some (.slice (B i) (p.W*p.H) (c i))/\w'.cell? ⟨g',o'+i,none⟩=some (.slice (B' i) (p.W*p.H) (c' i)):=λw' hc i hi=>⟨(h.Y hc).X i (by rw[a.n];exact hi),by rw[a.W,a.H];exact(b.Y hc).X i hi⟩;have v:∀i,ji (kg (gV q i s (0,0)) (gV p i s m)) q.d=((kF (gV q i s (0,0)) (gV p i s m) q.d:Nat):Int):=λi=>BR q.d _ _;have aM:=sF p q s m b.ok.d0 b.ok.d1 T ay;have E:=vZ p q s m;have Z:mD p q s m q.P.length=iT p q s m:=rfl;have r:∀i,(kg (gV q i s (0,0)) (gV p i s m)).length=s.h*s.w:=λi=>by rw[qw (by rw[ka,ka]),ka]
 have Q:∀i,i<q.P.length->(p.P.getD i []).length=p.W*p.H/\(q.P.getD i []).length=p.W*p.H:=λi hi=>⟨h.len (by rw[a.n];exact hi),by rw[a.W,a.H];exact b.len hi⟩;have al:∀i,jb (q.P.getD i []) p.W s.x s.y s.w s.h=gV q i s (0,0):=λi=>by
  unfold gV;rw[a.W];simp
 have ac:∀i,jb (p.P.getD i []) p.W ((s.x:Int)+m.1).toNat ((s.y:Int)+m.2).toNat s.w s.h=gV p i s m:=λi=>rfl;have X:∀w',gf [] w w'->∀i,i<q.P.length->Calls prog 44 #[.slice (B i) (p.W*p.H) (c i),.slice (B' i) (p.W*p.H) (c' i),p.W,iV s,m.1,m.2] w' λe w2=>∃g c,e=.returned (.slice (some ⟨g,0,none⟩) (s.h*s.w) c)/\gv w2 3 (.slice (some ⟨g,0,none⟩) (s.h*s.w) c) g ((kg (gV q i s (0,0)) (gV p i s m)).map vi)/\gf [] w' w2/\w'.heap.size<=g:=λw' hc i hi=>by
  have h1:=aO w' hc i hi;rw[(Q i hi).1,(Q i hi).2,al,ac]at h1;exact h1
 have⟨n,hn⟩:=zX q.P.length;have⟨d,hd⟩:=zX q.d;have⟨M,hM⟩:=zX (s.h*s.w);have⟨L,hL⟩:=zX (p.W*p.H);have a4:M<=4096:=by rw[hM];exact zL ay T
 have a8:n<=4:=by rw[hn];exact b.ok.n1
 have aJ:1<=d:=by rw[hd];exact b.ok.d0
 have aK:d<=16:=by rw[hd];exact b.ok.d1
 have aL:p.d=d:=by rw[hd];exact a.d
 have aN:p.P.length=n:=by rw[hn];exact a.n
 have t:∀i w' A cp,gu vi w' A (kg (gV q i s (0,0)) (gV p i s m))->_:=λi w' A cp hc=>Cs (kg (gV q i s (0,0)) (gV p i s m)) A cp d w' aJ aK (by rw[r,<-hM];omega) hc;rw[<-hM]at r;unfold gN iV at *;rw[<-a.W,<-a.H];rw[<-hn,<-hd,aL,aN];rw[<-hn,<-hL,<-hM]at X;rw[<-hn,<-hL]at ad;rw[<-hn]at Z;rw[<-hd]at v E;have⟨aV,aj,aZ,aU⟩:=gz X ad v aM;have⟨aX,aS,au,aT⟩:=gz E Z r t;have⟨w1,ai⟩:=zX ((((w.alloc (.cells #[p.W,p.H,d,.slice (some ⟨g,o,none⟩) n cap] 25)).alloc (.cells #[p.W,p.H,d,.slice (some ⟨g',o',none⟩) n cap'] 25)).alloc (.cells #[s.x,s.y,s.w,s.h] 49)));have Y:gn w1 w.heap.size 25 #[p.W,p.H,d,.slice (some ⟨g,o,none⟩) n cap]:=by rw[ai];exact((gn.new w _ _).alloc _).alloc _
 have aH:gn w1 (w.heap.size+1) 25 #[p.W,p.H,d,.slice (some ⟨g',o',none⟩) n cap']:=by rw[ai];exact(gn.new2 w _ _ _).alloc _
 have aI:gn w1 (w.heap.size+1+1) 49 #[s.x,s.y,s.w,s.h]:=by rw[ai];exact gn.new3 w _ _ _ _
 have K:gh (gf [] w w1):=gd (by rw[ai];exact(((zR [] w).alloc _).alloc _).alloc _);have⟨aY,aQ,aq,am⟩:=gz ai Y aH aI;clear ai Y aH aI aO X ad v aM E Z r Q al ac aL aN hn hd hM hL t u h b a P hm T ay aJ aK J I;go_enter func41,ntmps41;go_wp2_with fail;rw[<-aY.o]
 go_loopg [11,12] n (λj v11 v12 wr=>∃i C:Nat,v11=.int .i64 C/\v12=.int .i64 i/\i+j=n/\C<=536870912/\gh (C=mD p q s m i)/\gh (gf [] w1 wr))
 .exact⟨0,0,rfl,rfl,by omega,by omega,gd (by simp[mD]),gd (zR _ _)⟩
 obtain⟨i,C,rfl,rfl,a7,hC,HC,F⟩:=hrel
 have az:∀wz,gf [] w1 wz->(wz.cell? ⟨w.heap.size,3,none⟩=some (.slice (some ⟨g,o,none⟩) n cap)/\wz.cell? ⟨w.heap.size+1,0,none⟩=some (.int .i64 p.W)/\wz.cell? ⟨w.heap.size+1,2,none⟩=some (.int .i64 d)/\wz.cell? ⟨w.heap.size+1,3,none⟩=some (.slice (some ⟨g',o',none⟩) n cap'))/\(wz.cell? ⟨w.heap.size+1+1,0,none⟩=some (.int .i64 s.x)/\wz.cell? ⟨w.heap.size+1+1,1,none⟩=some (.int .i64 s.y)/\wz.cell? ⟨w.heap.size+1+1,2,none⟩=some (.int .i64 s.w)/\wz.cell? ⟨w.heap.size+1+1,3,none⟩=some (.int .i64 s.h)):=λwz hz=>
  ⟨⟨(aQ.o.Z hz (by simp)).X 3,(aq.o.Z hz (by simp)).X 0,(aq.o.Z hz (by simp)).X 2,(aq.o.Z hz (by simp)).X 3⟩,⟨(am.o.Z hz (by simp)).X 0,(am.o.Z hz (by simp)).X 1,(am.o.Z hz (by simp)).X 2,(am.o.Z hz (by simp)).X 3⟩⟩
 obtain⟨⟨a3,b0,b2,b3⟩,⟨s0,s1,s2,s3⟩⟩:=az wr F.o;have aF:=gd az;clear az;rcases gk with _|j
 .obtain rfl:i=n:=by omega
  have t1:decide (i<i)=false:=by simp
  have ax:gh (C=iT p q s m):=gd (by rw[HC.o,aS.o]);go_wp2;go_ret;exact⟨by rw[<-ax.o];rfl,K.o.tq F.o⟩
 .have hi:i<n:=by omega
  obtain⟨e1,e2⟩:=aj.o wr (K.o.tq F.o) i hi;have HE:gh (∀wz,gf [] w1 wz->wz.cell? ⟨g,o+i,none⟩=some (.slice (B i) L (c i))/\wz.cell? ⟨g',o'+i,none⟩=some (.slice (B' i) L (c' i))):=gd λwz hz=>aj.o wz (K.o.tq hz) i hi;have R:=λwz (hz:gf [] w1 wz)=>aV.o wz (K.o.tq hz) i hi;have t:=λw' A cp hc=>aT.o i w' A cp hc;have v:=aZ.o i;have E:=aX.o i;have aA:=aU.o (i+1);have r:=au.o i;have⟨D,hD⟩:=zX (kg (gV q i s (0,0)) (gV p i s m));rw[<-hD]at t v r;rw[v,r]at t;simp only[<-hD]at R;have⟨z,hz⟩:=zX (kF (gV q i s (0,0)) (gV p i s m) d);rw[<-hz]at t;have O:C+z=mD p q s m (i+1):=by rw[hz,HC.o];exact E.symm
  have aP:C+z<=536870912:=by
   rw[O]
   have:=mul_le_mul_left 134217728 (show i+1<=4 by omega)
   omega
  have⟨C2,aG⟩:=zX (C+z);have a1:(C:Int)+(z:Int)=(C2:Int):=by omega
  have a2:IntKind.i64.wrap (C2:Int)=(C2:Int):=IntWalk.i64_in _ (by omega);rw[<-aG]at O aP;have⟨aR,aW,ar⟩:=gS O R t;have a5:(0:Int)<=(i:Int):=by omega
  have Y:(i:Int)<(n:Int):=by omega
  clear R t v E aA r hD hz O aG;go_wp2_with fail
  go_region_held3 (λw'=>(w'.cell? ⟨w.heap.size,3,none⟩=some (.slice (some ⟨g,o,none⟩) n cap)/\w'.cell? ⟨w.heap.size+1,0,none⟩=some (.int .i64 p.W)/\w'.cell? ⟨w.heap.size+1,2,none⟩=some (.int .i64 d)/\w'.cell? ⟨w.heap.size+1,3,none⟩=some (.slice (some ⟨g',o',none⟩) n cap'))/\(w'.cell? ⟨w.heap.size+1+1,0,none⟩=some (.int .i64 s.x)/\w'.cell? ⟨w.heap.size+1+1,1,none⟩=some (.int .i64 s.y)/\w'.cell? ⟨w.heap.size+1+1,2,none⟩=some (.int .i64 s.w)/\w'.cell? ⟨w.heap.size+1+1,3,none⟩=some (.int .i64 s.h))/\w'.cell? ⟨g,o+i,none⟩=some (.slice (B i) L (c i))/\w'.cell? ⟨g',o'+i,none⟩=some (.slice (B' i) L (c' i)))
   (first|exact⟨(aF.o _ N).1,(aF.o _ N).2,HE.o _ N⟩|(go_keep;done))
   (first
    | (go_at_call 44;refine(aW.o _ ((F.o).drew)).mono ?_;rintro e w3 ⟨g3,c3,rfl,aE,a0,a6⟩;have N:gf [] w1 w3 := ((F.o).drew).tq a0)
    | (go_at_call 77;refine gx (ar.o w3 _ c3 aE.S.cells) ?_))
  go_wp2_with fail
  go_roundg j
  .exact⟨i+1,C2,rfl,by go_num,by omega,aP,aR,gd N⟩
  .omega
theorem MX(x:Int)(w:World)(a : -4611686018427387904<=x)(b:x<=4611686018427387904):Calls prog 64 #[x] w λe w'=>e=.returned x.natAbs/\w=w':=by
 go_enter func64,ntmps64;go_wp2
 all_goals
  go_ret;exact⟨congrArg (λz=>Ending.returned (.int .i64 z)) (by omega),rfl⟩
theorem Dn(x:Int)(w:World)(a : -9223372036854775808<=x)(b:x<=9223372036854775807):Calls prog 64 #[x] w λe w'=>e=.returned (.int .i64 (if x=-9223372036854775808 then x else(x.natAbs:Int)))/\w=w':=by
 by_cases hx:x=-9223372036854775808
 .rw[if_pos hx]
  subst hx;go_enter func64,ntmps64;go_wp2;go_ret;exact⟨congrArg (λz=>Ending.returned (.int .i64 z)) (by unfold wrap64;decide),rfl⟩
 .rw[if_neg hx]
  have m:IntKind.i64.wrap (-x)=-x:=IntWalk.i64_in _ (by omega);have j : -9223372036854775807<=x:=by omega
  clear a hx;go_enter func64,ntmps64;go_wp2
  all_goals
   go_ret;exact⟨congrArg (λz=>Ending.returned (.int .i64 z)) (by omega),rfl⟩
theorem Ey(W H d n g o cap:Nat)(s:Sq)(m:Int × Int)(w:World)(hW:W<=64)(hH:H<=64)(h1:s.x<=64)(h2:s.y<=64)(h3:s.w<=64)(h4:s.h<=64)(M : -9223372036854775808<=m.1)(N:m.1<=9223372036854775807)(O : -9223372036854775808<=m.2)(P:m.2<=9223372036854775807):Calls prog 40 #[.agg #[.int .i64 W,.int .i64 H,.int .i64 d,.slice (some ⟨g,o,none⟩) n cap],iV s,m.1,m.2] w λe w'=>e=.returned (.bool (m7 W H s m))/\gf [] w w':=by
 have j:=λh=>ya (W:=W) (H:=H) (s:=s) (m:=m) h;have p:=(oD W H s m).2;generalize m7 W H s m=z at *;unfold iB at j p;obtain⟨dx,dy⟩:=m;obtain⟨sx,sy,sw,sh⟩:=s;unfold iV;simp only at h1 h2 h3 h4 M N O P j p⊢;have t:=λw'=>Dn dx w' M N;have u:=λw'=>Dn dy w' O P;have⟨wA,ag⟩:=zX ((w.alloc (.cells #[W,H,d,.slice (some ⟨g,o,none⟩) n cap] 25)).alloc (.cells #[sx,sy,sw,sh] 49));have a:gh (gf [] w wA):=gd (by rw[ag];exact((zR [] w).alloc _).alloc _);have r:gn wA w.heap.size 25 #[W,H,d,.slice (some ⟨g,o,none⟩) n cap]:=by rw[ag];exact(gn.new w _ _).alloc _
 have v:gn wA (w.heap.size+1) 49 #[sx,sy,sw,sh]:=by rw[ag];exact gn.new2 w _ _ _
 have Z:=gd ag;have Q:=r.X 0;have R:=r.X 1;have⟨s0,s1,s2,s3⟩:=jM v;simp at Q R s0 s1 s2 s3;have⟨ae,ax⟩:=gy j p;have⟨fx,ac⟩:=zX (if dx=-9223372036854775808 then dx else(dx.natAbs:Int));have⟨fy,ad⟩:=zX (if dy=-9223372036854775808 then dy else(dy.natAbs:Int));rw[<-ac]at t;rw[<-ad]at u;have K:fx<=4->dx<=4:=λh=>by
  rw[ac]at h;split at h<;>omega
 have E : -4<=dx->dx<=4->fx<=4:=λh h'=>by
  rw[ac,if_neg (by omega)];omega
 have L:fy<=4->dy<=4:=λh=>by
  rw[ad]at h;split at h<;>omega
 have F : -4<=dy->dy<=4->fy<=4:=λh h'=>by
  rw[ad,if_neg (by omega)];omega
 have⟨av,aw⟩:=gy t u;clear ag r v j p ac ad t u;have⟨an,ao⟩:=gy (And.intro K E) (And.intro L F);clear K E L F;go_enter func40,ntmps40;go_wp2_with fail;rw[<-Z.o];refine gx (av.o _) ?_;by_cases c1:fx<=4
 .have t1:decide (fx<=4)=true:=zB c1
  have aH:dx<=4:=an.o.1 c1;clear c1;go_wp2_with fail;refine(aw.o _).mono ?_;rintro e aL ⟨rfl,rfl⟩;by_cases c2:fy<=4
  .have t2:decide (fy<=4)=true:=zB c2
   have aI:dy<=4:=ao.o.1 c2;clear c2;by_cases c3 : -4<=dx
   .have t3:decide (-4<=dx)=true:=zB c3
    by_cases c4 : -4<=dy
    .have t4:decide (-4<=dy)=true:=zB c4
     obtain⟨X,I⟩:∃X:Int,X=(sx:Int)+dx:=⟨_,rfl⟩;obtain⟨Y,J⟩:∃Y:Int,Y=(sy:Int)+dy:=⟨_,rfl⟩;have eX:(sx:Int)+dx=X:=I.symm;have eY:(sy:Int)+dy=Y:=J.symm;obtain⟨XW,A⟩:∃XW:Int,XW=X+(sw:Int):=⟨_,rfl⟩;obtain⟨YH,C⟩:∃YH:Int,YH=Y+(sh:Int):=⟨_,rfl⟩;have aJ:X+(sw:Int)=XW:=A.symm;have aK:Y+(sh:Int)=YH:=C.symm;have b:gh (¬(0<=X/\0<=Y/\XW<=W/\YH<=H)->z=false):=gd λh=>ae.o λk=>h (by omega);have T:gh ((0<=X/\0<=Y/\XW<=W/\YH<=H)->z=true):=gd λh=>ax.o (by omega);have aD : -64<=X:=(by omega);have aE:X<=128:=(by omega);have aF : -64<=Y:=(by omega);have aG:Y<=128:=(by omega);have az : -64<=XW:=(by omega);have aA:XW<=256:=(by omega);have aB : -64<=YH:=(by omega);have aC:YH<=256:=(by omega);clear I J A C c3 c4;by_cases c5:0<=X
     .have t5:decide (0<=X)=true:=zB c5
      by_cases c6:0<=Y
      .have t6:decide (0<=Y)=true:=zB c6
       by_cases c7:XW<=W
       .have t7:decide (XW<=(W:Int))=true:=zB c7
        by_cases c8:YH<=H
        .have t8:decide (YH<=(H:Int))=true:=zB c8
         obtain rfl:z=true:=T.o ⟨c5,c6,c7,c8⟩;go_wp2_with fail;go_ret;exact⟨rfl,a.o⟩
        .have t8:decide (YH<=(H:Int))=false:=zA c8
         obtain rfl:z=false:=b.o (by omega);go_wp2_with fail;go_ret;exact⟨rfl,a.o⟩
       .have t7:decide (XW<=(W:Int))=false:=zA c7
        obtain rfl:z=false:=b.o (by omega);go_wp2_with fail;go_ret;exact⟨rfl,a.o⟩
      .have t6:decide (0<=Y)=false:=zA c6
       obtain rfl:z=false:=b.o (by omega);go_wp2_with fail;go_ret;exact⟨rfl,a.o⟩
     .have t5:decide (0<=X)=false:=zA c5
      obtain rfl:z=false:=b.o (by omega);go_wp2_with fail;go_ret;exact⟨rfl,a.o⟩
    .have t4:decide (-4<=dy)=false:=zA c4
     obtain rfl:z=false:=ae.o (by omega);go_wp2_with fail;go_ret;exact⟨rfl,a.o⟩
   .have t3:decide (-4<=dx)=false:=zA c3
    obtain rfl:z=false:=ae.o (by omega);go_wp2_with fail;go_ret;exact⟨rfl,a.o⟩
  .have t2:decide (fy<=4)=false:=zA c2
   obtain rfl:z=false:=ae.o (λh=>c2 (ao.o.2 h.2.2.1 h.2.2.2.1));clear c2;go_wp2_with fail;go_ret;exact⟨rfl,a.o⟩
 .have t1:decide (fx<=4)=false:=zA c1
  obtain rfl:z=false:=ae.o (λh=>c1 (an.o.2 h.1 h.2.1));clear c1;go_wp2_with fail;go_ret;exact⟨rfl,a.o⟩
theorem I7(W H d n g o cap:Nat)(s:Sq)(m:Int × Int)(w:World)(v:W<=64)(hH:H<=64)(j:s.x<=64)(p:s.y<=64)(r:s.w<=64)(t:s.h<=64):Calls prog 35 #[.agg #[.int .i64 W,.int .i64 H,.int .i64 d,.slice (some ⟨g,o,none⟩) n cap],iV s,m.1,m.2] w λe w'=>e=.returned (.bool (m7 W H s m))/\gf [] w w':=by
 by_cases hin:(-64<=m.1/\m.1<=64)/\-64<=m.2/\m.2<=64
 .exact ux W H d n g o cap s m w v hH j p r t hin.1.1 hin.1.2 hin.2.1 hin.2.2
 .have u:m7 W H s m=false:=ya λh=>hin (by unfold iB at h;omega)
  rw[u];obtain⟨a,b⟩:=m;obtain⟨sx,sy,sw,sh⟩:=s;unfold iV;simp only at hin⊢;clear j p r t u;by_cases c1:a < -4
  .have z:decide (a < -4)=true:=zB c1
   go_enter func35,ntmps35;go_wp2_with fail;go_ret;exact⟨rfl,((zR [] w).alloc _).alloc _⟩
  by_cases c2:4<a
  .have A:decide (4<a)=true:=zB c2
   go_enter func35,ntmps35;go_wp2_with fail;go_ret;exact⟨rfl,((zR [] w).alloc _).alloc _⟩
  by_cases c3:b < -4
  .have C:decide (b < -4)=true:=zB c3
   go_enter func35,ntmps35;go_wp2_with fail;go_ret;exact⟨rfl,((zR [] w).alloc _).alloc _⟩
  have E:decide (4<b)=true:=zB (by omega);go_enter func35,ntmps35;go_wp2_with fail;go_ret;exact⟨rfl,((zR [] w).alloc _).alloc _⟩
def jX(f:Int × Int->Nat)(ok:Int × Int->Prop)(S V U x y least:Int):Prop:=
 (least=-1/\∀m,mr S V U m->¬ok m)\/∃C:Nat,least=(C:Int)/\C=f (x,y)/\iP f ok (mr S V U) (x,y)/\mr S V U (x,y)
section
variable {f:Int × Int->Nat} {ok:Int × Int->Prop} {S V U x y least:Int}
theorem xo{m:Int × Int}(h:mr S V U m):mr S V (U+1) m:=by
 obtain⟨a,b,e,j,n⟩:=h;exact⟨a,b,e,j,by omega⟩
theorem jX.start:jX f ok 0 (-4) (-4) x y (-1):=.inl ⟨rfl,λm h=>absurd h (ID m)⟩
theorem jX.other(h:jX f ok S V U x y least)(e:(U.natAbs:Int)+V.natAbs≠S):jX f ok S V (U+1) x y least:=by
 rcases h with⟨a,b⟩|⟨C,a,b,j,n⟩
 .exact .inl ⟨a,λm hm=>b m (Bd e m hm)⟩
 .exact .inr ⟨C,a,b,j.mono λm hm _=>Bd e m hm,xo n⟩
theorem jX.skip(h:jX f ok S V U x y least)(e:¬ok (U,V)):jX f ok S V (U+1) x y least:=by
 rcases h with⟨a,b⟩|⟨C,a,b,j,n⟩
 .refine .inl ⟨a,λm hm=>?_⟩
  rcases qT m hm with h|rfl
  .exact b m h
  .exact e
 .exact .inr ⟨C,a,b,(j.skip e).mono λm hm _=>qT m hm,xo n⟩
theorem IE(a : -4<=U)(b:U<=4)(e : -4<=V)(j:V<=4)(m:(U.natAbs:Int)+V.natAbs=S):mr S V (U+1) (U,V):=by
 refine⟨a,b,e,j,.inr ⟨?_,.inr ⟨rfl,by simp only;omega⟩⟩⟩;show((U.natAbs+V.natAbs:Nat):Int)=S;omega
theorem jX.take(h:jX f ok S V U x y least)(a:ok (U,V))(b : -4<=U)(e:U<=4)(j : -4<=V)(n:V<=4)(t:(U.natAbs:Int)+V.natAbs=S)(v:least<0\/(f (U,V):Int)<least):jX f ok S V (U+1) U V (f (U,V):Nat):=by
 refine .inr ⟨f (U,V),rfl,rfl,?_,IE b e j n t⟩;rcases h with⟨r,p⟩|⟨C,r,p,s,u⟩
 .exact(iP.firstR p a).mono λm hm _=>qT m hm
 .exact(s.takeR a (by omega)).mono λm hm _=>qT m hm
theorem jX.Q(h:jX f ok S V U x y least)(t:(U.natAbs:Int)+V.natAbs=S)(r:¬least<0)(s:¬(f (U,V):Int)<least):jX f ok S V (U+1) x y least:=by
 rcases h with⟨a,b⟩|⟨C,a,b,n,j⟩
 .omega
 .refine .inr ⟨C,a,b,(n.keepR (by omega) ?_).mono λm hm _=>qT m hm,xo j⟩
  obtain⟨_,_,_,_,p⟩:=j;have e:((k6 (U,V):Nat):Int)=S:=by
   show((U.natAbs+V.natAbs:Nat):Int)=S;omega
  simp only at p⊢;omega
theorem jX.row(h:jX f ok S V 5 x y least):jX f ok S (V+1) (-4) x y least:=by
 rcases h with⟨j,n⟩|⟨C,j,n,p,r⟩
 .exact .inl ⟨j,λm hm=>n m (CD m hm)⟩
 .refine .inr ⟨C,j,n,p.mono λm hm _=>CD m hm,?_⟩
  obtain⟨a,b,c,d,e⟩:=r;exact⟨a,b,c,d,by simp only at a b e⊢;omega⟩
theorem jX.size(h:jX f ok S 5 (-4) x y least):jX f ok (S+1) (-4) (-4) x y least:=by
 rcases h with⟨j,n⟩|⟨C,j,n,p,r⟩
 .exact .inl ⟨j,λm hm=>n m (BP m hm)⟩
 .refine .inr ⟨C,j,n,p.mono λm hm _=>BP m hm,?_⟩
  obtain⟨a,b,c,d,e⟩:=r;exact⟨a,b,c,d,by omega⟩
theorem jX.done(h:jX f ok 9 (-4) (-4) x y least)(n:ok (0,0))(r:∀m,ok m->-4<=m.1/\m.1<=4/\-4<=m.2/\m.2<=4):∃C:Nat,least=(C:Int)/\C=f (x,y)/\iP f ok (λ_=>True) (x,y):=by
 rcases h with⟨j,e⟩|⟨C,j,e,p,s⟩
 .exact absurd n (e _ (CB _ (by decide) (by decide) (by decide) (by decide)))
 .exact⟨C,j,e,p.mono λm _ ho=>by
   obtain⟨a,b,c,d⟩:=r m ho;exact CB m a b c d⟩
theorem jX.low(h:jX f ok S V U x y least):-1<=least:=by
 rcases h with⟨a,_⟩|⟨C,a,_⟩<;>omega
end
theorem BG{p q:gH}(cap:Nat)(h:gW w p g o B c G)(cap':Nat)(P:gW w q g' o' B' c' G')(A:jv p q)(s:Sq)(I:lT p.W p.H s)(R:1<=s.w)(Q:1<=s.h):Calls prog 32 #[gN p g o cap,gN q g' o' cap',iV s] w (qV w p q s):=by
 have E:=h.ok;have aG:s.w<=64:=by have:=I.x;have:=E.w1;omega
 have aF:s.h<=64:=by have:=I.y;have:=E.h1;omega
 have aX:s.x<=64:=by have:=I.x;have:=E.w1;omega
 have aY:s.y<=64:=by have:=I.y;have:=E.h1;omega
 have aw:∀w',gf [] w w'->∀m:Int × Int,qK p.W p.H s m->_:=λw' a m hm=>Dk cap (h.Y a) cap' (P.Y a) A s m I hm R Q;have ax:∀w' (m:Int × Int),-4<=m.1->m.1<=4->-4<=m.2->m.2<=4->_:=λw' m m1 m2 m3 m4=>Ey q.W q.H q.d q.P.length g' o' cap' s m w' (by rw[<-A.W];exact E.w1) (by rw[<-A.H];exact E.h1) aX aY aG aF (by omega) (by omega) (by omega) (by omega);have aT:∀m,iT p q s m<=536870912:=λm=>by
  have h1:=sF p q s m P.ok.d0 P.ok.d1 aG aF q.P.length;have h2:=P.ok.n1;have h3:iT p q s m=mD p q s m q.P.length:=rfl;omega
 have aS:=λ(v:Int) w' (h0 : -4<=v) (h1:v<=4)=>MX v w' (by omega) (by omega);have aZ:=Dc I;rw[<-A.W,<-A.H]at ax;unfold gN iV at aw⊢;rw[<-A.W,<-A.H]at aw⊢;unfold iV at ax;have⟨w1,ai⟩:=zX ((((w.alloc (.cells #[p.W,p.H,p.d,.slice (some ⟨g,o,none⟩) p.P.length cap] 25)).alloc (.cells #[p.W,p.H,q.d,.slice (some ⟨g',o',none⟩) q.P.length cap'] 25)).alloc (.cells #[s.x,s.y,s.w,s.h] 49)));have M:gn w1 w.heap.size 25 #[p.W,p.H,p.d,.slice (some ⟨g,o,none⟩) p.P.length cap]:=by rw[ai];exact((gn.new w _ _).alloc _).alloc _
 have N:gn w1 (w.heap.size+1) 25 #[p.W,p.H,q.d,.slice (some ⟨g',o',none⟩) q.P.length cap']:=by rw[ai];exact(gn.new2 w _ _ _).alloc _
 have O:gn w1 (w.heap.size+1+1) 49 #[s.x,s.y,s.w,s.h]:=by rw[ai];exact gn.new3 w _ _ _ _
 have aH:gh (gf [] w w1):=gd (by rw[ai];exact(((zR [] w).alloc _).alloc _).alloc _);have bb:=gd ai
 have ap:∀wr,gf [] w1 wr->(wr.cell? ⟨w.heap.size,0,none⟩=some (.int .i64 p.W)/\wr.cell? ⟨w.heap.size,1,none⟩=some (.int .i64 p.H)/\wr.cell? ⟨w.heap.size,2,none⟩=some (.int .i64 p.d)/\wr.cell? ⟨w.heap.size,3,none⟩=some (.slice (some ⟨g,o,none⟩) p.P.length cap)) /\
   (wr.cell? ⟨w.heap.size+1,0,none⟩=some (.int .i64 p.W)/\wr.cell? ⟨w.heap.size+1,1,none⟩=some (.int .i64 p.H)/\wr.cell? ⟨w.heap.size+1,2,none⟩=some (.int .i64 q.d)/\wr.cell? ⟨w.heap.size+1,3,none⟩=some (.slice (some ⟨g',o',none⟩) q.P.length cap')) /\
   (wr.cell? ⟨w.heap.size+1+1,0,none⟩=some (.int .i64 s.x)/\wr.cell? ⟨w.heap.size+1+1,1,none⟩=some (.int .i64 s.y)/\wr.cell? ⟨w.heap.size+1+1,2,none⟩=some (.int .i64 s.w)/\wr.cell? ⟨w.heap.size+1+1,3,none⟩=some (.int .i64 s.h)):=λwr a=>
  ⟨⟨(M.Z a (by simp)).X 0,(M.Z a (by simp)).X 1,(M.Z a (by simp)).X 2,(M.Z a (by simp)).X 3⟩,⟨(N.Z a (by simp)).X 0,(N.Z a (by simp)).X 1,(N.Z a (by simp)).X 2,(N.Z a (by simp)).X 3⟩,⟨(O.Z a (by simp)).X 0,(O.Z a (by simp)).X 1,(O.Z a (by simp)).X 2,(O.Z a (by simp)).X 3⟩⟩
 have⟨aj,a4,a7,a8⟩:=gz ap aw ax aT;have⟨aJ,aA⟩:=gy aS aZ;clear ai M N O ap aw ax aT E h P A I aG aF aX aY aS aZ R Q;go_enter func32,ntmps32;go_wp2_with fail;rw[<-bb.o]
 go_loopg [9,10,11,12,13,14,15] 9 (λj v9 v10 v11 v12 v13 v14 v15 wr=>∃(x y C S:Int),v9=.int .i64 x/\v10=.int .i64 y/\v11=.int .i64 C/\v12=.int .i64 S/\S+j=9/\0<=S/\-1<=C/\C<=536870912/\gh (jX (iT p q s) (iB p.W p.H s) S (-4) (-4) x y C)/\gh (gf [] w1 wr))
 .exact⟨0,0,-1,0,rfl,rfl,rfl,rfl,by omega,by omega,by omega,by omega,gd jX.start,gd (zR _ _)⟩
 obtain⟨x,y,C,S,rfl,rfl,rfl,rfl,aN,bd,r,t,b,n⟩:=hrel;rcases gk with _|j
 .have t1:decide (S<=8)=false:=zA (by omega)
  have aM:S=9:=by omega
  have u:=b.o;rw[aM]at u;obtain⟨C',e1,e2,L⟩:=u.done aA.o (λm ho=>⟨ho.1,ho.2.1,ho.2.2.1,ho.2.2.2.1⟩);subst e1;have⟨HL,HE⟩:=gy L e2;clear u e2 L aM;go_wp2;refine bodyPost_ret (v:=.tuple #[x,y,C']) (by simp[results,results32,go_sem]) rfl ?_;exact⟨x,y,C',rfl,⟨HL.o.may,HE.o,λm _ ho=>by rw[HE.o];exact HL.o.cost trivial ho,by rw[HE.o];exact HL.o.cost trivial aA.o,λh0=>HL.o.none trivial aA.o h0,HL.o⟩,aH.o.tq n.o⟩
 .have t1:decide (S<=8)=true:=zB (by omega)
  have be:S<=8:=by omega
  have a9:=gd aN;clear aN;go_wp2_with fail
  go_loopg [9,10,11,13,14,15] 9 (λj2 v9 v10 v11 v13 v14 v15 wr2=>∃(x y C V:Int),v9=.int .i64 x/\v10=.int .i64 y/\v11=.int .i64 C/\v13=.int .i64 V/\V+j2=5/\-4<=V/\-1<=C/\C<=536870912/\gh (jX (iT p q s) (iB p.W p.H s) S V (-4) x y C)/\gh (gf [] w1 wr2))
  .exact⟨x,y,C,-4,rfl,rfl,rfl,rfl,by omega,by omega,r,t,b,n⟩
  clear r t b n;obtain⟨x,y,C,V,rfl,rfl,rfl,rfl,aR,av,r,t,b,n⟩:=hrel;rcases gk with _|j2
  .have t2:decide (V<=4)=false:=zA (by omega)
   have aQ:V=5:=(by omega);have u:=b.o;rw[aQ]at u;have ay:=gd u.size;clear aQ u;go_wp2_with fail
   go_roundg j
   .exact⟨x,y,C,S+1,rfl,rfl,rfl,by go_num,by have:=a9.o;omega,by omega,r,t,ay,n⟩
   .omega
  .have t2:decide (V<=4)=true:=zB (by omega)
   have au:V<=4:=(by omega);have ba:=gd aR;clear aR;go_wp2_with fail
   go_loopg [9,10,11,14,15] 9 (λJ v9 v10 v11 v14 v15 wr3=>∃(x y C U:Int),v9=.int .i64 x/\v10=.int .i64 y/\v11=.int .i64 C/\v14=.int .i64 U/\U+J=5/\-4<=U/\-1<=C/\C<=536870912/\gh (jX (iT p q s) (iB p.W p.H s) S V U x y C)/\gh (gf [] w1 wr3))
   .exact⟨x,y,C,-4,rfl,rfl,rfl,rfl,by omega,by omega,r,t,b,n⟩
   clear r t b n;obtain⟨x,y,C,U,rfl,rfl,rfl,rfl,aP,Z,r,t,b,n⟩:=hrel;rcases gk with _|J
   .have t3:decide (U<=4)=false:=zA (by omega)
    have aO:U=5:=(by omega);have u:=b.o;rw[aO]at u;have ay:=gd u.row;clear aO u;go_wp2_with fail
    go_roundg j2
    .exact⟨x,y,C,V+1,rfl,rfl,rfl,by go_num,by have:=ba.o;omega,by omega,r,t,ay,n⟩
    .omega
   .have t3:decide (U<=4)=true:=zB (by omega)
    have Y:U<=4:=(by omega);have K:=gd aP;have aD:=λw'=>aJ.o U w' Z Y;have aE:=λw'=>aJ.o V w' av au;have⟨aU,aB⟩:=zX U.natAbs;have⟨aV,aC⟩:=zX V.natAbs;rw[<-aB]at aD;rw[<-aC]at aE;have⟨T,hT⟩:=zX (aU+aV);have eT:(aU:Int)+(aV:Int)=(T:Int):=(by omega);have bT:T<=8:=(by omega);have HT:gh ((U.natAbs:Int)+V.natAbs=(T:Int)):=gd (by rw[hT,aB,aC];simp);have⟨a5,a6⟩:=gy aD aE;clear aP aB aC hT aD aE;go_wp2_with fail;refine gx (a5.o _) ?_;go_wp2_with fail;refine(a6.o _).mono ?_;rintro e bf ⟨rfl,rfl⟩;by_cases hTS:(T:Int)=S
    .have t4:((T:Int) != S)=false:=by simpa using hTS
     obtain⟨⟨a0,a1,a2,a3⟩,⟨b0,b1,b2,b3⟩,⟨s0,s1,s2,s3⟩⟩:=aj.o _ n.o;have hi:=λwz=>a7.o wz (U,V) Z Y av au;simp only at hi;have af:=oD p.W p.H s (U,V);have az:=gd (HT.o.trans hTS);have⟨z,hz⟩:=zX (m7 p.W p.H s (U,V));rw[<-hz]at hi af;have⟨ak,HI⟩:=gy af hi;clear hz af hTS hi;go_wp2_with fail;refine(HI.o _).mono ?_;rintro e w3 ⟨rfl,aK⟩;have X:=gd (n.o.tq aK);clear HI aK a0 a1 a2 a3 b0 b1 b2 b3 s0 s1 s2 s3
     cases z with
     | false=>
      have aW:¬iB p.W p.H s (U,V):=λh=>by have:=ak.o.2 h;simp at this
      have ad:=gd (b.o.skip aW);clear aW;go_wp2_with fail
      go_roundg J
      .exact⟨x,y,C,U+1,rfl,rfl,rfl,by go_num,by have:=K.o;omega,by omega,r,t,ad,X⟩
      .omega
     | true=>
      have ah:gh (iB p.W p.H s (U,V)):=gd (ak.o.1 rfl);obtain⟨⟨a0,a1,a2,a3⟩,⟨b0,b1,b2,b3⟩,⟨s0,s1,s2,s3⟩⟩:=aj.o w3 X.o;have a:=a4.o w3 (aH.o.tq X.o) (U,V) ah.o.fit;have bc:=a8.o (U,V);simp only at a;have⟨D,hD⟩:=zX (iT p q s (U,V));rw[<-hD]at a bc;have⟨HD,aI⟩:=gy hD a;clear hD a;go_wp2_with fail;refine aI.o.mono ?_;rintro e w4 ⟨rfl,aL⟩;have ae:=gd (X.o.tq aL);clear aI aL a0 a1 a2 a3 b0 b1 b2 b3 s0 s1 s2 s3;by_cases hl:C<0
      .have t5:decide (C<0)=true:=zB hl
       have F:=b.o.take ah.o Z Y av au az.o (.inl hl);rw[<-HD.o]at F;have ad:=gd F;clear hl F;go_wp2_with fail
       go_roundg J
       .exact⟨U,V,D,U+1,rfl,rfl,rfl,by go_num,by have:=K.o;omega,by omega,by omega,by omega,ad,ae⟩
       .omega
      .have t5:decide (C<0)=false:=zA hl
       by_cases hl2:(D:Int)<C
       .have t6:decide ((D:Int)<C)=true:=zB hl2
        have F:=b.o.take ah.o Z Y av au az.o (.inr (by rw[<-HD.o];exact hl2));rw[<-HD.o]at F;have ad:=gd F;clear hl hl2 F;go_wp2_with fail
        go_roundg J
        .exact⟨U,V,D,U+1,rfl,rfl,rfl,by go_num,by have:=K.o;omega,by omega,by omega,by omega,ad,ae⟩
        .omega
       .have t6:decide ((D:Int)<C)=false:=zA hl2
        have ad:=gd (b.o.Q az.o hl (by rw[<-HD.o];exact hl2));clear hl hl2;go_wp2_with fail
        go_roundg J
        .exact⟨x,y,C,U+1,rfl,rfl,rfl,by go_num,by have:=K.o;omega,by omega,r,t,ad,ae⟩
        .omega
    .have t4:((T:Int) != S)=true:=by simpa using hTS
     have ad:=gd (b.o.other (by rw[HT.o];exact hTS));clear hTS;go_wp2_with fail
     go_roundg J
     .exact⟨x,y,C,U+1,rfl,rfl,rfl,by go_num,by have:=K.o;omega,by omega,r,t,ad,n⟩
     .omega
theorem I4{v:Int}(e:1<=d):ii v d=0 ↔ iw v d=0:=by
 have a:=rt v d;have b:=jZ (d-1);unfold ii;split<;>omega
theorem GP{a b:Int}(j:0<=a)(m:a<2^d)(n:0<=b)(p:b<2^d):iw (a-b) d=0 ↔ a=b:=by
 constructor
 .intro h
  have e:=Aq b (a-b) d;rw[h,Int.add_zero,show b+(a-b)=a by omega,tf n p,tf j m]at e;exact e.symm
 .rintro rfl
  rw[Int.sub_self,tf (by omega) (by omega)]
theorem xv{d:Nat}(e:1<=d):∀ {now old:List Int},now.length=old.length->gU d now->gU d old->(kF now old d=0 ↔ now=old)
 | [],[],_,_,_=>by simp[kF]
 | a::now,b::old,hl,h1,h2=>by
  have z:=xv e (now:=now) (old:=old) (by simpa using hl) (λs hs=>h1 s (by simp[hs])) (λs hs=>h2 s (by simp[hs]));obtain⟨j,m⟩:=h1 a (by simp);obtain⟨n,p⟩:=h2 b (by simp);have r:kF (a::now) (b::old) d=(ii (a-b) d).natAbs+kF now old d:=by simp[kF]
  have t:=GP (d:=d) j m n p;have u:=I4 (v:=a-b) e;rw[r,List.cons.injEq,<-z,<-t,<-u];omega
theorem EM:∀ {l:List Nat},l.sum=0 ↔ ∀x∈l,x=0
 | []=>by simp
 | a::l=>by rw[sum_cons,List.forall_mem_cons,<-EM (l := l)];omega
theorem IU{p q:gH}(j:p.Ok)(e:q.Ok)(b:jv p q)(s:Sq)(m:Int × Int):iT p q s m=0 ↔ p9 p q s m=true:=by
 unfold iT p9;rw[EM,all_eq_true];constructor
 .intro h i hi
  have a:=List.mem_range.1 hi
  have:=h _ (List.mem_map.2 ⟨i,hi,rfl⟩)
  rw[xv e.d0 (by rw[ka,ka]) (oA e a _ _) (by rw[<-b.d];exact oA j (by rw[b.n];exact a) _ _)]at this;exact zB this
 .intro h x n
  obtain⟨i,hi,rfl⟩:=List.mem_map.1 n;have a:=List.mem_range.1 hi;rw[xv e.d0 (by rw[ka,ka]) (oA e a _ _) (by rw[<-b.d];exact oA j (by rw[b.n];exact a) _ _)];exact of_decide_eq_true (h i hi)
theorem Km(now old:List Int)(d:Nat):oK now old d=(kg now old).map λv=>iw v d:=by
 unfold oK kg;rw[List.map_zipWith]
def nx(D:List Int)(d k:Nat):List Int:=(D.take k).map (λv=>iw v d)++D.drop k
theorem LW(D:List Int)(d:Nat):nx D d 0=D:=by simp[nx]
theorem LU(D:List Int)(d:Nat):nx D d D.length=D.map λv=>iw v d:=by simp[nx]
theorem No(D:List Int)(d k:Nat):(nx D d k).length=D.length:=by
 unfold nx;rw[zC,zE,zI,zO];omega
theorem Op(d:Nat)(a:k<D.length):(nx D d k)[k]?=some D[k]:=by
 unfold nx;rw[zS (by rw[zE,zI];omega),zE,zI,Nat.min_eq_left (by omega),Nat.sub_self,getElem?_drop,Nat.add_zero,zF a]
theorem Np(d:Nat)(a:k<D.length):(nx D d k).set k (iw D[k] d)=nx D d (k+1):=by
 unfold nx;have b:((D.take k).map λv=>iw v d).length=k:=by rw[zE,zI];omega
 rw[set_append_right _ _ (by omega),b,Nat.sub_self,drop_eq_getElem_cons a,set_cons_zero,take_succ_eq_append_getElem a,zM,zH];rfl
def jC(p q:gH)(bs:List Sq)(s:Sq)(i:Nat):gH:=⟨p.W,p.H,p.d,(range p.P.length).map λk=>ky (q.P.getD k []) (p.P.getD k []) p.W (if k<i then bs++[s]else bs)⟩
theorem MF{bs:List Sq}(e:gU d q)(b:gU d l):gU d (ky q l W bs):=by
 intro v a;unfold ky at a;obtain⟨k,_,rfl⟩:=List.mem_map.1 a;split
 .exact nB e k
 .exact nB b k
theorem oZ(p q:gH)(bs:List Sq)(s:Sq)(i:Nat):(jC p q bs s i).P.length=p.P.length:=by simp[jC]
theorem yS{p q:gH}(bs:List Sq)(s:Sq)(i:Nat)(a:k<p.P.length):(jC p q bs s i).P[k]?=some (ky (q.P.getD k []) (p.P.getD k []) p.W (if k<i then bs++[s]else bs)):=by
 unfold jC;rw[zW,getElem?_range a];rfl
theorem Ot{p q:gH}(a:p.Ok)(m:q.Ok)(j:jv p q)(bs:List Sq)(s:Sq)(i:Nat):(jC p q bs s i).Ok where
 w0:=a.w0
 w1:=a.w1
 h0:=a.h0
 h1:=a.h1
 d0:=a.d0
 d1:=a.d1
 n0:=by rw[oZ];exact a.n0
 n1:=by rw[oZ];exact a.n1
 len:=λl hl=>by
  unfold jC at hl
  obtain⟨k,b,rfl⟩:=List.mem_map.1 hl
  rw[qu]
  exact a.len _ (mM (by simpa using b))
 smp:=λl hl=>by
  unfold jC at hl
  obtain⟨k,b,rfl⟩:=List.mem_map.1 hl
  have e:k<p.P.length:=by simpa using b
  refine MF ?_ (a.smp _ (mM e))
  show gU p.d _
  rw[j.d]
  exact m.smp _ (mM (by rw[<-j.n];exact e))
theorem LY{p q:gH}(bs:List Sq)(s:Sq)(hi:i<p.P.length):(jC p q bs s i).P.set i (ky (q.P.getD i []) (p.P.getD i []) p.W (bs++[s]))=(jC p q bs s (i+1)).P:=by
 apply ext_getElem?;intro k;rcases zZ k p.P.length with a|a
 .rw[yS bs s (i+1) a]
  by_cases he:i=k
  .subst he
   rw[getElem?_set_self (by rw[oZ];exact a),if_pos (by omega)]
  .rw[getElem?_set_ne he,yS bs s i a]
   by_cases h1:k<i
   .rw[if_pos h1,if_pos (by omega)]
   .rw[if_neg h1,if_neg (by omega)]
 .rw[getElem?_eq_none (by rw[length_set,oZ];exact a),getElem?_eq_none (by rw[oZ];exact a)]
theorem Nw(p q:gH)(bs:List Sq)(s e:Sq):jC p q bs s p.P.length=jC p q (bs++[s]) e 0:=by
 unfold jC
 congr 1
 apply map_congr_left;intro k b;have a:k<p.P.length:=by simpa using b
 rw[if_pos a,if_neg (by omega)]
theorem Kc{p q:gH}(s:Sq):jC p q [] s 0=p:=by
 obtain⟨W,H,d,P⟩:=p;unfold jC
 congr 1
 apply ext_getElem?;intro k;rcases zZ k P.length with a|a
 .rw[zW,getElem?_range a]
  simp only[Option.map_some,Nat.not_lt_zero,if_false];rw[MD,zD,zF a];rfl
 .rw[getElem?_eq_none (by simpa using a),getElem?_eq_none a]
theorem Nu{p q:gH}(E:p.Ok)(F:q.Ok)(C:jv p q)(s:Sq):jC p q (gZ p.W p.H 8) s 0=q:=by
 obtain⟨n,r,t,v⟩:=C;obtain⟨W,H,d,P⟩:=p;obtain⟨J,I,K,b⟩:=q;simp only at n r t v;subst n;subst r;subst t;unfold jC
 congr 1
 apply ext_getElem?;intro k;rcases zZ k P.length with a|a
 .have e:k<b.length:=by omega
  rw[zW,getElem?_range a];simp only[Option.map_some,Nat.not_lt_zero,if_false];have z:P.getD k []=P[k]:=by rw[zD,zF a];rfl
  have A:b.getD k []=b[k]:=by rw[zD,zF e];rfl
  have m:=E.len P[k] (zG a);have u:=F.len b[k] (zG e);simp only at m u;rw[z,A,MC (by rw[m,u]) (λj hj=>I6 (by decide) (by rw[m]at hj;exact hj)),zF e]
 .rw[getElem?_eq_none (by simpa using a),getElem?_eq_none (by omega)]
theorem KX(l:List Int)(W x y:Nat){w:Nat}(a:k<h):((jb l W x y w h).drop (k*w)).take w=(range w).map λi=>l.getD ((y+k)*W+(x+i)) 0:=by
 have b:k*w+w<=h*w:=by
  have:=mul_le_mul_right w (show k+1<=h by omega)
  rw[succ_mul]at this;exact this
 apply ext_getElem?;intro i;rcases zZ i w with hi|hi
 .rw[getElem?_take,if_pos hi,getElem?_drop,KW l W x y a hi,zW,getElem?_range hi]
  rfl
 .rw[getElem?_eq_none (by rw[zI];omega),getElem?_eq_none (by simp;omega)]
theorem Hz{bs:List Sq}{sx sy sw sh:Nat}(j:q.length=l.length)(e:l.length=W*H)(m:sx+sw<=W)(n:sy+sh<=H)(b:k<sh):splice ((ky q l W (bs++[⟨sx,sy,sw,k⟩])).map vi) ((sy+k)*W+sx) ((((jb q W sx sy sw sh).drop (k*sw)).take sw).map vi)=(ky q l W (bs++[⟨sx,sy,sw,k+1⟩])).map vi:=by
 rw[KX q W sx sy b];have a:=ME (q:=q) (l:=l) (W:=W) (H:=H) (bs:=bs) (s:=⟨sx,sy,sw,k⟩) j e m (by simp only;omega);simp only at a;rw[<-a];simp[splice,map_take,map_drop]
theorem EL{P:Program}{t e:TypeId}(b:P.underlying t=some (.slice e))(A:Option Addr)(n c hi:Nat)(h:hi<=n)(j:n<=c)(w:World)(m:(sizeOf e).run P w=.ok 1 w):(Instr.slice t (.slice A n c) none (some (.int .i64 hi)) none).run P w=.ok (.slice A hi c) w:=by
 have a:=uS b;rw[run_slice_h (P:=P) (w:=w) t A n c (by rw[a];exact b) .i64 (hi:Int) (by omega) (by omega),a,m];simp[sliced];intro _
 cases A with
 | none=>rfl
 | some ad=>simp[Addr.add]
theorem Hv:∀n,gA 0 n=replicate n 0:=λn=>by
 apply ext_getElem?;intro i;rcases zZ i n with hi|hi
 .rw[xt 0 n i hi,getElem?_replicate,if_pos hi]
  simp
 .rw[getElem?_eq_none (by rw[gJ];exact hi),getElem?_eq_none (by rw[zV];exact hi)]
theorem Oe{ss:List Sq}(h:i<ss.length):ss.take (i+1)=ss.take i++[gC ss i]:=by
 rw[take_succ_eq_append_getElem h];unfold gC;rw[zD,zF h];rfl
theorem uH(h:∀b∈bs,b<2):∀b∈kT bs,b<2:=λb hb=>by
 unfold kT at hb;rcases zP.1 hb with a|a
 .exact h b a
 .rw[eq_of_mem_replicate a];omega
theorem Kb(h:∀b∈bs,b<2):jG (iE (kT bs)) bs.length (gA 0 ((8-bs.length%8)%8)):=by
 have a:=uH h;have e:kT bs=bs++gA 0 ((8-bs.length%8)%8)++[]:=by
  rw[Hv];unfold kT;rw[append_nil]
 rw[e]at a⊢;exact AE a
theorem Ka(bs:List Nat):8*(iE (kT bs)).length-bs.length=(8-bs.length%8)%8:=by
 rw[mL,rj];omega
theorem uY(w:World):(sizeOf 5).run prog w=.ok 1 w:=by
 exact sizeOf5 w
end Go.Proofs.YtnepiccbpokmiaaGreatDoor
