/- Lemmas. -/
import Derived.Test.YtifdlkoepaepiaaGreatDoorMh36
import Derived.ChangeKeysEq
set_option linter.all false
set_option maxHeartbeats 4000000
set_option maxRecDepth 100000
namespace Go.Proofs.YtifdlkoepaepiaaGreatDoor
open Tryz List Nat Go.RowKit
variable {V dx dy:Int}{l now old q:List Int}{G G' bs:List Nat}{H W c d g g' h i k o o':Nat}{c':Nat->Nat}{B B':Nat->Option Addr}{w:World}
def gJ(l:List Sq)(i:Nat):Sq:=l.getD i ⟨0,0,0,0⟩
theorem Dl:∀(l:List Sq) (i:Nat),i<l.length -> (l.flatMap oC)[i*4]?=some (.int .i64 (gJ l i).x)/\(l.flatMap oC)[i*4+1]?=some (.int .i64 (gJ l i).y)/\(l.flatMap oC)[i*4+2]?=some (.int .i64 (gJ l i).w)/\(l.flatMap oC)[i*4+3]?=some (.int .i64 (gJ l i).h)
 | [],i,h=>by simp at h
 | s::l,0,_=>by
  rw[flatMap_cons];exact⟨rfl,rfl,rfl,rfl⟩
 | s::l,i+1,h=>by
  have f:(oC s).length=4:=rfl;obtain⟨a,b,c,d⟩:=Dl l i (by simpa using h);have e:gJ (s::l) (i+1)=gJ l i:=rfl;rw[flatMap_cons,e];refine⟨?_,?_,?_,?_⟩
  .rw[zS (by omega),f,show(i+1)*4-4=i*4 by omega];exact a
  .rw[zS (by omega),f,show(i+1)*4+1-4=i*4+1 by omega];exact b
  .rw[zS (by omega),f,show(i+1)*4+2-4=i*4+2 by omega];exact c
  .rw[zS (by omega),f,show(i+1)*4+3-4=i*4+3 by omega];exact d
theorem tw{A:Option Addr}{l:List Sq}(f:gz (λv=>v) w A (l.flatMap oC))(j:i<l.length):∃g o,A=some ⟨g,o,none⟩/\w.cell? ⟨g,o+i*4,none⟩=some (.int .i64 (gJ l i).x)/\w.cell? ⟨g,o+i*4+1,none⟩=some (.int .i64 (gJ l i).y)/\w.cell? ⟨g,o+i*4+2,none⟩=some (.int .i64 (gJ l i).w)/\w.cell? ⟨g,o+i*4+3,none⟩=some (.int .i64 (gJ l i).h):=by
 have m:=PM l;obtain⟨g,o,e,_,h⟩:=f.ex (by omega);obtain⟨a,b,c,d⟩:=Dl l i j;exact⟨g,o,e,h _ _ a,by have:=h _ _ b;rwa [<-Nat.add_assoc]at this,by have:=h _ _ c;rwa [<-Nat.add_assoc]at this,by have:=h _ _ d;rwa [<-Nat.add_assoc]at this⟩
theorem MX(l:List Int)(W x y:Nat){w:Nat}(b:k<h):((jn l W x y w h).drop (k*w)).take w=(range w).map λi=>l.getD ((y+k)*W+(x+i)) 0:=by
 have e:k*w+w<=h*w:=by
  have:=mul_le_mul_right w (show k+1<=h by omega)
  rw[succ_mul]at this;exact this
 apply ext_getElem?;intro i;rcases zZ i w with a|a
 .rw[getElem?_take,if_pos a,getElem?_drop,MW l W x y b a,zW,getElem?_range a]
  rfl
 .rw[getElem?_eq_none (by rw[zI];omega),getElem?_eq_none (by simp;omega)]
theorem Bk{bs:List Sq}{sx sy sw sh:Nat}(f:q.length=l.length)(e:l.length=W*H)(j:sx+sw<=W)(m:sy+sh<=H)(b:k<sh):splice ((jd q l W (bs++[⟨sx,sy,sw,k⟩])).map vi) ((sy+k)*W+sx) ((((jn q W sx sy sw sh).drop (k*sw)).take sw).map vi)=(jd q l W (bs++[⟨sx,sy,sw,k+1⟩])).map vi:=by
 rw[MX q W sx sy b];have a:=Oc (q:=q) (l:=l) (W:=W) (H:=H) (bs:=bs) (s:=⟨sx,sy,sw,k⟩) f e j (by simp only;omega);simp only at a;rw[<-a];simp[splice,map_take,map_drop]
theorem Rm{P:Program}{t e:TypeId}(f:P.underlying t=some (.slice e))(A:Option Addr)(n c a:Nat)(h:a<=n)(j:n<=c)(w:World)(m:(sizeOf e).run P w=.ok 1 w):(Instr.slice t (.slice A n c) none (some (.int .i64 a)) none).run P w=.ok (.slice A a c) w:=by
 have b:=th f;rw[run_slice_h (P:=P) (w:=w) t A n c (by rw[b];exact f) .i64 (a:Int) (by omega) (by omega),b,m];simp[sliced];intro _
 cases A with
 | none=>rfl
 | some ad=>simp[Addr.add]
theorem Kj:∀n,gx 0 n=replicate n 0:=λn=>by
 apply ext_getElem?;intro i;rcases zZ i n with a|a
 .rw[vV 0 n i a,getElem?_replicate,if_pos a]
  simp
 .rw[getElem?_eq_none (by rw[gH];exact a),getElem?_eq_none (by rw[zV];exact a)]
theorem Hj{ss:List Sq}(h:i<ss.length):ss.take (i+1)=ss.take i++[gJ ss i]:=by
 rw[take_succ_eq_append_getElem h];unfold gJ;rw[zD,zF h];rfl
theorem ux(h:∀b∈bs,b<2):∀b∈kV bs,b<2:=λb hb=>by
 unfold kV at hb;rcases zP.1 hb with a|a
 .exact h b a
 .rw[eq_of_mem_replicate a];omega
theorem Ge(h:∀b∈bs,b<2):ig (iD (kV bs)) bs.length (gx 0 ((8-bs.length%8)%8)):=by
 have a:=ux h;have e:kV bs=bs++gx 0 ((8-bs.length%8)%8)++[]:=by
  rw[Kj];unfold kV;rw[append_nil]
 rw[e]at a⊢;exact zw a
theorem Gd(bs:List Nat):8*(iD (kV bs)).length-bs.length=(8-bs.length%8)%8:=by
 rw[ox,rW];omega
theorem xC(w:World):(sizeOf 5).run prog w=.ok 1 w:=by
 exact sizeOf5 w
def lO(W H:Nat)(s:Sq)(m:Int × Int):Prop:=-4<=m.1/\m.1<=4/\-4<=m.2/\m.2<=4/\0<=(s.x:Int)+m.1/\0<=(s.y:Int)+m.2/\(s.x:Int)+m.1+s.w<=W/\(s.y:Int)+m.2+s.h<=H
def it(p:qc)(i:Nat)(s:Sq)(m:Int × Int):List Int:=jn (p.P.getD i []) p.W ((s.x:Int)+m.1).toNat ((s.y:Int)+m.2).toNat s.w s.h
theorem mE(p:qc)(i:Nat)(s:Sq)(m:Int × Int):(it p i s m).length=s.h*s.w:=o6 _ _ _ _ _ _
theorem tK{p:qc}(h:p.Ok)(a:i<p.P.length)(s:Sq)(m:Int × Int):ie p.d (it p i s m):=Bh (h.smp _ (oO a)) _ _ _ _ _
def qo(now old:List Int)(d:Nat):Nat:=(List.zipWith (λa b=>(ii (a-b) d).natAbs) now old).sum
def mP(p q:qc)(s:Sq)(m:Int × Int):Nat:=((range q.P.length).map λi=>qo (it q i s (0,0)) (it p i s m) q.d).sum
def sA(p q:qc)(s:Sq)(m:Int × Int):Bool:=(range q.P.length).all λi=>decide (it q i s (0,0)=it p i s m)
def jq(p q:qc)(i:Nat)(s:Sq)(m:Int × Int):List Int:=rE (it q i s (0,0)) (it p i s m) q.d
theorem yp(p q:qc)(i:Nat)(s:Sq)(m:Int × Int):(jq p q i s m).length=s.w*s.h:=by
 unfold jq;rw[QJ (by rw[mE,mE]),mE,zY]
def pt(D:List Int)(w h d:Nat):List Nat:=ik (m6 D w h d) D w h d
def lp(m:Int × Int):List Nat:=gx (m.1+4).toNat 4++gx (m.2+4).toNat 4
def j4(p q:qc)(s:Sq)(m:Int × Int)(n:Nat):List Nat:=(range n).flatMap λi=>pt (jq p q i s m) s.w s.h q.d
theorem yn(p q:qc)(s:Sq)(m:Int × Int)(n:Nat):j4 p q s m (n+1)=j4 p q s m n++pt (jq p q n s m) s.w s.h q.d:=by
 unfold j4;rw[range_succ,flatMap_append];simp
def jN(p q:qc)(s:Sq)(m:Int × Int):List Nat:=
 if sA p q s m=true then(if m=(0,0)then gx 0 2 else gx 1 2++lp m)else gx 2 2++(lp m++j4 p q s m q.P.length)
def ji(p q:qc)(ss:List Sq)(ms:List (Int × Int))(n:Nat):List Nat:=(range n).flatMap λi=>jN p q (gJ ss i) (ms.getD i (0,0))
theorem tI(p q:qc)(ss:List Sq)(a:List (Int × Int))(n:Nat):ji p q ss a (n+1)=ji p q ss a n++jN p q (gJ ss n) (a.getD n (0,0)):=by
 unfold ji;rw[range_succ,flatMap_append];simp
theorem Qt{D:List Int}{w:Nat}(b:1<=w)(a:1<=h)(e:1<=d)(f:d<=16)(n:w<=16)(j:h<=16)(m:D.length=w*h):0<(pt D w h d).length/\(pt D w h d).length<200000:=
 Dr (sW D w h d).1 b a e f n j m (sW D w h d).2.1
theorem BX(p q:qc){s:Sq}(m:Int × Int)(b:1<=s.w)(a:1<=s.h)(r:s.w<=8)(j:s.h<=8)(e:1<=q.d)(f:q.d<=16):∀n,(j4 p q s m n).length<=200000*n
 | 0=>by simp[j4]
 | n+1=>by
  rw[yn,zC];have t:=BX p q m b a r j e f n;have u:=(Qt (D:=jq p q n s m) b a e f (by omega) (by omega) (yp _ _ _ _ _)).2;omega
theorem tJ(m:Int × Int):(lp m).length=8:=by unfold lp;rw[zC,gH,gH]
theorem Qo(p q:qc){s:Sq}(m:Int × Int)(b:1<=s.w)(a:1<=s.h)(n:s.w<=8)(j:s.h<=8)(e:1<=q.d)(f:q.d<=16)(r:q.P.length<=4):(jN p q s m).length<=800010:=by
 unfold jN;split
 .split
  .rw[gH];omega
  .rw[zC,gH,tJ];omega
 .have:=BX p q m b a n j e f q.P.length
  rw[zC,zC,gH,tJ];omega
theorem rG{ss:List Sq}(h:i<ss.length):gJ ss i∈ss:=by
 unfold gJ;rw[zD,zF h];exact zG h
theorem BY(p q:qc){ss:List Sq}(e:List (Int × Int))(r:∀s∈ss,1<=s.w/\s.w<=8/\1<=s.h/\s.h<=8)(f:1<=q.d)(j:q.d<=16)(m:q.P.length<=4):∀n,n<=ss.length->(ji p q ss e n).length<=800010*n
 | 0,_=>by simp[ji]
 | n+1,h=>by
  rw[tI,zC];have t:=BY p q e r f j m n (by omega);obtain⟨a,b,c,d⟩:=r _ (rG (i:=n) h);have u:=Qo p q (e.getD n (0,0)) a c b d f j m;omega
def jw(p q:qc)(bs:List Sq)(s:Sq)(i:Nat):qc:=⟨p.W,p.H,p.d,(range p.P.length).map λk=>jd (q.P.getD k []) (p.P.getD k []) p.W (if k<i then bs++[s]else bs)⟩
theorem Qh{bs:List Sq}(e:ie d q)(b:ie d l):ie d (jd q l W bs):=by
 intro v a;unfold jd at a;obtain⟨k,_,rfl⟩:=List.mem_map.1 a;split
 .exact mK e k
 .exact mK b k
theorem pn(p q:qc)(bs:List Sq)(s:Sq)(i:Nat):(jw p q bs s i).P.length=p.P.length:=by simp[jw]
theorem ye{p q:qc}(bs:List Sq)(s:Sq)(i:Nat)(a:k<p.P.length):(jw p q bs s i).P[k]?=some (jd (q.P.getD k []) (p.P.getD k []) p.W (if k<i then bs++[s]else bs)):=by
 unfold jw;rw[zW,getElem?_range a];rfl
theorem Qj{p q:qc}(a:p.Ok)(j:q.Ok)(f:iY p q)(bs:List Sq)(s:Sq)(i:Nat):(jw p q bs s i).Ok where
 w0:=a.w0
 w1:=a.w1
 h0:=a.h0
 h1:=a.h1
 d0:=a.d0
 d1:=a.d1
 n0:=by rw[pn];exact a.n0
 n1:=by rw[pn];exact a.n1
 len:=λl hl=>by
  unfold jw at hl
  obtain⟨k,b,rfl⟩:=List.mem_map.1 hl
  rw[qa]
  exact a.len _ (oO (by simpa using b))
 smp:=λl hl=>by
  unfold jw at hl
  obtain⟨k,b,rfl⟩:=List.mem_map.1 hl
  have e:k<p.P.length:=by simpa using b
  refine Qh ?_ (a.smp _ (oO e))
  show ie p.d _
  rw[f.d]
  exact j.smp _ (oO (by rw[<-f.n];exact e))
theorem Qf{p q:qc}(bs:List Sq)(s:Sq)(b:i<p.P.length):(jw p q bs s i).P.set i (jd (q.P.getD i []) (p.P.getD i []) p.W (bs++[s]))=(jw p q bs s (i+1)).P:=by
 apply ext_getElem?;intro k;rcases zZ k p.P.length with a|a
 .rw[ye bs s (i+1) a]
  by_cases he:i=k
  .subst he
   rw[getElem?_set_self (by rw[pn];exact a),if_pos (by omega)]
  .rw[getElem?_set_ne he,ye bs s i a]
   by_cases h1:k<i
   .rw[if_pos h1,if_pos (by omega)]
   .rw[if_neg h1,if_neg (by omega)]
 .rw[getElem?_eq_none (by rw[length_set,pn];exact a),getElem?_eq_none (by rw[pn];exact a)]
theorem QV(p q:qc)(bs:List Sq)(s e:Sq):jw p q bs s p.P.length=jw p q (bs++[s]) e 0:=by
 unfold jw
 congr 1
 apply map_congr_left;intro k b;have a:k<p.P.length:=by simpa using b
 rw[if_pos a,if_neg (by omega)]
theorem QE{p q:qc}(s:Sq):jw p q [] s 0=p:=by
 obtain⟨W,H,d,P⟩:=p;unfold jw
 congr 1
 apply ext_getElem?;intro k;rcases zZ k P.length with a|a
 .rw[zW,getElem?_range a]
  simp only[Option.map_some,Nat.not_lt_zero,if_false];rw[GT,zD,zF a];rfl
 .rw[getElem?_eq_none (by simpa using a),getElem?_eq_none a]
theorem QT{p q:qc}(y:p.Ok)(z:q.Ok)(x:iY p q)(s:Sq):jw p q (iM p.W p.H 8) s 0=q:=by
 obtain⟨m,n,r,u⟩:=x;obtain⟨W,H,d,P⟩:=p;obtain⟨C,A,D,b⟩:=q;simp only at m n r u;subst m;subst n;subst r;unfold jw
 congr 1
 apply ext_getElem?;intro k;rcases zZ k P.length with a|a
 .have e:k<b.length:=by omega
  rw[zW,getElem?_range a];simp only[Option.map_some,Nat.not_lt_zero,if_false];have v:P.getD k []=P[k]:=by rw[zD,zF a];rfl
  have e2:b.getD k []=b[k]:=by rw[zD,zF e];rfl
  have f:=y.len P[k] (zG a);have t:=z.len b[k] (zG e);simp only at f t;rw[v,e2,GS (by rw[f,t]) (λj hj=>FZ (by decide) (by rw[f]at hj;exact hj)),zF e]
 .rw[getElem?_eq_none (by simpa using a),getElem?_eq_none (by omega)]
def kP(s:Sq):Value:=.agg #[s.x,s.y,s.w,s.h]
theorem tN{p:qc}{c:Nat->Nat}(r:Nat)(h:ip w p g o B c G)(i:Nat)(y:i<p.P.length)(s:Sq)(m:Int × Int)(Z:0<=(s.x:Int)+m.1)(x1:(s.x:Int)+m.1+s.w<=p.W)(y0:0<=(s.y:Int)+m.2)(y1:(s.y:Int)+m.2+s.h<=p.H)(T:s.x<=64)(U:s.y<=64):Calls prog 78 #[gW p g o r,.int .i64 i,kP s,m.1,m.2] w λe C=>∃v F,e=.returned v/\jj C 3 v F ((it p i s m).map vi)/\gg [] w C/\∀x∈F,w.heap.size<=x:=by
 have L:=h.ok;obtain⟨dx,dy⟩:=m;simp only at Z x1 y0 y1⊢;unfold gW kP;have⟨W,hW⟩:=zX p.W;have⟨H,hH⟩:=zX p.H;have⟨d,hd⟩:=zX p.d;have⟨n,hn⟩:=zX p.P.length;obtain⟨sx,sy,sw,sh⟩:=s;simp only at Z x1 y0 y1 T U⊢;obtain⟨X,O⟩:∃X:Nat,(X:Int)=(sx:Int)+dx:=⟨((sx:Int)+dx).toNat,by omega⟩;obtain⟨Y,S⟩:∃Y:Nat,(Y:Int)=(sy:Int)+dy:=⟨((sy:Int)+dy).toNat,by omega⟩;have aZ:X+sw<=W:=by omega
 have a1:Y+sh<=H:=by omega
 have aY:W<=64:=by rw[hW];exact L.w1
 have bc:H<=64:=by rw[hH];exact L.h1
 have⟨l,hl⟩:=zX (p.P.getD i []);have aP:l.length=W*H:=by rw[hl,hW,hH];exact h.len y
 have aj:it p i ⟨sx,sy,sw,sh⟩ (dx,dy)=jn l W X Y sw sh:=by
  unfold it;simp only;rw[<-O,<-S,<-hl,<-hW];rfl
 rw[aj];obtain⟨b,q,aD,hb,-⟩:=h.at_ y;have ah:=h.cap i y;have⟨N,hN⟩:=zX (W*H);have ai:∀C,gg [] w C->C.cell? ⟨g,o+i,none⟩=some (.slice (some ⟨b,q,none⟩) N (c i))/\gz vi C (some ⟨b,q,none⟩) l:=by
  intro C hc;have A:=(h.Y hc).X i y;have D:=(h.Y hc).cells i y;rw[aD]at A D;rw[<-hW,<-hH,<-hN]at A;exact⟨A,by rw[hl];exact D⟩
 rw[<-hW,<-hH,<-hN]at ah;have⟨M,hM⟩:=zX (sw*sh);have bd:M<=4096:=by rw[hM];exact zL (show sw<=64 by omega) (show sh<=64 by omega)
 have a6:(sw:Int)*(sh:Int)=(M:Int):=by rw[hM];simp
 have bm:=vN (P:=prog) iO rfl .i64 .i64 M (by omega) (by omega);rw[<-hW,<-hH,<-hd,<-hn];have aJ:gn (w.alloc (.cells #[W,H,d,.slice (some ⟨g,o,none⟩) n r] 46)) w.heap.size 46 #[W,H,d,.slice (some ⟨g,o,none⟩) n r]:=gn.new w _ _;have⟨wA,ad⟩:=zX ((w.alloc (.cells #[W,H,d,.slice (some ⟨g,o,none⟩) n r] 46)).alloc (.cells #[sx,sy,sw,sh] 73));have aC:=RF ad;have aI:gn wA w.heap.size 46 #[W,H,d,.slice (some ⟨g,o,none⟩) n r]:=by rw[ad];exact aJ.alloc _
 have aR:gn wA (w.heap.size+1) 73 #[sx,sy,sw,sh]:=by rw[ad];exact gn.new2 w _ _ _
 have⟨w1,an⟩:=zX (wA.alloc (.cells (replicate M (Value.int .i64 0)).toArray 3));have aa:gv w1 3 (.slice (some ⟨wA.heap.size,0,none⟩) 0 M) wA.heap.size []:=by rw[an];exact gv.room wA M (by omega)
 have aB:=H4 an;have aS:wA.heap.size=w.heap.size+1+1:=by rw[ad,jt,jt]
 have⟨ak,aT,ax,al⟩:=gu aC aB aI aR;have⟨aW,HZ⟩:=gy aa aS;have aX:gh (w1=((w.alloc (.cells #[W,H,d,.slice (some ⟨g,o,none⟩) n r] 46)).alloc (.cells #[sx,sy,sw,sh] 73)).alloc (.cells (Array.replicate M (Value.int .i64 0)) 3)):=gd (by rw[an,ad,toArray_replicate]);have ay:=gd ai;have bk:i<n:=by omega
 have⟨az,HN⟩:=gy aP hN;have eX:(sx:Int)+dx=(X:Int):=O.symm;have eY:(sy:Int)+dy=(Y:Int):=S.symm;have⟨af,ae⟩:=gy a1 aZ;clear hW hH hd hn L O aj hl aP aD hb ai hM aJ ad an aa aB aC aI aR aS h y hN Z x1 y0 y1 S;go_enter func78,ntmps78;go_wp2_with fail;rw[<-aX.o,<-HZ.o];have⟨YH,ag⟩:=zX (Y+sh);have a9:(Y:Int)+(sh:Int)=(YH:Int):=by omega
 have aq:=gd ag;have a2:YH<=64:=by have:=af.o;omega
 have bn:sh<=64:=by have:=af.o;omega
 have bh:Y<=64:=by have:=af.o;omega
 clear ag
 go_loopg [11,12,13] sh (λj v11 v12 v13 wr=>∃(k f:Nat) (F:List Nat),v12=.int .i64 f/\gh (f=Y+k)/\k+j=sh/\f+j=YH/\gh (jj wr 3 v11 F ((jn l W X Y sw k).map vi))/\gh (gg [] wA wr)/\gh (∀x∈F,wA.heap.size<=x))
 .exact⟨0,Y,[wA.heap.size],rfl,gd rfl,by omega,by have:=aq.o;omega,gd (by simpa[jn]using aW.o.R),aT,gd (by intro x z;simp at z;omega)⟩
 obtain⟨k,f,F,rfl,E,bl,bi,HO,t,J⟩:=hrel;have a0:=(ax.o.Z t.o (by simp)).X 0;have a3:=(ax.o.Z t.o (by simp)).X 3;have s0:=(al.o.Z t.o (by simp)).X 0;have s1:=(al.o.Z t.o (by simp)).X 1;have s2:=(al.o.Z t.o (by simp)).X 2;have s3:=(al.o.Z t.o (by simp)).X 3;simp at a0 a3 s0 s1 s2 s3;rcases gk with _|j
 .have t1:decide (f<YH)=false:=zA (by omega)
  have aO:k=sh:=by omega
  have K:=HO.o;rw[aO]at K;have ao:=gd K;have au:gh (∀x∈F,w.heap.size<=x):=gd (λx z=>by have:=J.o x z;have:=ak.o.size;omega);clear aO K;go_wp2;go_ret;exact⟨_,F,rfl,ao.o,ak.o.tq t.o,au.o⟩
 .have t1:decide (f<YH)=true:=zB (by omega)
  have⟨P,hP⟩:=zX (f*W);have eP:(f:Int)*(W:Int)=(P:Int):=by rw[hP];simp
  have aG:f<64:=by omega
  have be:P<=4096:=by rw[hP];exact zL (show f<=64 by omega) aY
  have⟨Q,hQ⟩:=zX (P+sx);have eQ:(P:Int)+(sx:Int)=(Q:Int):=by omega
  have⟨at_,aH⟩:=zX (P+X);have ba:(Q:Int)+dx=(at_:Int):=by omega
  have⟨y,aN⟩:=zX (at_+sw);have bb:(at_:Int)+(sw:Int)=(y:Int):=by omega
  have ar:y<=N:=by
   have A:=ae.o;have D:f+1<=H:=(by have:=af.o;have:=E.o;omega);have I:=mul_le_mul_right W D;rw[succ_mul]at I;have h4:=HN.o;rw[zY W H]at h4;omega
  obtain⟨A',bo,-,aL⟩:=s9 (P:=prog) underlying22 nP (some ⟨b,q,none⟩) N (c i) at_ sw y aN ar ah.1;have ab:gh ((l.drop at_).take sw=(range sw).map λi=>l.getD ((Y+k)*W+(X+i)) 0):=gd (by
   have A:=GJ (l:=l) (W:=W) (H:=H) (x:=X) (Y:=f) (w:=sw) az.o ae.o (by have:=af.o;have:=E.o;omega);rw[aH,hP,A,E.o])
  have⟨R,hR⟩:=zX ((l.drop at_).take sw);have aF:R.length=sw:=by rw[hR,ab.o];simp
  have aE:l.length=N:=by rw[az.o,HN.o]
  have aK:∀wz,gg [] w wz->gz vi wz A' R:=λwz hz=>by rw[hR];exact aL Int vi wz l aE (ay.o wz hz).2
  have aQ:(jn l W X Y sw k).length<=4096:=by rw[o6];exact zL (show k<=64 by omega) (show sw<=64 by have:=ae.o;omega)
  have a7:gh (jn l W X Y sw (k+1)=jn l W X Y sw k++R):=gd (by rw[Ga,hR,ab.o]);have bj:=(ay.o wr (ak.o.tq t.o)).1;have⟨aU,aA,ap⟩:=Q9 aK aQ aF;have bp:sw<=64:=by have:=ae.o;omega
  have bg:X<=64:=by have:=ae.o;omega
  have bf:Q<=4200:=by omega
  have a4:at_<=4200:=by omega
  have a5:y<=4300:=by omega
  clear hP hQ aH aN hR aL aK aQ aF aE;go_wp2_with fail;refine i9 12 (by kernel_rfl) (by kernel_rfl) ?_;simp only[take_succ_cons,take_zero,drop_succ_cons,drop_zero]
  repeat(go_big_quiet_step (fail))
  trace_state
  refine wpQuiet_nil ?_;intro _ a8;obtain⟨nq,rfl⟩:=a8;have aw:=HO.o.drewN nq;have aM:gz (λu=>u) (wr.drewN nq) A' (R.map vi):=by
   have A:=aU.o (wr.drewN nq) ((ak.o.tq t.o).drewN nq);refine⟨λh0=>?_⟩;obtain⟨b,o,e1,e2,e3⟩:=A.ex (by simpa using h0);refine⟨b,o,e1,e2,λi a ha=>?_⟩;rw[zW]at ha;obtain⟨x,z,rfl⟩:=Option.map_eq_some_iff.1 ha;exact e3 i x z
  have aV:=gd aM;clear aM
  go_wp2_with(at_builtin;refine ns rfl rfl iO rfl rfl aw (R.map vi) sw rfl ?c1 ?c2 ?c3 ?c4 ?c5 ?_)
  case c1=>rw[zE];exact ap.o.symm
  case c2=>exact aV.o
  case c3=>exact uW _
  case c4=>rw[zE,zE,ap.o];have:=aA.o;omega
  case c5=>rw[zE,zE,ap.o];have:=aA.o;omega
  intro v' F' w2 D I;go_wp2_with fail
  go_roundg j
  .refine⟨k+1,f+1,F',by go_num,gd (by rw[E.o];omega),by omega,by omega,gd ?_,gd ?_,gd ?_⟩
   .rw[a7.o,zM]
    exact D
   .refine(t.o.drewN nq).trans I.Z λx z=>.inr ?_
    exact J.o x z
   .intro x z
    rcases I.new x z with h|h
    .exact J.o x h
    .have:=t.o.size;simp at h;omega
  .omega
theorem vE(v:Int)(w:World)(b : -1099511627776<=v)(f:v<=1099511627776):Calls prog 52 #[v] w λe w'=>e=.returned v.natAbs/\w=w':=by
 by_cases hv:v<0
 .have a:decide (v<0)=true:=zB hv
  have e:(v.natAbs:Int)=-v:=by omega
  rw[e];clear e;go_enter func52,ntmps52;go_wp2;go_ret;exact⟨rfl,rfl⟩
 .have a:decide (v<0)=false:=zA hv
  have e:(v.natAbs:Int)=v:=by omega
  rw[e];clear e;go_enter func52,ntmps52;go_wp2;go_ret;exact⟨rfl,rfl⟩
def tO(W H:Nat)(s:Sq)(m:Int × Int):Bool:=decide (-4<=m.1)&&(decide (m.1<=4)&&(decide (-4<=m.2)&&(decide (m.2<=4)&&(decide (0<=(s.x:Int)+m.1)&&(decide (0<=(s.y:Int)+m.2)&&(decide ((s.x:Int)+m.1+s.w<=W)&&decide ((s.y:Int)+m.2+s.h<=H)))))))
theorem tM(W H:Nat)(s:Sq)(m:Int × Int):tO W H s m=true ↔ lO W H s m:=by
 unfold tO lO;simp only[Bool.and_eq_true,decide_eq_true_eq]
theorem QM{s:Sq}{m:Int × Int}(h:¬lO W H s m):tO W H s m=false:=by
 rw[<-Bool.not_eq_true];exact λe=>h ((tM W H s m).1 e)
theorem yq(W H d n g o a:Nat)(s:Sq)(m:Int × Int)(w:World)(hW:W<=64)(hH:H<=64)(D:s.x<=64)(E:s.y<=64)(F:s.w<=64)(I:s.h<=64)(J : -64<=m.1)(K:m.1<=64)(L : -64<=m.2)(M:m.2<=64):Calls prog 51 #[.agg #[.int .i64 W,.int .i64 H,.int .i64 d,.slice (some ⟨g,o,none⟩) n a],kP s,m.1,m.2] w λe w'=>e=.returned (.bool (tO W H s m))/\gg [] w w':=by
 have b:=λh=>QM (W:=W) (H:=H) (s:=s) (m:=m) h;have f:=(tM W H s m).2;generalize tO W H s m=z at *;unfold lO at b f;obtain⟨dx,dy⟩:=m;obtain⟨sx,sy,sw,sh⟩:=s;unfold kP;simp only at D E F I J K L M b f⊢;obtain⟨X,t⟩:∃X:Int,X=(sx:Int)+dx:=⟨_,rfl⟩;obtain⟨Y,u⟩:∃Y:Int,Y=(sy:Int)+dy:=⟨_,rfl⟩;rw[<-t,<-u]at b f;have eX:(sx:Int)+dx=X:=t.symm;have eY:(sy:Int)+dy=Y:=u.symm;obtain⟨XW,j⟩:∃XW:Int,XW=X+(sw:Int):=⟨_,rfl⟩;obtain⟨YH,p⟩:∃YH:Int,YH=Y+(sh:Int):=⟨_,rfl⟩;rw[<-j,<-p]at b f;have aw:X+(sw:Int)=XW:=j.symm;have ax:Y+(sh:Int)=YH:=p.symm;have Z : -64<=X:=by omega
 have ar:X<=128:=by omega
 have au : -64<=Y:=by omega
 have av:Y<=128:=by omega
 have R : -64<=XW:=by omega
 have S:XW<=256:=by omega
 have T : -64<=YH:=by omega
 have U:YH<=256:=by omega
 clear t u j p;have⟨wA,af⟩:=zX ((w.alloc (.cells #[W,H,d,.slice (some ⟨g,o,none⟩) n a] 46)).alloc (.cells #[sx,sy,sw,sh] 73));have A:gh (gg [] w wA):=gd (by rw[af];exact((zR [] w).alloc _).alloc _);have r:gn wA w.heap.size 46 #[W,H,d,.slice (some ⟨g,o,none⟩) n a]:=by rw[af];exact(gn.new w _ _).alloc _
 have v:gn wA (w.heap.size+1) 73 #[sx,sy,sw,sh]:=by rw[af];exact gn.new2 w _ _ _
 have C:=gd af;have x:=r.X 0;have y:=r.X 1;have⟨s0,s1,s2,s3⟩:=my v;simp at x y s0 s1 s2 s3;have⟨aa,ak⟩:=gy b f;clear af r v b f;by_cases c1:dx < -4
 .obtain rfl:z=false:=aa.o (by omega)
  have t1:decide (dx < -4)=true:=zB c1;go_enter func51,ntmps51;go_wp2_with fail;go_ret;exact⟨rfl,((zR [] w).alloc _).alloc _⟩
 by_cases c2:4<dx
 .obtain rfl:z=false:=aa.o (by omega)
  have t2:decide (4<dx)=true:=zB c2;go_enter func51,ntmps51;go_wp2_with fail;go_ret;exact⟨rfl,((zR [] w).alloc _).alloc _⟩
 by_cases c3:dy < -4
 .obtain rfl:z=false:=aa.o (by omega)
  have t3:decide (dy < -4)=true:=zB c3;go_enter func51,ntmps51;go_wp2_with fail;go_ret;exact⟨rfl,((zR [] w).alloc _).alloc _⟩
 by_cases c4:4<dy
 .obtain rfl:z=false:=aa.o (by omega)
  have t4:decide (4<dy)=true:=zB c4;go_enter func51,ntmps51;go_wp2_with fail;go_ret;exact⟨rfl,((zR [] w).alloc _).alloc _⟩
 go_enter func51,ntmps51;go_wp2_with fail;rw[<-C.o]
 go_quiet (fail)
 have ad:=gd (A.o.drewN nq);by_cases c5:X<0
 .obtain rfl:z=false:=aa.o (by omega)
  have N:decide (0<=X)=false:=zA (by omega);go_wp2_with fail;go_ret;exact⟨rfl,ad.o⟩
 have N:decide (0<=X)=true:=zB (by omega);by_cases c6:Y<0
 .obtain rfl:z=false:=aa.o (by omega)
  have O:decide (0<=Y)=false:=zA (by omega);go_wp2_with fail;go_ret;exact⟨rfl,ad.o⟩
 have O:decide (0<=Y)=true:=zB (by omega);by_cases c7:XW<=W
 .have P:decide (XW<=(W:Int))=true:=zB c7
  by_cases c8:YH<=H
  .have Q:decide (YH<=(H:Int))=true:=zB c8
   obtain rfl:z=true:=ak.o (by omega);go_wp2_with fail;go_ret;exact⟨rfl,ad.o⟩
  .have Q:decide (YH<=(H:Int))=false:=zA c8
   obtain rfl:z=false:=aa.o (by omega);go_wp2_with fail;go_ret;exact⟨rfl,ad.o⟩
 .have P:decide (XW<=(W:Int))=false:=zA c7
  obtain rfl:z=false:=aa.o (by omega);go_wp2_with fail;go_ret;exact⟨rfl,ad.o⟩
def mQ(now old:List Int)(d k:Nat):Nat:=qo (now.take k) (old.take k) d
theorem Ij(a:k<now.length)(b:k<old.length):mQ now old d (k+1)=mQ now old d k+(ii (now[k]-old[k]) d).natAbs:=by
 unfold mQ qo;rw[take_succ_eq_append_getElem a,take_succ_eq_append_getElem b,List.zipWith_append (by rw[zI,zI];omega)];simp
theorem Ii(h:now.length=old.length):mQ now old d now.length=qo now old d:=by
 unfold mQ;rw[zN,zT (by omega)]
theorem Iw(e:1<=d)(f:d<=16)(v:Int):(ii v d).natAbs<=32768:=by
 obtain⟨a,b⟩:=om v e;have j:=(jX e f).2;have m:=sF e;generalize (2:Int)^(d-1)=x at *;generalize (2:Int)^d=y at *;omega
theorem B2{d:Nat}(a:1<=d)(b:d<=16)(now old:List Int):∀k,mQ now old d k<=32768*k
 | 0=>by simp[mQ,qo]
 | k+1=>by
  have m:=B2 a b now old k;rcases zZ k now.length with f|f
  .rcases zZ k old.length with j|j
   .rw[Ij f j]
    have:=Iw a b (now[k]-old[k])
    omega
   .have e:mQ now old d (k+1)=mQ now old d k:=by
     unfold mQ qo;rw[zT (i:=k+1) (by omega:old.length<=k+1),zT (i:=k) (by omega:old.length<=k)];rw[List.zipWith_eq_zipWith_take_min (l₁:=now.take (k+1)),List.zipWith_eq_zipWith_take_min (l₁:=now.take k),zI,zI,take_take,take_take];rw[show min (min (k+1) now.length) old.length=min (min k now.length) old.length by omega,show min (min (min k now.length) old.length) (k+1)=min (min (min k now.length) old.length) k by omega]
    omega
  .have e:mQ now old d (k+1)=mQ now old d k:=by
    unfold mQ qo;rw[zT (i:=k+1) (by omega:now.length<=k+1),zT (i:=k) (by omega:now.length<=k)];rw[List.zipWith_eq_zipWith_take_min (l₂:=old.take (k+1)),List.zipWith_eq_zipWith_take_min (l₂:=old.take k),zI,zI,take_take,take_take];rw[show min now.length (min (k+1) old.length)=min now.length (min k old.length)by omega,show min (min now.length (min k old.length)) (k+1)=min (min now.length (min k old.length)) k by omega]
   omega
def qq(p q:qc)(s:Sq)(m:Int × Int)(i:Nat):Nat:=((range i).map λi=>qo (it q i s (0,0)) (it p i s m) q.d).sum
theorem Ih(p q:qc)(s:Sq)(m:Int × Int)(i:Nat):qq p q s m (i+1)=qq p q s m i+qo (it q i s (0,0)) (it p i s m) q.d:=by
 unfold qq;rw[range_succ,zM,sum_append];simp
theorem B1(p q:qc)(s:Sq)(m:Int × Int)(a:1<=q.d)(b:q.d<=16)(f:s.w<=64)(e:s.h<=64):∀i,qq p q s m i<=134217728*i
 | 0=>by simp[qq]
 | i+1=>by
  have h:=B1 p q s m a b f e i;rw[Ih,<-Ii (by rw[mE,mE])];have j:=B2 a b (it q i s (0,0)) (it p i s m) (it q i s (0,0)).length;have n:(it q i s (0,0)).length<=4096:=by rw[mE];exact zL e f
  omega
structure yk (W H:Nat) (s:Sq) (m:Int × Int):Prop where
 x0:0<=(s.x:Int)+m.1
 x1:(s.x:Int)+m.1+s.w<=W
 y0:0<=(s.y:Int)+m.2
 y1:(s.y:Int)+m.2+s.h<=H
structure pw (W H:Nat) (s:Sq):Prop where
 x:s.x+s.w<=W
 y:s.y+s.h<=H
theorem pw.fit{s:Sq}(h:pw W H s):yk W H s (0,0):=⟨by simp,by have:=h.x;simp;omega,by simp,by have:=h.y;simp;omega⟩
theorem lO.fit{s:Sq}{m:Int × Int}(h:lO W H s m):yk W H s m:=⟨h.2.2.2.2.1,h.2.2.2.2.2.2.1,h.2.2.2.2.2.1,h.2.2.2.2.2.2.2⟩
theorem QG{p q:qc}{c:Nat->Nat}(E:Nat)(h:ip w p g o B c G)(a:Nat)(A:ip w q g' o' B' c' G')(D:iY p q)(s:Sq)(m:Int × Int)(I:pw p.W p.H s)(X:yk p.W p.H s m):Calls prog 50 #[gW p g o E,gW q g' o' a,kP s,m.1,m.2] w λe w'=>e=.returned (.int .i64 (mP p q s m:Int))/\gg [] w w':=by
 have S:=h.ok;have aZ:s.w<=64:=by have:=I.x;have:=S.w1;omega
 have aR:s.h<=64:=by have:=I.y;have:=S.h1;omega
 have a4:s.x<=64:=by have:=I.x;have:=S.w1;omega
 have a5:s.y<=64:=by have:=I.y;have:=S.h1;omega
 have aB:∀w',gg [] w w'->∀i,i<q.P.length->_:=λw' hc i b=>tN E (h.Y hc) i (by rw[D.n];exact b) s m X.x0 X.x1 X.y0 X.y1 a4 a5;have P:=I.fit;have T:∀w',gg [] w w'->∀i,i<q.P.length->_:=λw' hc i b=>tN a (A.Y hc) i b s (0,0) P.x0 (by rw[<-D.W];exact P.x1) P.y0 (by rw[<-D.H];exact P.y1) a4 a5;have bg:=B1 p q s m A.ok.d0 A.ok.d1 aZ aR;have aX:=Ih p q s m;have aO:qq p q s m q.P.length=mP p q s m:=rfl;have aY:∀i k,mQ (it q i s (0,0)) (it p i s m) q.d k<=32768*k:=λi k=>B2 A.ok.d0 A.ok.d1 _ _ k;have⟨n,hn⟩:=zX q.P.length;have⟨d,hd⟩:=zX q.d;have⟨M,hM⟩:=zX (s.h*s.w);have bU:M<=4096:=by rw[hM];exact zL aR aZ
 have bX:n<=4:=by rw[hn];exact A.ok.n1
 have az:1<=d:=by rw[hd];exact A.ok.d0
 have aA:d<=16:=by rw[hd];exact A.ok.d1
 have ag:∀i,(it q i s (0,0)).length=M:=λi=>by rw[mE,hM]
 have ah:∀i,(it p i s m).length=M:=λi=>by rw[mE,hM]
 have ad:∀i,i<q.P.length->ie q.d (it q i s (0,0)):=λi b=>tK A.ok b s (0,0);have ae:∀i,i<q.P.length->ie q.d (it p i s m):=λi b=>by rw[<-D.d];exact tK h.ok (by rw[D.n];exact b) s m
 have aN:p.d=d:=by rw[hd];exact D.d
 have aU:p.P.length=n:=by rw[hn];exact D.n
 unfold gW kP at aB T⊢;rw[<-D.W,<-D.H]at T⊢;rw[<-hn,aN,aU]at aB;rw[<-hn,<-hd]at T;rw[<-hn]at aO ad ae;rw[<-hd]at aY aX ad ae;rw[<-hn,<-hd,aN,aU];have⟨w1,F⟩:=zX ((((w.alloc (.cells #[p.W,p.H,d,.slice (some ⟨g,o,none⟩) n E] 46)).alloc (.cells #[p.W,p.H,d,.slice (some ⟨g',o',none⟩) n a] 46)).alloc (.cells #[s.x,s.y,s.w,s.h] 73)));have bb:gn w1 w.heap.size 46 #[p.W,p.H,d,.slice (some ⟨g,o,none⟩) n E]:=by rw[F];exact((gn.new w _ _).alloc _).alloc _
 have bc:gn w1 (w.heap.size+1) 46 #[p.W,p.H,d,.slice (some ⟨g',o',none⟩) n a]:=by rw[F];exact(gn.new2 w _ _ _).alloc _
 have bd:gn w1 (w.heap.size+1+1) 73 #[s.x,s.y,s.w,s.h]:=by rw[F];exact gn.new3 w _ _ _ _
 have aE:gh (gg [] w w1):=gd (by rw[F];exact(((zR [] w).alloc _).alloc _).alloc _);have⟨bJ,ay,am,af⟩:=gu F bb bc bd;have⟨bA,bz,bx,bH⟩:=gu aB T bg aX;have⟨bq,bI,bB,bC⟩:=gu aO aY ad ae;have⟨bv,bw⟩:=gy ag ah;have bf:∀v w,_:=λv w=>oB v d w az aA;have be:∀v,(ii v d).natAbs<=32768:=λv=>Iw az aA v;obtain⟨bN,bO⟩:=jX az aA;have⟨bp,bo⟩:=gy bf be;clear F bb bc bd aB T bg aX aO aY ad ae ag ah bf be aN aU hn hd hM S h A D I X P aZ aR a4 a5 az aA;go_enter func50,ntmps50;go_wp2_with fail;rw[<-bJ.o]
 go_loopg [11,12,13,14,15,19] n (λj v11 v12 v13 v14 v15 v19 wr=>∃i C:Nat,v11=.int .i64 C/\v19=.int .i64 i/\i+j=n/\C<=536870912/\gh (C=qq p q s m i)/\gh (gg [] w1 wr))
 .exact⟨0,0,rfl,rfl,by omega,by omega,gd (by simp[qq]),gd (zR _ _)⟩
 obtain⟨i,C,rfl,rfl,bV,hC,HC,f⟩:=hrel;rcases gk with _|j
 .obtain rfl:i=n:=by omega
  have t1:decide (i<i)=false:=by simp
  have aP:gh ((C:Int)=(mP p q s m:Int)):=gd (by rw[HC.o,bq.o]);go_wp2;go_ret;exact⟨by rw[<-aP.o];rfl,aE.o.tq f.o⟩
 .have b:i<n:=by omega
  have K:=(ay.o.Z f.o (by simp)).X 0;have L:=(ay.o.Z f.o (by simp)).X 1;have N:=(ay.o.Z f.o (by simp)).X 2;have O:=(ay.o.Z f.o (by simp)).X 3;have Y:=(af.o.Z f.o (by simp)).X 0;have Z:=(af.o.Z f.o (by simp)).X 1;have s2:=(af.o.Z f.o (by simp)).X 2;have s3:=(af.o.Z f.o (by simp)).X 3;simp at K L N O Y Z s2 s3;have bi:=bA.o wr (aE.o.tq f.o) i b;go_wp2_with fail;refine bi.mono ?_;rintro e w4 ⟨v4,F4,rfl,aw,a8,bL⟩;have t:=gd (f.o.tq a8);have bj:=bz.o w4 (aE.o.tq t.o) i b;clear bi K L N O Y Z s2 s3;have K:=(am.o.Z t.o (by simp)).X 0;have L:=(am.o.Z t.o (by simp)).X 1;have N:=(am.o.Z t.o (by simp)).X 2;have O:=(am.o.Z t.o (by simp)).X 3;have Y:=(af.o.Z t.o (by simp)).X 0;have Z:=(af.o.Z t.o (by simp)).X 1;have s2:=(af.o.Z t.o (by simp)).X 2;have s3:=(af.o.Z t.o (by simp)).X 3;simp at K L N O Y Z s2 s3;go_wp2_with fail;refine bj.mono ?_;rintro e w5 ⟨v5,F5,rfl,ax,aG,bM⟩;have ai:=gd (t.o.tq aG);clear bj K L N O Y Z s2 s3;have b2:=(am.o.Z ai.o (by simp)).X 2;simp at b2;obtain⟨A4,c4,rfl,a9,bR,aJ⟩:=aw.T;obtain⟨A5,c5,rfl,ba,bS,aK⟩:=ax.T;have⟨aD,ak⟩:=zX (it p i s m);have⟨aC,aj⟩:=zX (it q i s (0,0));have R:=bw.o i;have Q:=bv.o i;have aW:=bC.o i b;have aV:=bB.o i b;have ab:=bH.o i;have aI:=bI.o i;rw[<-ak]at R aW aJ a9 ab aI;rw[<-aj]at Q aV aK ba ab aI;rw[<-ak,<-aj,R,Q];rw[R]at a9;rw[Q]at ba;have an:=aJ.Y aG;have⟨a7,aF,bF,bE⟩:=gu R Q aW aV;have⟨bG,bs,bu⟩:=Q9 ab an aK;clear ak aj R Q aW aV ab aI aJ aK an aw ax a8 aG bL bM;go_wp2_with fail
  go_loopg [11,14,15,33] M (λj2 v11 v14 v15 v33 wr2=>∃k r:Nat,v11=.int .i64 r/\v33=.int .i64 k/\k+j2=M/\r<=536870912+32768*k/\gh (r=C+mQ aC aD d k)/\gh (gg [] w5 wr2))
  .exact⟨0,C,rfl,rfl,by omega,by omega,gd (by simp[mQ,qo]),gd (zR _ _)⟩
  obtain⟨k,r,rfl,rfl,bW,bT,a6,J⟩:=hrel;rcases gk with _|j2
  .obtain rfl:k=M:=by omega
   have t2:decide (k<k)=false:=(by simp);have bh:gh (r=qq p q s m (i+1)):=gd (by
    have h1:=bG.o;rw[<-Ii (by rw[a7.o,aF.o]),aF.o]at h1;rw[h1,a6.o,HC.o])
   have hb:r<=536870912:=(by have h1:=bx.o (i+1);rw[<-bh.o]at h1;omega);go_wp2
   go_roundg j
   .exact⟨i+1,r,rfl,by go_num,by omega,hb,bh,gd (ai.o.tq J.o)⟩
   .omega
  .have hk:k<M:=by omega
   have aS:k<aC.length:=(by rw[aF.o];exact hk);have aT:k<aD.length:=(by rw[a7.o];exact hk);obtain⟨ga,oa,rfl,aL⟩:=(bs.o.Y J.o).at_ aT;obtain⟨gb,ob,rfl,aM⟩:=(bu.o.Y J.o).at_ aS;have⟨x,hx⟩:=zX (aC[k]);have⟨y,hy⟩:=zX (aD[k]);rw[<-hy]at aL;rw[<-hx]at aM;have cA:wr.cell? ⟨ga,oa+k,none⟩=some (.int .i64 y):=aL;have cB:wr.cell? ⟨gb,ob+k,none⟩=some (.int .i64 x):=aM;have bk:=bE.o aC[k] (zG _);have bl:=bF.o aD[k] (zG _);rw[<-hx]at bk;rw[<-hy]at bl;obtain⟨bZ,bP⟩:=bk;obtain⟨b1,bQ⟩:=bl;have b0:x<65536:=(by omega);have b3:y<65536:=(by omega);have aQ:=bp.o (x-y);have bm:=bo.o (x-y);have bK:=(am.o.Z (ai.o.tq J.o) (by simp)).X 2;simp at bK;have U:=Ij (d:=d) aS aT;rw[<-hx,<-hy]at U;have⟨z,hz⟩:=zX (ii (x-y) d);rw[<-hz]at aQ bm U;have aH:=λw=>vE z w (by omega) (by omega);have⟨u,hu⟩:=zX z.natAbs;rw[<-hu]at aH bm U;have bD:=gd U;have br:gh (∀w,Calls prog 79 #[.int .i64 (x-y),d] w λe w'=>e=.returned z/\w'=w):=gd (λw=>(aQ w).mono λe w' h=>⟨h.1,h.2.symm⟩);have bn:gh (∀w,Calls prog 52 #[z] w λe w'=>e=.returned u/\w'=w):=gd (λw=>(aH w).mono λe w' h=>⟨h.1,h.2.symm⟩);clear aL aM hx hy U hz hu aS aT aQ aH bP bQ;have F:IntKind.i64.wrap (x-y)=x-y:=IntWalk.i64_in _ (by omega);have bY:IntKind.i64.wrap ((r:Int)+(u:Int))=(r:Int)+(u:Int):=IntWalk.i64_in _ (by omega);go_wp2_with fail
   go_quiet ((first|(go_at_call 79;exact Calls.quiet_of_same (br.o _))|(go_at_call 52;exact Calls.quiet_of_same (bn.o _))))
   go_wp2
   go_roundg j2
   .exact⟨k+1,r+u,by go_num,by go_num,by omega,by omega,gd (by rw[bD.o,a6.o];omega),gd (J.o.drewN nq)⟩
   .omega
structure kD (p q:qc) (s:Sq) (tried:Int × Int->Prop) (dx dy:Int) (c:Nat):Prop where
 ok:lO p.W p.H s (dx,dy)
 cost:c=mP p q s (dx,dy)
 le:∀m,tried m->lO p.W p.H s m->c<=mP p q s m
 le0:c<=mP p q s (0,0)
 zero:mP p q s (0,0)=0->dx=0/\dy=0
theorem Qb{s:Sq}(h:pw W H s):lO W H s (0,0):=⟨by simp,by simp,by simp,by simp,by simp,by simp,by have:=h.x;simp;omega,by have:=h.y;simp;omega⟩
theorem kD.start(p q:qc)(s:Sq)(h:pw p.W p.H s):kD p q s (λ_=>False) 0 0 (mP p q s (0,0)):=⟨Qb h,rfl,λ_ h=>h.elim,zQ _,λ_=>⟨rfl,rfl⟩⟩
theorem kD.skip{p q:qc}{s:Sq}{a:Int × Int->Prop}(h:kD p q s a dx dy c)(e:Int × Int)(f:¬lO p.W p.H s e):kD p q s (λm=>a m\/m=e) dx dy c:=
 ⟨h.ok,h.cost,λm b ho=>by
  rcases b with b|rfl
  .exact h.le m b ho
  .exact absurd ho f,h.le0,h.zero⟩
theorem kD.N{p q:qc}{s:Sq}{a:Int × Int->Prop}(h:kD p q s a dx dy c)(e:Int × Int)(f:c<=mP p q s e):kD p q s (λm=>a m\/m=e) dx dy c:=
 ⟨h.ok,h.cost,λm b ho=>by
  rcases b with b|rfl
  .exact h.le m b ho
  .exact f,h.le0,h.zero⟩
theorem kD.take{p q:qc}{s:Sq}{e:Int × Int->Prop}(h:kD p q s e dx dy c)(u v:Int)(n:lO p.W p.H s (u,v))(f:mP p q s (u,v)<c\/mP p q s (u,v)=c/\u.natAbs+v.natAbs<dx.natAbs+dy.natAbs):kD p q s (λm=>e m\/m=(u,v)) u v (mP p q s (u,v)) where
 ok:=n
 cost:=rfl
 le:=λm j hmo=>by
  rcases j with j|rfl
  .have:=h.le m j hmo
   omega
  .exact zQ _
 le0:=by have:=h.le0;omega
 zero:=λh0=>by
  obtain⟨a,b⟩:=h.zero h0
  have:=h.le0
  subst a
  subst b
  rcases f with f|⟨_,f⟩
  .omega
  .simp at f
theorem kD.mono{p q:qc}{s:Sq}{b a:Int × Int->Prop}(h:kD p q s b dx dy c)(e:∀m,a m->b m):kD p q s a dx dy c:=
 { h with le:=λm h1 h2=>h.le m (e m h1) h2 }
def qp(U V:Int)(m:Int × Int):Prop:=-4<=m.1/\m.1<=4/\-4<=m.2/\(m.2<V\/m.2=V/\m.1<U)
theorem vB{U:Int}(m:Int × Int)(h:qp (U+1) V m):qp U V m\/m=(U,V):=by
 obtain⟨a,b⟩:=m;obtain⟨e,f,j,n⟩:=h;simp only at e f j n;by_cases he:a=U/\b=V
 .right;rw[he.1,he.2]
 .left
  refine⟨e,f,j,?_⟩;simp only;omega
theorem QP(m:Int × Int)(h:qp (-4) (V+1) m):qp 5 V m:=by
 obtain⟨a,b⟩:=m;obtain⟨e,f,j,n⟩:=h;simp only at e f j n;refine⟨e,f,j,?_⟩;simp only;omega
def Ip(w:World)(p q:qc)(s:Sq)(e:Ending)(w':World):Prop:=
 ∃(dx dy:Int) (c:Nat),e=.returned (.tuple #[dx,dy,c])/\kD p q s (λ_=>True) dx dy c/\gg [] w w'
theorem QO{p q:qc}{c:Nat->Nat}(f:Nat)(h:ip w p g o B c G)(b:Nat)(M:ip w q g' o' B' c' G')(ha:iY p q)(s:Sq)(r:pw p.W p.H s):Calls prog 33 #[gW p g o f,gW q g' o' b,kP s] w (Ip w p q s):=by
 have ad:=h.ok;have aB:s.w<=64:=by have:=r.x;have:=ad.w1;omega
 have az:s.h<=64:=by have:=r.y;have:=ad.h1;omega
 have aR:s.x<=64:=by have:=r.x;have:=ad.w1;omega
 have aS:s.y<=64:=by have:=r.y;have:=ad.h1;omega
 have T:∀w',gg [] w w'->∀m:Int × Int,yk p.W p.H s m->_:=λw' a m hm=>QG f (h.Y a) b (M.Y a) ha s m r hm;have aA:∀w' (m:Int × Int),-4<=m.1->m.1<=4->-4<=m.2->m.2<=4->_:=λw' m m1 m2 m3 m4=>yq p.W p.H p.d p.P.length g o f s m w' ad.w1 ad.h1 aR aS aB az (by omega) (by omega) (by omega) (by omega);have aO:∀m,mP p q s m<=536870912:=λm=>by
  have E:=B1 p q s m M.ok.d0 M.ok.d1 aB az q.P.length;have F:=M.ok.n1;have u:mP p q s m=qq p q s m q.P.length:=rfl;omega
 have aQ:=kD.start p q s r;have aN:=r.fit;unfold gW kP at T⊢;unfold kP at aA;have⟨w1,ai⟩:=zX ((((w.alloc (.cells #[p.W,p.H,p.d,.slice (some ⟨g,o,none⟩) p.P.length f] 46)).alloc (.cells #[q.W,q.H,q.d,.slice (some ⟨g',o',none⟩) q.P.length b] 46)).alloc (.cells #[s.x,s.y,s.w,s.h] 73)));have J:gn w1 w.heap.size 46 #[p.W,p.H,p.d,.slice (some ⟨g,o,none⟩) p.P.length f]:=by rw[ai];exact((gn.new w _ _).alloc _).alloc _
 have K:gn w1 (w.heap.size+1) 46 #[q.W,q.H,q.d,.slice (some ⟨g',o',none⟩) q.P.length b]:=by rw[ai];exact(gn.new2 w _ _ _).alloc _
 have L:gn w1 (w.heap.size+1+1) 73 #[s.x,s.y,s.w,s.h]:=by rw[ai];exact gn.new3 w _ _ _ _
 have au:gh (gg [] w w1):=gd (by rw[ai];exact(((zR [] w).alloc _).alloc _).alloc _);have a5:=gd ai
 have ap:∀wr,gg [] w1 wr->(wr.cell? ⟨w.heap.size,0,none⟩=some (.int .i64 p.W)/\wr.cell? ⟨w.heap.size,1,none⟩=some (.int .i64 p.H)/\wr.cell? ⟨w.heap.size,2,none⟩=some (.int .i64 p.d)/\wr.cell? ⟨w.heap.size,3,none⟩=some (.slice (some ⟨g,o,none⟩) p.P.length f)) /\
   (wr.cell? ⟨w.heap.size+1,0,none⟩=some (.int .i64 q.W)/\wr.cell? ⟨w.heap.size+1,1,none⟩=some (.int .i64 q.H)/\wr.cell? ⟨w.heap.size+1,2,none⟩=some (.int .i64 q.d)/\wr.cell? ⟨w.heap.size+1,3,none⟩=some (.slice (some ⟨g',o',none⟩) q.P.length b)) /\
   (wr.cell? ⟨w.heap.size+1+1,0,none⟩=some (.int .i64 s.x)/\wr.cell? ⟨w.heap.size+1+1,1,none⟩=some (.int .i64 s.y)/\wr.cell? ⟨w.heap.size+1+1,2,none⟩=some (.int .i64 s.w)/\wr.cell? ⟨w.heap.size+1+1,3,none⟩=some (.int .i64 s.h)):=λwr a=>
  ⟨⟨(J.Z a (by simp)).X 0,(J.Z a (by simp)).X 1,(J.Z a (by simp)).X 2,(J.Z a (by simp)).X 3⟩,⟨(K.Z a (by simp)).X 0,(K.Z a (by simp)).X 1,(K.Z a (by simp)).X 2,(K.Z a (by simp)).X 3⟩,⟨(L.Z a (by simp)).X 0,(L.Z a (by simp)).X 1,(L.Z a (by simp)).X 2,(L.Z a (by simp)).X 3⟩⟩
 have⟨aj,aX,aY,aC⟩:=gu ap T aA aO;have aZ:=gd aQ;have av:=T w1 au.o (0,0) aN;simp only at av;clear ai J K L ap T aA aO aQ ad h M ha r aN aB az aR aS;go_enter func33,ntmps33;go_wp2_with fail;rw[<-a5.o];refine av.mono ?_;rintro e w2 ⟨rfl,aD⟩;have aW:=gd aD;have⟨c0,ac⟩:=zX (mP p q s (0,0));rw[<-ac];have aT:=gd ac;have aw:c0<=536870912:=by rw[ac];exact aC.o _
 clear av aD ac;go_wp2_with fail
 go_loopg [6,7,8,9,10,11] 9 (λj v6 v7 v8 v9 v10 v11 wr=>∃(dx dy V:Int) (C:Nat),v6=.int .i64 dx/\v7=.int .i64 dy/\v8=.int .i64 C/\v9=.int .i64 V/\V+j=5/\-4<=V/\C<=536870912/\gh (kD p q s (qp (-4) V) dx dy C)/\gh (gg [] w1 wr))
 .exact⟨0,0,-4,c0,rfl,rfl,rfl,rfl,by omega,by omega,aw,gd (by rw[aT.o];exact aZ.o.mono λm h=>by obtain⟨_,_,u,N⟩:=h;omega),aW⟩
 obtain⟨dx,dy,V,C,rfl,rfl,rfl,rfl,aI,bb,O,n,A⟩:=hrel;rcases gk with _|j
 .have t1:decide (V<=4)=false:=zA (by omega)
  have be:V=5:=by omega
  go_wp2;refine bodyPost_ret (v:=.tuple #[dx,dy,C]) (by simp[results,results33,go_sem]) rfl ?_;have P:=n.o;refine⟨dx,dy,C,rfl,⟨P.ok,P.cost,λm _ ho=>P.le m ?_ ho,P.le0,P.zero⟩,au.o.tq A.o⟩;obtain⟨E,F,u,N,_⟩:=ho;exact⟨E,F,u,by omega⟩
 .have t1:decide (V<=4)=true:=zB (by omega)
  have ba:V<=4:=by omega
  have a4:=gd aI;clear aI;go_wp2_with fail
  go_loopg [6,7,8,10,11] 9 (λx v6 v7 v8 v10 v11 wr2=>∃(dx dy U:Int) (C:Nat),v6=.int .i64 dx/\v7=.int .i64 dy/\v8=.int .i64 C/\v10=.int .i64 U/\U+x=5/\-4<=U/\C<=536870912/\gh (kD p q s (qp U V) dx dy C)/\gh (gg [] w1 wr2))
  .exact⟨dx,dy,-4,C,rfl,rfl,rfl,rfl,by omega,by omega,O,n,A⟩
  obtain⟨dx,dy,U,C,rfl,rfl,rfl,rfl,aH,a9,O,n,A⟩:=hrel;rcases gk with _|x
  .have t2:decide (U<=4)=false:=zA (by omega)
   have aG:U=5:=(by omega);have HU:=gd aG;clear aG;go_wp2
   go_roundg j
   .exact⟨dx,dy,V+1,C,rfl,rfl,rfl,by go_num,by have:=a4.o;omega,by omega,O,gd (n.o.mono λm h=>by rw[HU.o];exact QP m h),A⟩
   .omega
  .have t2:decide (U<=4)=true:=zB (by omega)
   have a8:U<=4:=(by omega);have I:=gd aH;clear aH;obtain⟨⟨a0,a1,a2,a3⟩,⟨b0,X,Y,Z⟩,⟨s0,s1,s2,s3⟩⟩:=aj.o wr A.o;have hi:=aY.o wr (U,V) a9 a8 bb ba;simp only at hi;have ae:=tM p.W p.H s (U,V);have⟨z,hz⟩:=zX (tO p.W p.H s (U,V));rw[<-hz]at hi ae;have ak:=gd ae;clear hz ae;go_wp2_with fail;refine hi.mono ?_;rintro e w3 ⟨rfl,aE⟩;have Q:=gd (A.o.tq aE);clear hi aE a0 a1 a2 a3 b0 X Y Z s0 s1 s2 s3
   cases z with
   | false=>
    have bd:gh (¬lO p.W p.H s (U,V)):=gd (λh=>by have:=ak.o.2 h;simp at this);go_wp2_with fail
    go_roundg x
    .exact⟨dx,dy,U+1,C,rfl,rfl,rfl,by go_num,by have:=I.o;omega,by omega,O,gd ((n.o.skip _ bd.o).mono λm h=>vB m h),Q⟩
    .omega
   | true=>
    have ag:gh (lO p.W p.H s (U,V)):=gd (ak.o.1 rfl);obtain⟨⟨a0,a1,a2,a3⟩,⟨b0,X,Y,Z⟩,⟨s0,s1,s2,s3⟩⟩:=aj.o w3 Q.o;have a:=aX.o w3 (au.o.tq Q.o) (U,V) ag.o.fit;have S:=aC.o (U,V);simp only at a;have⟨D,hD⟩:=zX (mP p q s (U,V));rw[<-hD]at a S;have y:=gd hD;clear hD;go_wp2_with fail;refine a.mono ?_;rintro e w4 ⟨rfl,aF⟩;have R:=gd (Q.o.tq aF);clear a aF a0 a1 a2 a3 b0 X Y Z s0 s1 s2 s3;rcases Nat.lt_trichotomy D C with aP|bc|bf
    .have t3:decide (D<C)=true:=zB aP
     have t:gh (kD p q s (qp (U+1) V) U V D):=gd (by rw[y.o];exact(n.o.take U V ag.o (.inl (by rw[<-y.o];exact aP))).mono λm h=>vB m h);go_wp2_with fail
     go_roundg x
     .exact⟨U,V,U+1,D,rfl,rfl,rfl,by go_num,by have:=I.o;omega,by omega,S,t,R⟩
     .omega
    .subst bc
     have t3:decide (D<D)=false:=(by simp);have t4:((D:Int)==(D:Int))=true:=(by simp);have ad:=n.o.ok;obtain⟨k1,k2,k3,k4,_⟩:=ad;simp only at k1 k2 k3 k4;have E:=λw=>vE U w (by omega) (by omega);have F:=λw=>vE V w (by omega) (by omega);have u:=λw=>vE dx w (by omega) (by omega);have N:=λw=>vE dy w (by omega) (by omega);have⟨aU,aJ⟩:=zX U.natAbs;have⟨aV,aK⟩:=zX V.natAbs;have⟨ax,aL⟩:=zX dx.natAbs;have⟨ay,aM⟩:=zX dy.natAbs;rw[<-aJ]at E;rw[<-aK]at F;rw[<-aL]at u;rw[<-aM]at N;have X:aU<=4:=(by omega);have Y:aV<=4:=(by omega);have Z:ax<=4:=(by omega);have b4:ay<=4:=(by omega);have⟨S1,a6⟩:=zX (aU+aV);have⟨S2,a7⟩:=zX (ax+ay);have e1:(aU:Int)+(aV:Int)=(S1:Int):=(by omega);have e2:(ax:Int)+(ay:Int)=(S2:Int):=(by omega);have HA:gh (S1=U.natAbs+V.natAbs/\S2=dx.natAbs+dy.natAbs):=gd ⟨by omega,by omega⟩;have b5:S1<=8:=(by omega);have b6:S2<=8:=(by omega);clear aJ aK aL aM a6 a7;by_cases hS:S1<S2
     .have t5:decide (S1<S2)=true:=zB hS
      have t:gh (kD p q s (qp (U+1) V) U V D):=gd (by
       have hA:=HA.o;have h:=(n.o.take U V ag.o (.inr ⟨y.o.symm,by omega⟩)).mono λm h=>vB m h;rw[<-y.o]at h;exact h)
      go_wp2_with fail;refine gB (E _) ?_;go_wp2_with fail;refine gB (F _) ?_;go_wp2_with fail;refine gB (u _) ?_;go_wp2_with fail;refine gB (N _) ?_;go_wp2_with fail
      go_roundg x
      .exact⟨U,V,U+1,D,rfl,rfl,rfl,by go_num,by have:=I.o;omega,by omega,S,t,R⟩
      .omega
     .have t5:decide (S1<S2)=false:=zA hS
      have t:gh (kD p q s (qp (U+1) V) dx dy D):=gd ((n.o.N (U,V) (by rw[<-y.o];exact zQ _)).mono λm h=>vB m h);go_wp2_with fail;refine gB (E _) ?_;go_wp2_with fail;refine gB (F _) ?_;go_wp2_with fail;refine gB (u _) ?_;go_wp2_with fail;refine gB (N _) ?_;go_wp2_with fail
      go_roundg x
      .exact⟨dx,dy,U+1,D,rfl,rfl,rfl,by go_num,by have:=I.o;omega,by omega,S,t,R⟩
      .omega
    .have t3:decide (D<C)=false:=zA (by omega)
     have t4:((D:Int)==(C:Int))=false:=(by rw[beq_eq_false_iff_ne];omega);have t:gh (kD p q s (qp (U+1) V) dx dy C):=gd ((n.o.N (U,V) (by rw[<-y.o];omega)).mono λm h=>vB m h);go_wp2_with fail
     go_roundg x
     .exact⟨dx,dy,U+1,C,rfl,rfl,rfl,by go_num,by have:=I.o;omega,by omega,O,t,R⟩
     .omega
end Go.Proofs.YtifdlkoepaepiaaGreatDoor
