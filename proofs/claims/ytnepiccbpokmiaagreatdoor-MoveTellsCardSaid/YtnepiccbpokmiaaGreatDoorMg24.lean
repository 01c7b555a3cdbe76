/- Lemmas. -/
import Derived.Test.YtnepiccbpokmiaaGreatDoorMg15
import Derived.Test.YtnepiccbpokmiaaGreatDoorMg18
set_option linter.all false
set_option maxHeartbeats 4000000
set_option maxRecDepth 100000
namespace Go.Proofs.YtnepiccbpokmiaaGreatDoor
open Tryz List Nat Go.RowKit
variable {g:Nat}{w:World}
theorem zy:zeroCells197=((replicate 65 0).map i64).toArray:=by kernel_rfl
theorem OP:zeroCells196=((replicate 1025 0).map i64).toArray:=by kernel_rfl
theorem MB(l:List Int)(A:Option Addr)(cap at_ a:Nat)(rs:List Nat)(w:World)(X:at_<l.length)(hll:l.length<=4096)(hc:gu vi w A l)(hr:iW w a 196 rs)(Y:rC rs)(hA:gM A l [a]):Calls prog 205 #[.slice A l.length cap,at_,.pointer a] w λe w'=>e=.returned (.agg ((kX l at_ rs).dists.map i64).toArray)/\iW w' a 196 (kX l at_ rs).runs/\gf [a] w w':=by
 have bs:=gn.lt hr;have⟨n,hn⟩:=zX l.length;rw[<-hn]at X hll⊢;have⟨M,hM⟩:=zX (min at_ 1024);have a5:kX l at_ rs=oN l at_ M 1 (qB rs):=by rw[hM];rfl
 rw[a5];have aD:=xW Y;have⟨S,hS⟩:=zX (oN l at_ M 1 (qB rs));have aJ:S.Ok:=by rw[hS];exact zp _ _ _ aD (by omega)
 rw[<-hS];have⟨HN,HS,HA,aU⟩:=gz hn hS hA aD;have aW:=gd aJ;have bp:M<=at_:=by omega
 have bq:M<=1024:=by omega
 have bf:at_<=M\/1024<=M:=by omega
 have bb:iW (w.alloc (.cells zeroCells197 197)) w.heap.size 197 (replicate 65 0):=by have:=gn.new w 197 zeroCells197;rw[zy]at this;rw[zy];exact this
 have bn:iW ((w.alloc (.cells zeroCells197 197)).alloc (.cells zeroCells197 197)) (w.heap.size+1) 197 (replicate 65 0):=by
  have:=gn.new (w.alloc (.cells zeroCells197 197)) 197 zeroCells197
  rw[show(w.alloc (.cells zeroCells197 197)).heap.size=w.heap.size+1 by simp]at this;rw[zy]at this⊢;exact this
 have bd:gf [a] w ((w.alloc (.cells zeroCells197 197)).alloc (.cells zeroCells197 197)):=((zR [a] w).alloc _).alloc _;have a2:iW ((w.alloc (.cells zeroCells197 197)).alloc (.cells zeroCells197 197)) w.heap.size 197 (replicate 65 0):=gn.alloc bb _;have bk:iW ((w.alloc (.cells zeroCells197 197)).alloc (.cells zeroCells197 197)) a 196 rs:=gn.alloc (gn.alloc hr _) _;have bj:(if (1024:Int)<(at_:Int)then(1024:Int)else(at_:Int))=(M:Int):=by split<;>omega
 clear hn a5 hS hA aD aJ Y hM hr bb bf;go_enter func205,ntmps205;go_wp2_with fail
 go_loopg [8,9] M (λj m iv wr=>∃(d:Nat) (s:mw),iv=.int .i64 d/\m=.int .i64 s.N/\d+j=M+1/\1<=d/\gh (S=oN l at_ j d s)/\gh s.Ok/\iW wr a 196 s.runs/\iW wr (w.heap.size+1) 197 s.dists/\iW wr w.heap.size 197 (replicate 65 0)/\gf [a] w wr)
 .exact⟨1,qB rs,rfl,rfl,by omega,zQ _,HS,aU,bk,bn,a2,bd⟩
 obtain⟨d,s,rfl,rfl,hj,bu,R,h,k,O,E,y⟩:=hrel;rcases gk with _|j
 .have bg:S=s:=R.o
  have bi:d=M+1:=by omega
  clear R;have t1:=kK d M (by omega);have aC:(prog.info? 197).map (·.size)=some 65:=by kernel_rfl
  subst bg;have aL:(S.dists.map i64).length=65:=by rw[zE];exact aW.o.dl
  have aR:(S.dists.map i64).toArray.size=65:=by simpa using aL
  have aO:(replicate 65 0 |>.map i64).toArray.size=65:=by simp
  have a0:gn (wr.setCells w.heap.size 0 (S.dists.map i64)) w.heap.size 197 (S.dists.map i64).toArray:=gn.setCells E _ (by rw[aO,aL]);have aY:gf [a] w (wr.setCells w.heap.size 0 (S.dists.map i64)):=gf.setCells (.inr (zQ _)) _ _ _ y;have Q:iW (wr.setCells w.heap.size 0 (S.dists.map i64)) a 196 S.runs:=gn.Z k (gf.setCells (F:=[w.heap.size]) (.inl (by simp)) _ _ _ (zR _ _)) (by simp;omega)
  go_wp2_with(first
   | refine wpList_load_row rfl 197 (.tmp 7) rfl (w.heap.size+1) rfl _ _ _ _ O underlying197 rfl (by rw[aR];exact aC) ?_
   | refine wpList_store_mid rfl 197 (.tmp 6) (.tmp 54) rfl w.heap.size 0 (S.dists.map i64).toArray rfl rfl (gn.there E (by rw[aR,aO];exact zQ _)) (by rw[aR];exact aC) (Oo _) ?_)
  all_goals exact bodyPost_ret (v:=.agg (S.dists.map i64).toArray) (results_cell_row rfl _ _ w.heap.size _ _ (0,0) _ rfl a0 underlying197 rfl (by rw[aR];exact aC)) rfl ⟨rfl,Q,aY⟩
 .have bi:d<=M:=by omega
  have aQ:=h.o;have aP:d<s.runs.length:=by rw[aQ.rl];omega
  have aZ:gu vi wr A l:=hc.Q HA.o y;have aX:at_<l.length:=by rw[<-HN.o];exact X
  have V:at_-d<l.length:=by omega
  obtain⟨g,o,rfl,ca⟩:=aZ.at_ aX;obtain⟨g',o',e',cb⟩:=aZ.at_ V;injection e' with e';injection e' with e1 e2 _;subst e1;subst e2;have ga:l[at_]=l.getD at_ 0:=by rw[zD,zF aX];rfl
  have gb:l[at_-d]=l.getD (at_-d) 0:=by rw[zD,zF V];rfl
  rw[ga]at ca;rw[gb]at cb;have a6:oN l at_ (j+1) d s=oN l at_ j (d+1) (lB l at_ s d):=rfl;rw[a6]at R;have aN:=yq (l:=l) (at_:=at_) aQ (show d<=1024 by omega);have aM:mI l at_ s.runs d=if l.getD at_ 0=l.getD (at_-d) 0 then min (s.runs.getD d 0+1) 64 else 0:=rfl;have bm:=EJ l at_ s.runs d;have aq:lB l at_ s d=⟨s.runs.set d (mI l at_ s.runs d),kY (mI l at_ s.runs d-s.N) s.dists s.N d,max s.N (mI l at_ s.runs d)⟩:=rfl;have bl:s.runs.getD d 0<=64:=by rw[zD,zF aP];exact aQ.r64 _ (zG aP)
  have aA:=k.X aP;have aB:=gn.V k d;generalize mI l at_ s.runs d=r at *;generalize l.getD at_ 0=xa at *;generalize l.getD (at_-d) 0=xb at *;generalize s.runs.getD d 0=ro at *;have bo:wr.cell? ⟨g,o+at_,none⟩=some (.int .i64 xa):=ca;have bc:wr.cell? ⟨g,o+(at_-d),none⟩=some (.int .i64 xb):=cb;have be:(at_:Int)-(d:Int)=((at_-d:Nat):Int):=by omega
  have⟨ad,aK⟩:=zX (at_-d);rw[<-aK]at bc be V;have bh:ad<n:=by rw[HN.o];exact V
  have⟨al,aS,aT⟩:=gS aq aM aN;clear ca cb ga gb a6 aN aq aQ aX aP V aZ aM aK;have a4:gh (xa≠xb->r=0):=gd λb=>by rw[aS.o,if_neg b]
  have a3:gh (xa=xb->r=min (ro+1) 64):=gd λb=>by rw[aS.o,if_pos b]
  clear aS;have aF:(xa=xb/\r=ro+1/\ro<64)\/(xa=xb/\r=64/\ro=64)\/(xa≠xb/\r=0):=by
   by_cases b:xa=xb
   .have:=a3.o b
    omega
   .exact .inr (.inr ⟨b,a4.o b⟩)
  clear a4 a3;rcases aF with⟨b,N,ba⟩|⟨b,N,ba⟩|⟨b,N⟩
  .have t3:(xa==xb)=true:=by simpa using b
   have t4:decide ((64:Int)<(ro:Int)+1)=false:=zA (by omega);have er:(ro:Int)+1=(r:Int):=(by omega);clear N b
   go_upto_region 6 with(fail)
   go_quiet (fail)
   go_upto_region 7 with(fail)
   have P:=k.Z ((zR [] wr).drewN nq) (by simp);have T:=P.X (i:=d) (by rw[h.o.rl];omega);have U:=gn.V P d;refine jE 11 (by kernel_rfl) (by kernel_rfl) ?_;simp only[take_succ_cons,take_zero,drop_succ_cons,drop_zero]
   repeat(go_big_quiet_step (fail))
   refine wpQuiet_nil ?_;intro _ a1;obtain⟨t,rfl⟩:=a1;go_wp2_with fail;have Q:=k.Z ((zR [] wr).drewN (nq+t)) (by simp);have J:=Q.T d r;have I:=gn.R (O.Z ((zR [] wr).drewN (nq+t)) (by simp)) (p:=⟨a,d,none⟩) (by simp;omega) (.int .i64 r);have H:=gn.R (E.Z ((zR [] wr).drewN (nq+t)) (by simp)) (p:=⟨a,d,none⟩) (by simp;omega) (.int .i64 r);have G:=(y.drewN (nq+t)).setCell (p:=⟨a,d,none⟩) (.inl (by simp)) (.int .i64 r);have B:(s.runs.set d r).length=1025:=(by rw[length_set];exact h.o.rl);have C:(s.runs.set d r).getD d 0=r:=(by rw[zD,getElem?_set_self (by rw[h.o.rl];omega)];rfl);have⟨aH,aI⟩:=gy B C;clear B C aA aB T U k P O E y
   go_loopg [8] (r-s.N) (λf iv wr2=>∃(m:Nat) (D:List Nat),iv=.int .i64 m/\gh (kY (r-s.N) s.dists s.N d=kY f D m d)/\m+f=max s.N r/\s.N<=m/\gh (D.length=65)/\iW wr2 a 196 (s.runs.set d r)/\iW wr2 (w.heap.size+1) 197 D/\iW wr2 w.heap.size 197 (replicate 65 0)/\gf [a] w wr2)
   .exact⟨s.N,s.dists,rfl,gd rfl,by omega,zQ _,gd h.o.dl,J,I,H,G⟩
   obtain⟨m,D,rfl,u,a7,a8,x,q,c,L,K⟩:=hrel;clear J I H G;have Z:=q.X (i:=d) (by rw[aH.o];omega);rw[aI.o]at Z;rcases gk with _|f
   .have t5:=gL m r (by omega)
    go_wp2_with fail
    go_roundg j
    .have W:kY (r-s.N) s.dists s.N d=D:=u.o
     refine⟨d+1,lB l at_ s d,by go_num,?_,by omega,by omega,R,aT,?_,?_,L,K⟩
     .rw[al.o];exact congrArg (λz:Nat=>Value.int .i64 z) (show m=max s.N r by omega)
     .rw[al.o];exact q
     .rw[al.o];show iW _ _ _ (kY (r-s.N) s.dists s.N d);rw[W];exact c
    .omega
   .have a9:m<r:=by omega
    have t5:=i6 m r (by omega);have cD:=c.X (i:=m+1) (by rw[x.o];omega);have fD:=gn.V c (m+1);go_wp2_with fail
    go_roundg f
    .refine⟨m+1,D.set (m+1) d,by go_num,u,by omega,by omega,gd (by rw[length_set];exact x.o),gn.R q (by simp;omega) _,c.T _ _,gn.R L (by simp) _,K.setCell (.inr (by simp)) _⟩
    .omega
  .have t3:(xa==xb)=true:=by simpa using b
   have bv:(64:Int)<(ro:Int)+1:=(by omega);have aV:=gd N;clear N ba b
   go_upto_region 6 with(fail)
   go_quiet (fail)
   go_upto_region 7 with(fail)
   have P:=k.Z ((zR [] wr).drewN nq) (by simp);have T:=P.X (i:=d) (by rw[h.o.rl];omega);have U:=gn.V P d;refine jE 11 (by kernel_rfl) (by kernel_rfl) ?_;simp only[take_succ_cons,take_zero,drop_succ_cons,drop_zero]
   repeat(go_big_quiet_step (fail))
   refine wpQuiet_nil ?_;intro _ a1;obtain⟨t,rfl⟩:=a1;go_wp2_with fail;have Q:=k.Z ((zR [] wr).drewN (nq+t)) (by simp);have J:iW (((wr.drewN (nq+t))).setCell ⟨a,d,none⟩ (.int .i64 64)) a 196 (s.runs.set d r):=(by rw[aV.o];exact Q.T d 64);have I:=gn.R (O.Z ((zR [] wr).drewN (nq+t)) (by simp)) (p:=⟨a,d,none⟩) (by simp;omega) (.int .i64 64);have H:=gn.R (E.Z ((zR [] wr).drewN (nq+t)) (by simp)) (p:=⟨a,d,none⟩) (by simp;omega) (.int .i64 64);have G:=(y.drewN (nq+t)).setCell (p:=⟨a,d,none⟩) (.inl (by simp)) (.int .i64 64);have B:(s.runs.set d r).length=1025:=(by rw[length_set];exact h.o.rl);have C:(s.runs.set d r).getD d 0=r:=(by rw[zD,getElem?_set_self (by rw[h.o.rl];omega)];rfl);have⟨aH,aI⟩:=gy B C;clear B C aA aB T U k P O E y
   go_loopg [8] (r-s.N) (λf iv wr2=>∃(m:Nat) (D:List Nat),iv=.int .i64 m/\gh (kY (r-s.N) s.dists s.N d=kY f D m d)/\m+f=max s.N r/\s.N<=m/\gh (D.length=65)/\iW wr2 a 196 (s.runs.set d r)/\iW wr2 (w.heap.size+1) 197 D/\iW wr2 w.heap.size 197 (replicate 65 0)/\gf [a] w wr2)
   .exact⟨s.N,s.dists,rfl,gd rfl,by omega,zQ _,gd h.o.dl,J,I,H,G⟩
   obtain⟨m,D,rfl,u,a7,a8,x,q,c,L,K⟩:=hrel;clear J I H G;have Z:=q.X (i:=d) (by rw[aH.o];omega);rw[aI.o]at Z;rcases gk with _|f
   .have t5:=gL m r (by omega)
    go_wp2_with fail
    go_roundg j
    .have W:kY (r-s.N) s.dists s.N d=D:=u.o
     refine⟨d+1,lB l at_ s d,by go_num,?_,by omega,by omega,R,aT,?_,?_,L,K⟩
     .rw[al.o];exact congrArg (λz:Nat=>Value.int .i64 z) (show m=max s.N r by omega)
     .rw[al.o];exact q
     .rw[al.o];show iW _ _ _ (kY (r-s.N) s.dists s.N d);rw[W];exact c
    .omega
   .have a9:m<r:=by omega
    have t5:=i6 m r (by omega);have cD:=c.X (i:=m+1) (by rw[x.o];omega);have fD:=gn.V c (m+1);go_wp2_with fail
    go_roundg f
    .refine⟨m+1,D.set (m+1) d,by go_num,u,by omega,by omega,gd (by rw[length_set];exact x.o),gn.R q (by simp;omega) _,c.T _ _,gn.R L (by simp) _,K.setCell (.inr (by simp)) _⟩
    .omega
  .have t3:(xa==xb)=false:=by simpa using b
   have aV:=gd N;clear N b
   go_upto_region 6 with(fail)
   go_quiet (fail)
   have T:=(k.Z ((zR [] wr).drewN nq) (by simp)).X (i:=d) (by rw[h.o.rl];omega);have U:=gn.V (k.Z ((zR [] wr).drewN nq) (by simp)) d;go_wp2_with fail;have Q:=k.Z ((zR [] wr).drewN nq) (by simp);have J:iW (((wr.drewN nq)).setCell ⟨a,d,none⟩ (.int .i64 0)) a 196 (s.runs.set d r):=(by rw[aV.o];exact Q.T d 0);have I:=gn.R (O.Z ((zR [] wr).drewN nq) (by simp)) (p:=⟨a,d,none⟩) (by simp;omega) (.int .i64 0);have H:=gn.R (E.Z ((zR [] wr).drewN nq) (by simp)) (p:=⟨a,d,none⟩) (by simp;omega) (.int .i64 0);have G:=(y.drewN nq).setCell (p:=⟨a,d,none⟩) (.inl (by simp)) (.int .i64 0);have B:(s.runs.set d r).length=1025:=(by rw[length_set];exact h.o.rl);have C:(s.runs.set d r).getD d 0=r:=(by rw[zD,getElem?_set_self (by rw[h.o.rl];omega)];rfl);have⟨aH,aI⟩:=gy B C;clear B C aA aB T U k O E y
   go_loopg [8] (r-s.N) (λf iv wr2=>∃(m:Nat) (D:List Nat),iv=.int .i64 m/\gh (kY (r-s.N) s.dists s.N d=kY f D m d)/\m+f=max s.N r/\s.N<=m/\gh (D.length=65)/\iW wr2 a 196 (s.runs.set d r)/\iW wr2 (w.heap.size+1) 197 D/\iW wr2 w.heap.size 197 (replicate 65 0)/\gf [a] w wr2)
   .exact⟨s.N,s.dists,rfl,gd rfl,by omega,zQ _,gd h.o.dl,J,I,H,G⟩
   obtain⟨m,D,rfl,u,a7,a8,x,q,c,L,K⟩:=hrel;clear J I H G;have Z:=q.X (i:=d) (by rw[aH.o];omega);rw[aI.o]at Z;rcases gk with _|f
   .have t5:=gL m r (by omega)
    go_wp2_with fail
    go_roundg j
    .have W:kY (r-s.N) s.dists s.N d=D:=u.o
     refine⟨d+1,lB l at_ s d,by go_num,?_,by omega,by omega,R,aT,?_,?_,L,K⟩
     .rw[al.o];exact congrArg (λz:Nat=>Value.int .i64 z) (show m=max s.N r by omega)
     .rw[al.o];exact q
     .rw[al.o];show iW _ _ _ (kY (r-s.N) s.dists s.N d);rw[W];exact c
    .omega
   .have a9:m<r:=by omega
    have cD:=c.X (i:=m+1) (by rw[x.o];omega);have fD:=gn.V c (m+1);go_wp2_with fail
    go_roundg f
    .refine⟨m+1,D.set (m+1) d,by go_num,u,by omega,by omega,gd (by rw[length_set];exact x.o),gn.R q (by simp;omega) _,c.T _ _,gn.R L (by simp) _,K.setCell (.inr (by simp)) _⟩
    .omega
theorem sZ:jA prog 128 157 (.agg #[(0:Int),(0:Int),(0:Int)]) 3 24:=.mk' underlying128 (by kernel_rfl)
def np(w:World)(g:Nat)(l:List gK):Prop:=gn w g 157 (l.flatMap kB).toArray
theorem np.X{l:List gK}(h:np w g l){i:Nat}(hi:i<l.length):w.cell? ⟨g,i*3,none⟩=some (.int .i64 (iy l i).len)/\w.cell? ⟨g,i*3+1,none⟩=some (.int .i64 (iy l i).dist)/\w.cell? ⟨g,i*3+2,none⟩=some (.int .i64 (iy l i).lit):=by
 have d:l[i]?=some (iy l i):=by unfold iy;rw[zD,zF hi];rfl
 obtain⟨a,b,c⟩:=Bc d;refine⟨?_,?_,?_⟩
 .rw[gn.X h];simpa using a
 .rw[gn.X h];simpa using b
 .rw[gn.X h];simpa using c
theorem Mk(l:List gK)(i:Nat)(t:gK):(((l.flatMap kB).set (i*3) (.int .i64 t.len)).set (i*3+1) (.int .i64 t.dist)).set (i*3+2) (.int .i64 t.lit)=(l.set i t).flatMap kB:=by
 induction l generalizing i with
 | nil=>simp
 | cons s l ih=>
  cases i with
  | zero=>simp[kB]
  | succ i=>
   rw[set_cons_succ,flatMap_cons,flatMap_cons,<-ih i];have e:kB s=[.int .i64 s.len,.int .i64 s.dist,.int .i64 s.lit]:=rfl;rw[e,show(i+1)*3=i*3+1+1+1 by omega,show i*3+1+1+1+1=(i*3+1)+1+1+1 by omega,show i*3+1+1+1+2=(i*3+2)+1+1+1 by omega];simp only[cons_append,nil_append,set_cons_succ]
theorem np.T{l:List gK}(h:np w g l)(i:Nat)(t:gK):np (((w.setCell ⟨g,i*3,none⟩ (.int .i64 t.len)).setCell ⟨g,i*3+1,none⟩ (.int .i64 t.dist)).setCell ⟨g,i*3+2,none⟩ (.int .i64 t.lit)) g (l.set i t):=by
 have a:=((gn.T h (i*3) (.int .i64 t.len)).T (i*3+1) (.int .i64 t.dist)).T (i*3+2) (.int .i64 t.lit);unfold np;rw[<-Mk]
 simpa using a
theorem Je(v:Value)(n:Nat):madeCells #[v,v,v] (n*3)=(replicate (n*3) v).toArray:=by
 apply Array.ext
 .simp[size_madeCells]
 .intro j b c
  have a:j%3<3:=mod_lt _ (by decide)
  have:∀k,k<3->(#[v,v,v]:Array Value)[k]! = v:=λk hk=>by
   match k,hk with
   | 0,_=>rfl
   | 1,_=>rfl
   | 2,_=>rfl
  simp only[madeCells,Array.getElem_map,Array.getElem_range,getElem_toArray,getElem_replicate];exact this _ a
theorem Kr(n:Nat):(replicate n (⟨0,0,0⟩:gK)).flatMap kB=replicate (n*3) (.int .i64 0):=by
 induction n with
 | zero=>rfl
 | succ n ih=>
  rw[replicate_succ,flatMap_cons,ih,show(n+1)*3=n*3+1+1+1 by omega,replicate_succ,replicate_succ,replicate_succ];rfl
theorem KG(b a:IntKind)(n:Nat)(j:n<=1099511627776)(w:World):(Instr.makeSlice 128 (.int b (n:Int)) (.int a (n:Int))).run prog w=.ok (.slice (some ⟨w.heap.size,0,none⟩) n n) (w.alloc (.cells ((replicate n (⟨0,0,0⟩:gK)).flatMap kB).toArray 157)):=by
 obtain⟨i,hi,h,c,d⟩:=sZ.hi;have f:=run_make (P:=prog) w 128 157 i _ sZ.ht hi h b a n n (by omega) (Int.le_refl _) (by rw[d];omega) (by omega);rw[f,c,Kr];simp only[Int.toNat_natCast];have e:(Value.agg #[(0:Int),(0:Int),(0:Int)]).cells=#[.int .i64 0,.int .i64 0,.int .i64 0]:=rfl;rw[e,Je]
theorem OR(D:List Nat)(d:D.length=65)(m:Nat)(c:m<65)(w:World):(Instr.index 197 (.agg (D.map i64).toArray) (.int .i64 m)).run prog w=.ok (.int .i64 (D.getD m 0:Nat)) w:=by
 have a:D[m]?=some (D.getD m 0):=by
  have:m<D.length:=by omega
  simp[zD,zF this]
 generalize D.getD m 0=x at *;have b:(0:Int)<=(m:Int)/\(m:Int)<65:=by omega
 simp[Instr.index,run_underlying underlying197,asIntOf,go_sem,b,a,c,i64]
structure rQ (w:World) (b:Nat) (s:lG):Prop where
 vr:iW w b 196 s.runs
 vc:iW w (b+1) 3 s.costs
 vf:np w (b+1+1) s.first
theorem Oz(w:World)(n:Nat):rQ (((w.alloc (.cells zeroCells196 196)).alloc (.cells (replicate (n+1) (Value.int .i64 0)).toArray 3)).alloc (.cells ((replicate n (⟨0,0,0⟩:gK)).flatMap kB).toArray 157)) w.heap.size (qD n):=by
 refine⟨gn.alloc (gn.alloc ?_ _) _,gn.alloc ?_ _,?_⟩
 .have:=gn.new w 196 zeroCells196
  rw[OP]at this⊢;exact this
 .have:=gn.new (w.alloc (.cells zeroCells196 196)) 3 (replicate (n+1) (Value.int .i64 0)).toArray
  rw[show(w.alloc (.cells zeroCells196 196)).heap.size=w.heap.size+1 by simp]at this;have e:((qD n).costs.map i64).toArray=(replicate (n+1) (Value.int .i64 0)).toArray:=by
   show((replicate (n+1) 0).map i64).toArray=_;rw[map_replicate];rfl
  rw[<-e]at this⊢;exact this
 .have:=gn.new ((w.alloc (.cells zeroCells196 196)).alloc (.cells (replicate (n+1) (Value.int .i64 0)).toArray 3)) 157 ((replicate n (⟨0,0,0⟩:gK)).flatMap kB).toArray
  rw[show((w.alloc (.cells zeroCells196 196)).alloc (.cells (replicate (n+1) (Value.int .i64 0)).toArray 3)).heap.size=w.heap.size+1+1 by simp]at this;exact this
theorem rQ.Y{c:World}{b:Nat}{s:lG}(h:rQ w b s)(a:gf [] w c):rQ c b s:=⟨h.vr.Z a (by simp),h.vc.Z a (by simp),gn.Z h.vf a (by simp)⟩
theorem Mw(l:List Int)(A:Option Addr)(cap r cp:Nat)(w:World)(hll:l.length<=4096)(hc:gu vi w A l)(h0:1<=r)(h1:r<=1048576)(h2:1<=cp)(h3:cp<=1048576):Calls prog 136 #[.slice A l.length cap,r,cp] w λe w'=>∃(Y:Option Addr) (cap':Nat),e=.returned (.slice Y (lf l r cp).length cap')/\lD w' Y (lf l r cp)/\gf [] w w'/\∀ad,Y=some ad->w.heap.size<=ad.block:=by
 have ai:=xB l r cp;have aO:lf l r cp=kf (pR l r cp).first l.length l.length 0:=rfl;have L:pR l r cp=oQ l r cp l.length (qD l.length):=rfl;have aU:=ud l r cp;have ar:=x6 l.length r;have ae:=λk s (a:lG.Ok l.length r (k+1) s) (b:k<l.length)=>yD (l:=l) (cp:=cp) a b;have aq:=λk s (a:lG.Ok l.length r (k+1) s) (b:k<l.length)=>E8 (l:=l) a b;have ac:=λat_ br rs w (a:at_<l.length) (b:gu vi w A l) c d e=>MB l A cap at_ br rs w a hll b c d e;have⟨T,hT⟩:=zX (lf l r cp);rw[<-hT]at aO ai⊢;have⟨S,hS⟩:=zX (pR l r cp);rw[<-hS]at aO L aU;have⟨n,hn⟩:=zX l.length;rw[<-hn]at aO L aU ar ae aq ac hll ai⊢;have t1:=gL r 1 (by omega);have t2:=gL 1048576 r (by omega);have t3:=gL cp 1 (by omega);have t4:=gL 1048576 cp (by omega);have aJ:=lp (P:=prog) iJ rfl .i64 .i64 (n+1) (by omega) (by omega);have e1:((n+1:Nat):Int)=(n:Int)+1:=by omega
 rw[e1]at aJ;have bb:=KG .i64 .i64 n (by omega);have⟨HT,HS,bk,aZ⟩:=gz aO L aU ar;have⟨bS,bJ,bM,HN⟩:=gz ae aq ac hn;have bP:=gd ai;clear aO L aU ar ae aq ac hn ai hT hS;go_enter func136,ntmps136;go_wp2_with fail;have y:=Oz w n;have C:gf [] w (((w.alloc (.cells zeroCells196 196)).alloc (.cells (replicate (n+1) (Value.int .i64 0)).toArray 3)).alloc (.cells ((replicate n (⟨0,0,0⟩:gK)).flatMap kB).toArray 157)):=(((zR [] w).alloc _).alloc _).alloc _;have eR:(replicate (n+1) (Value.int .i64 0)).toArray=Array.replicate (n+1) (Value.int .i64 0):=by simp
 rw[eR]at y C;clear aJ bb eR
 go_loopg [10] n (λk iv wr=>∃(s:lG) (a:Int),iv=.int .i64 a/\a=(k:Int)-1/\k<=n/\gh (S=oQ l r cp k s)/\gh (s.Ok n r k)/\rQ wr w.heap.size s/\gf [] w wr)
 .exact⟨qD n,_,rfl,rfl,zQ _,HS,aZ,y,C⟩
 obtain⟨s,a,rfl,ha,cg,HG,Z,y,C⟩:=hrel;rcases gk with _|k
 .have b6:a<0:=by omega
  clear ha;have tn:=kK 0 a (by omega);have bZ:S=s:=HG.o;subst bZ;have bw:S.first.length=n:=bk.o.pair.fl;have bz:∀t∈S.first,t.ok:=bk.o.pair.fo;have⟨aY,bN⟩:=gy bw bz;have M:=y.vf;clear bw bz y hc;go_wp2_with fail
  go_loopg [14,15] n (λj v iv wr=>∃(i:Nat) (done:List gK) (F:List Nat),iv=.int .i64 i/\gh (T=done++kf S.first n j i)/\n<=i+j/\i<=n+64/\ic wr 157 3 v F done.length (done.flatMap kB)/\(∀x∈F,w.heap.size+1+1<x)/\np wr (w.heap.size+1+1) S.first/\gf [] w wr)
  .exact⟨0,[],[],rfl,HT,by omega,by omega,ic.nil _ _ _,by simp,M,C⟩
  clear M C;obtain⟨i,done,F,rfl,K,cc,cd,aj,hF,M,C⟩:=hrel;obtain⟨Y,cap',rfl,_,_,b0,bX⟩:=aj.open_;by_cases hin:i<n
  .have t5:=i6 i n (by omega)
   rcases gk with _|j
   .omega
   obtain⟨c1,c2,c3⟩:=M.X (i:=i) (by rw[aY.o];exact hin);have aT:kf S.first n (j+1) i=iy S.first i::kf S.first n j (i+max (iy S.first i).len 1):=(by rw[kf,if_pos hin]);rw[aT]at K;clear aT;have b3:done.length+1<=4096:=by
    have h6:=bP.o;rw[K.o,zC,zK]at h6;omega
   have bG:(iy S.first i).ok:=by
    unfold iy;have bB:i<S.first.length:=(by rw[aY.o];exact hin);rw[zD,zF bB];exact bN.o _ (zG bB)
   have ci:(iy S.first i).len<=64:=by
    rcases bG with h|h
    .have:=(gK.isLit_iff.1 h).1;omega
    .exact(gK.isCopy_iff.1 h).2.1
   have bx:(done++[iy S.first i]).flatMap kB=done.flatMap kB++kB (iy S.first i):=(by simp);have bh:=gd bx;have bF:kB (iy S.first i)=[.int .i64 (iy S.first i).len,.int .i64 (iy S.first i).dist,.int .i64 (iy S.first i).lit]:=rfl;have⟨dn,V⟩:=zX done.length;have U:=gd V;have b5:max (iy S.first i).len 1=(iy S.first i).len/\1<=(iy S.first i).len\/max (iy S.first i).len 1=1/\(iy S.first i).len<1:=(by omega);generalize ht:iy S.first i=t at *;rw[<-V]at aj b3⊢;generalize hta:t.len=ta at *;generalize htb:t.dist=tb at *;generalize htd:t.lit=td at *;have⟨bl,bT,aX⟩:=gS bF (And.intro ht hta) hF;have ag:=gn.new wr 157 #[ta,tb,td];have am:=aj.Y ((zR [] wr).alloc (.cells #[ta,tb,td] 157));clear bF bG bx ht V hta htb htd hF aj
   go_wp2_with(at_builtin;refine ou rfl rfl sZ rfl (by decide) rfl am [.int .i64 ta,.int .i64 tb,.int .i64 td] rfl rfl ?c1 ?c2 ?c3 ?c4 ?_)
   case c1=>
    intro q u G
    match q,G with
    | 0,G=>rw[<-G];exact ag.X 0
    | 1,G=>rw[<-G];exact ag.X 1
    | 2,G=>rw[<-G];exact ag.X 2
    | q+3,G=>simp at G
   case c2=>intro u hu;simp at hu;rcases hu with rfl|rfl|rfl<;>rfl
   case c3=>omega
   case c4=>omega
   intro g' bV w3 an ah;have aw:np w3 (w.heap.size+1+1) S.first:=gn.Z (gn.alloc M _) ah.Z (λhm=>by have:=aX.o _ hm;omega);have aH:gf [] w w3:=(C.alloc _).trans ah.Z (λx z=>.inr (by have:=aX.o _ z;omega));have bp:∀x∈[g'],w.heap.size+1+1<x:=λx z=>by
    rcases ah.new x z with h|h
    .exact aX.o _ h
    .have h7:=gn.lt M
     have h8:(wr.alloc (.cells #[ta,tb,td] 157)).heap.size=wr.heap.size+1:=(by simp);omega
   obtain⟨d1,d2,d3⟩:=aw.X (i:=i) (by rw[aY.o];exact hin);obtain⟨bE,aN⟩:iy S.first i=t/\t.len=ta:=bT.o;rw[bE,aN]at d1;clear d2 d3 M C ag am ah c1 c2 c3 bE aN;have⟨bg,bm,bf,bj⟩:=gz bp aw aH an;clear bp aw aH an;rcases b5 with⟨a9,b4⟩|⟨a9,b4⟩
   .rw[a9]at K
    have tm:=gL ta 1 (by omega);have b7:(1:Int)<=(ta:Int):=(by omega);go_wp2_with fail
    go_roundg j
    .refine⟨i+ta,done++[t],[g'],by go_num,gd (by rw[K.o,zH];rfl),by omega,by omega,?_,bg.o,bm.o,bf.o⟩
     have h9:=bj.o;rw[U.o,show done.length+1=(done++[t]).length by simp]at h9;rw[bh.o,bl.o,U.o,show done.length+1=(done++[t]).length by simp];exact h9
    .omega
   .rw[a9]at K
    have b7:(ta:Int)<1:=(by omega);go_wp2_with fail
    go_roundg j
    .refine⟨i+1,done++[t],[g'],by go_num,gd (by rw[K.o,zH];rfl),by omega,by omega,?_,bg.o,bm.o,bf.o⟩
     have h9:=bj.o;rw[U.o,show done.length+1=(done++[t]).length by simp]at h9;rw[bh.o,bl.o,U.o,show done.length+1=(done++[t]).length by simp];exact h9
    .omega
  .have t5:=gL i n (by omega)
   have aT:kf S.first n gk i=[]:=by
    cases gk with
    | zero=>rfl
    | succ f=>rw[kf,if_neg hin]
   go_wp2_with fail;go_ret;have hT:T=done:=(by rw[K.o,aT,append_nil]);rw[hT];refine⟨Y,cap',rfl,b0,C,λad e=>?_⟩;obtain⟨g,rfl,bY,_⟩:=bX ad e
   have:=hF g (by rw[bY];simp)
   show w.heap.size<=g;omega
 .obtain rfl:a=(k:Int):=by omega
  clear ha;have X:k<n:=by omega
  have W:=Z.o;have bv:=hc.Y C;have a8:k<l.length:=by rw[<-HN.o];exact X
  obtain⟨g,o,rfl,ca,_⟩:=hc.ex (by omega);obtain⟨g',o',e',cl⟩:=bv.at_ a8;injection e' with e';injection e' with e2 e3 _;subst e2;subst e3;have gl:l[k]=l.getD k 0:=by rw[zD,zF a8];rfl
  rw[gl]at cl;have bW:wr.cell? ⟨g,o+k,none⟩=some (.int .i64 (l.getD k 0)):=cl;have bA:oQ l r cp (k+1) s=oQ l r cp k (p8 l r cp k s):=rfl;rw[bA]at HG;have bq:=bJ.o k s W X;have c1:=y.vc.X (i:=k+1) (by rw[W.pair.cl];omega);have b9:s.costs.getD (k+1) 0<=4294967296:=by
   have h4:=ry W.pair.cb (k+1);have h5:(n-(k+1))*r<=4096*1048576:=zL (by omega) h1;simp only at h4;omega
  have f1:=gn.V y.vc k;have f2:=gn.V y.vf (k*3);have f3:=gn.V y.vf (k*3+1);have f4:=gn.V y.vf (k*3+2);obtain⟨c2,c3,c4⟩:=y.vf.X (i:=k) (by rw[W.pair.fl];exact X);have c0:=y.vc.X (i:=k) (by rw[W.pair.cl];omega);have bs:lW l r k s=(s.costs.set k (s.costs.getD (k+1) 0+r),s.first.set k ⟨0,0,l.getD k 0⟩):=rfl;have aI:iW (wr.setCell ⟨w.heap.size+1,k,none⟩ (.int .i64 ((s.costs.getD (k+1) 0+r:Nat):Int))) (w.heap.size+1) 3 (s.costs.set k (s.costs.getD (k+1) 0+r)):=y.vc.T k _;generalize aV:s.costs.getD (k+1) 0=sc at *;generalize hlk:l.getD k 0=lk at *;have⟨bH,bI,bO,bi⟩:=gz bq bs aI y;clear cl gl bA bv a8 W aV hlk bq bs aI y;go_wp2_with fail;have z:rQ ((((wr.setCell ⟨w.heap.size+1,k,none⟩ (.int .i64 ((sc:Int)+(r:Int)))).setCell ⟨w.heap.size+1+1,k*3,none⟩ (.int .i64 0)).setCell ⟨w.heap.size+1+1,k*3+1,none⟩ (.int .i64 0)).setCell ⟨w.heap.size+1+1,k*3+2,none⟩ (.int .i64 lk)) w.heap.size ⟨(lW l r k s).1,(lW l r k s).2,s.runs⟩:=by
   have bC:=bO.o;rw[Int.natCast_add]at bC;rw[bI.o]
   exact⟨gn.R (gn.R (gn.R (gn.R bi.o.vr (by simp) _) (by first|(simp;done)|(simp;omega)) _) (by first|(simp;done)|(simp;omega)) _) (by first|(simp;done)|(simp;omega)) _,
    gn.R (gn.R (gn.R bC (by simp) _) (by simp) _) (by simp) _,
    np.T (gn.R bi.o.vf (by simp) _) k ⟨0,0,lk⟩⟩
  have bd:gf [] w ((((wr.setCell ⟨w.heap.size+1,k,none⟩ (.int .i64 ((sc:Int)+(r:Int)))).setCell ⟨w.heap.size+1+1,k*3,none⟩ (.int .i64 0)).setCell ⟨w.heap.size+1+1,k*3+1,none⟩ (.int .i64 0)).setCell ⟨w.heap.size+1+1,k*3+2,none⟩ (.int .i64 lk)):=(((C.setCell (.inr (by first|(simp;done)|(simp;omega))) _).setCell (.inr (by first|(simp;done)|(simp;omega))) _).setCell (.inr (by first|(simp;done)|(simp;omega))) _).setCell (.inr (by first|(simp;done)|(simp;omega))) _
  have bc:rC s.runs:=⟨Z.o.rl,λx z=>(Z.o.rb x z).1⟩;refine(bM.o k w.heap.size s.runs _ X (hc.Y bd) z.vr bc (λ_ ad e hm=>by injection e with e;subst e;simp at hm;omega)).mono ?_;rintro e w2 ⟨rfl,ax,aS⟩;have aP:=z.vc.Z aS (by simp);have aQ:np w2 (w.heap.size+1+1) (lW l r k s).2:=gn.Z z.vf aS (by simp;omega);have aG:gf [] w w2:=bd.trans aS (λx z=>by simp at z;omega);have a7:=DR (l:=l) (at_:=k) bc;have a6:=DQ (l:=l) (at_:=k) (rs:=s.runs) (B:=n-(k+1)) (λx z=>(Z.o.rb x z).2);have L:p8 l r cp k s=⟨(mu cp k (kX l k s.runs).dists 65 0 (lW l r k s)).1,(mu cp k (kX l k s.runs).dists 65 0 (lW l r k s)).2,(kX l k s.runs).runs⟩:=rfl;have bD:=bS.o k s Z.o X;generalize (kX l k s.runs)=DS at *;obtain⟨R,D,Lg⟩:=DS;have aF:D.length=65:=a7.dl;have bn:∀x∈D,x<=1024:=a7.d1024;have bo:∀m,D.getD m 0≠0->k+m<=n:=λm hm=>by
   have h5:=a6.db m hm;have h6:=a6.lb;simp only at h5 h6;omega
  simp only at ax;have⟨a5,bR,aW,bL⟩:=gz L bD aF bn;have U:=gd bo;clear L bD aF bn bo a7 a6 z bd bc aS f1 f2 f3 f4 c0 c1 c2 c3 c4 bW C;go_wp2_with fail
  go_loopg [65] 65 (λj iv wr=>∃(m:Nat) (p:List Nat × List gK),iv=.int .i64 m/\m+j=65/\gh (mu cp k D 65 0 (lW l r k s)=mu cp k D j m p)/\gh (qA n ((n-k)*r) p)/\iW wr w.heap.size 196 R/\iW wr (w.heap.size+1) 3 p.1/\np wr (w.heap.size+1+1) p.2/\gf [] w wr)
  .exact⟨0,lW l r k s,rfl,rfl,gd rfl,bH,ax,aP,aQ,aG⟩
  obtain⟨m,p,rfl,ch,E,H,be,N,O,aR⟩:=hrel;clear ax aP aQ aG;rcases gk with _|j
  .obtain rfl:m=65:=by omega
   have hP:mu cp k D 65 0 (lW l r k s)=p:=E.o;go_wp2_with fail
   go_roundg k
   .refine⟨p8 l r cp k s,_,rfl,by omega,by omega,HG,bR,?_,aR⟩
    rw[a5.o,hP];exact⟨be,N,O⟩
   .omega
  .have ba:m<65:=by omega
   have ty:=i6 m 65 (by omega);have ce:=OR D aW.o m ba;have V:=U.o m;have aK:mu cp k D (j+1) m p=mu cp k D j (m+1) (ns cp k D m p):=rfl;have al:ns cp k D m p=if m<3\/D.getD m 0=0 then p else if p.1.getD (k+m) 0+cp<=p.1.getD k 0 then(p.1.set k (p.1.getD (k+m) 0+cp),p.2.set k ⟨m,D.getD m 0,0⟩)else p:=rfl;have aL:=Fa (cp:=cp) (at_:=k) (m:=m) H.o (by omega) bL.o;rw[aK]at E;have bu:k+m<=n->(p.1.getD (k+m) 0<=4294967296/\wr.cell? ⟨w.heap.size+1,k+m,none⟩=some (.int .i64 ((p.1.getD (k+m) 0:Nat):Int))):=λh=>⟨by
    have h4:=ry H.o.cb (k+m);have h5:(n-k)*r<=4096*1048576:=zL (by omega) h1;omega,N.X (by rw[H.o.cl];omega)⟩
   have c0:=N.X (i:=k) (by rw[H.o.cl];omega);have f1:=gn.V N k;have f2:=gn.V O (k*3);have f3:=gn.V O (k*3+1);have f4:=gn.V O (k*3+2);obtain⟨c2,c3,c4⟩:=O.X (i:=k) (by rw[H.o.fl];exact X);have ao:=λv=>N.T k v;generalize hx1:p.1.getD (k+m) 0=ckm at *;generalize hx2:p.1.getD k 0=ck at *;generalize hx3:D.getD m 0=dm at *;have⟨a4,a0,af,bK⟩:=gz ao aL al bu;have⟨HV,aD⟩:=gy (And.intro be (And.intro N O)) V;clear hx1 hx2 hx3 ao aK aL al bu be N O V;by_cases q1:m<3
   .have s1:=i6 m 3 (by omega)
    go_wp2_with fail
    go_roundg j
    .have e:ns cp k D m p=p:=by rw[af.o,if_pos (.inl q1)]
     rw[e]at E;obtain⟨I,Q,J⟩:=HV.o;exact⟨m+1,p,by go_num,by omega,E,H,I,Q,J,aR⟩
    .omega
   .have s1:=gL m 3 (by omega)
    by_cases q2:dm=0
    .have s2:((dm:Int)==0)=true:=by simp[q2]
     have bQ:=gd q2;clear q2;go_wp2_with fail
     go_roundg j
     .have e:ns cp k D m p=p:=by rw[af.o,if_pos (.inr bQ.o)]
      rw[e]at E;obtain⟨I,Q,J⟩:=HV.o;exact⟨m+1,p,by go_num,by omega,E,H,I,Q,J,aR⟩
     .omega
    .have s2:((dm:Int)==0)=false:=by simpa using q2
     obtain⟨b1,b2⟩:=bK.o (aD.o q2);have cf:k+m<=n:=aD.o q2;by_cases q3:ckm+cp<=ck
     .have s3:decide ((ckm:Int)+(cp:Int)<=(ck:Int))=true:=zB (by omega)
      go_wp2_with fail
      go_roundg j
      .have e:ns cp k D m p=(p.1.set k (ckm+cp),p.2.set k ⟨m,dm,0⟩):=by rw[af.o,if_neg (by omega),if_pos q3]
       have aM:=a0.o;rw[e]at E aM;obtain⟨I,Q,J⟩:=HV.o;have aV:=a4.o (ckm+cp);rw[Int.natCast_add]at aV;refine⟨m+1,_,by go_num,by omega,E,gd aM,?_,?_,?_,?_⟩
       .exact gn.R (gn.R (gn.R (gn.R I (by first|(simp;done)|(simp;omega)) _) (by first|(simp;done)|(simp;omega)) _) (by first|(simp;done)|(simp;omega)) _) (by first|(simp;done)|(simp;omega)) _
       .exact gn.R (gn.R (gn.R aV (by simp) _) (by simp) _) (by simp) _
       .exact np.T (gn.R J (by simp) _) k ⟨m,dm,0⟩
       .exact(((aR.setCell (.inr (by first|(simp;done)|(simp;omega))) _).setCell (.inr (by first|(simp;done)|(simp;omega))) _).setCell (.inr (by first|(simp;done)|(simp;omega))) _).setCell (.inr (by first|(simp;done)|(simp;omega))) _
      .omega
     .have s3:decide ((ckm:Int)+(cp:Int)<=(ck:Int))=false:=zA (by omega)
      go_wp2_with fail
      go_roundg j
      .have e:ns cp k D m p=p:=by rw[af.o,if_neg (by omega),if_neg q3]
       rw[e]at E;obtain⟨I,Q,J⟩:=HV.o;exact⟨m+1,p,by go_num,by omega,E,H,I,Q,J,aR⟩
      .omega
theorem gu.one{α:Type}{f:α->Value}{A:Option Addr}{l:List α}(h:gu f w A l){m:Nat}{x:α}(b:l[m]?=some x):∃g o,A=some ⟨g,o,none⟩/\gu f w (some ⟨g,o+m,none⟩) [x]:=by
 have j:=(List.getElem?_eq_some_iff.1 b).1;obtain⟨g,o,e,d,c⟩:=h.ex (by omega);refine⟨g,o,e,⟨λ_=>⟨g,o+m,rfl,d,λi a ha=>?_⟩⟩⟩
 match i,ha with
 | 0,ha=>simp at ha;subst ha;exact c m _ b
 | i+1,ha=>simp at ha
theorem MI(w:World)(b:Nat)(F bs:List Nat)(T:List gK)(A:Option Addr)(cap W d:Nat)(h:hJ w b F bs)(hp:jJ w)(h0F:0∉F)(hw0:1<=W)(hw1:W<=64)(h0:1<=d)(h1:d<=16)(hT:T.length<=4096)(y:∀t∈T,p6 d t)(hc:lD w A T)(hA:∀ad,A=some ad->ad.block∉F)(hbs:bs.length<137438953472):Calls prog 135 #[.pointer (some ⟨b,0,none⟩),.slice A T.length cap,W,d] w λe w'=>e=.returned (.int .i64 0)/\∃F',hJ w' b F' (bs++qs T W d)/\gB F F' w w':=by
 have aU:=λw h=>OA T A cap w (by omega) (λt ht=>(y t ht).ok) h;have P:qs T W d=gA (jS (ia T)) 5++gA (jS (iG W T)) 5++T.flatMap (lz (jS (ia T)) (jS (iG W T)) W d):=rfl;have cs:=At y;have cj:=Aj (W:=W) y;obtain⟨c5,c6⟩:=jl h0 h1;have⟨n,hn⟩:=zX T.length;rw[<-hn]at aU hT⊢;have t1:=gL W 1 (by omega);have t2:=gL 64 W (by omega);have t3:=gL d 1 (by omega);have t4:=gL 16 d (by omega);have⟨cF,cE,cC,HN⟩:=gz P cs cj hn;have⟨b9,HA⟩:=gy y hA;have b6:gh (∀x∈F,x<w.heap.size):=gd h.lt;clear P cs cj hn y hA;go_enter func135,ntmps135;go_wp2_with fail;refine(aU _ hc).mono ?_;rintro e w1 ⟨rfl,k⟩;go_wp2_with fail
 go_loopg [9,10,39] n (λj v9 v10 iv wr=>∃(i:Nat) (F9 F10:List Nat),iv=.int .i64 i/\i+j=n/\gE wr 3 v9 F9 ((ia (T.take i)).map vi)/\gE wr 3 v10 F10 ((iG W (T.take i)).map vi) /\
   (∀x∈F9,w.heap.size<=x/\x∉F10)/\(∀x∈F10,w.heap.size<=x)/\gf [] w wr)
 .exact⟨0,[],[],rfl,by omega,gE.nil _ _,gE.nil _ _,by simp,by simp,k⟩
 clear k aU;obtain⟨i,F9,F10,rfl,cZ,z,B,a5,aq,I⟩:=hrel;rcases gk with _|j
 .obtain rfl:i=n:=by omega
  have cw:T.take i=T:=by rw[HN.o,zN]
  rw[cw]at z B;have Y:=tQ T;rw[<-HN.o]at Y;have J:=rZ W T;obtain⟨A9,bI,rfl,bM,cO,bJ⟩:=z.oq;obtain⟨bD,aO,rfl,ba,cg,aQ⟩:=B.oq;have a7:gM A9 (ia T) F:=z.apt (λx m hm=>by have:=b6.o x hm;have:=(a5 x m).1;omega);have aI:gM bD (iG W T) F:=B.apt (λx m hm=>by have:=b6.o x hm;have:=aq x m;omega);have bw:=yL (ia T) A9 bI wr cE.o bJ (by omega);have aF:=yL (iG W T) bD aO wr cC.o aQ (by omega);have hk:=qv (ia T);have bQ:=qv (iG W T);have⟨kk,cl⟩:=zX (jS (ia T));have⟨jk,ck⟩:=zX (jS (iG W T));have P:=cF.o;rw[<-cl]at bw hk P;rw[<-ck]at aF bQ P;have⟨n9,bW⟩:=zX ((ia T).length);rw[<-bW]at J bM bw Y⊢;rw[J]at aF ba⊢;have D:=h.Y I;have bb:lD wr A T:=hc.Y I;have⟨bG,cB,b7⟩:=gS P J bW;clear P J bW cl ck cw z B a5 aq h hp hc;go_wp2_with fail;refine gx bw ?_;go_wp2_with fail;refine gx aF ?_;go_wp2_with fail;refine(i8 _ b F bs kk 5 D (by omega) (by omega) (by omega)).mono ?_;rintro e H ⟨rfl,F2,bm,be⟩;go_wp2_with fail;refine(i8 _ b F2 _ jk 5 bm (by omega) (by omega) (by rw[zC,gJ];omega)).mono ?_;rintro e w3 ⟨rfl,F3,bn,bf⟩;have r:=be.trans bf;clear bw aF D bm be bf;have bh:∀x:Int,0<=x->x<2^d->x.toNat<2^d:=λx a b=>by
   have e:((x.toNat:Nat):Int)=x:=Int.toNat_of_nonneg a;have e2:((2^d:Nat):Int)=(2:Int)^d:=(by simp);omega
  have cG:=gd bh;clear bh;go_wp2_with fail
  go_loopg [15,88] i (λj cv iv wr2=>∃(q:Nat) (F' aZ:List Nat),cv=.int .i64 ((ia (T.take q)).length:Nat)/\iv=.int .i64 q/\q+j=i/\hJ wr2 b F' aZ/\gh (aZ=bs++gA kk 5++gA jk 5++(T.take q).flatMap (lz kk jk W d))/\aZ.length<=bs.length+10+131*q/\gB F F' wr wr2)
  .exact⟨0,F3,_,rfl,rfl,by omega,bn,gd (by simp),by rw[zC,zC,gJ,gJ];omega,r⟩
  clear bn r;obtain⟨q,F',aZ,rfl,rfl,c7,D,Hb,cW,r⟩:=hrel;rcases gk with _|j
  .obtain rfl:q=i:=by omega
   go_wp2_with fail;go_ret;refine⟨rfl,F',?_,gB.pre I r⟩;have e:T.take q=T:=(by rw[HN.o,zN]);have u:=Hb.o;rw[e,zH,zH]at u;rw[bG.o,zH,<-u];exact D
  .have bP:q<i:=by omega
   have O:q<T.length:=(by rw[<-HN.o];exact bP);have bj:=b9.o T[q] (zG O);have⟨t,ht⟩:=zX (T[q]);have E:T[q]?=some t:=(by rw[ht];exact zF O);rw[<-ht]at bj;have V:lD _ A T:=gu.Q bb (λ_ ad e=>HA.o ad e) r.Z;have aR:=bJ.Q a7 r.Z;have au:=aQ.Q aI r.Z;have ar:=a7.grow bJ r;have al:=aI.grow aQ r;obtain⟨g,o,rfl,c1,c2,c3⟩:=V.at_ E;have K:T.take (q+1)=T.take q++[t]:=(by rw[ht];exact jd T O);have s:=tO (T.take q) t;rw[<-K]at s;have bz:(T.take (q+1)).flatMap (lz kk jk W d)=(T.take q).flatMap (lz kk jk W d)++lz kk jk W d t:=(by rw[K];simp);have p:=λw=>yA t w;have Q:tJ t=.agg #[.int .i64 t.len,.int .i64 t.dist,.int .i64 t.lit]:=rfl;rw[Q]at p;rcases bj with⟨l,v,bV⟩|⟨l,v⟩
   .have C:ia (T.take (q+1))=ia (T.take q):=by rw[s,l];simp
    have Z:lz kk jk W d t=gA 0 1++gA t.lit.toNat d:=(by unfold lz;rw[if_pos l]);have bA:=cG.o t.lit v bV;rw[l]at p;have bZ:t.lit=((t.lit.toNat:Nat):Int):=(Int.toNat_of_nonneg v).symm;have⟨ln,cm⟩:=zX t.lit.toNat;rw[<-cm]at Z bA bZ;rw[bZ]at p c3;have cQ:ln<65536:=Nat.lt_of_lt_of_le bA (by have:=Nat.pow_le_pow_right (n:=2) (by decide) h1;exact this);have G:=gn.new wr 157 #[.int .i64 t.len,.int .i64 t.dist,ln];have k:=(zR [] wr).alloc (.cells #[.int .i64 t.len,.int .i64 t.dist,ln] 157);have M:=gd (And.intro C (And.intro Z bz));clear s C Z bz K bZ cm Q E ht l v bV V aR au ar al;generalize t.len=ta at *;generalize t.dist=tb at *;have cD:=gd bA;clear bA;have bx:wr.heap.size∉F':=λhm=>by have:=D.lt _ hm;omega
    go_wp2_with fail;refine(p _).mono ?_;rintro e w4 ⟨rfl,f⟩;have cd:=G.Z f (by simp);have aB:=D.Y (k.tq f);have aS:=r.Y (k.tq f);clear G D r p k f c1 c2 c3;go_wp2_with fail;refine(i8 _ b F' aZ 0 1 aB (by omega) (by omega) (by omega)).mono ?_;rintro e w5 ⟨rfl,F5,aC,L⟩;have ce:=cd.Z L.Z bx;have b2:=ce.X 2;simp only[size_toArray,zK,length_nil,getElem?_toArray,getElem?_cons_zero,getElem?_cons_succ]at b2;clear cd ce aB bx;go_wp2_with fail;refine(i8 _ b F5 _ ln d aC (by omega) cD.o (by rw[zC,gJ];omega)).mono ?_;rintro e w6 ⟨rfl,F6,aD,av⟩;clear aC b2;go_wp2_with fail
    go_roundg j
    .refine⟨q+1,F6,_,?_,by go_num,by omega,aD,gd ?_,?_,(aS.trans L).trans av⟩
     .rw[M.o.1]
     .rw[M.o.2.2,M.o.2.1,Hb.o];simp only[zH]
     .rw[zC,zC,gJ,gJ];omega
    .omega
   .have ax:(ia (T.take (q+1))).length=(ia (T.take q)).length+1:=by rw[s,l];simp
    have Z:lz kk jk W d t=gA 1 1++jm kk (lenOf t)++jm jk (lA W t):=(by unfold lz;rw[l];rfl);have bC:=Bp T E l;have aY:=AL W T E l;have cT:=xC v;have b3:=vY W v;have bL:(ia (T.take q)).length<n9:=(by rw[b7.o];exact(List.getElem?_eq_some_iff.1 bC).1);have⟨c,cf⟩:=zX ((ia (T.take q)).length);rw[<-cf]at bC aY bL ax⊢;obtain⟨g9,o9,rfl,aL⟩:=aR.one bC;obtain⟨cM,cU,rfl,ay⟩:=au.one aY;rw[l]at p;have G:=gn.new wr 157 #[.int .i64 t.len,.int .i64 t.dist,.int .i64 t.lit];have k:=(zR [] wr).alloc (.cells #[.int .i64 t.len,.int .i64 t.dist,.int .i64 t.lit] 157);have bX:gM (some ⟨g9,o9+c,none⟩) [lenOf t] F':=ar.to (by simp;have:=b7.o;omega) (λad e=>⟨_,rfl,by injection e with e;rw[<-e]⟩);have aW:gM (some ⟨cM,cU+c,none⟩) [lA W t] F':=al.to (by simp;have:=cB.o;omega) (λad e=>⟨_,rfl,by injection e with e;rw[<-e]⟩);have M:=gd (And.intro ax (And.intro Z bz));clear s ax Z bz K Q E ht l v V aR au ar al bC aY cf;generalize lenOf t=lo at *;generalize lA W t=co at *;generalize t.len=ta at *;generalize t.dist=tb at *;generalize t.lit=tc at *;go_wp2_with fail;refine(p _).mono ?_;rintro e w4 ⟨rfl,f⟩;have aB:=D.Y (k.tq f);have aS:=r.Y (k.tq f);have q9:=aL.Y (k.tq f);have b4:=ay.Y (k.tq f);clear G D r p k f c1 c2 c3 aL ay;go_wp2_with fail;refine(i8 _ b F' aZ 1 1 aB (by omega) (by omega) (by omega)).mono ?_;rintro e w5 ⟨rfl,F5,aC,L⟩;have r9:=q9.Q bX L.Z;have b5:=b4.Q aW L.Z;have bg:=bX.grow q9 L;have az:=aW.grow b4 L;go_wp2_with fail;have bS:∀x∈[lo],ib x:=λx m=>by rw[zU.1 m];exact cT
    have bT:∀x∈[co],ib x:=λx m=>by rw[zU.1 m];exact b3
    refine(uX _ b F5 _ kk [lo] _ (bI-c) aC hk bS r9 bg (by rw[zC,gJ];simp;omega)).mono ?_;rintro e w6 ⟨rfl,F6,aD,av⟩;have cz:=b5.Q az av.Z;have aA:=az.grow b5 av;have ct:kt kk [lo]=jm kk lo:=(by simp[kt]);have cu:kt jk [co]=jm jk co:=(by simp[kt]);have c0:=nz kk lo;have cR:=nz jk co;have cX:=mO kk lo hk;have cN:=mO jk co bQ;rw[ct]at aD;clear aC r9 b5 bg az aB q9 b4 bX aW;go_wp2_with fail;refine(uX _ b F6 _ jk [co] _ (aO-c) aD bQ bT cz aA (by rw[zC,zC,gJ];simp;omega)).mono ?_;rintro e w7 ⟨rfl,F7,bo,bO⟩;rw[cu]at bo;clear aD cz aA ct cu;go_wp2_with fail
    go_roundg j
    .refine⟨q+1,F7,_,?_,by go_num,by omega,bo,gd ?_,?_,((aS.trans L).trans av).trans bO⟩
     .rw[M.o.1];go_num
     .rw[M.o.2.2,M.o.2.1,Hb.o];simp only[zH]
     .rw[zC,zC,zC,gJ];omega
    .omega
 .have bP:i<n:=by omega
  have O:i<T.length:=by rw[<-HN.o];exact bP
  have bj:=b9.o T[i] (zG O);have⟨t,ht⟩:=zX (T[i]);have E:T[i]?=some t:=by rw[ht];exact zF O
  rw[<-ht]at bj;have bb:=hc.Y I;obtain⟨g,o,rfl,c1,c2,c3⟩:=bb.at_ E;have K:T.take (i+1)=T.take i++[t]:=by rw[ht];exact jd T O
  have s:=tO (T.take i) t;have S:=Ai W (T.take i) t;rw[<-K]at s S;have p:=λw=>yA t w;have Q:tJ t=.agg #[.int .i64 t.len,.int .i64 t.dist,.int .i64 t.lit]:=rfl;rw[Q]at p;have G:=gn.new wr 157 #[.int .i64 t.len,.int .i64 t.dist,.int .i64 t.lit];have k:=(zR [] wr).alloc (.cells #[.int .i64 t.len,.int .i64 t.dist,.int .i64 t.lit] 157);have Y:=tQ (T.take i);have J:=rZ W (T.take i);rw[zI]at Y;rcases bj with⟨l,v,bV⟩|⟨l,v⟩
  .rw[l]at p s S
   have C:ia (T.take (i+1))=ia (T.take i):=(by rw[s];simp);have R:iG W (T.take (i+1))=iG W (T.take i):=(by rw[S];simp);have HS:=gd (And.intro C R);generalize t.len=ta at *;generalize t.dist=tb at *;generalize t.lit=tc at *;have t5:decide (tc<0)=false:=zA (by omega);have t6:decide ((2:Int)^d<=tc)=false:=zA (by omega);clear s S C R K E ht Q Y J l;go_wp2_with fail;refine(p _).mono ?_;rintro e H ⟨rfl,f⟩;have N:=G.Z f (by simp);have b2:=N.X 2;simp only[size_toArray,zK,length_nil,getElem?_toArray,getElem?_cons_zero,getElem?_cons_succ]at b2;have bu:=I.tq (k.tq f);have k9:=z.Y (k.tq f);have bp:=B.Y (k.tq f);clear G N k f I bb c1 c2 c3 z B;go_wp2_with fail
   go_quiet (fail)
   go_wp2_with fail
   go_roundg j
   .refine⟨i+1,F9,F10,by go_num,by omega,?_,?_,a5,aq,bu.drewN nq⟩
    .rw[HS.o.1];exact k9.drewN nq
    .rw[HS.o.2];exact bp.drewN nq
   .omega
  .rw[l]at p s S
   have C:(ia (T.take (i+1))).map vi=(ia (T.take i)).map vi++[.int .i64 (lenOf t)]:=(by rw[s];simp[vi]);have R:(iG W (T.take (i+1))).map vi=(iG W (T.take i)).map vi++[.int .i64 (lA W t)]:=(by rw[S];simp[vi]);have cP:=gK.isCopy_iff.1 v;obtain⟨p1,p2,p3,p4,p5⟩:=cP;have ch:=(yo (d:=t.dist) (W:=W) p3).1;have bK:=λw (hp:jJ w)=>MA t.dist W w hp p3 p4 hw0 hw1;have bk:=λw=>DF (t.len-3) w (by omega);have ap:=λw=>DF (mt t.dist W-1) w (by omega);have e1:la (t.len-3)=lenOf t:=rfl;have e2:la (mt t.dist W-1)=lA W t:=rfl;rw[e1]at bk;rw[e2]at ap;clear e1 e2;have⟨lo,cp⟩:=zX (lenOf t);have⟨co,ci⟩:=zX (lA W t);rw[<-cp]at bk C;rw[<-ci]at ap R;have⟨cn,a9⟩:=zX (mt t.dist W);rw[<-a9]at ap ch bK;have⟨cq,V⟩:=zX (cn-1);rw[<-V]at ap;have⟨lq,cr⟩:=zX (t.len-3);rw[<-cr]at bk;have e3:(t.len:Int)-3=(lq:Int):=(by omega);have e4:(cn:Int)-1=(cq:Int):=(by omega);have cN:cq<=1100:=(by omega);have cR:lq<=64:=(by omega);have U:((iG W (T.take i)).map vi).length=((ia (T.take i)).map vi).length:=(by rw[zE,zE,J]);have cb:((ia (T.take i)).map vi).length<=4096:=(by rw[zE];omega);have⟨L9,ca⟩:=zX ((ia (T.take i)).map vi);have⟨cV,a6⟩:=zX ((iG W (T.take i)).map vi);rw[<-ca]at z C U cb;rw[<-a6]at B R U;clear ca a6;have⟨M9,bv⟩:=zX L9.length;rw[<-bv]at U cb;have HS:=gd (And.intro C R);clear cp ci a9 V cr C R;generalize t.len=ta at *;generalize t.dist=tb at *;generalize t.lit=tc at *;subst p5;have⟨cA,cH,HU⟩:=gS bK ap bk;clear s S K E ht Q Y J l ch bK bk ap v;go_wp2_with fail;refine(p _).mono ?_;rintro e H ⟨rfl,f⟩;have N:=G.Z f (by simp);have b0:=N.X 0;have b1:=N.X 1;simp only[size_toArray,zK,length_nil,getElem?_toArray,getElem?_cons_zero,getElem?_cons_succ]at b0 b1;have bu:=I.tq (k.tq f);have k9:=z.Y (k.tq f);have bp:=B.Y (k.tq f);obtain⟨A9,bI,cx,_⟩:=k9.open_;obtain⟨bD,aO,bl,_⟩:=bp.open_;rw[<-bv]at cx;rw[U]at bl;subst cx;subst bl;have⟨bE,bF,aM,HO⟩:=gz bp bv U (And.intro a5 aq);have cI:=gd (And.intro z.lt B.lt);clear G k f I bb c1 c2 c3 z B p bv U a5 aq;have bR:=bp.lt;have bx:wr.heap.size∉F9:=λhm=>by have:=cI.o.1 _ hm;omega
   go_wp2_with fail;refine gx (HU.o _) ?_;have cy:=k9.Y ((zR [] H).alloc (.cells #[lo] 3));have a8:=gn.new H 3 #[lo]
   go_wp2_with(at_builtin;refine jT rfl rfl iJ rfl rfl cy (.int .i64 lo) rfl ?c1 ?c2 ?c3 ?c4 ?_)
   case c1=>exact a8.X 0
   case c2=>rfl
   case c3=>rw[<-bF.o];omega
   case c4=>rw[<-bF.o];omega
   intro g1 cJ w3 bB X;rw[<-bF.o]at bB⊢;have cc:=(N.alloc (.cells #[lo] 3)).Z X.Z bx;have d1:=cc.X 1;simp only[size_toArray,zK,length_nil,getElem?_toArray,getElem?_cons_zero,getElem?_cons_succ]at d1;have bH:gf [] w w3:=(bu.alloc _).trans X.Z (λx m=>.inr (HO.o.1 x m).1);have bq:=(bE.o.Y ((zR [] H).alloc (.cells #[lo] 3))).Z X.Z (λx m hm=>(HO.o.1 x hm).2 m);have cS:=hp.Y bH;clear a8 cy b0 b1 N;have cY:g1<w3.heap.size:=bB.lt;go_wp2_with fail;refine(cA.o _ cS).mono ?_;rintro e w4 ⟨rfl,n4,rfl⟩;go_wp2_with fail;refine gx (cH.o _) ?_;have br:=(bq.drewN n4).Y ((zR [] (w3.drewN n4)).alloc (.cells #[co] 3));have a8:=gn.new (w3.drewN n4) 3 #[co]
   go_wp2_with(at_builtin;refine jT rfl rfl iJ rfl rfl br (.int .i64 co) rfl ?c1 ?c2 ?c3 ?c4 ?_)
   case c1=>exact a8.X 0
   case c2=>rfl
   case c3=>rw[aM.o];omega
   case c4=>rw[aM.o];omega
   intro g2 cK w5 bi aG;rw[aM.o]at bi⊢;have bc:g1∉F10:=λhm=>by
    rcases X.new g1 (by simp)with u|u
    .exact(HO.o.1 _ u).2 hm
    .have:=bR _ hm
     have h8:(H.alloc (.cells #[lo] 3)).heap.size=H.heap.size+1:=(by simp);omega
   have bY:=(bB.Z ((((zR F10 w3).drewN n4).alloc (.cells #[co] 3)).tq aG.Z) bc);have cL:gf [] w w5:=((bH.drewN n4).alloc (.cells #[co] 3)).trans aG.Z (λx m=>.inr (HO.o.2 x m));have c8:((w3.drewN n4).alloc (.cells #[co] 3)).heap.size=w3.heap.size+1:=(by simp);have bN:w.heap.size<=g1:=by
    rcases X.new g1 (by simp)with u|u
    .exact(HO.o.1 _ u).1
    .have h8:(H.alloc (.cells #[lo] 3)).heap.size=H.heap.size+1:=by simp
     have:=bu.size
     omega
   have bd:w.heap.size<=g2/\g1≠g2:=by
    rcases aG.new g2 (by simp)with u|u
    .exact⟨HO.o.2 _ u,λe=>bc (e ▸ u)⟩
    .have:=bH.size
     exact⟨by omega,by omega⟩
   clear cc a8 br bB X aG bq d1;go_wp2_with fail
   go_roundg j
   .refine⟨i+1,[g1],[g2],by go_num,by omega,?_,?_,?_,?_,cL⟩
    .rw[HS.o.1];exact bY.S
    .rw[HS.o.2];exact bi.S
    .intro x m;rw[zU.1 m];exact⟨bN,by simp;exact bd.2⟩
    .intro x m;rw[zU.1 m];exact bd.1
   .omega
def iF(l:List Int)(n:Nat):List Nat:=l.flatMap λv=>gA v.toNat n
theorem um(l:List Int)(n:Nat):(iF l n).length=n*l.length:=by
 induction l with
 | nil=>simp[iF]
 | cons x l ih=>
  have e:iF (x::l) n=gA x.toNat n++iF l n:=rfl;rw[e,zC,gJ,ih,zK,Nat.mul_add,Nat.mul_one,Nat.add_comm]
theorem uc(l:List Int)(x:Int)(n:Nat):iF (l++[x]) n=iF l n++gA x.toNat n:=by simp[iF]
theorem ye(w:World)(b:Nat)(F bs:List Nat)(l:List Int)(A:Option Addr)(cap n:Nat)(h:hJ w b F bs)(J:n<=16)(I:l.length<=4096)(y:gU n l)(H:gu vi w A l)(E:gM A l F)(G:bs.length<137438953472):Calls prog 132 #[.pointer b,.slice A l.length cap,n] w λe w'=>e=.returned (.tuple #[])/\∃F',hJ w' b F' (bs++iF l n)/\gB F F' w w':=by
 have⟨m,hm⟩:=zX l.length;rw[<-hm]at I⊢;have⟨HN,HS⟩:=gy hm y;clear hm y;go_enter func132,ntmps132;go_wp2_with fail
 go_loopg [10] m (λj iv wr=>∃(i:Nat) (F' a:List Nat),iv=.int .i64 i/\i+j=m/\hJ wr b F' a/\gh (a=bs++iF (l.take i) n)/\a.length<=bs.length+16*i/\gB F F' w wr)
 .exact⟨0,F,bs,rfl,by omega,h,gd (by simp[iF]),by omega,gB.refl _ _⟩
 obtain⟨i,F',a,rfl,N,u,t,M,p⟩:=hrel;rcases gk with _|j
 .obtain rfl:i=m:=by omega
  go_wp2
  go_end0
  refine⟨rfl,F',?_,p⟩;have e:l.take i=l:=by rw[HN.o,zN]
  have v:=t.o;rw[e]at v;rw[<-v];exact u
 .have B:i<m:=by omega
  have d:i<l.length:=by rw[<-HN.o];exact B
  obtain⟨g,o,rfl,f⟩:=(H.Q E p.Z).at_ d;have r:=jd l d;have q:=HS.o l[i] (zG d);have⟨x,hx⟩:=zX (l[i]);rw[<-hx]at f r q;have s:x=((x.toNat:Nat):Int):=(Int.toNat_of_nonneg q.1).symm;have ad:x.toNat<2^n:=by
   have O:((2^n:Nat):Int)=(2:Int)^n:=(by simp);omega
  have c:=uc (l.take i) x n;rw[<-r]at c;have⟨k,hk⟩:=zX x.toNat;rw[<-hk]at s ad c;rw[s]at f;have L:_=some (Value.int .i64 k):=f;have K:k<65536:=Nat.lt_of_lt_of_le ad (by have:=Nat.pow_le_pow_right (n:=2) (by decide) J;exact this);have⟨aj,ak⟩:=gy c ad;clear c ad hk s q r hx f d;go_wp2_with fail;refine(i8 _ b F' a k n u (by omega) ak.o (by omega)).mono ?_;rintro e P ⟨rfl,z,D,C⟩;go_wp2_with fail
  go_roundg j
  .refine⟨i+1,z,_,by go_num,by omega,D,gd ?_,?_,p.trans C⟩
   .rw[aj.o,t.o,zH]
   .rw[zC,gJ];omega
  .omega
def lO(l:List Int)(W i:Nat):ll:=ij l W (i%W) (i / W)
theorem EN(l:List Int)(A:Option Addr)(cap W d i:Nat)(w:World)(m:1<=d)(o:d<=16)(b:1<=W)(c:W<=64)(hi:i<=l.length)(h:i<64*W)(p:gU d l)(f:gu vi w A l)(B:l.length<=4096):Calls prog 183 #[.slice A l.length cap,W,d,i] w λe w'=>e=.returned (.tuple #[.int .i64 (jL 7 (lO l W i) d),.int .i64 (nF (lO l W i) d)])/\gf [] w w':=by
 have⟨x,hx⟩:=zX (i%W);have⟨y,hy⟩:=zX (i / W);have u:x<W:=by rw[hx];exact mod_lt _ (by omega)
 have r:y<64:=by rw[hy];exact Nat.div_lt_of_lt_mul (by rw[zY];exact h)
 have z:y*W+x=i:=by rw[hx,hy,zY];exact div_add_mod i W
 have C:(i:Int)%(W:Int)=(x:Int):=by rw[hx];simp
 have D:(i:Int) / (W:Int)=(y:Int):=by rw[hy];simp
 have a:=λw f=>y7 l A cap W x y w b c u r (by omega) f (by omega);have ad:=pf p W x y;have j:=λw=>L5 (ij l W x y) d w m o ad;have k:=λw=>zv 7 (ij l W x y) d w (by omega) m o ad;have d1:lO l W i=ij l W x y:=by unfold lO;rw[<-hx,<-hy]
 rw[d1];have⟨n,hn⟩:=zX l.length;rw[<-hn]at a⊢;generalize ij l W x y=g at *;generalize nF g d=cl at *;generalize jL 7 g d=gs at *;obtain⟨E,F,G,H⟩:=g;simp only at a j k;have q:=gd a;clear hx hy z a ad d1 hn p hi;go_enter func183,ntmps183;go_wp2_with fail
 go_quiet ((go_at_call 244;exact sB (q.o _ (f.Y ((zR [] w).drewN _)))))
 go_wp2_with fail;refine(k _).mono ?_;rintro e I ⟨rfl,s⟩;go_wp2_with fail;refine(j _).mono ?_;rintro e J ⟨rfl,t⟩;go_wp2_with fail;exact bodyPost_ret (v:=.tuple #[gs,cl]) (by simp[results,results183,go_sem]) rfl ⟨rfl,(((zR [] w).drewN nq).tq s).tq t⟩
def kM(l:List Int)(W d i:Nat):Nat:=jt (ii (l.getD i 0-jL 7 (lO l W i) d) d)
def jN(l:List Int)(W d:Nat):List Nat:=(range l.length).map (kM l W d)
def k8(l:List Int)(W d:Nat):List Int:=(jN l W d).map Int.ofNat
theorem uv(l:List Int)(W:Nat){d:Nat}(a:1<=d)(i:Nat):kM l W d i<2^d:=by
 obtain⟨b,c⟩:=ny (l.getD i 0-jL 7 (lO l W i) d) a;have e:=pE a;have f:((2^d:Nat):Int)=(2:Int)^d:=by simp
 unfold kM jt;split<;>omega
theorem xe(l:List Int)(W d:Nat):(jN l W d).length=l.length:=by simp[jN]
theorem xd(l:List Int)(W d:Nat):(k8 l W d).length=l.length:=by simp[k8,jN]
theorem x4(l:List Int)(A:Option Addr)(cap W d:Nat)(w:World)(c:1<=d)(h:d<=16)(H:1<=W)(I:W<=64)(hlW:l.length<=64*W)(K:gU d l)(J:gu vi w A l)(k:l.length<=4096):Calls prog 130 #[.slice A l.length cap,W,d] w λe w'=>∃v g,e=.returned v/\gv w' 3 v g ((k8 l W d).map vi)/\gf [] w w'/\w.heap.size<=g:=by
 have t:=λi (hi:i<l.length) w J=>EN l A cap W d i w c h H I (by omega) (by omega) K J k;have E:k8 l W d=(range l.length).map λi=>(kM l W d i:Int):=by simp[k8,jN,map_map]
 have⟨m,hm⟩:=zX l.length;rw[<-hm]at t E k⊢;have aQ:=lp (P:=prog) iJ rfl .i64 .i64 m (by omega) (by omega);have⟨HN,aK,HM,HS⟩:=gz t E hm K;clear t E hm K;go_enter func130,ntmps130;go_wp2_with fail;have ad:=gv.zeros w m (by omega);have⟨B,hB⟩:=zX w.heap.size;rw[<-hB]at ad⊢;have L:=gd hB;have N:gf [] w (w.alloc (.cells (replicate m (Value.int .i64 0)).toArray 3)):=(zR [] w).alloc _;clear hB
 go_loopg [17] m (λj iv wr=>∃(done:List Int),iv=.int .i64 done.length/\done.length+j=m/\gh (done=(range done.length).map λi=>(kM l W d i:Int))/\gv wr 3 (.slice B m m) B ((jI done m).map vi)/\gf [] w wr)
 .exact⟨[],rfl,by simp,gd rfl,ad,N⟩
 obtain⟨done,rfl,Q,M,y,z⟩:=hrel;clear ad N;rcases gk with _|j
 .have D:done.length=m:=by omega
  rw[D];go_wp2;go_ret;refine⟨_,B,rfl,?_,z,by have:=L.o;omega⟩;rw[sq D,M.o,D]at y;rw[aK.o];exact y
 .have⟨i,hi⟩:=zX done.length
  have S:i<m:=by omega
  have G:i<l.length:=by rw[<-HM.o];exact S
  have u:done++[(kM l W d i:Int)]=(range (i+1)).map λi=>(kM l W d i:Int):=by
   rw[range_succ,zM,hi,<-M.o];rfl
  have C:=J.Y z;obtain⟨g,o,rfl,s⟩:=C.at_ G;have U:l[i]=l.getD i 0:=by rw[zD,zF G];rfl
  rw[U]at s;have V:wr.cell? ⟨g,o+i,none⟩=some (.int .i64 (l.getD i 0)):=s;have q:=HN.o i S wr C;have b:=sJ (pf HS.o W (i%W) (i / W)) 7;have p:=nS HS.o i;have a:kM l W d i=jt (ii (l.getD i 0-jL 7 (lO l W i) d) d):=rfl;have T:lO l W i=ij l W (i%W) (i / W):=rfl;rw[<-T]at b;have x:=uv l W c i;obtain⟨aO,aP⟩:=jl c h;have⟨gs,aG⟩:=zX (jL 7 (lO l W i) d);rw[<-aG]at q b a;have⟨v,hv⟩:=zX (l.getD i 0);rw[<-hv]at V p a;have R:=λw=>qx (v-gs) d w c h;have F:=ny (v-gs) c;have⟨fo,al⟩:=zX (ii (v-gs) d);rw[<-al]at a R F;have az:=ql h F;have Z:ib fo:=by unfold ib;omega
  have r:=λw=>yM fo w Z;rw[<-a]at r;have⟨f,hf⟩:=zX (kM l W d i);rw[<-hf]at r x u;have aN:f<65536:=by
   have aM:=Nat.pow_le_pow_right (n:=2) (by decide) h;exact Nat.lt_of_lt_of_le x aM
  have aR : -65536<=v-gs:=by have:=p.1;have:=b.2;omega
  have aS:v-gs<=65536:=by have:=p.2;have:=b.1;omega
  have⟨aL,ao,HI⟩:=gS u Q hi;rw[<-hi];clear u Q hf al hv aG b p a T x aO aP F az Z s U G C hi;go_wp2_with fail;refine q.mono ?_;rintro e w2 ⟨rfl,O⟩;have X:=y.Z O (by simp);obtain⟨ap,ax⟩:=X.fill_cell (by have:=ao.o;omega);rw[<-HI.o]at ap ax;clear q V
  go_wp2_with(first|(go_at_call 92;refine gx (R _) ?_)|(go_at_call 193;refine gx (r _) ?_))
  go_roundg j
  .have Y:=X.fill (by have:=ao.o;omega) (f:Int)
   refine⟨done++[(f:Int)],?_,?_,gd ?_,?_,?_⟩
   .rw[zC,length_singleton,<-HI.o];go_num
   .rw[zC,length_singleton];have:=ao.o;omega
   .rw[zC,length_singleton,<-HI.o]
    exact aL.o
   .rw[<-HI.o]at Y
    exact Y
   .exact(z.tq O).setCell (.inr (by have:=L.o;simp;omega)) _
  .omega
theorem Cc(W H d:Nat)(w:World)(c:1<=W)(f:W<=16)(a:1<=H)(b:H<=16)(h:1<=d)(i:d<=16):Calls prog 119 #[W,H,d] w λe w'=>e=.returned (.bool true)/\w=w':=by
 have j:=iI 1 W (by omega);have k:=iI W 16 (by omega);have l:=iI 1 H (by omega);have m:=iI H 16 (by omega);have n:=iI 1 d (by omega);have o:=iI d 16 (by omega);go_enter func119,ntmps119;go_wp2;go_ret;exact⟨rfl,rfl⟩
theorem sr(l:List Int)(A:Option Addr)(cap W H d:Nat)(w:World)(k:1<=W)(b:W<=16)(h:1<=H)(a:H<=16)(p:1<=d)(q:d<=16)(c:l.length=W*H)(r:gU d l)(v:gu vi w A l):Calls prog 94 #[.slice A l.length cap,W,H,d] w λe w'=>e=.returned (.bool true)/\w=w':=by
 obtain⟨C,D⟩:=jl p q;have⟨m,hm⟩:=zX l.length;rw[<-hm]at c⊢;have z:(W:Int)*(H:Int)=(m:Int):=by rw[c];simp
 have B:m<=256:=by rw[c];exact zL b a
 have⟨HN,HS⟩:=gy hm r;clear hm c r;go_enter func94,ntmps94
 go_wp2_with(go_at_call 119;refine gx (Cc _ _ _ _ k b h a p q) ?_)
 go_loopg [26] m (λj i wr=>j<=m/\i=.int .i64 ((m-j:Nat):Int)/\w=wr)
 .exact⟨zQ _,by simp,rfl⟩
 obtain⟨I,rfl,rfl⟩:=hrel;rcases gk with _|j
 .have J:decide (((m-0:Nat):Int)<(m:Int))=false:=by simp
  go_wp2;go_ret;exact⟨rfl,rfl⟩
 .have⟨i,ac⟩:=zX (m-(j+1))
  rw[<-ac];have u:i<m:=by omega
  have ad:m-j=i+1:=by omega
  have t:=gd ad;clear ac ad;have n:i<l.length:=by rw[<-HN.o];exact u
  obtain⟨g,o,rfl,f⟩:=v.at_ n;have s:=HS.o l[i] (zG _);have⟨x,af⟩:=zX (l[i]);rw[<-af]at f s;have y:w.cell? ⟨g,o+i,none⟩=some (.int .i64 x):=f;obtain⟨E,F⟩:=s;have K:decide (x<0)=false:=zA (by omega);have G:decide ((2:Int)^d<=x)=false:=zA (by omega);clear f af n;go_wp2
  go_roundg j
  .rw[t.o]
   exact⟨by omega,by go_num,rfl⟩
  .omega
end Go.Proofs.YtnepiccbpokmiaaGreatDoor
