/- Lemmas. -/
import Derived.Test.YtifdlkoepaepiaaGreatDoorMh14
import Derived.Test.YtifdlkoepaepiaaGreatDoorMh19
set_option linter.all false
set_option maxHeartbeats 4000000
set_option maxRecDepth 100000
namespace Go.Proofs.YtifdlkoepaepiaaGreatDoor
open Tryz List Nat Go.RowKit
variable {i:Nat}
theorem BJ:zeroCells216=((replicate 65 0).map i64).toArray:=by kernel_rfl
theorem PV:zeroCells215=((replicate 1025 0).map i64).toArray:=by kernel_rfl
theorem Ob(l:List Int)(A:Option Addr)(cap at_ a:Nat)(rs:List Nat)(w:World)(hat:at_<l.length)(hll:l.length<=4096)(hc:gz vi w A l)(hr:je w a 215 rs)(hro:rm rs)(hA:ib A l [a]):Calls prog 174 #[.slice A l.length cap,at_,.pointer a] w λe w'=>e=.returned (.agg ((nC l at_ rs).dists.map i64).toArray)/\je w' a 215 (nC l at_ rs).runs/\gg [a] w w':=by
 have bs:=gn.lt hr;have⟨n,hn⟩:=zX l.length;rw[<-hn]at hat hll⊢;have⟨M,hM⟩:=zX (min at_ 1024);have a5:nC l at_ rs=qj l at_ M 1 (tf rs):=by rw[hM];rfl
 rw[a5];have aD:=z7 hro;have⟨S,hS⟩:=zX (qj l at_ M 1 (tf rs));have aJ:S.Ok:=by rw[hS];exact BC _ _ _ aD (by omega)
 rw[<-hS];have⟨HN,HS,HA,aU⟩:=gu hn hS hA aD;have aW:=gd aJ;have bp:M<=at_:=by omega
 have bq:M<=1024:=by omega
 have bf:at_<=M\/1024<=M:=by omega
 have bb:je (w.alloc (.cells zeroCells216 216)) w.heap.size 216 (replicate 65 0):=by have:=gn.new w 216 zeroCells216;rw[BJ]at this;rw[BJ];exact this
 have bn:je ((w.alloc (.cells zeroCells216 216)).alloc (.cells zeroCells216 216)) (w.heap.size+1) 216 (replicate 65 0):=by
  have:=gn.new (w.alloc (.cells zeroCells216 216)) 216 zeroCells216
  rw[show(w.alloc (.cells zeroCells216 216)).heap.size=w.heap.size+1 by simp]at this;rw[BJ]at this⊢;exact this
 have bd:gg [a] w ((w.alloc (.cells zeroCells216 216)).alloc (.cells zeroCells216 216)):=((zR [a] w).alloc _).alloc _;have a2:je ((w.alloc (.cells zeroCells216 216)).alloc (.cells zeroCells216 216)) w.heap.size 216 (replicate 65 0):=gn.alloc bb _;have bk:je ((w.alloc (.cells zeroCells216 216)).alloc (.cells zeroCells216 216)) a 215 rs:=gn.alloc (gn.alloc hr _) _;have bj:(if (1024:Int)<(at_:Int)then(1024:Int)else(at_:Int))=(M:Int):=by split<;>omega
 clear hn a5 hS hA aD aJ hro hM hr bb bf;go_enter func174,ntmps174;go_wp2_with fail
 go_loopg [8,9] M (λj m iv wr=>∃(d:Nat) (s:mR),iv=.int .i64 d/\m=.int .i64 s.M/\d+j=M+1/\1<=d/\gh (S=qj l at_ j d s)/\gh s.Ok/\je wr a 215 s.runs/\je wr (w.heap.size+1) 216 s.dists/\je wr w.heap.size 216 (replicate 65 0)/\gg [a] w wr)
 .exact⟨1,tf rs,rfl,rfl,by omega,zQ _,HS,aU,bk,bn,a2,bd⟩
 obtain⟨d,s,rfl,rfl,hj,bu,V,h,q,R,H,C⟩:=hrel;rcases gk with _|j
 .have bg:S=s:=V.o
  have bi:d=M+1:=by omega
  clear V;have t1:=mF d M (by omega);have aC:(prog.info? 216).map (·.size)=some 65:=by kernel_rfl
  subst bg;have aL:(S.dists.map i64).length=65:=by rw[zE];exact aW.o.dl
  have aR:(S.dists.map i64).toArray.size=65:=by simpa using aL
  have aO:(replicate 65 0 |>.map i64).toArray.size=65:=by simp
  have a0:gn (wr.setCells w.heap.size 0 (S.dists.map i64)) w.heap.size 216 (S.dists.map i64).toArray:=gn.setCells H _ (by rw[aO,aL]);have aY:gg [a] w (wr.setCells w.heap.size 0 (S.dists.map i64)):=gg.setCells (.inr (zQ _)) _ _ _ C;have U:je (wr.setCells w.heap.size 0 (S.dists.map i64)) a 215 S.runs:=gn.Z q (gg.setCells (F:=[w.heap.size]) (.inl (by simp)) _ _ _ (zR _ _)) (by simp;omega)
  go_wp2_with(first
   | refine wpList_load_row rfl 216 (.tmp 7) rfl (w.heap.size+1) rfl _ _ _ _ R underlying216 rfl (by rw[aR];exact aC) ?_
   | refine wpList_store_mid rfl 216 (.tmp 6) (.tmp 54) rfl w.heap.size 0 (S.dists.map i64).toArray rfl rfl (gn.there H (by rw[aR,aO];exact zQ _)) (by rw[aR];exact aC) (Pu _) ?_)
  all_goals exact bodyPost_ret (v:=.agg (S.dists.map i64).toArray) (results_cell_row rfl _ _ w.heap.size _ _ (0,0) _ rfl a0 underlying216 rfl (by rw[aR];exact aC)) rfl ⟨rfl,U,aY⟩
 .have bi:d<=M:=by omega
  have aQ:=h.o;have aP:d<s.runs.length:=by rw[aQ.rl];omega
  have aZ:gz vi wr A l:=hc.N HA.o C;have aX:at_<l.length:=by rw[<-HN.o];exact hat
  have Y:at_-d<l.length:=by omega
  obtain⟨g,o,rfl,ca⟩:=aZ.at_ aX;obtain⟨g',o',e',cb⟩:=aZ.at_ Y;injection e' with e';injection e' with e1 e2 _;subst e1;subst e2;have ga:l[at_]=l.getD at_ 0:=by rw[zD,zF aX];rfl
  have gb:l[at_-d]=l.getD (at_-d) 0:=by rw[zD,zF Y];rfl
  rw[ga]at ca;rw[gb]at cb;have a6:qj l at_ (j+1) d s=qj l at_ j (d+1) (nB l at_ s d):=rfl;rw[a6]at V;have aN:=AI (l:=l) (at_:=at_) aQ (show d<=1024 by omega);have aM:kT l at_ s.runs d=if l.getD at_ 0=l.getD (at_-d) 0 then min (s.runs.getD d 0+1) 64 else 0:=rfl;have bm:=FR l at_ s.runs d;have aq:nB l at_ s d=⟨s.runs.set d (kT l at_ s.runs d),km (kT l at_ s.runs d-s.M) s.dists s.M d,max s.M (kT l at_ s.runs d)⟩:=rfl;have bl:s.runs.getD d 0<=64:=by rw[zD,zF aP];exact aQ.r64 _ (zG aP)
  have aA:=q.X aP;have aB:=gn.U q d;generalize kT l at_ s.runs d=r at *;generalize l.getD at_ 0=xa at *;generalize l.getD (at_-d) 0=xb at *;generalize s.runs.getD d 0=ro at *;have bo:wr.cell? ⟨g,o+at_,none⟩=some (.int .i64 xa):=ca;have bc:wr.cell? ⟨g,o+(at_-d),none⟩=some (.int .i64 xb):=cb;have be:(at_:Int)-(d:Int)=((at_-d:Nat):Int):=by omega
  have⟨ad,aK⟩:=zX (at_-d);rw[<-aK]at bc be Y;have bh:ad<n:=by rw[HN.o];exact Y
  have⟨al,aS,aT⟩:=Q9 aq aM aN;clear ca cb ga gb a6 aN aq aQ aX aP Y aZ aM aK;have a4:gh (xa≠xb->r=0):=gd λb=>by rw[aS.o,if_neg b]
  have a3:gh (xa=xb->r=min (ro+1) 64):=gd λb=>by rw[aS.o,if_pos b]
  clear aS;have aF:(xa=xb/\r=ro+1/\ro<64)\/(xa=xb/\r=64/\ro=64)\/(xa≠xb/\r=0):=by
   by_cases b:xa=xb
   .have:=a3.o b
    omega
   .exact .inr (.inr ⟨b,a4.o b⟩)
  clear a4 a3;rcases aF with⟨b,Q,ba⟩|⟨b,Q,ba⟩|⟨b,Q⟩
  .have t3:(xa==xb)=true:=by simpa using b
   have t4:decide ((64:Int)<(ro:Int)+1)=false:=zA (by omega);have er:(ro:Int)+1=(r:Int):=(by omega);clear Q b
   go_upto_region 6 with(fail)
   go_quiet (fail)
   go_upto_region 7 with(fail)
   have T:=q.Z ((zR [] wr).drewN nq) (by simp);have W:=T.X (i:=d) (by rw[h.o.rl];omega);have X:=gn.U T d;refine i9 11 (by kernel_rfl) (by kernel_rfl) ?_;simp only[take_succ_cons,take_zero,drop_succ_cons,drop_zero]
   repeat(go_big_quiet_step (fail))
   refine wpQuiet_nil ?_;intro _ a1;obtain⟨x,rfl⟩:=a1;go_wp2_with fail;have U:=q.Z ((zR [] wr).drewN (nq+x)) (by simp);have L:=U.S d r;have K:=gn.Q (R.Z ((zR [] wr).drewN (nq+x)) (by simp)) (p:=⟨a,d,none⟩) (by simp;omega) (.int .i64 r);have J:=gn.Q (H.Z ((zR [] wr).drewN (nq+x)) (by simp)) (p:=⟨a,d,none⟩) (by simp;omega) (.int .i64 r);have I:=(C.drewN (nq+x)).setCell (p:=⟨a,d,none⟩) (.inl (by simp)) (.int .i64 r);have E:(s.runs.set d r).length=1025:=(by rw[length_set];exact h.o.rl);have G:(s.runs.set d r).getD d 0=r:=(by rw[zD,getElem?_set_self (by rw[h.o.rl];omega)];rfl);have⟨aH,aI⟩:=gy E G;clear E G aA aB W X q T R H C
   go_loopg [8] (r-s.M) (λf iv wr2=>∃(m:Nat) (D:List Nat),iv=.int .i64 m/\gh (km (r-s.M) s.dists s.M d=km f D m d)/\m+f=max s.M r/\s.M<=m/\gh (D.length=65)/\je wr2 a 215 (s.runs.set d r)/\je wr2 (w.heap.size+1) 216 D/\je wr2 w.heap.size 216 (replicate 65 0)/\gg [a] w wr2)
   .exact⟨s.M,s.dists,rfl,gd rfl,by omega,zQ _,gd h.o.dl,L,K,J,I⟩
   obtain⟨m,D,rfl,y,a7,a8,B,u,c,O,N⟩:=hrel;clear L K J I;have yc:=u.X (i:=d) (by rw[aH.o];omega);rw[aI.o]at yc;rcases gk with _|f
   .have t5:=Ra m r (by omega)
    go_wp2_with fail
    go_roundg j
    .have Z:km (r-s.M) s.dists s.M d=D:=y.o
     refine⟨d+1,nB l at_ s d,by go_num,?_,by omega,by omega,V,aT,?_,?_,O,N⟩
     .rw[al.o];exact congrArg (λz:Nat=>Value.int .i64 z) (show m=max s.M r by omega)
     .rw[al.o];exact u
     .rw[al.o];show je _ _ _ (km (r-s.M) s.dists s.M d);rw[Z];exact c
    .omega
   .have a9:m<r:=by omega
    have t5:=jo m r (by omega);have cD:=c.X (i:=m+1) (by rw[B.o];omega);have fD:=gn.U c (m+1);go_wp2_with fail
    go_roundg f
    .refine⟨m+1,D.set (m+1) d,by go_num,y,by omega,by omega,gd (by rw[length_set];exact B.o),gn.Q u (by simp;omega) _,c.S _ _,gn.Q O (by simp) _,N.setCell (.inr (by simp)) _⟩
    .omega
  .have t3:(xa==xb)=true:=by simpa using b
   have bv:(64:Int)<(ro:Int)+1:=(by omega);have aV:=gd Q;clear Q ba b
   go_upto_region 6 with(fail)
   go_quiet (fail)
   go_upto_region 7 with(fail)
   have T:=q.Z ((zR [] wr).drewN nq) (by simp);have W:=T.X (i:=d) (by rw[h.o.rl];omega);have X:=gn.U T d;refine i9 11 (by kernel_rfl) (by kernel_rfl) ?_;simp only[take_succ_cons,take_zero,drop_succ_cons,drop_zero]
   repeat(go_big_quiet_step (fail))
   refine wpQuiet_nil ?_;intro _ a1;obtain⟨x,rfl⟩:=a1;go_wp2_with fail;have U:=q.Z ((zR [] wr).drewN (nq+x)) (by simp);have L:je (((wr.drewN (nq+x))).setCell ⟨a,d,none⟩ (.int .i64 64)) a 215 (s.runs.set d r):=(by rw[aV.o];exact U.S d 64);have K:=gn.Q (R.Z ((zR [] wr).drewN (nq+x)) (by simp)) (p:=⟨a,d,none⟩) (by simp;omega) (.int .i64 64);have J:=gn.Q (H.Z ((zR [] wr).drewN (nq+x)) (by simp)) (p:=⟨a,d,none⟩) (by simp;omega) (.int .i64 64);have I:=(C.drewN (nq+x)).setCell (p:=⟨a,d,none⟩) (.inl (by simp)) (.int .i64 64);have E:(s.runs.set d r).length=1025:=(by rw[length_set];exact h.o.rl);have G:(s.runs.set d r).getD d 0=r:=(by rw[zD,getElem?_set_self (by rw[h.o.rl];omega)];rfl);have⟨aH,aI⟩:=gy E G;clear E G aA aB W X q T R H C
   go_loopg [8] (r-s.M) (λf iv wr2=>∃(m:Nat) (D:List Nat),iv=.int .i64 m/\gh (km (r-s.M) s.dists s.M d=km f D m d)/\m+f=max s.M r/\s.M<=m/\gh (D.length=65)/\je wr2 a 215 (s.runs.set d r)/\je wr2 (w.heap.size+1) 216 D/\je wr2 w.heap.size 216 (replicate 65 0)/\gg [a] w wr2)
   .exact⟨s.M,s.dists,rfl,gd rfl,by omega,zQ _,gd h.o.dl,L,K,J,I⟩
   obtain⟨m,D,rfl,y,a7,a8,B,u,c,O,N⟩:=hrel;clear L K J I;have yc:=u.X (i:=d) (by rw[aH.o];omega);rw[aI.o]at yc;rcases gk with _|f
   .have t5:=Ra m r (by omega)
    go_wp2_with fail
    go_roundg j
    .have Z:km (r-s.M) s.dists s.M d=D:=y.o
     refine⟨d+1,nB l at_ s d,by go_num,?_,by omega,by omega,V,aT,?_,?_,O,N⟩
     .rw[al.o];exact congrArg (λz:Nat=>Value.int .i64 z) (show m=max s.M r by omega)
     .rw[al.o];exact u
     .rw[al.o];show je _ _ _ (km (r-s.M) s.dists s.M d);rw[Z];exact c
    .omega
   .have a9:m<r:=by omega
    have t5:=jo m r (by omega);have cD:=c.X (i:=m+1) (by rw[B.o];omega);have fD:=gn.U c (m+1);go_wp2_with fail
    go_roundg f
    .refine⟨m+1,D.set (m+1) d,by go_num,y,by omega,by omega,gd (by rw[length_set];exact B.o),gn.Q u (by simp;omega) _,c.S _ _,gn.Q O (by simp) _,N.setCell (.inr (by simp)) _⟩
    .omega
  .have t3:(xa==xb)=false:=by simpa using b
   have aV:=gd Q;clear Q b
   go_upto_region 6 with(fail)
   go_quiet (fail)
   have W:=(q.Z ((zR [] wr).drewN nq) (by simp)).X (i:=d) (by rw[h.o.rl];omega);have X:=gn.U (q.Z ((zR [] wr).drewN nq) (by simp)) d;go_wp2_with fail;have U:=q.Z ((zR [] wr).drewN nq) (by simp);have L:je (((wr.drewN nq)).setCell ⟨a,d,none⟩ (.int .i64 0)) a 215 (s.runs.set d r):=(by rw[aV.o];exact U.S d 0);have K:=gn.Q (R.Z ((zR [] wr).drewN nq) (by simp)) (p:=⟨a,d,none⟩) (by simp;omega) (.int .i64 0);have J:=gn.Q (H.Z ((zR [] wr).drewN nq) (by simp)) (p:=⟨a,d,none⟩) (by simp;omega) (.int .i64 0);have I:=(C.drewN nq).setCell (p:=⟨a,d,none⟩) (.inl (by simp)) (.int .i64 0);have E:(s.runs.set d r).length=1025:=(by rw[length_set];exact h.o.rl);have G:(s.runs.set d r).getD d 0=r:=(by rw[zD,getElem?_set_self (by rw[h.o.rl];omega)];rfl);have⟨aH,aI⟩:=gy E G;clear E G aA aB W X q R H C
   go_loopg [8] (r-s.M) (λf iv wr2=>∃(m:Nat) (D:List Nat),iv=.int .i64 m/\gh (km (r-s.M) s.dists s.M d=km f D m d)/\m+f=max s.M r/\s.M<=m/\gh (D.length=65)/\je wr2 a 215 (s.runs.set d r)/\je wr2 (w.heap.size+1) 216 D/\je wr2 w.heap.size 216 (replicate 65 0)/\gg [a] w wr2)
   .exact⟨s.M,s.dists,rfl,gd rfl,by omega,zQ _,gd h.o.dl,L,K,J,I⟩
   obtain⟨m,D,rfl,y,a7,a8,B,u,c,O,N⟩:=hrel;clear L K J I;have yc:=u.X (i:=d) (by rw[aH.o];omega);rw[aI.o]at yc;rcases gk with _|f
   .have t5:=Ra m r (by omega)
    go_wp2_with fail
    go_roundg j
    .have Z:km (r-s.M) s.dists s.M d=D:=y.o
     refine⟨d+1,nB l at_ s d,by go_num,?_,by omega,by omega,V,aT,?_,?_,O,N⟩
     .rw[al.o];exact congrArg (λz:Nat=>Value.int .i64 z) (show m=max s.M r by omega)
     .rw[al.o];exact u
     .rw[al.o];show je _ _ _ (km (r-s.M) s.dists s.M d);rw[Z];exact c
    .omega
   .have a9:m<r:=by omega
    have cD:=c.X (i:=m+1) (by rw[B.o];omega);have fD:=gn.U c (m+1);go_wp2_with fail
    go_roundg f
    .refine⟨m+1,D.set (m+1) d,by go_num,y,by omega,by omega,gd (by rw[length_set];exact B.o),gn.Q u (by simp;omega) _,c.S _ _,gn.Q O (by simp) _,N.setCell (.inr (by simp)) _⟩
    .omega
theorem Be:jx prog 168 187 (.agg #[(0:Int),(0:Int),(0:Int)]) 3 24:=.mk' underlying168 (by kernel_rfl)
def nX(w:World)(g:Nat)(l:List gZ):Prop:=gn w g 187 (l.flatMap lz).toArray
theorem nX.X{w:World}{g:Nat}{l:List gZ}(h:nX w g l)(e:i<l.length):w.cell? ⟨g,i*3,none⟩=some (.int .i64 (jA l i).len)/\w.cell? ⟨g,i*3+1,none⟩=some (.int .i64 (jA l i).dist)/\w.cell? ⟨g,i*3+2,none⟩=some (.int .i64 (jA l i).lit):=by
 have d:l[i]?=some (jA l i):=by unfold jA;rw[zD,zF e];rfl
 obtain⟨a,b,c⟩:=CJ d;refine⟨?_,?_,?_⟩
 .rw[gn.X h];simpa using a
 .rw[gn.X h];simpa using b
 .rw[gn.X h];simpa using c
theorem NH(l:List gZ)(i:Nat)(t:gZ):(((l.flatMap lz).set (i*3) (.int .i64 t.len)).set (i*3+1) (.int .i64 t.dist)).set (i*3+2) (.int .i64 t.lit)=(l.set i t).flatMap lz:=by
 induction l generalizing i with
 | nil=>simp
 | cons s l ih=>
  cases i with
  | zero=>simp[lz]
  | succ i=>
   rw[set_cons_succ,flatMap_cons,flatMap_cons,<-ih i];have e:lz s=[.int .i64 s.len,.int .i64 s.dist,.int .i64 s.lit]:=rfl;rw[e,show(i+1)*3=i*3+1+1+1 by omega,show i*3+1+1+1+1=(i*3+1)+1+1+1 by omega,show i*3+1+1+1+2=(i*3+2)+1+1+1 by omega];simp only[cons_append,nil_append,set_cons_succ]
theorem nX.S{w:World}{g:Nat}{l:List gZ}(h:nX w g l)(i:Nat)(t:gZ):nX (((w.setCell ⟨g,i*3,none⟩ (.int .i64 t.len)).setCell ⟨g,i*3+1,none⟩ (.int .i64 t.dist)).setCell ⟨g,i*3+2,none⟩ (.int .i64 t.lit)) g (l.set i t):=by
 have a:=((gn.S h (i*3) (.int .i64 t.len)).S (i*3+1) (.int .i64 t.dist)).S (i*3+2) (.int .i64 t.lit);unfold nX;rw[<-NH]
 simpa using a
theorem LB(v:Value)(n:Nat):madeCells #[v,v,v] (n*3)=(replicate (n*3) v).toArray:=by
 apply Array.ext
 .simp[size_madeCells]
 .intro j b c
  have a:j%3<3:=mod_lt _ (by decide)
  have:∀k,k<3->(#[v,v,v]:Array Value)[k]! = v:=λk hk=>by
   match k,hk with
   | 0,_=>rfl
   | 1,_=>rfl
   | 2,_=>rfl
  simp only[madeCells,Array.getElem_map,Array.getElem_range,getElem_toArray,getElem_replicate];exact this _ a
theorem Mo(n:Nat):(replicate n (⟨0,0,0⟩:gZ)).flatMap lz=replicate (n*3) (.int .i64 0):=by
 induction n with
 | zero=>rfl
 | succ n ih=>
  rw[replicate_succ,flatMap_cons,ih,show(n+1)*3=n*3+1+1+1 by omega,replicate_succ,replicate_succ,replicate_succ];rfl
theorem ME(b a:IntKind)(n:Nat)(m:n<=1099511627776)(w:World):(Instr.makeSlice 168 (.int b (n:Int)) (.int a (n:Int))).run prog w=.ok (.slice (some ⟨w.heap.size,0,none⟩) n n) (w.alloc (.cells ((replicate n (⟨0,0,0⟩:gZ)).flatMap lz).toArray 187)):=by
 obtain⟨i,f,j,c,d⟩:=Be.hi;have h:=run_make (P:=prog) w 168 187 i _ Be.ht f j b a n n (by omega) (Int.le_refl _) (by rw[d];omega) (by omega);rw[h,c,Mo];simp only[Int.toNat_natCast];have e:(Value.agg #[(0:Int),(0:Int),(0:Int)]).cells=#[.int .i64 0,.int .i64 0,.int .i64 0]:=rfl;rw[e,LB]
theorem PW(D:List Nat)(d:D.length=65)(m:Nat)(c:m<65)(w:World):(Instr.index 216 (.agg (D.map i64).toArray) (.int .i64 m)).run prog w=.ok (.int .i64 (D.getD m 0:Nat)) w:=by
 have a:D[m]?=some (D.getD m 0):=by
  have:m<D.length:=by omega
  simp[zD,zF this]
 generalize D.getD m 0=x at *;have b:(0:Int)<=(m:Int)/\(m:Int)<65:=by omega
 simp[Instr.index,run_underlying underlying216,asIntOf,go_sem,b,a,c,i64]
structure tA (w:World) (b:Nat) (s:l3):Prop where
 vr:je w b 215 s.runs
 vc:je w (b+1) 3 s.costs
 vf:nX w (b+1+1) s.first
theorem Pz(w:World)(n:Nat):tA (((w.alloc (.cells zeroCells215 215)).alloc (.cells (replicate (n+1) (Value.int .i64 0)).toArray 3)).alloc (.cells ((replicate n (⟨0,0,0⟩:gZ)).flatMap lz).toArray 187)) w.heap.size (tg n):=by
 refine⟨gn.alloc (gn.alloc ?_ _) _,gn.alloc ?_ _,?_⟩
 .have:=gn.new w 215 zeroCells215
  rw[PV]at this⊢;exact this
 .have:=gn.new (w.alloc (.cells zeroCells215 215)) 3 (replicate (n+1) (Value.int .i64 0)).toArray
  rw[show(w.alloc (.cells zeroCells215 215)).heap.size=w.heap.size+1 by simp]at this;have e:((tg n).costs.map i64).toArray=(replicate (n+1) (Value.int .i64 0)).toArray:=by
   show((replicate (n+1) 0).map i64).toArray=_;rw[map_replicate];rfl
  rw[<-e]at this⊢;exact this
 .have:=gn.new ((w.alloc (.cells zeroCells215 215)).alloc (.cells (replicate (n+1) (Value.int .i64 0)).toArray 3)) 187 ((replicate n (⟨0,0,0⟩:gZ)).flatMap lz).toArray
  rw[show((w.alloc (.cells zeroCells215 215)).alloc (.cells (replicate (n+1) (Value.int .i64 0)).toArray 3)).heap.size=w.heap.size+1+1 by simp]at this;exact this
theorem tA.Y{w w':World}{b:Nat}{s:l3}(h:tA w b s)(a:gg [] w w'):tA w' b s:=⟨h.vr.Z a (by simp),h.vc.Z a (by simp),gn.Z h.vf a (by simp)⟩
theorem N6(l:List Int)(A:Option Addr)(cap r cp:Nat)(w:World)(hll:l.length<=4096)(hc:gz vi w A l)(h0:1<=r)(h1:r<=1048576)(h2:1<=cp)(h3:cp<=1048576):Calls prog 126 #[.slice A l.length cap,r,cp] w λe w'=>∃(Z:Option Addr) (E:Nat),e=.returned (.slice Z (l5 l r cp).length E)/\nY w' Z (l5 l r cp)/\gg [] w w'/\∀ad,Z=some ad->w.heap.size<=ad.block:=by
 have ai:=zj l r cp;have aO:l5 l r cp=lh (rU l r cp).first l.length l.length 0:=rfl;have M:rU l r cp=qW l r cp l.length (tg l.length):=rfl;have aU:=vY l r cp;have ar:=Af l.length r;have ae:=λk s (a:l3.Ok l.length r (k+1) s) (b:k<l.length)=>AP (l:=l) (cp:=cp) a b;have aq:=λk s (a:l3.Ok l.length r (k+1) s) (b:k<l.length)=>Gn (l:=l) a b;have ac:=λat_ br rs w (a:at_<l.length) (b:gz vi w A l) c d e=>Ob l A cap at_ br rs w a hll b c d e;have⟨T,hT⟩:=zX (l5 l r cp);rw[<-hT]at aO ai⊢;have⟨S,hS⟩:=zX (rU l r cp);rw[<-hS]at aO M aU;have⟨n,hn⟩:=zX l.length;rw[<-hn]at aO M aU ar ae aq ac hll ai⊢;have t1:=Ra r 1 (by omega);have t2:=Ra 1048576 r (by omega);have t3:=Ra cp 1 (by omega);have t4:=Ra 1048576 cp (by omega);have aJ:=kg (P:=prog) iO rfl .i64 .i64 (n+1) (by omega) (by omega);have e1:((n+1:Nat):Int)=(n:Int)+1:=by omega
 rw[e1]at aJ;have bb:=ME .i64 .i64 n (by omega);have⟨HT,HS,bk,aZ⟩:=gu aO M aU ar;have⟨bS,bJ,bM,HN⟩:=gu ae aq ac hn;have bP:=gd ai;clear aO M aU ar ae aq ac hn ai hT hS;go_enter func126,ntmps126;go_wp2_with fail;have y:=Pz w n;have C:gg [] w (((w.alloc (.cells zeroCells215 215)).alloc (.cells (replicate (n+1) (Value.int .i64 0)).toArray 3)).alloc (.cells ((replicate n (⟨0,0,0⟩:gZ)).flatMap lz).toArray 187)):=(((zR [] w).alloc _).alloc _).alloc _;have eR:(replicate (n+1) (Value.int .i64 0)).toArray=Array.replicate (n+1) (Value.int .i64 0):=by simp
 rw[eR]at y C;clear aJ bb eR
 go_loopg [10] n (λk iv wr=>∃(s:l3) (a:Int),iv=.int .i64 a/\a=(k:Int)-1/\k<=n/\gh (S=qW l r cp k s)/\gh (s.Ok n r k)/\tA wr w.heap.size s/\gg [] w wr)
 .exact⟨tg n,_,rfl,rfl,zQ _,HS,aZ,y,C⟩
 obtain⟨s,a,rfl,ha,cf,HG,aE,y,C⟩:=hrel;rcases gk with _|k
 .have b5:a<0:=by omega
  clear ha;have tn:=mF 0 a (by omega);have bY:S=s:=HG.o;subst bY;have bw:S.first.length=n:=bk.o.pair.fl;have bz:∀t∈S.first,t.ok:=bk.o.pair.fo;have⟨aY,bN⟩:=gy bw bz;have N:=y.vf;clear bw bz y hc;go_wp2_with fail
  go_loopg [14,15] n (λj v iv wr=>∃(i:Nat) (done:List gZ) (F:List Nat),iv=.int .i64 i/\gh (T=done++lh S.first n j i)/\n<=i+j/\i<=n+64/\jy wr 187 3 v F done.length (done.flatMap lz)/\(∀x∈F,w.heap.size+1+1<x)/\nX wr (w.heap.size+1+1) S.first/\gg [] w wr)
  .exact⟨0,[],[],rfl,HT,by omega,by omega,jy.nil _ _ _,by simp,N,C⟩
  clear N C;obtain⟨i,done,F,rfl,L,ca,cc,aj,hF,N,C⟩:=hrel;obtain⟨Z,E,rfl,_,_,bZ,bW⟩:=aj.open_;by_cases hin:i<n
  .have t5:=jo i n (by omega)
   rcases gk with _|j
   .omega
   obtain⟨c1,c2,c3⟩:=N.X (i:=i) (by rw[aY.o];exact hin);have aT:lh S.first n (j+1) i=jA S.first i::lh S.first n j (i+max (jA S.first i).len 1):=(by rw[lh,if_pos hin]);rw[aT]at L;clear aT;have b0:done.length+1<=4096:=by
    have h6:=bP.o;rw[L.o,zC,zK]at h6;omega
   have bG:(jA S.first i).ok:=by
    unfold jA;have bB:i<S.first.length:=(by rw[aY.o];exact hin);rw[zD,zF bB];exact bN.o _ (zG bB)
   have ch:(jA S.first i).len<=64:=by
    rcases bG with h|h
    .have:=(gZ.isLit_iff.1 h).1;omega
    .exact(gZ.isCopy_iff.1 h).2.1
   have bx:(done++[jA S.first i]).flatMap lz=done.flatMap lz++lz (jA S.first i):=(by simp);have bh:=gd bx;have bF:lz (jA S.first i)=[.int .i64 (jA S.first i).len,.int .i64 (jA S.first i).dist,.int .i64 (jA S.first i).lit]:=rfl;have⟨dn,W⟩:=zX done.length;have V:=gd W;have b4:max (jA S.first i).len 1=(jA S.first i).len/\1<=(jA S.first i).len\/max (jA S.first i).len 1=1/\(jA S.first i).len<1:=(by omega);generalize ht:jA S.first i=t at *;rw[<-W]at aj b0⊢;generalize hta:t.len=ta at *;generalize htb:t.dist=tb at *;generalize htd:t.lit=td at *;have⟨bl,bT,aX⟩:=Q9 bF (And.intro ht hta) hF;have ag:=gn.new wr 187 #[ta,tb,td];have am:=aj.Y ((zR [] wr).alloc (.cells #[ta,tb,td] 187));clear bF bG bx ht W hta htb htd hF aj
   go_wp2_with(at_builtin;refine vR rfl rfl Be rfl (by decide) rfl am [.int .i64 ta,.int .i64 tb,.int .i64 td] rfl rfl ?c1 ?c2 ?c3 ?c4 ?_)
   case c1=>
    intro q u H
    match q,H with
    | 0,H=>rw[<-H];exact ag.X 0
    | 1,H=>rw[<-H];exact ag.X 1
    | 2,H=>rw[<-H];exact ag.X 2
    | q+3,H=>simp at H
   case c2=>intro u hu;simp at hu;rcases hu with rfl|rfl|rfl<;>rfl
   case c3=>omega
   case c4=>omega
   intro g' bU w3 an ah;have aw:nX w3 (w.heap.size+1+1) S.first:=gn.Z (gn.alloc N _) ah.Z (λhm=>by have:=aX.o _ hm;omega);have aH:gg [] w w3:=(C.alloc _).trans ah.Z (λx z=>.inr (by have:=aX.o _ z;omega));have bp:∀x∈[g'],w.heap.size+1+1<x:=λx z=>by
    rcases ah.new x z with h|h
    .exact aX.o _ h
    .have h7:=gn.lt N
     have h8:(wr.alloc (.cells #[ta,tb,td] 187)).heap.size=wr.heap.size+1:=(by simp);omega
   obtain⟨d1,d2,d3⟩:=aw.X (i:=i) (by rw[aY.o];exact hin);obtain⟨bE,aN⟩:jA S.first i=t/\t.len=ta:=bT.o;rw[bE,aN]at d1;clear d2 d3 N C ag am ah c1 c2 c3 bE aN;have⟨bg,bm,bf,bj⟩:=gu bp aw aH an;clear bp aw aH an;rcases b4 with⟨a9,b3⟩|⟨a9,b3⟩
   .rw[a9]at L
    have tm:=Ra ta 1 (by omega);have b6:(1:Int)<=(ta:Int):=(by omega);go_wp2_with fail
    go_roundg j
    .refine⟨i+ta,done++[t],[g'],by go_num,gd (by rw[L.o,zH];rfl),by omega,by omega,?_,bg.o,bm.o,bf.o⟩
     have h9:=bj.o;rw[V.o,show done.length+1=(done++[t]).length by simp]at h9;rw[bh.o,bl.o,V.o,show done.length+1=(done++[t]).length by simp];exact h9
    .omega
   .rw[a9]at L
    have b6:(ta:Int)<1:=(by omega);go_wp2_with fail
    go_roundg j
    .refine⟨i+1,done++[t],[g'],by go_num,gd (by rw[L.o,zH];rfl),by omega,by omega,?_,bg.o,bm.o,bf.o⟩
     have h9:=bj.o;rw[V.o,show done.length+1=(done++[t]).length by simp]at h9;rw[bh.o,bl.o,V.o,show done.length+1=(done++[t]).length by simp];exact h9
    .omega
  .have t5:=Ra i n (by omega)
   have aT:lh S.first n gk i=[]:=by
    cases gk with
    | zero=>rfl
    | succ f=>rw[lh,if_neg hin]
   go_wp2_with fail;go_ret;have hT:T=done:=(by rw[L.o,aT,append_nil]);rw[hT];refine⟨Z,E,rfl,bZ,C,λad e=>?_⟩;obtain⟨g,rfl,bX,_⟩:=bW ad e
   have:=hF g (by rw[bX];simp)
   show w.heap.size<=g;omega
 .obtain rfl:a=(k:Int):=by omega
  clear ha;have Y:k<n:=by omega
  have X:=aE.o;have bv:=hc.Y C;have a8:k<l.length:=by rw[<-HN.o];exact Y
  obtain⟨g,o,rfl,b9,_⟩:=hc.ex (by omega);obtain⟨g',o',e',cl⟩:=bv.at_ a8;injection e' with e';injection e' with e2 e3 _;subst e2;subst e3;have gl:l[k]=l.getD k 0:=by rw[zD,zF a8];rfl
  rw[gl]at cl;have bV:wr.cell? ⟨g,o+k,none⟩=some (.int .i64 (l.getD k 0)):=cl;have bA:qW l r cp (k+1) s=qW l r cp k (rx l r cp k s):=rfl;rw[bA]at HG;have bq:=bJ.o k s X Y;have c1:=y.vc.X (i:=k+1) (by rw[X.pair.cl];omega);have b7:s.costs.getD (k+1) 0<=4294967296:=by
   have h4:=uF X.pair.cb (k+1);have h5:(n-(k+1))*r<=4096*1048576:=zL (by omega) h1;simp only at h4;omega
  have f1:=gn.U y.vc k;have f2:=gn.U y.vf (k*3);have f3:=gn.U y.vf (k*3+1);have f4:=gn.U y.vf (k*3+2);obtain⟨c2,c3,c4⟩:=y.vf.X (i:=k) (by rw[X.pair.fl];exact Y);have c0:=y.vc.X (i:=k) (by rw[X.pair.cl];omega);have bs:nD l r k s=(s.costs.set k (s.costs.getD (k+1) 0+r),s.first.set k ⟨0,0,l.getD k 0⟩):=rfl;have aI:je (wr.setCell ⟨w.heap.size+1,k,none⟩ (.int .i64 ((s.costs.getD (k+1) 0+r:Nat):Int))) (w.heap.size+1) 3 (s.costs.set k (s.costs.getD (k+1) 0+r)):=y.vc.S k _;generalize aV:s.costs.getD (k+1) 0=sc at *;generalize hlk:l.getD k 0=lk at *;have⟨bH,bI,bO,bi⟩:=gu bq bs aI y;clear cl gl bA bv a8 X aV hlk bq bs aI y;go_wp2_with fail;have z:tA ((((wr.setCell ⟨w.heap.size+1,k,none⟩ (.int .i64 ((sc:Int)+(r:Int)))).setCell ⟨w.heap.size+1+1,k*3,none⟩ (.int .i64 0)).setCell ⟨w.heap.size+1+1,k*3+1,none⟩ (.int .i64 0)).setCell ⟨w.heap.size+1+1,k*3+2,none⟩ (.int .i64 lk)) w.heap.size ⟨(nD l r k s).1,(nD l r k s).2,s.runs⟩:=by
   have bC:=bO.o;rw[Int.natCast_add]at bC;rw[bI.o]
   exact⟨gn.Q (gn.Q (gn.Q (gn.Q bi.o.vr (by simp) _) (by first|(simp;done)|(simp;omega)) _) (by first|(simp;done)|(simp;omega)) _) (by first|(simp;done)|(simp;omega)) _,
    gn.Q (gn.Q (gn.Q bC (by simp) _) (by simp) _) (by simp) _,
    nX.S (gn.Q bi.o.vf (by simp) _) k ⟨0,0,lk⟩⟩
  have bd:gg [] w ((((wr.setCell ⟨w.heap.size+1,k,none⟩ (.int .i64 ((sc:Int)+(r:Int)))).setCell ⟨w.heap.size+1+1,k*3,none⟩ (.int .i64 0)).setCell ⟨w.heap.size+1+1,k*3+1,none⟩ (.int .i64 0)).setCell ⟨w.heap.size+1+1,k*3+2,none⟩ (.int .i64 lk)):=(((C.setCell (.inr (by first|(simp;done)|(simp;omega))) _).setCell (.inr (by first|(simp;done)|(simp;omega))) _).setCell (.inr (by first|(simp;done)|(simp;omega))) _).setCell (.inr (by first|(simp;done)|(simp;omega))) _
  have bc:rm s.runs:=⟨aE.o.rl,λx z=>(aE.o.rb x z).1⟩;refine(bM.o k w.heap.size s.runs _ Y (hc.Y bd) z.vr bc (λ_ ad e hm=>by injection e with e;subst e;simp at hm;omega)).mono ?_;rintro e w2 ⟨rfl,ax,aS⟩;have aP:=z.vc.Z aS (by simp);have aQ:nX w2 (w.heap.size+1+1) (nD l r k s).2:=gn.Z z.vf aS (by simp;omega);have aG:gg [] w w2:=bd.trans aS (λx z=>by simp at z;omega);have a7:=AL (l:=l) (at_:=k) bc;have a6:=AJ (l:=l) (at_:=k) (rs:=s.runs) (B:=n-(k+1)) (λx z=>(aE.o.rb x z).2);have M:rx l r cp k s=⟨(nW cp k (nC l k s.runs).dists 65 0 (nD l r k s)).1,(nW cp k (nC l k s.runs).dists 65 0 (nD l r k s)).2,(nC l k s.runs).runs⟩:=rfl;have bD:=bS.o k s aE.o Y;generalize (nC l k s.runs)=DS at *;obtain⟨R,D,Lg⟩:=DS;have aF:D.length=65:=a7.dl;have bn:∀x∈D,x<=1024:=a7.d1024;have bo:∀m,D.getD m 0≠0->k+m<=n:=λm hm=>by
   have h5:=a6.db m hm;have h6:=a6.lb;simp only at h5 h6;omega
  simp only at ax;have⟨a5,bR,aW,bL⟩:=gu M bD aF bn;have V:=gd bo;clear M bD aF bn bo a7 a6 z bd bc aS f1 f2 f3 f4 c0 c1 c2 c3 c4 bV C;go_wp2_with fail
  go_loopg [65] 65 (λj iv wr=>∃(m:Nat) (p:List Nat × List gZ),iv=.int .i64 m/\m+j=65/\gh (nW cp k D 65 0 (nD l r k s)=nW cp k D j m p)/\gh (rX n ((n-k)*r) p)/\je wr w.heap.size 215 R/\je wr (w.heap.size+1) 3 p.1/\nX wr (w.heap.size+1+1) p.2/\gg [] w wr)
  .exact⟨0,nD l r k s,rfl,rfl,gd rfl,bH,ax,aP,aQ,aG⟩
  obtain⟨m,p,rfl,cg,G,I,be,O,Q,aR⟩:=hrel;clear ax aP aQ aG;rcases gk with _|j
  .obtain rfl:m=65:=by omega
   have hP:nW cp k D 65 0 (nD l r k s)=p:=G.o;go_wp2_with fail
   go_roundg k
   .refine⟨rx l r cp k s,_,rfl,by omega,by omega,HG,bR,?_,aR⟩
    rw[a5.o,hP];exact⟨be,O,Q⟩
   .omega
  .have ba:m<65:=by omega
   have ty:=jo m 65 (by omega);have cd:=PW D aW.o m ba;have W:=V.o m;have aK:nW cp k D (j+1) m p=nW cp k D j (m+1) (n7 cp k D m p):=rfl;have al:n7 cp k D m p=if m<3\/D.getD m 0=0 then p else if p.1.getD (k+m) 0+cp<=p.1.getD k 0 then(p.1.set k (p.1.getD (k+m) 0+cp),p.2.set k ⟨m,D.getD m 0,0⟩)else p:=rfl;have aL:=Gt (cp:=cp) (at_:=k) (m:=m) I.o (by omega) bL.o;rw[aK]at G;have bu:k+m<=n->(p.1.getD (k+m) 0<=4294967296/\wr.cell? ⟨w.heap.size+1,k+m,none⟩=some (.int .i64 ((p.1.getD (k+m) 0:Nat):Int))):=λh=>⟨by
    have h4:=uF I.o.cb (k+m);have h5:(n-k)*r<=4096*1048576:=zL (by omega) h1;omega,O.X (by rw[I.o.cl];omega)⟩
   have c0:=O.X (i:=k) (by rw[I.o.cl];omega);have f1:=gn.U O k;have f2:=gn.U Q (k*3);have f3:=gn.U Q (k*3+1);have f4:=gn.U Q (k*3+2);obtain⟨c2,c3,c4⟩:=Q.X (i:=k) (by rw[I.o.fl];exact Y);have ao:=λv=>O.S k v;generalize hx1:p.1.getD (k+m) 0=ckm at *;generalize hx2:p.1.getD k 0=ck at *;generalize hx3:D.getD m 0=dm at *;have⟨a4,a0,af,bK⟩:=gu ao aL al bu;have⟨HV,aD⟩:=gy (And.intro be (And.intro O Q)) W;clear hx1 hx2 hx3 ao aK aL al bu be O Q W;by_cases q1:m<3
   .have s1:=jo m 3 (by omega)
    go_wp2_with fail
    go_roundg j
    .have e:n7 cp k D m p=p:=by rw[af.o,if_pos (.inl q1)]
     rw[e]at G;obtain⟨J,U,K⟩:=HV.o;exact⟨m+1,p,by go_num,by omega,G,I,J,U,K,aR⟩
    .omega
   .have s1:=Ra m 3 (by omega)
    by_cases q2:dm=0
    .have s2:((dm:Int)==0)=true:=by simp[q2]
     have bQ:=gd q2;clear q2;go_wp2_with fail
     go_roundg j
     .have e:n7 cp k D m p=p:=by rw[af.o,if_pos (.inr bQ.o)]
      rw[e]at G;obtain⟨J,U,K⟩:=HV.o;exact⟨m+1,p,by go_num,by omega,G,I,J,U,K,aR⟩
     .omega
    .have s2:((dm:Int)==0)=false:=by simpa using q2
     obtain⟨b1,b2⟩:=bK.o (aD.o q2);have ce:k+m<=n:=aD.o q2;by_cases q3:ckm+cp<=ck
     .have s3:decide ((ckm:Int)+(cp:Int)<=(ck:Int))=true:=zB (by omega)
      go_wp2_with fail
      go_roundg j
      .have e:n7 cp k D m p=(p.1.set k (ckm+cp),p.2.set k ⟨m,dm,0⟩):=by rw[af.o,if_neg (by omega),if_pos q3]
       have aM:=a0.o;rw[e]at G aM;obtain⟨J,U,K⟩:=HV.o;have aV:=a4.o (ckm+cp);rw[Int.natCast_add]at aV;refine⟨m+1,_,by go_num,by omega,G,gd aM,?_,?_,?_,?_⟩
       .exact gn.Q (gn.Q (gn.Q (gn.Q J (by first|(simp;done)|(simp;omega)) _) (by first|(simp;done)|(simp;omega)) _) (by first|(simp;done)|(simp;omega)) _) (by first|(simp;done)|(simp;omega)) _
       .exact gn.Q (gn.Q (gn.Q aV (by simp) _) (by simp) _) (by simp) _
       .exact nX.S (gn.Q K (by simp) _) k ⟨m,dm,0⟩
       .exact(((aR.setCell (.inr (by first|(simp;done)|(simp;omega))) _).setCell (.inr (by first|(simp;done)|(simp;omega))) _).setCell (.inr (by first|(simp;done)|(simp;omega))) _).setCell (.inr (by first|(simp;done)|(simp;omega))) _
      .omega
     .have s3:decide ((ckm:Int)+(cp:Int)<=(ck:Int))=false:=zA (by omega)
      go_wp2_with fail
      go_roundg j
      .have e:n7 cp k D m p=p:=by rw[af.o,if_neg (by omega),if_neg q3]
       rw[e]at G;obtain⟨J,U,K⟩:=HV.o;exact⟨m+1,p,by go_num,by omega,G,I,J,U,K,aR⟩
      .omega
theorem gz.one{α:Type}{f:α->Value}{w:World}{A:Option Addr}{l:List α}(h:gz f w A l){m:Nat}{x:α}(b:l[m]?=some x):∃g o,A=some ⟨g,o,none⟩/\gz f w (some ⟨g,o+m,none⟩) [x]:=by
 have j:=(List.getElem?_eq_some_iff.1 b).1;obtain⟨g,o,e,d,c⟩:=h.ex (by omega);refine⟨g,o,e,⟨λ_=>⟨g,o+m,rfl,d,λi a ha=>?_⟩⟩⟩
 match i,ha with
 | 0,ha=>simp at ha;subst ha;exact c m _ b
 | i+1,ha=>simp at ha
theorem Oe(w:World)(b:Nat)(F bs:List Nat)(T:List gZ)(A:Option Addr)(cap W d:Nat)(h:hJ w b F bs)(hp:iK w)(h0F:0∉F)(hw0:1<=W)(hw1:W<=64)(h0:1<=d)(h1:d<=16)(hT:T.length<=4096)(B:∀t∈T,qd d t)(hc:nY w A T)(hA:∀ad,A=some ad->ad.block∉F)(hbs:bs.length<137438953472):Calls prog 125 #[.pointer (some ⟨b,0,none⟩),.slice A T.length cap,W,d] w λe w'=>e=.returned (.int .i64 0)/\∃F',hJ w' b F' (bs++nL T W d)/\gE F F' w w':=by
 have aU:=λw h=>PA T A cap w (by omega) (λt ht=>(B t ht).ok) h;have S:nL T W d=gx (j8 (iz T)) 5++gx (j8 (i6 W T)) 5++T.flatMap (kE (j8 (iz T)) (j8 (i6 W T)) W d):=rfl;have cr:=Jq B;have ci:=I8 (W:=W) B;obtain⟨c0,c5⟩:=jX h0 h1;have⟨n,hn⟩:=zX T.length;rw[<-hn]at aU hT⊢;have t1:=Ra W 1 (by omega);have t2:=Ra 64 W (by omega);have t3:=Ra d 1 (by omega);have t4:=Ra 16 d (by omega);have⟨cE,cD,cB,HN⟩:=gu S cr ci hn;have⟨b7,HA⟩:=gy B hA;have b5:gh (∀x∈F,x<w.heap.size):=gd h.lt;clear S cr ci hn B hA;go_enter func125,ntmps125;go_wp2_with fail;refine(aU _ hc).mono ?_;rintro e w1 ⟨rfl,m⟩;go_wp2_with fail
 go_loopg [9,10,39] n (λj v9 v10 iv wr=>∃(i:Nat) (F9 F10:List Nat),iv=.int .i64 i/\i+j=n/\jj wr 3 v9 F9 ((iz (T.take i)).map vi)/\jj wr 3 v10 F10 ((i6 W (T.take i)).map vi) /\
   (∀x∈F9,w.heap.size<=x/\x∉F10)/\(∀x∈F10,w.heap.size<=x)/\gg [] w wr)
 .exact⟨0,[],[],rfl,by omega,jj.nil _ _,jj.nil _ _,by simp,by simp,m⟩
 clear m aU;obtain⟨i,F9,F10,rfl,cY,C,D,a5,aq,K⟩:=hrel;rcases gk with _|j
 .obtain rfl:i=n:=by omega
  have cu:T.take i=T:=by rw[HN.o,zN]
  rw[cu]at C D;have a3:=Cw T;rw[<-HN.o]at a3;have L:=yx W T;obtain⟨A9,bI,rfl,bM,cN,bJ⟩:=C.T;obtain⟨bD,aO,rfl,ba,cf,aQ⟩:=D.T;have a7:ib A9 (iz T) F:=C.apt (λx r hm=>by have:=b5.o x hm;have:=(a5 x r).1;omega);have aI:ib bD (i6 W T) F:=D.apt (λx r hm=>by have:=b5.o x hm;have:=aq x r;omega);have bw:=Ba (iz T) A9 bI wr cD.o bJ (by omega);have aF:=Ba (i6 W T) bD aO wr cB.o aQ (by omega);have hk:=q8 (iz T);have bQ:=q8 (i6 W T);have⟨kk,ck⟩:=zX (j8 (iz T));have⟨jk,cj⟩:=zX (j8 (i6 W T));have S:=cE.o;rw[<-ck]at bw hk S;rw[<-cj]at aF bQ S;have⟨n9,bV⟩:=zX ((iz T).length);rw[<-bV]at L bM bw a3⊢;rw[L]at aF ba⊢;have G:=h.Y K;have bb:nY wr A T:=hc.Y K;have⟨bG,cA,b6⟩:=Q9 S L bV;clear S L bV ck cj cu C D a5 aq h hp hc;go_wp2_with fail;refine gB bw ?_;go_wp2_with fail;refine gB aF ?_;go_wp2_with fail;refine(iG _ b F bs kk 5 G (by omega) (by omega) (by omega)).mono ?_;rintro e J ⟨rfl,F2,bm,be⟩;go_wp2_with fail;refine(iG _ b F2 _ jk 5 bm (by omega) (by omega) (by rw[zC,gH];omega)).mono ?_;rintro e w3 ⟨rfl,F3,bn,bf⟩;have u:=be.trans bf;clear bw aF G bm be bf;have bh:∀x:Int,0<=x->x<2^d->x.toNat<2^d:=λx a b=>by
   have e:((x.toNat:Nat):Int)=x:=Int.toNat_of_nonneg a;have e2:((2^d:Nat):Int)=(2:Int)^d:=(by simp);omega
  have cF:=gd bh;clear bh;go_wp2_with fail
  go_loopg [15,88] i (λj cv iv wr2=>∃(q:Nat) (F' aZ:List Nat),cv=.int .i64 ((iz (T.take q)).length:Nat)/\iv=.int .i64 q/\q+j=i/\hJ wr2 b F' aZ/\gh (aZ=bs++gx kk 5++gx jk 5++(T.take q).flatMap (kE kk jk W d))/\aZ.length<=bs.length+10+131*q/\gE F F' wr wr2)
  .exact⟨0,F3,_,rfl,rfl,by omega,bn,gd (by simp),by rw[zC,zC,gH,gH];omega,u⟩
  clear bn u;obtain⟨q,F',aZ,rfl,rfl,c6,G,Hb,cV,u⟩:=hrel;rcases gk with _|j
  .obtain rfl:q=i:=by omega
   go_wp2_with fail;go_ret;refine⟨rfl,F',?_,gE.pre K u⟩;have e:T.take q=T:=(by rw[HN.o,zN]);have y:=Hb.o;rw[e,zH,zH]at y;rw[bG.o,zH,<-y];exact G
  .have bP:q<i:=by omega
   have R:q<T.length:=(by rw[<-HN.o];exact bP);have bj:=b7.o T[q] (zG R);have⟨t,ht⟩:=zX (T[q]);have H:T[q]?=some t:=(by rw[ht];exact zF R);rw[<-ht]at bj;have Z:nY _ A T:=gz.N bb (λ_ ad e=>HA.o ad e) u.Z;have aR:=bJ.N a7 u.Z;have au:=aQ.N aI u.Z;have ar:=a7.grow bJ u;have al:=aI.grow aQ u;obtain⟨g,o,rfl,c1,c2,c3⟩:=Z.at_ H;have M:T.take (q+1)=T.take q++[t]:=(by rw[ht];exact jD T R);have v:=Ck (T.take q) t;rw[<-M]at v;have bz:(T.take (q+1)).flatMap (kE kk jk W d)=(T.take q).flatMap (kE kk jk W d)++kE kk jk W d t:=(by rw[M];simp);have s:=λw=>xt t w;have U:oN t=.agg #[.int .i64 t.len,.int .i64 t.dist,.int .i64 t.lit]:=rfl;rw[U]at s;rcases bj with⟨p,z,bU⟩|⟨p,z⟩
   .have E:iz (T.take (q+1))=iz (T.take q):=by rw[v,p];simp
    have a4:kE kk jk W d t=gx 0 1++gx t.lit.toNat d:=(by unfold kE;rw[if_pos p]);have bA:=cF.o t.lit z bU;rw[p]at s;have bY:t.lit=((t.lit.toNat:Nat):Int):=(Int.toNat_of_nonneg z).symm;have⟨ln,cl⟩:=zX t.lit.toNat;rw[<-cl]at a4 bA bY;rw[bY]at s c3;have cP:ln<65536:=Nat.lt_of_lt_of_le bA (by have:=Nat.pow_le_pow_right (n:=2) (by decide) h1;exact this);have I:=gn.new wr 187 #[.int .i64 t.len,.int .i64 t.dist,ln];have m:=(zR [] wr).alloc (.cells #[.int .i64 t.len,.int .i64 t.dist,ln] 187);have O:=gd (And.intro E (And.intro a4 bz));clear v E a4 bz M bY cl U H ht p z bU Z aR au ar al;generalize t.len=ta at *;generalize t.dist=tb at *;have cC:=gd bA;clear bA;have bx:wr.heap.size∉F':=λhm=>by have:=G.lt _ hm;omega
    go_wp2_with fail;refine(s _).mono ?_;rintro e w4 ⟨rfl,f⟩;have cc:=I.Z f (by simp);have aB:=G.Y (m.tq f);have aS:=u.Y (m.tq f);clear I G u s m f c1 c2 c3;go_wp2_with fail;refine(iG _ b F' aZ 0 1 aB (by omega) (by omega) (by omega)).mono ?_;rintro e w5 ⟨rfl,F5,aC,N⟩;have cd:=cc.Z N.Z bx;have b2:=cd.X 2;simp only[size_toArray,zK,length_nil,getElem?_toArray,getElem?_cons_zero,getElem?_cons_succ]at b2;clear cc cd aB bx;go_wp2_with fail;refine(iG _ b F5 _ ln d aC (by omega) cC.o (by rw[zC,gH];omega)).mono ?_;rintro e w6 ⟨rfl,F6,aD,av⟩;clear aC b2;go_wp2_with fail
    go_roundg j
    .refine⟨q+1,F6,_,?_,by go_num,by omega,aD,gd ?_,?_,(aS.trans N).trans av⟩
     .rw[O.o.1]
     .rw[O.o.2.2,O.o.2.1,Hb.o];simp only[zH]
     .rw[zC,zC,gH,gH];omega
    .omega
   .have ax:(iz (T.take (q+1))).length=(iz (T.take q)).length+1:=by rw[v,p];simp
    have a4:kE kk jk W d t=gx 1 1++jp kk (lenOf t)++jp jk (mH W t):=(by unfold kE;rw[p];rfl);have bC:=Kl T H p;have aY:=JS W T H p;have cS:=DJ z;have bZ:=CV W z;have bL:(iz (T.take q)).length<n9:=(by rw[b6.o];exact(List.getElem?_eq_some_iff.1 bC).1);have⟨c,ce⟩:=zX ((iz (T.take q)).length);rw[<-ce]at bC aY bL ax⊢;obtain⟨g9,o9,rfl,aL⟩:=aR.one bC;obtain⟨cL,cT,rfl,ay⟩:=au.one aY;rw[p]at s;have I:=gn.new wr 187 #[.int .i64 t.len,.int .i64 t.dist,.int .i64 t.lit];have m:=(zR [] wr).alloc (.cells #[.int .i64 t.len,.int .i64 t.dist,.int .i64 t.lit] 187);have bW:ib (some ⟨g9,o9+c,none⟩) [lenOf t] F':=ar.to (by simp;have:=b6.o;omega) (λad e=>⟨_,rfl,by injection e with e;rw[<-e]⟩);have aW:ib (some ⟨cL,cT+c,none⟩) [mH W t] F':=al.to (by simp;have:=cA.o;omega) (λad e=>⟨_,rfl,by injection e with e;rw[<-e]⟩);have O:=gd (And.intro ax (And.intro a4 bz));clear v ax a4 bz M U H ht p z Z aR au ar al bC aY ce;generalize lenOf t=lo at *;generalize mH W t=co at *;generalize t.len=ta at *;generalize t.dist=tb at *;generalize t.lit=tc at *;go_wp2_with fail;refine(s _).mono ?_;rintro e w4 ⟨rfl,f⟩;have aB:=G.Y (m.tq f);have aS:=u.Y (m.tq f);have q9:=aL.Y (m.tq f);have b3:=ay.Y (m.tq f);clear I G u s m f c1 c2 c3 aL ay;go_wp2_with fail;refine(iG _ b F' aZ 1 1 aB (by omega) (by omega) (by omega)).mono ?_;rintro e w5 ⟨rfl,F5,aC,N⟩;have r9:=q9.N bW N.Z;have b4:=b3.N aW N.Z;have bg:=bW.grow q9 N;have az:=aW.grow b3 N;go_wp2_with fail;have bS:∀x∈[lo],iy x:=λx r=>by rw[zU.1 r];exact cS
    have bT:∀x∈[co],iy x:=λx r=>by rw[zU.1 r];exact bZ
    refine(xN _ b F5 _ kk [lo] _ (bI-c) aC hk bS r9 bg (by rw[zC,gH];simp;omega)).mono ?_;rintro e w6 ⟨rfl,F6,aD,av⟩;have cy:=b4.N az av.Z;have aA:=az.grow b4 av;have cs:jl kk [lo]=jp kk lo:=(by simp[jl]);have ct:jl jk [co]=jp jk co:=(by simp[jl]);have cZ:=qy kk lo;have cQ:=qy jk co;have cW:=pN kk lo hk;have cM:=pN jk co bQ;rw[cs]at aD;clear aC r9 b4 bg az aB q9 b3 bW aW;go_wp2_with fail;refine(xN _ b F6 _ jk [co] _ (aO-c) aD bQ bT cy aA (by rw[zC,zC,gH];simp;omega)).mono ?_;rintro e w7 ⟨rfl,F7,bo,bO⟩;rw[ct]at bo;clear aD cy aA cs ct;go_wp2_with fail
    go_roundg j
    .refine⟨q+1,F7,_,?_,by go_num,by omega,bo,gd ?_,?_,((aS.trans N).trans av).trans bO⟩
     .rw[O.o.1];go_num
     .rw[O.o.2.2,O.o.2.1,Hb.o];simp only[zH]
     .rw[zC,zC,zC,gH];omega
    .omega
 .have bP:i<n:=by omega
  have R:i<T.length:=by rw[<-HN.o];exact bP
  have bj:=b7.o T[i] (zG R);have⟨t,ht⟩:=zX (T[i]);have H:T[i]?=some t:=by rw[ht];exact zF R
  rw[<-ht]at bj;have bb:=hc.Y K;obtain⟨g,o,rfl,c1,c2,c3⟩:=bb.at_ H;have M:T.take (i+1)=T.take i++[t]:=by rw[ht];exact jD T R
  have v:=Ck (T.take i) t;have X:=I7 W (T.take i) t;rw[<-M]at v X;have s:=λw=>xt t w;have U:oN t=.agg #[.int .i64 t.len,.int .i64 t.dist,.int .i64 t.lit]:=rfl;rw[U]at s;have I:=gn.new wr 187 #[.int .i64 t.len,.int .i64 t.dist,.int .i64 t.lit];have m:=(zR [] wr).alloc (.cells #[.int .i64 t.len,.int .i64 t.dist,.int .i64 t.lit] 187);have a3:=Cw (T.take i);have L:=yx W (T.take i);rw[zI]at a3;rcases bj with⟨p,z,bU⟩|⟨p,z⟩
  .rw[p]at s v X
   have E:iz (T.take (i+1))=iz (T.take i):=(by rw[v];simp);have V:i6 W (T.take (i+1))=i6 W (T.take i):=(by rw[X];simp);have HS:=gd (And.intro E V);generalize t.len=ta at *;generalize t.dist=tb at *;generalize t.lit=tc at *;have t5:decide (tc<0)=false:=zA (by omega);have t6:decide ((2:Int)^d<=tc)=false:=zA (by omega);clear v X E V M H ht U a3 L p;go_wp2_with fail;refine(s _).mono ?_;rintro e J ⟨rfl,f⟩;have Q:=I.Z f (by simp);have b2:=Q.X 2;simp only[size_toArray,zK,length_nil,getElem?_toArray,getElem?_cons_zero,getElem?_cons_succ]at b2;have bu:=K.tq (m.tq f);have k9:=C.Y (m.tq f);have bp:=D.Y (m.tq f);clear I Q m f K bb c1 c2 c3 C D;go_wp2_with fail
   go_quiet (fail)
   go_wp2_with fail
   go_roundg j
   .refine⟨i+1,F9,F10,by go_num,by omega,?_,?_,a5,aq,bu.drewN nq⟩
    .rw[HS.o.1];exact k9.drewN nq
    .rw[HS.o.2];exact bp.drewN nq
   .omega
  .rw[p]at s v X
   have E:(iz (T.take (i+1))).map vi=(iz (T.take i)).map vi++[.int .i64 (lenOf t)]:=(by rw[v];simp[vi]);have V:(i6 W (T.take (i+1))).map vi=(i6 W (T.take i)).map vi++[.int .i64 (mH W t)]:=(by rw[X];simp[vi]);have cO:=gZ.isCopy_iff.1 z;obtain⟨p1,p2,p3,p4,p5⟩:=cO;have cg:=(AG (d:=t.dist) (W:=W) p3).1;have bK:=λw (hp:iK w)=>Oa t.dist W w hp p3 p4 hw0 hw1;have bk:=λw=>ur (t.len-3) w (by omega);have ap:=λw=>ur (nA t.dist W-1) w (by omega);have e1:jr (t.len-3)=lenOf t:=rfl;have e2:jr (nA t.dist W-1)=mH W t:=rfl;rw[e1]at bk;rw[e2]at ap;clear e1 e2;have⟨lo,cm⟩:=zX (lenOf t);have⟨co,ch⟩:=zX (mH W t);rw[<-cm]at bk E;rw[<-ch]at ap V;have⟨cn,a9⟩:=zX (nA t.dist W);rw[<-a9]at ap cg bK;have⟨cq,Z⟩:=zX (cn-1);rw[<-Z]at ap;have⟨lq,cp⟩:=zX (t.len-3);rw[<-cp]at bk;have e3:(t.len:Int)-3=(lq:Int):=(by omega);have e4:(cn:Int)-1=(cq:Int):=(by omega);have cM:cq<=1100:=(by omega);have cQ:lq<=64:=(by omega);have Y:((i6 W (T.take i)).map vi).length=((iz (T.take i)).map vi).length:=(by rw[zE,zE,L]);have ca:((iz (T.take i)).map vi).length<=4096:=(by rw[zE];omega);have⟨L9,b9⟩:=zX ((iz (T.take i)).map vi);have⟨cU,a6⟩:=zX ((i6 W (T.take i)).map vi);rw[<-b9]at C E Y ca;rw[<-a6]at D V Y;clear b9 a6;have⟨M9,bv⟩:=zX L9.length;rw[<-bv]at Y ca;have HS:=gd (And.intro E V);clear cm ch a9 Z cp E V;generalize t.len=ta at *;generalize t.dist=tb at *;generalize t.lit=tc at *;subst p5;have⟨cz,cG,HU⟩:=Q9 bK ap bk;clear v X M H ht U a3 L p cg bK bk ap z;go_wp2_with fail;refine(s _).mono ?_;rintro e J ⟨rfl,f⟩;have Q:=I.Z f (by simp);have b0:=Q.X 0;have b1:=Q.X 1;simp only[size_toArray,zK,length_nil,getElem?_toArray,getElem?_cons_zero,getElem?_cons_succ]at b0 b1;have bu:=K.tq (m.tq f);have k9:=C.Y (m.tq f);have bp:=D.Y (m.tq f);obtain⟨A9,bI,cw,_⟩:=k9.open_;obtain⟨bD,aO,bl,_⟩:=bp.open_;rw[<-bv]at cw;rw[Y]at bl;subst cw;subst bl;have⟨bE,bF,aM,HO⟩:=gu bp bv Y (And.intro a5 aq);have cH:=gd (And.intro C.lt D.lt);clear I m f K bb c1 c2 c3 C D s bv Y a5 aq;have bR:=bp.lt;have bx:wr.heap.size∉F9:=λhm=>by have:=cH.o.1 _ hm;omega
   go_wp2_with fail;refine gB (HU.o _) ?_;have cx:=k9.Y ((zR [] J).alloc (.cells #[lo] 3));have a8:=gn.new J 3 #[lo]
   go_wp2_with(at_builtin;refine ka rfl rfl iO rfl rfl cx (.int .i64 lo) rfl ?c1 ?c2 ?c3 ?c4 ?_)
   case c1=>exact a8.X 0
   case c2=>rfl
   case c3=>rw[<-bF.o];omega
   case c4=>rw[<-bF.o];omega
   intro g1 cI w3 bB a2;rw[<-bF.o]at bB⊢;have cb:=(Q.alloc (.cells #[lo] 3)).Z a2.Z bx;have d1:=cb.X 1;simp only[size_toArray,zK,length_nil,getElem?_toArray,getElem?_cons_zero,getElem?_cons_succ]at d1;have bH:gg [] w w3:=(bu.alloc _).trans a2.Z (λx r=>.inr (HO.o.1 x r).1);have bq:=(bE.o.Y ((zR [] J).alloc (.cells #[lo] 3))).Z a2.Z (λx r hm=>(HO.o.1 x hm).2 r);have cR:=hp.Y bH;clear a8 cx b0 b1 Q;have cX:g1<w3.heap.size:=bB.lt;go_wp2_with fail;refine(cz.o _ cR).mono ?_;rintro e w4 ⟨rfl,n4,rfl⟩;go_wp2_with fail;refine gB (cG.o _) ?_;have br:=(bq.drewN n4).Y ((zR [] (w3.drewN n4)).alloc (.cells #[co] 3));have a8:=gn.new (w3.drewN n4) 3 #[co]
   go_wp2_with(at_builtin;refine ka rfl rfl iO rfl rfl br (.int .i64 co) rfl ?c1 ?c2 ?c3 ?c4 ?_)
   case c1=>exact a8.X 0
   case c2=>rfl
   case c3=>rw[aM.o];omega
   case c4=>rw[aM.o];omega
   intro g2 cJ w5 bi aG;rw[aM.o]at bi⊢;have bc:g1∉F10:=λhm=>by
    rcases a2.new g1 (by simp)with y|y
    .exact(HO.o.1 _ y).2 hm
    .have:=bR _ hm
     have h8:(J.alloc (.cells #[lo] 3)).heap.size=J.heap.size+1:=(by simp);omega
   have bX:=(bB.Z ((((zR F10 w3).drewN n4).alloc (.cells #[co] 3)).tq aG.Z) bc);have cK:gg [] w w5:=((bH.drewN n4).alloc (.cells #[co] 3)).trans aG.Z (λx r=>.inr (HO.o.2 x r));have c7:((w3.drewN n4).alloc (.cells #[co] 3)).heap.size=w3.heap.size+1:=(by simp);have bN:w.heap.size<=g1:=by
    rcases a2.new g1 (by simp)with y|y
    .exact(HO.o.1 _ y).1
    .have h8:(J.alloc (.cells #[lo] 3)).heap.size=J.heap.size+1:=by simp
     have:=bu.size
     omega
   have bd:w.heap.size<=g2/\g1≠g2:=by
    rcases aG.new g2 (by simp)with y|y
    .exact⟨HO.o.2 _ y,λe=>bc (e ▸ y)⟩
    .have:=bH.size
     exact⟨by omega,by omega⟩
   clear cb a8 br bB a2 aG bq d1;go_wp2_with fail
   go_roundg j
   .refine⟨i+1,[g1],[g2],by go_num,by omega,?_,?_,?_,?_,cK⟩
    .rw[HS.o.1];exact bX.R
    .rw[HS.o.2];exact bi.R
    .intro x r;rw[zU.1 r];exact⟨bN,by simp;exact bd.2⟩
    .intro x r;rw[zU.1 r];exact bd.1
   .omega
def iq(l:List Int)(n:Nat):List Nat:=l.flatMap λv=>gx v.toNat n
theorem xf(l:List Int)(n:Nat):(iq l n).length=n*l.length:=by
 induction l with
 | nil=>simp[iq]
 | cons x l ih=>
  have e:iq (x::l) n=gx x.toNat n++iq l n:=rfl;rw[e,zC,gH,ih,zK,Nat.mul_add,Nat.mul_one,Nat.add_comm]
theorem Du(l:List Int)(x:Int)(n:Nat):iq (l++[x]) n=iq l n++gx x.toNat n:=by simp[iq]
theorem Ax(w:World)(b:Nat)(F bs:List Nat)(l:List Int)(A:Option Addr)(u n:Nat)(h:hJ w b F bs)(L:n<=16)(K:l.length<=4096)(B:ie n l)(J:gz vi w A l)(H:ib A l F)(I:bs.length<137438953472):Calls prog 122 #[.pointer b,.slice A l.length u,n] w λe w'=>e=.returned (.tuple #[])/\∃F',hJ w' b F' (bs++iq l n)/\gE F F' w w':=by
 have⟨m,hm⟩:=zX l.length;rw[<-hm]at K⊢;have⟨HN,HS⟩:=gy hm B;clear hm B;go_enter func122,ntmps122;go_wp2_with fail
 go_loopg [10] m (λj iv wr=>∃(i:Nat) (F' a:List Nat),iv=.int .i64 i/\i+j=m/\hJ wr b F' a/\gh (a=bs++iq (l.take i) n)/\a.length<=bs.length+16*i/\gE F F' w wr)
 .exact⟨0,F,bs,rfl,by omega,h,gd (by simp[iq]),by omega,gE.refl _ _⟩
 obtain⟨i,F',a,rfl,Q,y,v,O,p⟩:=hrel;rcases gk with _|j
 .obtain rfl:i=m:=by omega
  go_wp2
  go_end0
  refine⟨rfl,F',?_,p⟩;have e:l.take i=l:=by rw[HN.o,zN]
  have z:=v.o;rw[e]at z;rw[<-z];exact y
 .have D:i<m:=by omega
  have d:i<l.length:=by rw[<-HN.o];exact D
  obtain⟨g,o,rfl,f⟩:=(J.N H p.Z).at_ d;have r:=jD l d;have q:=HS.o l[i] (zG d);have⟨x,hx⟩:=zX (l[i]);rw[<-hx]at f r q;have s:x=((x.toNat:Nat):Int):=(Int.toNat_of_nonneg q.1).symm;have ad:x.toNat<2^n:=by
   have e2:((2^n:Nat):Int)=(2:Int)^n:=(by simp);omega
  have c:=Du (l.take i) x n;rw[<-r]at c;have⟨k,hk⟩:=zX x.toNat;rw[<-hk]at s ad c;rw[s]at f;have N:_=some (Value.int .i64 k):=f;have M:k<65536:=Nat.lt_of_lt_of_le ad (by have:=Nat.pow_le_pow_right (n:=2) (by decide) L;exact this);have⟨aj,ak⟩:=gy c ad;clear c ad hk s q r hx f d;go_wp2_with fail;refine(iG _ b F' a k n y (by omega) ak.o (by omega)).mono ?_;rintro e R ⟨rfl,C,G,E⟩;go_wp2_with fail
  go_roundg j
  .refine⟨i+1,C,_,by go_num,by omega,G,gd ?_,?_,p.trans E⟩
   .rw[aj.o,v.o,zH]
   .rw[zC,gH];omega
  .omega
def kL(l:List Int)(W i:Nat):mS:=iC l W (i%W) (i / W)
theorem xA(l:List Int)(A:Option Addr)(a W d i:Nat)(w:World)(q:1<=d)(r:d<=16)(c:1<=W)(f:W<=64)(G:i<=l.length)(j:i<64*W)(s:ie d l)(h:gz vi w A l)(H:l.length<=4096):Calls prog 145 #[.slice A l.length a,W,d,i] w λe w'=>e=.returned (.tuple #[.int .i64 (jV 7 (kL l W i) d),.int .i64 (pY (kL l W i) d)])/\gg [] w w':=by
 have⟨x,hx⟩:=zX (i%W);have⟨y,hy⟩:=zX (i / W);have D:x<W:=by rw[hx];exact mod_lt _ (by omega)
 have z:y<64:=by rw[hy];exact Nat.div_lt_of_lt_mul (by rw[zY];exact j)
 have E:y*W+x=i:=by rw[hx,hy,zY];exact div_add_mod i W
 have I:(i:Int)%(W:Int)=(x:Int):=by rw[hx];simp
 have e2:(i:Int) / (W:Int)=(y:Int):=by rw[hy];simp
 have b:=λw h=>xJ l A a W x y w c f D z (by omega) h (by omega);have ad:=qL s W x y;have m:=λw=>Nv (iC l W x y) d w q r ad;have o:=λw=>xU 7 (iC l W x y) d w (by omega) q r ad;have p:kL l W i=iC l W x y:=by unfold kL;rw[<-hx,<-hy]
 rw[p];have⟨n,hn⟩:=zX l.length;rw[<-hn]at b⊢;generalize iC l W x y=g at *;generalize pY g d=cl at *;generalize jV 7 g d=gs at *;obtain⟨J,K,L,M⟩:=g;simp only at b m o;have u:=gd b;clear hx hy E b ad p hn s G;go_enter func145,ntmps145;go_wp2_with fail
 go_quiet ((go_at_call 192;exact DP (u.o _ (h.Y ((zR [] w).drewN _)))))
 go_wp2_with fail;refine(o _).mono ?_;rintro e N ⟨rfl,B⟩;go_wp2_with fail;refine(m _).mono ?_;rintro e O ⟨rfl,C⟩;go_wp2_with fail;exact bodyPost_ret (v:=.tuple #[gs,cl]) (by simp[results,results145,go_sem]) rfl ⟨rfl,(((zR [] w).drewN nq).tq B).tq C⟩
def jU(l:List Int)(W d i:Nat):Nat:=kM (ii (l.getD i 0-jV 7 (kL l W i) d) d)
def jH(l:List Int)(W d:Nat):List Nat:=(range l.length).map (jU l W d)
def pR(l:List Int)(W d:Nat):List Int:=(jH l W d).map Int.ofNat
theorem sM(l:List Int)(W:Nat){d:Nat}(a:1<=d)(i:Nat):jU l W d i<2^d:=by
 obtain⟨b,c⟩:=om (l.getD i 0-jV 7 (kL l W i) d) a;have e:=sF a;have f:((2^d:Nat):Int)=(2:Int)^d:=by simp
 unfold jU kM;split<;>omega
theorem tY(l:List Int)(W d:Nat):(jH l W d).length=l.length:=by simp[jH]
theorem Kq(l:List Int)(W d:Nat):(pR l W d).length=l.length:=by simp[pR,jH]
theorem z8(l:List Int)(A:Option Addr)(c W d:Nat)(w:World)(h:1<=d)(p:d<=16)(L:1<=W)(M:W<=64)(hlW:l.length<=64*W)(O:ie d l)(N:gz vi w A l)(q:l.length<=4096):Calls prog 132 #[.slice A l.length c,W,d] w λe w'=>∃v g,e=.returned v/\gv w' 3 v g ((pR l W d).map vi)/\gg [] w w'/\w.heap.size<=g:=by
 have y:=λi (hi:i<l.length) w N=>xA l A c W d i w h p L M (by omega) (by omega) O N q;have I:pR l W d=(range l.length).map λi=>(jU l W d i:Int):=by simp[pR,jH,map_map]
 have⟨m,hm⟩:=zX l.length;rw[<-hm]at y I q⊢;have aQ:=kg (P:=prog) iO rfl .i64 .i64 m (by omega) (by omega);have⟨HN,aK,HM,HS⟩:=gu y I hm O;clear y I hm O;go_enter func132,ntmps132;go_wp2_with fail;have ad:=gv.zeros w m (by omega);have⟨B,hB⟩:=zX w.heap.size;rw[<-hB]at ad⊢;have Q:=gd hB;have S:gg [] w (w.alloc (.cells (replicate m (Value.int .i64 0)).toArray 3)):=(zR [] w).alloc _;clear hB
 go_loopg [17] m (λj iv wr=>∃(done:List Int),iv=.int .i64 done.length/\done.length+j=m/\gh (done=(range done.length).map λi=>(jU l W d i:Int))/\gv wr 3 (.slice B m m) B ((ia done m).map vi)/\gg [] w wr)
 .exact⟨[],rfl,by simp,gd rfl,ad,S⟩
 obtain⟨done,rfl,U,R,D,E⟩:=hrel;clear ad S;rcases gk with _|j
 .have H:done.length=m:=by omega
  rw[H];go_wp2;go_ret;refine⟨_,B,rfl,?_,E,by have:=Q.o;omega⟩;rw[q7 H,R.o,H]at D;rw[aK.o];exact D
 .have⟨i,hi⟩:=zX done.length
  have X:i<m:=by omega
  have K:i<l.length:=by rw[<-HM.o];exact X
  have z:done++[(jU l W d i:Int)]=(range (i+1)).map λi=>(jU l W d i:Int):=by
   rw[range_succ,zM,hi,<-R.o];rfl
  have G:=N.Y E;obtain⟨g,o,rfl,x⟩:=G.at_ K;have Z:l[i]=l.getD i 0:=by rw[zD,zF K];rfl
  rw[Z]at x;have ab:wr.cell? ⟨g,o+i,none⟩=some (.int .i64 (l.getD i 0)):=x;have s:=HN.o i X wr G;have b:=sN (qL HS.o W (i%W) (i / W)) 7;have r:=mZ HS.o i;have a:jU l W d i=kM (ii (l.getD i 0-jV 7 (kL l W i) d) d):=rfl;have Y:kL l W i=iC l W (i%W) (i / W):=rfl;rw[<-Y]at b;have C:=sM l W h i;obtain⟨aO,aP⟩:=jX h p;have⟨gs,aG⟩:=zX (jV 7 (kL l W i) d);rw[<-aG]at s b a;have⟨v,hv⟩:=zX (l.getD i 0);rw[<-hv]at ab r a;have V:=λw=>oB (v-gs) d w h p;have J:=om (v-gs) h;have⟨fo,al⟩:=zX (ii (v-gs) d);rw[<-al]at a V J;have az:=sG p J;have ah:iy fo:=by unfold iy;omega
  have u:=λw=>xy fo w ah;rw[<-a]at u;have⟨f,hf⟩:=zX (jU l W d i);rw[<-hf]at u C z;have aN:f<65536:=by
   have aM:=Nat.pow_le_pow_right (n:=2) (by decide) p;exact Nat.lt_of_lt_of_le C aM
  have aR : -65536<=v-gs:=by have:=r.1;have:=b.2;omega
  have aS:v-gs<=65536:=by have:=r.2;have:=b.1;omega
  have⟨aL,ao,HI⟩:=Q9 z U hi;rw[<-hi];clear z U hf al hv aG b r a Y C aO aP J az ah x Z K G hi;go_wp2_with fail;refine s.mono ?_;rintro e w2 ⟨rfl,T⟩;have af:=D.Z T (by simp);obtain⟨ap,ax⟩:=af.fill_cell (by have:=ao.o;omega);rw[<-HI.o]at ap ax;clear s ab
  go_wp2_with(first|(go_at_call 79;refine gB (V _) ?_)|(go_at_call 184;refine gB (u _) ?_))
  go_roundg j
  .have ag:=af.fill (by have:=ao.o;omega) (f:Int)
   refine⟨done++[(f:Int)],?_,?_,gd ?_,?_,?_⟩
   .rw[zC,length_singleton,<-HI.o];go_num
   .rw[zC,length_singleton];have:=ao.o;omega
   .rw[zC,length_singleton,<-HI.o]
    exact aL.o
   .rw[<-HI.o]at ag
    exact ag
   .exact(E.tq T).setCell (.inr (by have:=Q.o;simp;omega)) _
  .omega
theorem qv(W H d:Nat)(w:World)(c:1<=W)(f:W<=16)(a:1<=H)(b:H<=16)(h:1<=d)(j:d<=16):Calls prog 110 #[W,H,d] w λe w'=>e=.returned (.bool true)/\w=w':=by
 have m:=jB 1 W (by omega);have n:=jB W 16 (by omega);have o:=jB 1 H (by omega);have p:=jB H 16 (by omega);have q:=jB 1 d (by omega);have r:=jB d 16 (by omega);go_enter func110,ntmps110;go_wp2;go_ret;exact⟨rfl,rfl⟩
theorem ue(l:List Int)(A:Option Addr)(h W H d:Nat)(w:World)(p:1<=W)(b:W<=16)(n:1<=H)(a:H<=16)(r:1<=d)(s:d<=16)(c:l.length=W*H)(u:ie d l)(B:gz vi w A l):Calls prog 105 #[.slice A l.length h,W,H,d] w λe w'=>e=.returned (.bool true)/\w=w':=by
 obtain⟨G,I⟩:=jX r s;have⟨m,hm⟩:=zX l.length;rw[<-hm]at c⊢;have D:(W:Int)*(H:Int)=(m:Int):=by rw[c];simp
 have E:m<=256:=by rw[c];exact zL b a
 have⟨HN,HS⟩:=gy hm u;clear hm c u;go_enter func105,ntmps105
 go_wp2_with(go_at_call 110;refine gB (qv _ _ _ _ p b n a r s) ?_)
 go_loopg [26] m (λj i wr=>j<=m/\i=.int .i64 ((m-j:Nat):Int)/\w=wr)
 .exact⟨zQ _,by simp,rfl⟩
 obtain⟨M,rfl,rfl⟩:=hrel;rcases gk with _|j
 .have N:decide (((m-0:Nat):Int)<(m:Int))=false:=by simp
  go_wp2;go_ret;exact⟨rfl,rfl⟩
 .have⟨i,ac⟩:=zX (m-(j+1))
  rw[<-ac];have z:i<m:=by omega
  have ad:m-j=i+1:=by omega
  have y:=gd ad;clear ac ad;have q:i<l.length:=by rw[<-HN.o];exact z
  obtain⟨g,o,rfl,f⟩:=B.at_ q;have v:=HS.o l[i] (zG _);have⟨x,af⟩:=zX (l[i]);rw[<-af]at f v;have C:w.cell? ⟨g,o+i,none⟩=some (.int .i64 x):=f;obtain⟨J,K⟩:=v;have O:decide (x<0)=false:=zA (by omega);have L:decide ((2:Int)^d<=x)=false:=zA (by omega);clear f af q;go_wp2
  go_roundg j
  .rw[y.o]
   exact⟨by omega,by go_num,rfl⟩
  .omega
theorem DT(w:World)(b:Nat)(F a:List Nat)(p k most u:Nat)(h:gM w b F a p)(D:k<=25)(L:u<=most)(K:most<=65536)(r:ig a p (jp k (jr u))):Calls prog 201 #[.pointer b,k,most] w λe w'=>e=.returned (.tuple #[u,(0:Int)])/\gM w' b F a (p+(jp k (jr u)).length)/\gg [b] w w':=by
 have n:=yN (u:=u) (by omega);have c:=Bd w b F a p k [jr u] h D (λz hz=>by rw[zU.1 hz];exact n) (by simp) (by simpa[jl]using r);rw[show(([jr u]:List Int).length:Int)=1 from rfl]at c;have m:(jl k [jr u]).length=(jp k (jr u)).length:=by simp[jl]
 rw[m]at c;have d:=λw'=>xy (jr u) w' n;rw[JG]at d;have H:IntKind.u64.wrap (most:Int)=(most:Int):=IntWalk.u64_in _ (by omega);have I:IntKind.i64.wrap (u:Int)=(u:Int):=IntWalk.i64_in _ (by omega);generalize jr u=x at *;generalize (jp k x).length=q at *;clear h r m;go_enter func201,ntmps201;go_wp2_with fail;refine c.mono ?_;rintro e s ⟨v,G,rfl,own,B,A,J⟩;rcases own.cases with⟨_,y,_⟩|⟨C,j,rfl⟩
 .exfalso
  have:=congrArg length y
  simp at this
 obtain⟨c4,rfl,_,_,f,_⟩:=j.T;have o:=f 0 x rfl;have E:s.cell? C=some (.int .i64 x):=o;rw[show(([x]:List Int).length)=1 from rfl];have ad:=d s;clear c own j f o d;go_wp2_with fail;refine gB ad ?_;go_wp2
 go_ret2
 exact⟨rfl,B,A⟩
theorem Nb(w:World)(b:Nat)(F f:List Nat)(p k j W d:Nat)(t:gZ)(h:gM w b F f p)(U:iK w)(u:0∉F)(hk:k<=25)(hj:j<=25)(hw0:1<=W)(hw1:W<=64)(hd:d<=16)(ht:qd d t)(m:ig f p (kE k j W d t)):Calls prog 142 #[.pointer b,k,j,W,d] w λe w'=>e=.returned (.tuple #[oN t,(0:Int)])/\gM w' b F f (p+(kE k j W d t).length)/\gg [b] w w':=by
 have⟨br,aE⟩:=zX w.heap.size;have⟨w0,af⟩:=zX (w.alloc (.cells #[(0:Int),(0:Int),(0:Int)] 187));have aL:=RD af aE;have O:=H4 af;have S:=h.Y O;have a0:=U.Y O;have aN:br∉F:=λhm=>by have:=h.lt _ hm;omega
 have D:b≠br:=by have:=h.lt b h.mem;omega
 have aD:=h.mem;have⟨aK,aq⟩:=gy af aE;clear af aE h U;unfold kE at m⊢;rcases ht with⟨C,aS,aI⟩|⟨C,hc⟩
 .rw[if_pos C]at m⊢
  have aY:=gZ.isLit_iff.1 C;obtain⟨a,c,x⟩:=t;obtain⟨rfl,rfl⟩:a=0/\c=0:=aY;simp only at aS aI m⊢;have I:oN ⟨0,0,x⟩=.agg #[(0:Int),(0:Int),x]:=rfl;rw[I];obtain⟨X,hX⟩:∃X:Nat,X=x.toNat:=⟨_,rfl⟩;have aJ:x=(X:Int):=by omega
  have aC:X<2^d:=by
   have e:(2:Int)^d=((2^d:Nat):Int):=(by simp);rw[e,aJ]at aI;omega
  have aV:X<65536:=Nat.lt_of_lt_of_le aC (show 2^d<=2^16 from Nat.pow_le_pow_right (by decide) hd);rw[<-hX]at m⊢;rw[aJ];have H:=iU w0 b F f p 1 0 S (by omega) (by decide) m.left;have r:=m.right;rw[gH]at r;have s:=λw' (hr:gM w' b F f (p+1))=>iU w' b F f (p+1) d X hr (by omega) aC r;rw[zC,gH,gH];have bb:IntKind.i64.wrap (X:Int)=(X:Int):=IntWalk.i64_in _ (by omega);have ay:=gd s;clear hX aJ aC aS aI m r s C I;go_enter func142,ntmps142;go_wp2_with fail;rw[<-aK.o,<-aq.o];refine H.mono ?_;rintro e w1 ⟨rfl,aG,y⟩;have G:=aL.Z y (by simpa using D.symm);clear H S;go_wp2_with fail;refine(ay.o w1 aG).mono ?_;rintro e M ⟨rfl,T,A⟩;have q:=G.Z A (by simpa using D.symm);have q0:=q.X 0;have q1:=q.X 1;have q2:=q.X 2;have⟨z0,z1,z2⟩:=RK q 0 1 2;simp at q0 q1 q2;have⟨wF,ag⟩:=zX (((M.setCell br (.int .i64 0)).setCell ⟨br,1,none⟩ (.int .i64 0)).setCell ⟨br,2,none⟩ (.int .i64 X));have o:gn wF br 187 #[(0:Int),(0:Int),X]:=by
   rw[ag]
   simpa using((q.S 0 (.int .i64 0)).S 1 (.int .i64 0)).S 2 (.int .i64 X)
  have ad:gg [br] M wF:=by rw[ag];exact(((zR [br] M).setCell (.inl (by simp)) _).setCell (.inl (by simp)) _).setCell (.inl (by simp)) _
  have J:=o.X 0;have K:=o.X 1;have L:=o.X 2;simp at J K L;have az:=gd ag;clear ag o G
  go_wp2_with(go_at_call 60;refine gB (iS _ b F f _ T) ?_)
  rw[<-az.o];refine bodyPost_ret (v:=.tuple #[.agg #[.int .i64 0,.int .i64 0,.int .i64 X],(0:Int)]) (by simp[results,results142,go_sem,J,K,L]) rfl ?_;exact⟨rfl,(T.cast (by omega)).Z ad (λz hz hm=>by simp at hm;exact aN (hm ▸ hz)),(((O.mono (by simp)).tq y).tq A).trans ad (λz hz=>.inr (by simp at hz;have:=aq.o;omega))⟩
 .rw[if_neg (by simp[C])]at m⊢
  have aX:=gZ.isCopy_iff.1 hc;obtain⟨n,c,x⟩:=t;obtain⟨a9,aZ,aW,aF,rfl⟩:3<=n/\n<=64/\1<=c/\c<=1024/\x=0:=aX;have I:oN ⟨n,c,0⟩=.agg #[n,c,(0:Int)]:=rfl;rw[I];have R:=AG (d:=c) (W:=W) aW;have H:=iU w0 b F f p 1 1 S (by omega) (by decide) m.left.left;have r:=m.left.right;have Q:=m.right;have e2:lenOf ⟨n,c,0⟩=jr (n-3):=rfl;have e3:mH W ⟨n,c,0⟩=jr (nA c W-1):=rfl;rw[zC,gH,e2]at Q;rw[gH,e2]at r;rw[e3]at Q;have s:=λw' (hr:gM w' b F f (p+1))=>DT w' b F f (p+1) k 61 (n-3) hr hk (by omega) (by decide) r;have B:=λw' (hr:gM w' b F f (p+(1+(jp k (jr (n-3))).length)))=>DT w' b F f _ j 1047 (nA c W-1) hr hj (by omega) (by decide) Q;rw[zC,zC,gH,e2,e3];have N:=λw' (U:iK w')=>FC (nA c W) W w' U R.1.1 (by omega) hw0 hw1;rw[R.2]at N;have⟨cd,aP⟩:=zX (nA c W);rw[<-aP]at B N R⊢;have⟨c0,aO⟩:=zX (cd-1);have a8:(c0:Int)+1=(cd:Int):=by omega
  rw[<-aO]at B⊢;have⟨n0,aR⟩:=zX (n-3);have ba:(n0:Int)+3=(n:Int):=by omega
  rw[<-aR]at s B⊢;generalize (jp k (jr n0)).length=q1 at *;generalize (jp j (jr c0)).length=q2 at *;rw[show((61:Nat):Int)=61 from rfl]at s;rw[show((1047:Nat):Int)=1047 from rfl]at B;have aQ:cd<=1048:=by omega
  have⟨ay,aT,aU⟩:=Q9 s B N;clear m r Q s B N aP aO aR e2 e3 C hc I R;go_enter func142,ntmps142;go_wp2_with fail;rw[<-aK.o,<-aq.o];refine H.mono ?_;rintro e w1 ⟨rfl,aG,y⟩;have G:=aL.Z y (by simpa using D.symm);have a1:=a0.Z y (λhm=>by simp at hm;exact u (hm ▸ aD));clear H S;go_wp2_with fail;refine(ay.o w1 aG).mono ?_;rintro e M ⟨rfl,T,A⟩;have q:=G.Z A (by simpa using D.symm);have a2:=a1.Z A (λhm=>by simp at hm;exact u (hm ▸ aD));go_wp2_with fail;refine(aT.o M (T.cast (by omega))).mono ?_;rintro e V ⟨rfl,a4,Y⟩;have aM:=q.Z Y (by simpa using D.symm);have a3:=a2.Z Y (λhm=>by simp at hm;exact u (hm ▸ aD));go_wp2_with fail;refine(aU.o V a3).mono ?_;rintro e bc ⟨rfl,n4,rfl⟩;have⟨w4,aH⟩:=zX (V.drewN n4);have Z:gg [] V w4:=by rw[aH];exact(zR [] V).drewN n4
  rw[<-aH];have E:=aM.Z Z (by simp);have q0:=E.X 0;have a6:=E.X 1;have a7:=E.X 2;have⟨z0,z1,z2⟩:=RK E 0 1 2;simp at q0 a6 a7;have⟨wF,ag⟩:=zX (((w4.setCell br (.int .i64 n)).setCell ⟨br,1,none⟩ (.int .i64 c)).setCell ⟨br,2,none⟩ (.int .i64 0));have o:gn wF br 187 #[n,c,(0:Int)]:=by
   rw[ag]
   simpa using((E.S 0 (.int .i64 n)).S 1 (.int .i64 c)).S 2 (.int .i64 0)
  have ad:gg [br] w4 wF:=by rw[ag];exact(((zR [br] w4).setCell (.inl (by simp)) _).setCell (.inl (by simp)) _).setCell (.inl (by simp)) _
  have J:=o.X 0;have K:=o.X 1;have L:=o.X 2;simp at J K L;have az:=gd ag;have a5:=a4.Y Z;clear ag o G q aM aH;go_wp2_with fail;rw[<-az.o];refine bodyPost_ret (v:=.tuple #[.agg #[.int .i64 n,.int .i64 c,.int .i64 0],(0:Int)]) (by simp[results,results142,go_sem,J,K,L]) rfl ?_;exact⟨rfl,(a5.cast (by omega)).Z ad (λz hz hm=>by simp at hm;exact aN (hm ▸ hz)),(((((O.mono (by simp)).tq y).tq A).tq Y).trans Z (by simp)).trans ad (λz hz=>.inr (by simp at hz;have:=aq.o;omega))⟩
theorem OW(w:World)(l:List Int)(v:Value)(F:List Nat)(i:Nat)(t:gZ)(p:jj w 3 v F ((l.take i).map vi))(hl:l.length<=4096)(I:i<l.length)(ht:tk l i t)(j:t.ok):Calls prog 143 #[v,oN t] w λe w'=>∃v' F',e=.returned v'/\jj w' 3 v' F' ((l.take (i+max t.len 1)).map vi)/\gE F F' w w':=by
 have⟨bt,al⟩:=zX w.heap.size;have b:=λw'=>xt t w';have aY:(l.take i).length=i:=by rw[zI];omega
 have aR:=gd p.lt;rcases ht with⟨E,G,H⟩|⟨E,G,H,h4,W⟩
 .have o:t.isLit=true:=gZ.isLit_iff.2 ⟨E,G⟩
  rw[o]at b;obtain⟨a,c,x⟩:=t;simp only at E G H;subst E G;have C:oN ⟨0,0,x⟩=.agg #[(0:Int),(0:Int),x]:=rfl;rw[C]at b⊢;have aL:l.take (i+max 0 1)=l.take i++[x]:=by
   rw[show i+max 0 1=i+1 by omega,jD l I,H,zD,zF I];rfl
  simp only;rw[aL];have⟨xs,am⟩:=zX (l.take i);rw[<-am]at p aY⊢;have⟨w0,ah⟩:=zX (w.alloc (.cells #[(0:Int),(0:Int),x] 187));have ad:gn w0 bt 187 #[(0:Int),(0:Int),x]:=RD ah al;have s:=H4 ah;have z:=p.Y s;have J:=ad.X 0;have K:=ad.X 1;have L:=ad.X 2;simp at J K L;have⟨ax,an⟩:=gy ah al;clear H aL am o j C ah al p;go_enter func143,ntmps143;go_wp2_with fail;rw[<-ax.o];refine(b w0).mono ?_;rintro e w1 ⟨rfl,f⟩;have aP:=(ad.Z f (by simp)).X 2;simp at aP;rw[an.o]at aP;have N:=z.Y f;clear b J K L ad z
  go_wp2_with(at_builtin;refine ka rfl rfl iO rfl rfl (N.alloc _) (.int .i64 x) rfl ?c1 ?c2 ?c3 ?c4 ?_)
  case c1=>simp[go_sem]
  case c2=>rfl
  case c3=>rw[zE];omega
  case c4=>rw[zE];omega
  intro D ay w2 R u;go_wp2_with fail;go_ret;exact⟨_,[D],rfl,by have:=R.R;simpa[vi]using this,gE.pre ((s.tq f).alloc _) u⟩
 .have o:t.isLit=false:=by
   cases hq:t.isLit with
   | false=>rfl
   | true=>have := gZ.isLit_iff.1 hq;omega
  rw[o]at b;have aI:=gZ.isCopy_iff.1 (by rcases j with h|h;rw[o]at h;cases h;exact h);obtain⟨n,c,x⟩:=t;simp only at E G H h4 W aI;obtain rfl:x=0:=aI.2.2.2.2;have C:oN ⟨n,c,0⟩=.agg #[n,c,(0:Int)]:=rfl;rw[C]at b⊢;have aK:i+max n 1=i+n:=by omega
  simp only;rw[aK];have⟨w0,ah⟩:=zX (w.alloc (.cells #[n,c,(0:Int)] 187));have ad:=RD ah al;have s:=H4 ah;have z:=p.Y s;have J:=ad.X 0;have K:=ad.X 1;have L:=ad.X 2;simp at J K L;have⟨ax,an,H5⟩:=Q9 ah al W;clear aK o j C ah al p W;go_enter func143,ntmps143;go_wp2_with fail;rw[<-ax.o];refine(b w0).mono ?_;rintro e w1 ⟨rfl,f⟩;have V:=ad.Z f (by simp);have S:=V.X 0;simp at S;rw[an.o]at S;have N:=z.Y f;have Z:gE F F w w1:=(gE.refl F w).Y (s.tq f);have aq:bt∉F:=λhm=>by have:=aR.o _ hm;have:=an.o;omega
  clear b J K L ad z;go_wp2_with fail
  go_loopg [0,14] n (λk vl iv wr=>∃(m:Nat) (F':List Nat),iv=.int .i64 m/\m+k=n/\jj wr 3 vl F' ((l.take (i+m)).map vi)/\gn wr bt 187 #[n,c,(0:Int)]/\bt∉F'/\gE F F' w wr)
  .exact⟨0,F,rfl,by omega,N,V,aq,Z⟩
  clear N V aq Z S;obtain⟨m,F',rfl,a1,d,U,aH,aJ⟩:=hrel;rcases gk with _|k
  .obtain rfl:n=m:=by omega
   have t5:decide ((n:Int)<(n:Int))=false:=(by simp);have a2:decide (n<n)=false:=(by simp);obtain⟨A,aT,rfl,_,_,_⟩:=d.T;go_wp2_with fail;go_ret;exact⟨_,F',rfl,d,aJ⟩
  .have aX:m<n:=by omega
   have B:(l.take (i+m)).length=i+m:=(by rw[zI];omega);have⟨q,hq⟩:=zX (i+m-c);have aM:q<i+m:=(by omega);obtain⟨A,aT,rfl,O,a0,M⟩:=d.T;obtain⟨ga,oa,rfl,T⟩:=M.at_ (m:=q) (by rw[B];exact aM);have aN:(l.take (i+m))[q]=l.getD (i+m) 0:=by
    rw[H5.o m aX,<-hq,getElem_take,zD,zF (by omega)];rfl
   rw[aN]at T;have Q:i+m<l.length:=(by omega);have r:=jD l Q;have aO:l[i+m]=l.getD (i+m) 0:=(by rw[zD,zF Q];rfl);rw[aO]at r;generalize l.getD (i+m) 0=y at *;have aA:wr.cell? ⟨ga,oa+q,none⟩=some (.int .i64 y):=T;have⟨im,ag⟩:=zX (i+m);rw[<-ag]at B d r aM M O;have⟨xs,am⟩:=zX (l.take im);rw[<-am]at B d r O M;have aZ:(im:Int)-(c:Int)=(q:Int):=(by omega);have Y:=U.X 1;simp at Y;rw[an.o]at Y;rw[B]at d O;have aU:=d.alloc (.cells #[y] 3);have⟨aS,aQ⟩:=gy r ag;have aW:im<=4096:=(by omega);rw[<-ag,<-am,B];clear T aN aO r ag am M hq Q
   go_wp2_with(at_builtin;refine ka rfl rfl iO rfl rfl aU (.int .i64 y) rfl ?c1 ?c2 ?c3 ?c4 ?_)
   case c1=>simp[go_sem]
   case c2=>rfl
   case c3=>rw[zE];omega
   case c4=>rw[zE];omega
   intro D ay w2 R u;go_wp2_with fail
   go_roundg k
   .have aV:bt∉[D]:=λhm=>by
     simp at hm;rcases u.new D (by simp)with X|X
     .exact aH (hm ▸ X)
     .have:=U.lt;simp at X;omega
    have e1:i+(m+1)=im+1:=(by have:=aQ.o;omega);refine⟨m+1,[D],by go_num,by omega,?_,(gn.alloc U _).Z u.Z aH,aV,(aJ.alloc _).trans u⟩;rw[e1,aS.o,zM]
    have:=R.R
    exact this
   .omega
theorem Od(w:World)(b:Nat)(F a:List Nat)(p:Nat)(l:List Int)(W d:Nat)(T:List gZ)(h:gM w b F a p)(hp:iK w)(y:0∉F)(hw0:1<=W)(hw1:W<=64)(h0:1<=d)(h1:d<=16)(hl:l.length<=4096)(hT:sR l 0 T)(C:∀t∈T,qd d t)(z:ig a p (nL T W d)):Calls prog 115 #[.pointer b,l.length,W,d] w λe w'=>∃v G,e=.returned (.tuple #[v,(0:Int)])/\jj w' 3 v G (l.map vi)/\gM w' b F a (p+(nL T W d).length)/\gg [b] w w'/\∀x∈G,w.heap.size<=x:=by
 have aU:nL T W d=gx (j8 (iz T)) 5++gx (j8 (i6 W T)) 5++T.flatMap (kE (j8 (iz T)) (j8 (i6 W T)) W d):=rfl;rw[aU]at z⊢;rw[zC,zC,gH,gH];have hk:=q8 (iz T);have hj:=q8 (i6 W T);generalize j8 (iz T)=k at *;generalize j8 (i6 W T)=j at *;have aS:=iU w b F a p 5 k h (by omega) (by omega) z.left.left;have O:=z.left.right;have Q:=z.right;rw[gH]at O;rw[zC,gH,gH]at Q;have aT:=λw' (hr:gM w' b F a (p+5))=>iU w' b F a (p+5) 5 j hr (by omega) (by omega) O;have⟨n,hn⟩:=zX l.length;rw[<-hn]at hl⊢;have t1:=Ra W 1 (by omega);have t2:=Ra 64 W (by omega);have t3:=Ra d 1 (by omega);have t4:=Ra 16 d (by omega);have t5:=Ra n 0 (by omega);have t6:=Ra 4096 n (by omega);have t7:=Ra 25 k (by omega);have t8:=Ra 25 j (by omega);have bj:=vN (P:=prog) iO rfl .i64 .i64 n (by omega) (by omega);have bf:=h.lt b h.mem;have⟨HN,HA,HT,a9⟩:=gu hn Q hT C;have⟨a6,a8,HP⟩:=Q9 aT h.lt hp;have a5:gh (0∉[b]):=gd (by simp;intro e;exact y (e ▸ h.mem));clear hn Q hT C aT z O aU hp h;go_enter func115,ntmps115;go_wp2_with fail;refine aS.mono ?_;rintro e w1 ⟨rfl,aX,K⟩;clear aS;go_wp2_with fail;refine(a6.o w1 aX).mono ?_;rintro e D ⟨rfl,U,L⟩;have Z:=gv.room D n (by omega);have⟨B,hB⟩:=zX D.heap.size;have M:gg [] D (D.alloc (.cells (replicate n (Value.int .i64 0)).toArray 3)):=(zR [] D).alloc _;have aY:=U.Y M;have o:=(K.tq L).trans M (by simp);have a0:w.heap.size<=B:=by rw[hB];exact(K.tq L).size
 rw[<-hB]at Z;have HB:=gd hB;clear aX K L M hB
 go_wp2_with(go_at_call 60;refine gB (iS _ b F a _ U) ?_)
 rw[<-HB.o]
 go_loopg [13,14,15] T.length (λq vl va vb wr=>∃(i f:Nat) (R:List gZ) (F':List Nat),R.length=q/\i<=n/\jj wr 3 vl F' ((l.take i).map vi)/\gh (sR l i R)/\gh (∀t∈R,qd d t)/\gM wr b F a f/\gh (ig a f (R.flatMap (kE k j W d)))/\gh (f+(R.flatMap (kE k j W d)).length=p+(5+5)+(T.flatMap (kE k j W d)).length)/\gh (gg [b] w wr)/\gh (∀x∈F',w.heap.size<=x))
 .exact⟨0,p+(5+5),T,[B],rfl,by omega,by simpa using Z.R,HT,a9,aY.cast (by omega),HA,gd rfl,gd o,gd (by simpa using a0)⟩
 clear Z U aY o a0;obtain⟨i,f,R,F',aQ,bi,m,aP,aO,V,a4,aN,E,s⟩:=hrel;obtain⟨A,bd,rfl,aR,bg,ab⟩:=m.T;have u:(l.take i).length=i:=by rw[zI,<-HN.o];omega
 cases R with
 | nil=>
  have aV:n<=i:=by have:=aP.o;rw[HN.o];exact this
  obtain rfl:n=i:=by omega
  have u1:decide (n<n)=false:=by simp
  have e1:l.take n=l:=by rw[HN.o,zN]
  have aW:=aN.o;rw[u];rw[u,e1]at m;have az:gh (f=p+(5+5+(T.flatMap (kE k j W d)).length)):=gd (by
   rw[show(([]:List gZ).flatMap (kE k j W d))=[]from rfl,length_nil]at aW;omega)
  clear aW e1 ab aR u;go_wp2_with fail
  go_ret2
  exact⟨_,F',rfl,m,V.cast az.o,E.o,s.o⟩
 | cons t R=>
  obtain⟨S,J,aZ⟩:=aP.o;rcases gk with _|q
  .simp at aQ
  have bh:i<n:=by rw[HN.o];exact S
  have H:=a4.o;rw[flatMap_cons]at H;have aj:=aO.o t (by simp);have X:=Nb wr b F a f k j W d t V (HP.o.Z E.o a5.o) y hk hj hw0 hw1 h1 aj H.left;have⟨a3,aB⟩:=gy H.right aZ;have an:=λw' v F0 (ho:jj w' 3 v F0 ((l.take i).map vi))=>OW w' l v F0 i t ho (by rw[<-HN.o];exact hl) S J aj.ok;have ad:i+max t.len 1<=n:=by
   rcases J with⟨r,_,_⟩|⟨r,a2,_⟩
   .rw[r];omega
   .rw[<-HN.o]at a2;omega
  have bb:t.dist<=i:=by
   rcases J with⟨_,r,_⟩|⟨_,_,_,r,_⟩
   .omega
   .exact r
  have bc:t.len<=n-i:=by omega
  have⟨a7,ay⟩:=gy an ad;have⟨tl,ai⟩:=zX t.len;have⟨td,ah⟩:=zX t.dist;have⟨tx,ar⟩:=zX t.lit;have Y:oN t=.agg #[tl,td,tx]:=by rw[ai,ah,ar];rfl
  rw[<-ah]at bb;rw[<-ai]at bc;have bk:decide (i<td)=false:=zA (by omega);have⟨ni,aV⟩:=zX (n-i);have be:(n:Int)-(i:Int)=(ni:Int):=by omega
  have u3:decide (ni<tl)=false:=zA (by omega);have ba:=gd Y;rw[u];rw[u]at m aR;rw[Y]at X;clear H S J aZ an ad ai ah ar Y aV ab aj;go_wp2_with fail;refine X.mono ?_;rintro e w3 ⟨rfl,ap,o⟩;have ae:=m.Z o (λx c hm=>by simp at hm;have:=s.o x c;omega);clear X V m;have I:=gn.new w3 187 #[tl,td,tx];have k0:=I.X 0;have k1:=I.X 1;have k2:=I.X 2;simp at k0 k1 k2;have af:=ae.alloc (.cells #[tl,td,tx] 187);have ag:=a7.o _ _ _ af;rw[ba.o]at ag;have⟨aA,al⟩:=gy ap o;clear ae af ap o I;go_wp2_with fail;refine ag.mono ?_;rintro e w5 ⟨v5,F5,rfl,ao,N⟩;clear ag k0 k1 k2;go_wp2_with fail
  go_roundg q
  .refine⟨i+max t.len 1,f+(kE k j W d t).length,R,F5,by simpa using aQ,ay.o,ao,aB,gd (λt' ht'=>aO.o t' (by simp[ht'])),(aA.o.Y ((zR [] w3).alloc _)).Z N.Z (λx c hm=>by have:=a8.o x c;have:=s.o x hm;omega),a3,gd ?_,gd ?_,gd ?_⟩
   .have:=aN.o
    rw[flatMap_cons,zC]at this;omega
   .exact((E.o.tq al.o).alloc _).trans N.Z (λx c=>.inr (s.o x c))
   .intro x c
    rcases N.new x c with h9|h9
    .exact s.o x h9
    .have:=E.o.size;have:=al.o.size;simp at h9;omega
  .omega
theorem yb{k:Nat}:∀(l:List (List Value)) (i j:Nat),(∀x∈l,x.length=k)->j<k->l.flatten[i*k+j]?=(l[i]?).bind λx=>x[j]?
 | [],i,j,_,_=>by simp
 | x::l,0,j,h,hj=>by
  have a:=h x (by simp);rw[flatten_cons,Nat.zero_mul,Nat.zero_add,getElem?_append_left (by omega)];rfl
 | x::l,i+1,j,h,hj=>by
  have a:=h x (by simp);rw[flatten_cons,zS (by rw[a,Nat.add_mul];omega),a,show(i+1)*k+j-k=i*k+j by rw[Nat.add_mul];omega,yb l i j (λy hy=>h y (by simp[hy])) hj];rfl
theorem BR{k:Nat}:∀(l:List (List Value)),(∀x∈l,x.length=k)->l.flatten.length=l.length*k
 | [],_=>by simp
 | x::l,h=>by
  rw[flatten_cons,zC,h x (by simp),BR l (λy hy=>h y (by simp[hy])),zK,Nat.add_mul];omega
theorem Hx:∀(l:List (List Value)) (i:Nat) (a b c:Value),(∀x∈l,x.length=3)->((l.flatten.set (i*3) a).set (i*3+1) b).set (i*3+2) c=(l.set i [a,b,c]).flatten
 | [],i,a,b,c,_=>by simp
 | x::l,0,a,b,c,h=>by
  have d:=h x (by simp)
  match x,d with
  | [p,q,r],_=>simp
 | x::l,i+1,a,b,c,h=>by
  have d:=h x (by simp)
  match x,d with
  | [p,q,r],_=>
   rw[set_cons_succ,flatten_cons,flatten_cons,<-Hx l i a b c (λy hy=>h y (by simp[hy])),show(i+1)*3=i*3+1+1+1 by omega,show i*3+1+1+1+1=(i*3+1)+1+1+1 by omega,show i*3+1+1+1+2=(i*3+2)+1+1+1 by omega];simp only[cons_append,nil_append,set_cons_succ]
theorem Hy:∀(l:List (List Value)) (i:Nat) (a b c d e:Value),(∀x∈l,x.length=5)->((((l.flatten.set (i*5) a).set (i*5+1) b).set (i*5+2) c).set (i*5+3) d).set (i*5+4) e=(l.set i [a,b,c,d,e]).flatten
 | [],i,a,b,c,d,e,_=>by simp
 | x::l,0,a,b,c,d,e,h=>by
  have f:=h x (by simp)
  match x,f with
  | [p,q,r,s,t],_=>simp
 | x::l,i+1,a,b,c,d,e,h=>by
  have f:=h x (by simp)
  match x,f with
  | [p,q,r,s,t],_=>
   rw[set_cons_succ,flatten_cons,flatten_cons,<-Hy l i a b c d e (λy hy=>h y (by simp[hy])),show(i+1)*5=i*5+1+1+1+1+1 by omega,show i*5+1+1+1+1+1+1=(i*5+1)+1+1+1+1+1 by omega,show i*5+1+1+1+1+1+2=(i*5+2)+1+1+1+1+1 by omega,show i*5+1+1+1+1+1+3=(i*5+3)+1+1+1+1+1 by omega,show i*5+1+1+1+1+1+4=(i*5+4)+1+1+1+1+1 by omega];simp only[cons_append,nil_append,set_cons_succ]
structure nG (w:World) (g:Nat) (t:TypeId) (k:Nat) (l:List (List Value)):Prop where
 blk:gn w g t l.flatten.toArray
 len:∀x∈l,x.length=k
section
variable {w w':World} {g k:Nat} {t:TypeId} {l:List (List Value)} {F:List Nat}
theorem nG.Z(h:nG w g t k l)(a:gg F w w')(b:g∉F):nG w' g t k l:=⟨h.blk.Z a b,h.len⟩
theorem nG.X(h:nG w g t k l){j:Nat}{x:List Value}{v:Value}(a:l[i]?=some x)(b:x[j]?=some v):w.cell? ⟨g,i*k+j,none⟩=some v:=by
 have d:=h.len x (mem_of_getElem? a);have c:j<k:=by rw[<-d];exact(List.getElem?_eq_some_iff.1 b).1
 rw[h.blk.X]
 have:=yb l i j h.len c
 rw[a]at this
 simpa[b]using this
theorem nG.set3(h:nG w g t 3 l)(i:Nat)(a b c:Value):nG (((w.setCell ⟨g,i*3,none⟩ a).setCell ⟨g,i*3+1,none⟩ b).setCell ⟨g,i*3+2,none⟩ c) g t 3 (l.set i [a,b,c]):=by
 have e:=((h.blk.S (i*3) a).S (i*3+1) b).S (i*3+2) c;refine⟨?_,λx hx=>?_⟩
 .rw[<-Hx l i a b c h.len]
  simpa using e
 .rcases mem_or_eq_of_mem_set hx with d|d
  .exact h.len x d
  .rw[d];rfl
theorem nG.set5(h:nG w g t 5 l)(i:Nat)(a b c d e:Value):nG (((((w.setCell ⟨g,i*5,none⟩ a).setCell ⟨g,i*5+1,none⟩ b).setCell ⟨g,i*5+2,none⟩ c).setCell ⟨g,i*5+3,none⟩ d).setCell ⟨g,i*5+4,none⟩ e) g t 5 (l.set i [a,b,c,d,e]):=by
 have j:=((((h.blk.S (i*5) a).S (i*5+1) b).S (i*5+2) c).S (i*5+3) d).S (i*5+4) e;refine⟨?_,λx hx=>?_⟩
 .rw[<-Hy l i a b c d e h.len]
  simpa using j
 .rcases mem_or_eq_of_mem_set hx with f|f
  .exact h.len x f
  .rw[f];rfl
theorem Qn(z:Array Value)(n:Nat)(h:0<z.size):madeCells z (n*z.size)=((replicate n z.toList).flatten).toArray:=by
 have d:∀x∈replicate n z.toList,x.length=z.size:=λx hx=>by rw[eq_of_mem_replicate hx];simp
 apply Array.ext
 .simp[size_madeCells,BR _ d]
 .intro j c m
  have a:j%z.size<z.size:=mod_lt _ h;have f:j / z.size<n:=by
   have:j<n*z.size:=by simpa[size_madeCells]using c
   exact Nat.div_lt_of_lt_mul (by rw[zY];exact this)
  have b:=yb (replicate n z.toList) (j / z.size) (j%z.size) d a;rw[show j / z.size*z.size+j%z.size=j by rw[zY];exact div_add_mod _ _,getElem?_replicate,if_pos f]at b;simp only[Option.bind_some]at b;have e:(replicate n z.toList).flatten[j]?=some z[j%z.size]:=by
   rw[b,Array.getElem?_toList,Array.getElem?_eq_getElem a]
  have e2:((replicate n z.toList).flatten.toArray)[j]=z[j%z.size]:=by
   have:=(List.getElem?_eq_some_iff.1 e).2
   simpa using this
  rw[e2];have e3:((madeCells z (n*z.size))[j]?=some (z[j%z.size]!)):=by
   unfold madeCells;rw[Array.getElem?_map,Array.getElem?_range,if_pos (by simpa[size_madeCells]using c)];rfl
  have e4:=(Array.getElem?_eq_some_iff.1 e3).2;rw[e4,getElem!_pos z _ a]
end
section
variable {P:Program}
theorem B4{t e:TypeId}{z:Value}{k a:Nat}(E:jx P t e z k a)(p:z.cells.size=k)(r:0<k)(c b:IntKind)(n:Nat)(q:a*n<=281474976710656)(j:n<=9223372036854775807)(w:World):(Instr.makeSlice t (.int c (n:Int)) (.int b (n:Int))).run P w=.ok (.slice (some ⟨w.heap.size,0,none⟩) n n) (w.alloc (.cells ((replicate n z.cells.toList).flatten).toArray e)):=by
 obtain⟨i,m,ad,d,h⟩:=E.hi;have f:(i.bytes:Int)*(n:Int)<=281474976710656:=by
  rw[h,<-Int.natCast_mul];omega
 have o:=run_make (P:=P) w t e i _ E.ht m ad c b n n (by omega) (Int.le_refl _) f (by omega);rw[o,d];simp only[Int.toNat_natCast];rw[<-p,Qn _ _ (by omega)]
end
end Go.Proofs.YtifdlkoepaepiaaGreatDoor
