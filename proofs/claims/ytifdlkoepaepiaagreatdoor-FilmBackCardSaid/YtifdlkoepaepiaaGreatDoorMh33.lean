/- Lemmas. -/
import Derived.Test.YtifdlkoepaepiaaGreatDoorMh31
import Derived.Test.YtifdlkoepaepiaaGreatDoorMh32
import Derived.Deep.CutRange
set_option linter.all false
set_option maxHeartbeats 4000000
set_option maxRecDepth 100000
namespace Go.Proofs.YtifdlkoepaepiaaGreatDoor
open Tryz List Nat Go.RowKit
variable {G G' done f:List Nat}{at2 g' i m n o' v:Nat}{c c':Nat->Nat}{B B':Nat->Option Addr}{w':World}
theorem Ow(w:World)(b:Nat)(F bs:List Nat)(lens l:List Nat)(A T:Option Addr)(cap E:Nat)(h:hJ w b F bs)(N:m8 lens)(R:gz i64 w A lens)(hA:ib A lens F)(hl:l.length<=4096)(M:gz i64 w T l)(K:ib T l F)(X:∀s∈l,s<lens.length/\0<gO lens s)(hbs:bs.length<137438953472):Calls prog 181 #[.pointer b,.slice A lens.length cap,.slice T l.length E] w λe w'=>e=.returned (.int .i64 0)/\∃F',hJ w' b F' (bs++kx lens l)/\gE F F' w w':=by
 have U:=EZ lens A cap w N R;have aE:=h.lt;have⟨n,hn⟩:=zX lens.length;have⟨m,hm⟩:=zX l.length;have aS:=N.n1;have aT:=N.n2;rw[<-hn]at U X aS aT⊢;rw[<-hm]at hl⊢;have⟨HN,HM,HS,HF⟩:=gu hn hm X N;have⟨HA,aI,az⟩:=Q9 hA K aE;clear hn hm X N hA K aE;go_enter func181,ntmps181;go_wp2_with fail;refine U.mono ?_;rintro e S ⟨vw,x,rfl,C,k,aZ⟩;obtain⟨cw,rfl,aq,aQ,ah,_⟩:=C.T;have aG:(nS lens).length=n:=by rw[HN.o];exact qu lens _
 rw[aG]at aq⊢;have aJ:=gd ah;clear U aG ah;go_wp2_with fail
 go_loopg [10,23] m (λj v10 iv wr=>∃(i:Nat),iv=.int .i64 i/\i+j=m/\wr=S)
 .exact⟨0,rfl,by omega,rfl⟩
 obtain⟨i,rfl,a0,aV⟩:=hrel;obtain rfl:=aV.symm;rcases gk with _|j
 .obtain rfl:i=m:=by omega
  go_wp2_with fail
  go_loopg [12,45] i (λj v12 iv wr2=>∃(q:Nat) (F' y:List Nat),iv=.int .i64 q/\q+j=i/\hJ wr2 b F' y/\gh (y=bs++kx lens (l.take q))/\y.length<=bs.length+24*q/\gE F F' S wr2)
  .exact⟨0,F,bs,rfl,by omega,h.Y k,gd (by simp[kx]),by omega,gE.refl F _⟩
  obtain⟨q,F',y,rfl,a1,aH,Y,aY,a⟩:=hrel;rcases gk with _|j
  .obtain rfl:q=i:=by omega
   go_wp2;go_ret;refine⟨rfl,F',?_,gE.pre k a⟩;have e:l.take q=l:=(by rw[HM.o,zN]);have h5:=Y.o;rw[e]at h5;rw[<-h5];exact aH
  .have aU:q<i:=by omega
   have P:q<l.length:=(by rw[<-HM.o];exact aU);have u:0<lens.length:=(by rw[<-HN.o];omega);obtain⟨gl,ol,rfl,I⟩:=uQ ((M.Y k).N aI.o a.Z) P;obtain⟨ad,Q⟩:=HS.o l[q] (zG P);have D:=JI lens (l.take q) l[q];rw[<-jD l P]at D;have⟨s,aj⟩:=zX (l[q]);rw[<-aj]at I ad Q D;have al:=ES HF.o Q;have aX:gO lens s<=24:=by
    unfold gO;rw[zD,zF (by rw[<-HN.o];exact ad)];exact HF.o.le _ (zG _)
   have aF:ri lens s=gx (lS lens s) (gO lens s):=rfl;rw[aF]at D
   -- the cells of the two tables
   have aD:=(R.Y k).N HA.o a.Z;obtain⟨r,O,rfl,aC,z⟩:=aD.ex u;have J:=z s (gO lens s) (by unfold gO;rw[zD,zF (by rw[<-HN.o];exact ad)];rfl);have af:=aJ.o s (lS lens s) (by unfold lS;rw[zD,zF (by unfold nS;rw[qu,<-HN.o];exact ad)];rfl);have av:x∉F':=a.o C.lt (λhm=>by have:=az.o _ hm;omega);have au:r∉F':=λhm=>by
    have h8:=(HA.o.grow (R.Y k) a) u _ rfl;exact h8 hm
   have aL:wr.cell? ⟨x,s,none⟩=some (.int .u64 (lS lens s:Int)):=(World.cell?_of_block (w:=S) (a.Z.block x C.lt (λhm=>by have:=az.o _ hm;omega))).trans af;have Z:wr.cell? ⟨r,O+s,none⟩=some (.int .i64 (gO lens s:Int)):=J;have aW:wr.cell? ⟨gl,ol+q,none⟩=some (.int .i64 s):=I;generalize lS lens s=wd at *;generalize gO lens s=L at *
   have hS:∀w',gg F' wr w'->w'.cell? ⟨x,s,none⟩=some (.int .u64 wd)/\w'.cell? ⟨r,O+s,none⟩=some (.int .i64 L):=λw' hc'=>
    ⟨(World.cell?_of_block (w:=wr) (hc'.block x (Nat.lt_of_lt_of_le C.lt a.size) av)).trans aL,(World.cell?_of_block (w:=wr) (hc'.block r aC au)).trans Z⟩
   have⟨aA,aK,ao⟩:=Q9 hS D al;have aM:(0:Int)<=(q:Int):=(by omega);have aN:(q:Int)<(i:Int):=(by omega);have aO:(0:Int)<=(s:Int):=(by omega);have aP:(s:Int)<(n:Int):=(by omega);clear hS D al z J I af aj aF P u aD C;go_wp2_with fail;have ax:=λw9 (hc9:gg [] wr w9)=>iG w9 b F' y wd L (aH.Y hc9) (by omega) ao.o (by omega)
   go_region_held3 (λw'=>w'.cell? ⟨x,s,none⟩=some (.int .u64 wd)/\w'.cell? ⟨r,O+s,none⟩=some (.int .i64 L)) (first|(go_keep;done)|exact aA.o _ (((zR F' wr).drew).tq (gE.Z (by assumption)))|exact aA.o _ (gE.Z (by assumption)))
    (first|(go_at_call 42;refine(ax _ (by first|exact zR _ _|exact(zR [] wr).drew|exact(zR [] wr).drewN _)).mono ?_;rintro e w5 ⟨rfl,F5,ay,ar⟩))
   go_wp2_with fail
   go_roundg j
   .refine⟨q+1,F5,_,by go_num,by omega,ay,gd ?_,?_,a.trans (gE.pre ((zR [] wr).drew) ar)⟩
    .rw[aK.o,Y.o];simp only[zH]
    .rw[zC,gH];omega
   .omega
 .have aR:i<m:=by omega
  have V:i<l.length:=by rw[<-HM.o];exact aR
  obtain⟨gl,ol,rfl,I⟩:=uQ (M.Y k) V;obtain⟨ad,Q⟩:=HS.o l[i] (zG V);have u:0<lens.length:=by rw[<-HN.o];omega
  have⟨s,aj⟩:=zX (l[i]);rw[<-aj]at I ad Q;obtain⟨r,O,rfl,aC,z⟩:=(R.Y k).ex u;have J:=z s (gO lens s) (by unfold gO;rw[zD,zF (by rw[<-HN.o];exact ad)];rfl);have Z:S.cell? ⟨r,O+s,none⟩=some (.int .i64 (gO lens s:Int)):=J;have t1:=Ra s 0 (by omega);have t3:((gO lens s:Int)==0)=false:=by rw[beq_eq_false_iff_ne];omega
  have aM:(0:Int)<=(i:Int):=by omega
  have aN:(i:Int)<(m:Int):=by omega
  have aO:(0:Int)<=(s:Int):=by omega
  have aP:(s:Int)<(n:Int):=by omega
  generalize gO lens s=L at *;clear J z aj V u;go_wp2_with fail
  go_roundg j
  .exact⟨i+1,by go_num,by omega,rfl⟩
  .omega
theorem Dg(w:World)(b:Nat)(F bs:List Nat)(lens:List Nat)(A:Option Addr)(cap:Nat)(h:hJ w b F bs)(C:m8 lens)(hc:gz i64 w A lens)(hA:ib A lens F)(hbs:bs.length<137438953472):Calls prog 180 #[.pointer b,.slice A lens.length cap] w λe w'=>e=.returned (.int .i64 0)/\∃F',hJ w' b F' (bs++ou lens)/\gE F F' w w':=by
 have R:=Ff lens A cap w C hc;have aL:=C.n1;have aM:=C.n2;have az:=C.le;have T:=CI lens;have⟨n,hn⟩:=zX lens.length;rw[<-hn]at R aL aM T⊢;rw[T];have⟨HN,HA,aG⟩:=Q9 hn hA az;have al:=λi=>Hq 66 (lens.drop i);have aC:=λi=>xP 66 (lens.drop i);have aF:=λi=>GR 66 (lens.drop i);have aE:=λi=>Pv 66 (lens.drop i);have⟨ao,aH,aJ,aI⟩:=gu al aC aF aE;clear hn hA T az C al aC aF aE;have k1:IntKind.u64.wrap ((n:Int)-1)=((n-1:Nat):Int):=by
  have e:((n-1:Nat):Int)=(n:Int)-1:=by omega
  rw[e];exact IntWalk.u64_in _ (by omega)
 go_enter func180,ntmps180;go_wp2_with fail;refine gB R ?_;go_wp2_with fail;refine(iG w b F bs (n-1) 10 h (by omega) (by omega) (by omega)).mono ?_;rintro e w1 ⟨rfl,F1,aj,ai⟩;clear h R;go_wp2_with fail
 go_loopg [5,6] n (λk vi' vz wr=>∃(i:Nat) (F' u:List Nat),vi'=.int .i64 i/\i<=n/\n<=i+k/\hJ wr b F' u/\gh (u++mU lens i=bs++(gx (n-1) 10++mU lens 0))/\u.length<=bs.length+10+11*i/\gE F F' w wr)
 .exact⟨0,F1,_,rfl,by omega,by omega,aj,gd (by rw[zH]),by rw[zC,gH];omega,ai⟩
 clear aj ai;obtain⟨D,rfl⟩:=zX wr;obtain⟨i,F',u,rfl,aK,aV,U,O,aT,E⟩:=hrel;by_cases hend:n<=i
 .obtain rfl:i=n:=by omega
  go_wp2;go_ret;refine⟨rfl,F',?_,E⟩;have h5:=O.o;have e:=Ct lens;rw[<-HN.o]at e;rw[e,append_nil]at h5;rw[<-h5];exact U
 .rcases gk with _|ko
  .omega
  .have J:i<n:=by omega
   have⟨Z,hZ⟩:=zX (zr 66 (lens.drop i));have z1:=ao.o i;have z2:=aH.o i;have V:=aJ.o i;have M:=aI.o i;rw[<-hZ]at z1 z2 V M;rw[zO,<-HN.o]at z2 M;have S:∀z,(lens.drop i).getD z 0=gO lens (i+z):=λz=>by
    unfold gO;rw[zD,getElem?_drop,<-zD]
   have ad:0<lens.length:=(by rw[<-HN.o];omega);obtain⟨gt,ot,rfl,aU,ay⟩:=(hc.N HA.o E.Z).ex ad;have ac:∀s,s<n->D.cell? ⟨gt,ot+s,none⟩=some (.int .i64 (gO lens s:Int)):=λs hs=>by
    have:=ay s (gO lens s) (by unfold gO;rw[zD,zF (by rw[<-HN.o];exact hs)];rfl)
    exact this
   have r:=Cu (lens:=lens) (i:=i) (by rw[<-HN.o];exact J);have a:=Ci (lens:=lens) (i:=i) (by rw[<-HN.o];exact J);rw[<-hZ]at r a;have aP:gO lens i<=24:=by
    unfold gO;rw[zD,zF (by rw[<-HN.o];exact J)];exact aG.o _ (zG _)
   have⟨HC,HZ⟩:=gy ac hZ;have Z3:gh (∀z,z<Z->gO lens (i+z)=0):=gd λz hz=>by rw[<-S];exact V z hz
   have Z4:gh (Z=66\/Z=n-i\/gO lens (i+Z)≠0):=gd (by rw[<-S];exact M);have⟨an,ah⟩:=gy r a;clear ac hZ V M S ay r a ad hend aK;go_wp2_with fail
   go_loopg [6] Z (λk vz wz=>∃z:Nat,vz=.int .i64 z/\z+k=Z/\wz=D)
   .exact⟨0,rfl,by omega,rfl⟩
   obtain⟨z,rfl,aY,X⟩:=hrel;obtain rfl:=X.symm;clear X;rcases gk with _|j
   .obtain rfl:z=Z:=by omega
    go_upto_region 7 with fail
    go_cut [38]from 20 to 40 (λs38 wx=>s38=.bool false/\wx=D)
    case first=>
     by_cases q1:z=66
     .have K:=Ra z 66 (by omega)
      clear q1;go_wp2;go_meet
      case rel=>exact⟨rfl,rfl⟩
     .have K:=jo z 66 (by omega)
      by_cases q2:i+z<n
      .have aN:gO lens (i+z)≠0:=by
        rcases Z4.o with h|h|h
        .omega
        .omega
        .exact h
       have I:=HC.o (i+z) q2;have⟨q,hq⟩:=zX (i+z);rw[<-hq]at I q2 aN;have aO:(i:Int)+(z:Int)=(q:Int):=(by omega);have t2:=jo q n (by omega);have t3:((gO lens q:Int)==0)=false:=(by rw[beq_eq_false_iff_ne];omega);have ax:(0:Int)<=(q:Int):=(by omega);generalize gO lens q=L at *;clear hq q1;go_wp2;go_meet
       case rel=>exact⟨rfl,rfl⟩
      .have t2:decide ((i:Int)+(z:Int)<(n:Int))=false:=zA (by omega)
       clear q1;go_wp2;go_meet
       case rel=>exact⟨rfl,rfl⟩
    case rest=>
     obtain⟨rfl,h9⟩:=hcut;obtain rfl:=h9.symm;clear h9;by_cases hz3:z<3
     .have K:=jo z 3 (by omega)
      have r:=an.o hz3;have ci:=HC.o i J;have ak:gO lens i<2^5:=(by omega);generalize gO lens i=x at *;have ax:(0:Int)<=(i:Int):=(by omega);have aS:(i:Int)<(n:Int):=(by omega);have⟨HO,HX⟩:=gy r ak;clear r hz3 ak;go_wp2_with fail;refine(iG D b F' u x 5 U (by omega) HX.o (by omega)).mono ?_;rintro e w5 ⟨rfl,N,Q,P⟩;go_wp2_with fail
      go_roundg ko
      .refine⟨i+1,N,_,by go_num,by omega,by omega,Q,gd ?_,?_,E.trans P⟩
       .rw[<-O.o,HO.o,zH]
       .rw[zC,gH];omega
      .omega
     .have K:=Ra z 3 (by omega)
      have a:=ah.o hz3;have⟨y,hy⟩:=zX (z-3);rw[<-hy]at a;have aW:(z:Int)-3=(y:Int):=(by omega);have aX:IntKind.u64.wrap (y:Int)=(y:Int):=IntWalk.u64_in _ (by omega);have Y:y<2^6:=(by omega);have⟨HO,HY⟩:=gy a Y;have aR:i+z<=n:=(by omega);clear a hz3 Y hy;go_wp2_with fail;refine(iG D b F' u 31 5 U (by omega) (by omega) (by omega)).mono ?_;rintro e w5 ⟨rfl,N,Q,P⟩;go_wp2_with fail;refine(iG w5 b N _ y 6 Q (by omega) HY.o (by rw[zC,gH];omega)).mono ?_;rintro e w6 ⟨rfl,F6,aw,ar⟩;go_wp2_with fail
      go_roundg ko
      .refine⟨i+z,F6,_,by go_num,by omega,by omega,aw,gd ?_,?_,(E.trans P).trans ar⟩
       .rw[<-O.o,HO.o];simp only[zH]
       .rw[zC,zC,gH,gH];omega
      .omega
   .have aQ:z<Z:=by omega
    have K:=jo z 66 (by omega);have aD:i+z<n:=(by omega);have I:=HC.o (i+z) aD;rw[Z3.o z aQ]at I;have⟨q,hq⟩:=zX (i+z);rw[<-hq]at I aD;have aO:(i:Int)+(z:Int)=(q:Int):=(by omega);have t2:=jo q n (by omega);have ax:(0:Int)<=(q:Int):=(by omega);clear hq;go_wp2_with fail
    go_roundg j
    .exact⟨z+1,by go_num,by omega,rfl⟩
    .omega
theorem Ag(j:List Nat)(h:j≠[]):Lib.maxOf (j.map Int.ofNat)=((jG j:Nat):Int):=by
 have k:∀(l:List Nat) (a:Nat),(l.map Int.ofNat).foldl max (a:Int)=((l.foldl max a:Nat):Int):=by
  intro l
  induction l with
  | nil=>intro a;rfl
  | cons x l ih=>
   intro a;have e:max (a:Int) (Int.ofNat x)=((max a x:Nat):Int):=by
    show max (a:Int) (x:Int)=_;omega
   simp only[map_cons,foldl_cons];rw[e,ih]
 cases j with
 | nil=>exact absurd rfl h
 | cons x l=>
  unfold Lib.maxOf jG;show((x::l).map Int.ofNat).foldl max (x:Int)=_;rw[k];simp
def j7(f:List Nat):List Nat:=(range (jG f+1)).map λv=>f.count v
def nx(m:Nat)(f:List Nat):List Nat:=(range m).map λv=>f.count v
theorem vX(m:Nat)(f:List Nat):(nx m f).length=m:=by simp[nx]
theorem Ll(m:Nat):nx m []=replicate m 0:=by
 apply ext_getElem
 .simp[nx]
 .intro i a e;simp[nx]
theorem Ac(f:List Nat)(h:v<m):(nx m f)[v]?=some (f.count v):=by simp[nx,h]
theorem Kr{x:Nat}(f:List Nat)(h:x<m):nx m (f++[x])=(nx m f).set x (f.count x+1):=by
 apply ext_getElem?;intro i;rw[getElem?_set,vX];by_cases hi:i<m
 .rw[Ac _ hi]
  by_cases e:x=i
  .subst e
   rw[if_pos rfl,if_pos h,count_append];simp
  .rw[if_neg e,Ac _ hi,count_append]
   have:count i [x]=0:=by
    rw[count_eq_zero];simp;omega
   rw[this];rfl
 .have a:(nx m (f++[x]))[i]?=none:=getElem?_eq_none (by rw[vX];omega)
  rw[a];by_cases e:x=i
  .omega
  .rw[if_neg e]
   exact(getElem?_eq_none (by rw[vX];omega)).symm
theorem um(f:List Nat):(j7 f).length=jG f+1:=by simp[j7]
theorem zg(h:v<=jG f):(j7 f).getD v 0=f.count v:=by
 simp[j7,zD,show v<jG f+1 by omega]
theorem NL(f:List Nat):∀x∈j7 f,x<=f.length:=by
 intro x a;obtain⟨v,_,rfl⟩:=List.mem_map.1 a;exact count_le_length
theorem CZ(h:f≠[]):0<(iZ (j7 f) (j7 f).length).length:=by
 cases f with
 | nil=>exact absurd rfl h
 | cons x l=>
  have k:x<=jG (x::l):=uN (by simp);have a:=ua (j7 (x::l)) x (j7 (x::l)).length;rw[um,zg k,if_pos ⟨by omega,by simp⟩]at a;rw[um];have e:0<iu x (iZ (j7 (x::l)) (jG (x::l)+1)):=by omega
  obtain⟨w,j⟩:=qY.1 e;exact length_pos_of_mem j
def pM(l:List Int)(W d:Nat):List Nat:=mI (j7 (jH l W d))
def pL(l:List Int)(W d:Nat):List Nat:=ou (pM l W d)++kx (pM l W d) (jH l W d)
theorem DG(l:List Int)(W d:Nat):(pR l W d).map vi=(jH l W d).map i64:=by
 unfold pR;rw[map_map];rfl
theorem Ji(w:World)(b:Nat)(F bs:List Nat)(l:List Int)(A:Option Addr)(cap W d:Nat)(h:hJ w b F bs)(hw0:1<=W)(hw1:W<=16)(h0:1<=d)(h1:d<=16)(C:0<l.length)(hl:l.length<=256)(hlW:l.length<=64*W)(E:ie d l)(hc:gz vi w A l)(hA:ib A l F)(D:jG (jH l W d)<256)(hbs:bs.length<68719476736):Calls prog 129 #[.pointer b,.slice A l.length cap,W,d] w λe w'=>e=.returned (.tuple #[])/\∃F',hJ w' b F' (bs++pL l W d)/\gE F F' w w':=by
 have y:=z8 l A cap W d w h0 h1 hw0 (by omega) hlW E hc (by omega);have k:=tY l W d;rw[DG]at y;have ba:pL l W d=ou (mI (j7 (jH l W d)))++kx (mI (j7 (jH l W d))) (jH l W d):=rfl;rw[ba];have⟨f,hf⟩:=zX (jH l W d);rw[<-hf]at y k D⊢;have⟨n,hn⟩:=zX l.length;rw[<-hn]at y k C hl⊢;have⟨M,hM⟩:=zX (jG f);rw[<-hM]at D;have ay:f≠[]:=by intro e;rw[e]at k;simp at k;omega
 have a7:∀x∈f,x<=M:=λx hx=>by rw[hM];exact uN hx
 have bp:=kg (P:=prog) iO rfl .i64 .i64 (M+1) (by omega) (by omega);have a9:=h.lt;have⟨ak,aZ,HM,a2⟩:=gu k a7 hM ay;have a1:=gd a9;clear hf hn hM k a7 ay a9 E hA hc ba;go_enter func129,ntmps129;go_wp2_with fail;refine y.mono ?_;rintro e w1 ⟨fv,r,rfl,a,S,bD⟩;obtain⟨fc,rfl,bj,bk,_,_⟩:=a.T;rw[ak.o]at bj⊢;have a4:gz vi w1 (some ⟨r,0,none⟩) (f.map Int.ofNat):=by
  have e:f.map i64=(f.map Int.ofNat).map vi:=by rw[map_map];rfl
  have h9:=a;rw[e]at h9;exact h9.R.cells
 have a5:gz i64 w1 (some ⟨r,0,none⟩) f:=a.R.cells;have am:(f.map Int.ofNat).length=n:=by rw[zE];exact ak.o
 have an:=slices_Max_int r 0 n fc (f.map Int.ofNat) w1 C (by rw[am];exact zQ _) (by omega) (gz.getD_ a4);rw[zT (by rw[am];exact zQ _),Ag f a2.o,<-HM.o]at an;have bG:=S.size;have bl:=a.lt;clear y a4 am;have⟨M1,aO⟩:=zX (M+1);have bh:(M:Int)+1=(M1:Int):=by omega
 rw[<-aO]at bp;go_wp2_with fail;refine an.mono ?_;rintro e w' ⟨rfl,rfl⟩;have⟨B,hB⟩:=zX w'.heap.size;have⟨w2,aF⟩:=zX (w'.alloc (.cells (Array.replicate M1 (Value.int .i64 0)) 3));have bd:gv w2 3 (.slice B M1 M1) B ((nx M1 (f.take 0)).map i64):=by
  rw[aF,hB,take_zero,Ll];exact gv.zerosN w' M1 (by omega)
 have a3:=H4 aF;have aP:=a5.Y a3;have aJ:=S.tq a3;have⟨bg,HB⟩:=gy aF hB;have aN:r≠B:=by omega
 have I:=gd aO;clear an aF hB aO a a5 S;go_wp2_with fail;rw[<-bg.o,<-HB.o]
 go_loopg [11,24] n (λj v11 iv wr=>∃(i:Nat),iv=.int .i64 i/\i+j=n/\gv wr 3 (.slice B M1 M1) B ((nx M1 (f.take i)).map i64)/\gg [B] w2 wr)
 .exact⟨0,rfl,by omega,bd,zR _ _⟩
 clear bd;obtain⟨wk,rfl⟩:=zX wr;obtain⟨i,rfl,bE,a,J⟩:=hrel;have al:=aP.N (λ_ ad e hm=>by
  injection e with e;subst e;simp at hm;exact aN hm) J
 rcases gk with _|j
 .obtain rfl:i=n:=by omega
  have a8:nx M1 (f.take i)=j7 f:=by
   rw[zT (by rw[ak.o];exact zQ _),I.o,HM.o];rfl
  rw[a8]at a;have a6:gz i64 wk (some ⟨B,0,none⟩) (j7 f):=a.R.cells;have X:(j7 f).length=M1:=by rw[um,<-HM.o,I.o]
  have V:=Lw wk (j7 f) (some ⟨B,0,none⟩) M1 (by omega) (by omega) (λx hx=>by have:=NL f x hx;rw[ak.o]at this;omega) (CZ a2.o) a6;rw[X]at V;have U:gg [] w wk:=aJ.trans J (λx hx=>by rw[zU.1 hx];right;have:=HB.o;omega);have bu:=h.Y U;have bf:=gd X;have bH:=U.size;clear a6 a a8 X h J;go_wp2_with fail;refine V.mono ?_;rintro e w3 ⟨lv,R,rfl,aq,N,T,bF⟩;obtain⟨lc,rfl,bn,bo,_,_⟩:=aq.T;have Q:gz i64 w3 (some ⟨R,0,none⟩) (mI (j7 f)):=aq.R.cells;have aB:∀s∈f,s<(mI (j7 f)).length/\0<gO (mI (j7 f)) s:=λs E=>by
   have bq:=aZ.o s E;have be:s<(j7 f).length:=(by rw[bf.o,I.o];omega);refine⟨by rw[N.len];exact be,(N.used s be).2 ?_⟩;rw[zg (by rw[<-HM.o];exact bq)];exact List.count_pos_iff.2 E
  have ac:=N.full;have O:ib (some ⟨R,0,none⟩) (mI (j7 f)) F:=λ_ ad e hm=>by
   injection e with e;subst e
   have:=a1.o _ hm
   simp at this;omega
  have aw:ib (some ⟨r,0,none⟩) f F:=λ_ ad e hm=>by
   injection e with e;subst e
   have:=a1.o _ hm
   simp at this;omega
  have ax:=al.Y T;have aV:=bu.Y T;have aM:=U.tq T;have⟨av,ab⟩:=gy aB ac;have a0:gh ((mI (j7 f)).length<=1024):=gd ac.n2;have⟨ap,af⟩:=zX (mI (j7 f));have au:=gd af;rw[<-af]at Q av ab O bn a0⊢;have bc:=Dg w3 b F bs ap (some ⟨R,0,none⟩) lc aV ab.o Q O (by omega);clear V aq N aB ac af al;go_wp2_with fail;refine bc.mono ?_;rintro e w4 ⟨rfl,F4,aW,u⟩;have br:=yC ap;have bb:=Ow w4 b F4 _ ap f (some ⟨R,0,none⟩) (some ⟨r,0,none⟩) lc fc aW ab.o (Q.N O u.Z) (O.grow Q u) (by rw[ak.o];omega) (ax.N aw u.Z) (aw.grow ax u) av.o (by rw[zC];have:=a0.o;omega);rw[ak.o]at bb;clear bc br;go_wp2_with fail;refine bb.mono ?_;rintro e w5 ⟨rfl,F5,aX,aQ⟩;go_wp2_with fail
  go_end0
  refine⟨rfl,F5,?_,(gE.pre aM u).trans aQ⟩;rw[<-zH,<-au.o];exact aX
 .have bm:i<n:=by omega
  have K:i<f.length:=by rw[ak.o];exact bm
  obtain⟨g9,o9,z,cl⟩:=uQ al K;injection z with z;injection z with z e10 _;subst z;subst e10;rw[Nat.zero_add]at cl;have bv:=aZ.o f[i] (zG K);have Z:=jD f K;have⟨x,hx⟩:=zX (f[i]);rw[<-hx]at cl bv Z;have aY:x<M1:=by have:=I.o;omega
  have Y:=Kr (f.take i) aY;rw[<-Z]at Y;have bi:(f.take i).count x<=256:=Nat.le_trans count_le_length (by rw[zI];omega);obtain⟨bw,ee,_,_,aj,aA⟩:=a.T;have cq:=aj x ((f.take i).count x) (Ac _ aY);have fq:=aA x;have ao:=a.S (i:=x) (by rw[zE,vX];exact aY) (i64 ((f.take i).count x+1));rw[<-map_set,<-Y]at ao;generalize (f.take i).count x=c at *;have bx:wk.cell? ⟨B,x,none⟩=some (.int .i64 c):=cq;have ag:gv (wk.setCell ⟨B,x,none⟩ (.int .i64 ((c+1:Nat):Int))) 3 (.slice B M1 M1) B ((nx M1 (f.take (i+1))).map i64):=ao;have e2:((c+1:Nat):Int)=(c:Int)+1:=by simp
  rw[e2]at ag;have aH:=gd ag;have bz:(0:Int)<=(i:Int):=by omega
  have bA:(i:Int)<(n:Int):=by omega
  have bB:(0:Int)<=(x:Int):=by omega
  have bC:(x:Int)<(M1:Int):=by omega
  clear ee aj aA ao ag Y Z hx K cq e2 a;go_wp2_with fail
  go_roundg j
  .exact⟨i+1,by go_num,by omega,aH.o,J.setCell (.inl (by simp)) _⟩
  .omega
def iE(k:Nat)(l:List Int)(W d:Nat):Bool:=
 if k=0 then decide ((iA l).length=1)else if k<=5 then true else if k=6 then decide ((iA l).length<=16)else if k=7 then decide (jG (jH l W d)<256)else false
structure mf (w:World) (l:List Int) (A:Option Addr) (W H d:Nat):Prop where
 w0:1<=W
 w1:W<=16
 h0:1<=H
 h1:H<=16
 d0:1<=d
 d1:d<=16
 len:l.length=W*H
 smp:ie d l
 cells:gz vi w A l
theorem mf.pos{w:World}{l:List Int}{A:Option Addr}{W H d:Nat}(t:mf w l A W H d):0<l.length:=by rw[t.len];exact Nat.mul_pos t.w0 t.h0
theorem mf.le{w:World}{l:List Int}{A:Option Addr}{W H d:Nat}(t:mf w l A W H d):l.length<=256:=by rw[t.len];exact zL t.w1 t.h1
theorem mf.leW{w:World}{l:List Int}{A:Option Addr}{W H d:Nat}(t:mf w l A W H d):l.length<=64*W:=by
 rw[t.len,zY];exact mul_le_mul_right W (Nat.le_trans t.h1 (by decide))
theorem mf.Z{w:World}{l:List Int}{A:Option Addr}{W H d:Nat}{F:List Nat}(t:mf w l A W H d)(hA:ib A l F)(a:gg F w w'):mf w' l A W H d:=
 { t with cells:=t.cells.N hA a }
theorem mf.Y{w:World}{l:List Int}{A:Option Addr}{W H d:Nat}(t:mf w l A W H d)(a:gg [] w w'):mf w' l A W H d:=
 { t with cells:=t.cells.Y a }
def lQ(k:Nat)(w:World)(l:List Int)(W d:Nat)(e:Ending)(w':World):Prop:=e=.returned (.bool (iE k l W d))/\gg [] w w'
section
variable {w:World} {l:List Int} {A:Option Addr} {W H d:Nat} (cap:Nat) (t:mf w l A W H d)
include t
theorem MG(k:Nat)(r:1<=k)(j:k<=5):Calls prog 106 #[k,.slice A l.length cap,W,H,d] w (lQ k w l W d):=by
 have e:=ue l A cap W H d w t.w0 t.w1 t.h0 t.h1 t.d0 t.d1 t.len t.smp t.cells;have a:iE k l W d=true:=by unfold iE;rw[if_neg (by omega),if_pos j]
 unfold lQ;rw[a];rcases(by omega:k=1\/k=2\/k=3\/k=4\/k=5)with rfl|rfl|rfl|rfl|rfl
 all_goals
  clear t a;go_enter func106,ntmps106
  go_wp2_with(go_at_call 105;refine gB e ?_)
  go_ret;exact⟨rfl,zR _ _⟩
theorem N9:Calls prog 106 #[.int .i64 (0:Nat),.slice A l.length cap,W,H,d] w (lQ 0 w l W d):=by
 have s:=ue l A cap W H d w t.w0 t.w1 t.h0 t.h1 t.d0 t.d1 t.len t.smp t.cells;have r:=yH l A cap w t.pos (by have:=t.le;omega) t.cells;have a:iE 0 l W d=decide ((iA l).length=1):=by unfold iE;rw[if_pos rfl]
 have u:(((iA l).length:Int)==1)=decide ((iA l).length=1):=by
  by_cases h:(iA l).length=1
  .rw[h];rfl
  .rw[zA h,beq_eq_false_iff_ne];omega
 unfold lQ;rw[a];generalize (iA l).length=k at *;generalize decide (k=1)=bb at *;clear t a;go_enter func106,ntmps106
 go_wp2_with(first|(go_at_call 105;refine gB s ?_)|(go_at_call 130;refine r.mono ?_;rintro e x ⟨g,c,rfl,_,_,_,_,j⟩))
 go_ret;exact⟨rfl,j⟩
theorem JZ:Calls prog 106 #[.int .i64 (6:Nat),.slice A l.length cap,W,H,d] w (lQ 6 w l W d):=by
 have s:=ue l A cap W H d w t.w0 t.w1 t.h0 t.h1 t.d0 t.d1 t.len t.smp t.cells;have r:=yH l A cap w t.pos (by have:=t.le;omega) t.cells;have a:iE 6 l W d=decide ((iA l).length<=16):=by unfold iE;rw[if_neg (by omega),if_neg (by omega),if_pos rfl]
 have u:decide (((iA l).length:Int)<=16)=decide ((iA l).length<=16):=by
  by_cases h:(iA l).length<=16
  .rw[zB h];exact zB (by omega)
  .rw[zA h];exact zA (by omega)
 unfold lQ;rw[a];generalize (iA l).length=k at *;generalize decide (k<=16)=bb at *;clear t a;go_enter func106,ntmps106
 go_wp2_with(first|(go_at_call 105;refine gB s ?_)|(go_at_call 130;refine r.mono ?_;rintro e x ⟨g,c,rfl,_,_,_,_,j⟩))
 go_ret;exact⟨rfl,j⟩
theorem J0:Calls prog 106 #[.int .i64 (7:Nat),.slice A l.length cap,W,H,d] w (lQ 7 w l W d):=by
 have y:=ue l A cap W H d w t.w0 t.w1 t.h0 t.h1 t.d0 t.d1 t.len t.smp t.cells;have ad:=z8 l A cap W d w t.d0 t.d1 t.w0 (by have:=t.w1;omega) t.leW t.smp t.cells (by have:=t.le;omega);have a:=tY l W d;have hp:=t.pos;have K:=t.le;rw[DG]at ad;have D:iE 7 l W d=decide (jG (jH l W d)<256):=by unfold iE;rw[if_neg (by omega),if_neg (by omega),if_neg (by omega),if_pos rfl]
 unfold lQ;rw[D];have⟨f,hf⟩:=zX (jH l W d);rw[<-hf]at ad a⊢;have S:decide (((jG f:Nat):Int)<256)=decide (jG f<256):=by
  by_cases h:jG f<256
  .rw[zB h];exact zB (by omega)
  .rw[zA h];exact zA (by omega)
 have x:f≠[]:=by intro e;rw[e]at a;simp at a;omega
 have N:=Ag f x;generalize jG f=M at *;generalize decide (M<256)=bb at *;have⟨n,hn⟩:=zX l.length;rw[<-hn]at a y ad hp K⊢;have s:=gd a;clear t D hf hn a x;go_enter func106,ntmps106
 go_wp2_with(first|(go_at_call 105;refine gB y ?_))
 refine ad.mono ?_;rintro e E ⟨R,z,rfl,k,I,Q⟩;obtain⟨O,rfl,J,P,_,_⟩:=k.T;rw[s.o]at J⊢;have u:gz vi E (some ⟨z,0,none⟩) (f.map Int.ofNat):=by
  have e:f.map i64=(f.map Int.ofNat).map vi:=by rw[map_map];rfl
  have C:=k;rw[e]at C;exact C.R.cells
 have j:(f.map Int.ofNat).length=n:=by rw[zE];exact s.o
 have r:=slices_Max_int z 0 n O (f.map Int.ofNat) E hp (by rw[j];exact zQ _) (by omega) (gz.getD_ u);rw[zT (by rw[j];exact zQ _),N]at r;clear ad u j k;go_wp2_with fail;refine gB r ?_;go_wp2;go_ret;exact⟨rfl,I⟩
theorem pT(k:Nat)(a:k<=7):Calls prog 106 #[k,.slice A l.length cap,W,H,d] w (lQ k w l W d):=by
 rcases(by omega:k=0\/(1<=k/\k<=5)\/k=6\/k=7)with rfl|h|rfl|rfl
 .exact N9 cap t
 .exact MG cap t k h.1 h.2
 .exact JZ cap t
 .exact J0 cap t
end
def AH(l:List Int)(W d:Nat):List Nat:=nL (l5 l (d+1) 12) W d
def N0(k:Nat)(l:List Int)(W H d:Nat):List Nat:=
 if k=0 then gx (l.getD 0 0).toNat d else if k=1 then iq l d else if k=2 then pF l W H d else if k=3 then kw l W d (W*H)
 else if k=4 then AH l W d else if k=5 then pG l W d else if k=6 then pE l d else pL l W d
def ik(k:Nat)(l:List Int)(W H d:Nat):List Nat:=gx k 3++N0 k l W H d
def kF(w:World)(b:Nat)(F bs ts:List Nat)(e:Ending)(w':World):Prop:=e=.returned (.int .i64 0)/\∃F',hJ w' b F' (bs++ts)/\gE F F' w w'
section
variable {w:World} {l:List Int} {A:Option Addr} {W H d:Nat} (cap:Nat) (t:mf w l A W H d) (b:Nat) (F bs:List Nat) (h:hJ w b F bs) (hA:ib A l F) (hp:iK w) (h0F:0∉F) (hbs:bs.length<34359738368)
include t h hA hp h0F hbs
theorem LR(I:iE 0 l W d=true):Calls prog 102 #[.pointer b,.int .i64 (0:Nat),.slice A l.length cap,W,H,d] w (kF w b F bs (ik 0 l W H d)):=by
 have j:=pT cap t 0 (by omega);unfold lQ at j;rw[I]at j;unfold kF;have D:∀X:List Nat,bs++(gx 0 3++X)=bs++gx 0 3++X:=λX=>(zH _ _ _).symm;have y:ik 0 l W H d=gx 0 3++gx (l.getD 0 0).toNat d:=rfl;rw[y,D];have⟨HT,HA⟩:=gy t hA;have r:=mZ t.smp 0;have C:=t.pos;have⟨x,hx⟩:=zX (l.getD 0 0);rw[<-hx]at r⊢;have s:x=((x.toNat:Nat):Int):=(Int.toNat_of_nonneg r.1).symm;have ad:x.toNat<2^d:=by
  have e2:((2^d:Nat):Int)=(2:Int)^d:=by simp
  omega
 have⟨k,hk⟩:=zX x.toNat;rw[<-hk]at s ad⊢;have U:k<65536:=Nat.lt_of_lt_of_le ad (by have:=Nat.pow_le_pow_right (n:=2) (by decide) t.d1;exact this);have⟨HX,ao⟩:=gy (And.intro hx s) ad;have T:=t.d1;clear hx r s ad hk;clear t hA I D y;go_enter func102,ntmps102;go_wp2_with fail;refine j.mono ?_;rintro e S ⟨rfl,z⟩;go_wp2_with fail;refine(iG S b F bs 0 3 (h.Y z) (by omega) (by omega) (by omega)).mono ?_;rintro e J ⟨rfl,K,P,N⟩;have a:=gE.pre z N;have R:=HT.o.Z HA.o a.Z;have Y:=HA.o.grow HT.o.cells a;have Z:(bs++gx 0 3).length<68719476736:=by rw[zC,gH];omega
 obtain⟨g,o,rfl,u⟩:=R.cells.at_ C;have E:l[0]=(k:Int):=by
  rw[<-HX.o.2,HX.o.1,zD,zF C];rfl
 rw[E]at u;have V:J.cell? ⟨g,o,none⟩=some (.int .i64 k):=u;clear u E;go_wp2_with fail;refine(iG J b K _ k d P (by omega) ao.o (by omega)).mono ?_;rintro e w3 ⟨rfl,M,Q,O⟩;go_wp2_with fail;go_ret;exact⟨rfl,M,Q,a.trans O⟩
theorem KF(u:iE 1 l W d=true):Calls prog 102 #[.pointer b,.int .i64 (1:Nat),.slice A l.length cap,W,H,d] w (kF w b F bs (ik 1 l W H d)):=by
 have j:=pT cap t 1 (by omega);unfold lQ at j;rw[u]at j;unfold kF;have s:∀X:List Nat,bs++(gx 1 3++X)=bs++gx 1 3++X:=λX=>(zH _ _ _).symm;have k:ik 1 l W H d=gx 1 3++iq l d:=rfl;rw[k,s];have⟨HT,HA⟩:=gy t hA;clear t hA u s k;go_enter func102,ntmps102;go_wp2_with fail;refine j.mono ?_;rintro e K ⟨rfl,r⟩;go_wp2_with fail;refine(iG K b F bs 1 3 (h.Y r) (by omega) (by omega) (by omega)).mono ?_;rintro e M ⟨rfl,x,D,z⟩;have a:=gE.pre r z;have ad:=HT.o.Z HA.o a.Z;have I:=HA.o.grow HT.o.cells a;have N:(bs++gx 1 3).length<68719476736:=by rw[zC,gH];omega
 have J:=Ax M b x _ l A cap d D ad.d1 (by have:=ad.le;omega) ad.smp ad.cells I (by omega);go_wp2_with fail;refine J.mono ?_;rintro e O ⟨rfl,y,E,C⟩;go_wp2_with fail;go_ret;exact⟨rfl,y,E,a.trans C⟩
theorem JA(u:iE 2 l W d=true):Calls prog 102 #[.pointer b,.int .i64 (2:Nat),.slice A l.length cap,W,H,d] w (kF w b F bs (ik 2 l W H d)):=by
 have ad:=pT cap t 2 (by omega);unfold lQ at ad;rw[u]at ad;unfold kF;have s:∀X:List Nat,bs++(gx 2 3++X)=bs++gx 2 3++X:=λX=>(zH _ _ _).symm;have k:ik 2 l W H d=gx 2 3++pF l W H d:=rfl;rw[k,s];have⟨HT,HA⟩:=gy t hA;clear t hA u s k;go_enter func102,ntmps102;go_wp2_with fail;refine ad.mono ?_;rintro e M ⟨rfl,r⟩;go_wp2_with fail;refine(iG M b F bs 2 3 (h.Y r) (by omega) (by omega) (by omega)).mono ?_;rintro e N ⟨rfl,x,D,z⟩;have j:=gE.pre r z;have a:=HT.o.Z HA.o j.Z;have I:=HA.o.grow HT.o.cells j;have J:(bs++gx 2 3).length<68719476736:=by rw[zC,gH];omega
 have K:=JC N b x _ l A cap W H d D a.w0 a.w1 a.h0 a.h1 a.d0 a.d1 a.len a.smp a.cells I J;go_wp2_with fail;refine K.mono ?_;rintro e O ⟨rfl,y,E,C⟩;go_wp2_with fail;go_ret;exact⟨rfl,y,E,j.trans C⟩
theorem Jf(u:iE 3 l W d=true):Calls prog 102 #[.pointer b,.int .i64 (3:Nat),.slice A l.length cap,W,H,d] w (kF w b F bs (ik 3 l W H d)):=by
 have ad:=pT cap t 3 (by omega);unfold lQ at ad;rw[u]at ad;unfold kF;have s:∀X:List Nat,bs++(gx 3 3++X)=bs++gx 3 3++X:=λX=>(zH _ _ _).symm;have k:ik 3 l W H d=gx 3 3++kw l W d (W*H):=rfl;rw[k,s];have⟨HT,HA⟩:=gy t hA;clear t hA u s k;go_enter func102,ntmps102;go_wp2_with fail;refine ad.mono ?_;rintro e K ⟨rfl,r⟩;go_wp2_with fail;refine(iG K b F bs 3 3 (h.Y r) (by omega) (by omega) (by omega)).mono ?_;rintro e M ⟨rfl,x,D,z⟩;have j:=gE.pre r z;have a:=HT.o.Z HA.o j.Z;have I:=HA.o.grow HT.o.cells j;have N:(bs++gx 3 3).length<68719476736:=by rw[zC,gH];omega
 have J:=O4 M b x _ l A cap W H d D a.w0 (by have:=a.w1;omega) a.h0 (by have:=a.h1;omega) a.d0 a.d1 a.len a.smp a.cells I (by omega);go_wp2_with fail;refine J.mono ?_;rintro e O ⟨rfl,y,E,C⟩;go_wp2_with fail;go_ret;exact⟨rfl,y,E,j.trans C⟩
theorem J5(r:iE 4 l W d=true):Calls prog 102 #[.pointer b,.int .i64 (4:Nat),.slice A l.length cap,W,H,d] w (kF w b F bs (ik 4 l W H d)):=by
 have s:=pT cap t 4 (by omega);unfold lQ at s;rw[r]at s;unfold kF;have I:∀X:List Nat,bs++(gx 4 3++X)=bs++gx 4 3++X:=λX=>(zH _ _ _).symm;have y:ik 4 l W H d=gx 4 3++AH l W d:=rfl;rw[y,I];have⟨HT,HA⟩:=gy t hA;have E:AH l W d=nL (l5 l (d+1) 12) W d:=rfl;rw[E];have ay:=t.d1;clear E;clear t hA r I y;go_enter func102,ntmps102;go_wp2_with fail;refine s.mono ?_;rintro e w1 ⟨rfl,D⟩;go_wp2_with fail;refine(iG w1 b F bs 4 3 (h.Y D) (by omega) (by omega) (by omega)).mono ?_;rintro e w2 ⟨rfl,F2,z,S⟩;have j:=gE.pre D S;have a:=HT.o.Z HA.o j.Z;have aD:(bs++gx 4 3).length<68719476736:=by rw[zC,gH];omega
 have Z:0∉F2:=j.o hp.lt h0F;have az:=hp.Z j.Z h0F;have k:=N6 l A cap (d+1) 12 w2 (by have:=a.le;omega) a.cells (by omega) (by omega) (by omega) (by omega);have O:=zj l (d+1) 12;have x:=DI a.smp (d+1) 12;have J:((d+1:Nat):Int)=(d:Int)+1:=by simp
 rw[J]at k;have⟨T,hT⟩:=zX (l5 l (d+1) 12);rw[<-hT]at k O x;have⟨aw,av⟩:=gy hT x;clear hT;have V:=gd z.lt;clear x J;go_wp2_with fail;refine k.mono ?_;rintro e w4 ⟨K,R,rfl,P,u,Y⟩;have N:=Oe w4 b F2 _ T K R W d (z.Y u) (az.Y u) Z a.w0 (by have:=a.w1;omega) a.d0 a.d1 (by have:=a.le;omega) av.o P (λad e r=>by have:=Y ad e;have:=V.o _ r;omega) (by omega);clear k;go_wp2_with fail;refine N.mono ?_;rintro e w3 ⟨rfl,M,C,Q⟩;have U:=gE.pre u Q;rw[aw.o]at C;go_wp2_with fail;go_ret;exact⟨rfl,M,C,j.trans U⟩
theorem J6(u:iE 5 l W d=true):Calls prog 102 #[.pointer b,.int .i64 (5:Nat),.slice A l.length cap,W,H,d] w (kF w b F bs (ik 5 l W H d)):=by
 have ad:=pT cap t 5 (by omega);unfold lQ at ad;rw[u]at ad;unfold kF;have s:∀X:List Nat,bs++(gx 5 3++X)=bs++gx 5 3++X:=λX=>(zH _ _ _).symm;have k:ik 5 l W H d=gx 5 3++pG l W d:=rfl;rw[k,s];have⟨HT,HA⟩:=gy t hA;clear t hA u s k;go_enter func102,ntmps102;go_wp2_with fail;refine ad.mono ?_;rintro e M ⟨rfl,r⟩;go_wp2_with fail;refine(iG M b F bs 5 3 (h.Y r) (by omega) (by omega) (by omega)).mono ?_;rintro e N ⟨rfl,x,D,z⟩;have j:=gE.pre r z;have a:=HT.o.Z HA.o j.Z;have I:=HA.o.grow HT.o.cells j;have J:(bs++gx 5 3).length<68719476736:=by rw[zC,gH];omega
 have K:=J7 N b x _ l A cap W d D a.w0 a.w1 a.d0 a.d1 a.le a.leW a.smp a.cells I J;go_wp2_with fail;refine K.mono ?_;rintro e O ⟨rfl,y,E,C⟩;go_wp2_with fail;go_ret;exact⟨rfl,y,E,j.trans C⟩
theorem Je(a:iE 6 l W d=true):Calls prog 102 #[.pointer b,.int .i64 (6:Nat),.slice A l.length cap,W,H,d] w (kF w b F bs (ik 6 l W H d)):=by
 have k:=pT cap t 6 (by omega);unfold lQ at k;rw[a]at k;have s:(iA l).length<=16:=by
  unfold iE at a;rw[if_neg (by omega),if_neg (by omega),if_pos rfl]at a;exact of_decide_eq_true a
 unfold kF;have x:∀X:List Nat,bs++(gx 6 3++X)=bs++gx 6 3++X:=λX=>(zH _ _ _).symm;have r:ik 6 l W H d=gx 6 3++pE l d:=rfl;rw[r,x];have⟨HT,HA,HK⟩:=Q9 t hA s;clear s;clear t hA a x r;go_enter func102,ntmps102;go_wp2_with fail;refine k.mono ?_;rintro e N ⟨rfl,u⟩;go_wp2_with fail;refine(iG N b F bs 6 3 (h.Y u) (by omega) (by omega) (by omega)).mono ?_;rintro e O ⟨rfl,y,E,C⟩;have j:=gE.pre u C;have ad:=HT.o.Z HA.o j.Z;have J:=HA.o.grow HT.o.cells j;have K:(bs++gx 6 3).length<68719476736:=by rw[zC,gH];omega
 have M:=Jh O b y _ l A cap d E ad.d0 ad.d1 ad.pos ad.le ad.smp ad.cells J HK.o K;go_wp2_with fail;refine M.mono ?_;rintro e P ⟨rfl,z,I,D⟩;go_wp2_with fail;go_ret;exact⟨rfl,z,I,j.trans D⟩
theorem Jg(j:iE 7 l W d=true):Calls prog 102 #[.pointer b,.int .i64 (7:Nat),.slice A l.length cap,W,H,d] w (kF w b F bs (ik 7 l W H d)):=by
 have k:=pT cap t 7 (by omega);unfold lQ at k;rw[j]at k;have r:jG (jH l W d)<256:=by
  unfold iE at j;rw[if_neg (by omega),if_neg (by omega),if_neg (by omega),if_pos rfl]at j;exact of_decide_eq_true j
 unfold kF;have x:∀X:List Nat,bs++(gx 7 3++X)=bs++gx 7 3++X:=λX=>(zH _ _ _).symm;have s:ik 7 l W H d=gx 7 3++pL l W d:=rfl;rw[s,x];have⟨HT,HA,HK⟩:=Q9 t hA r;clear r;clear t hA j x s;go_enter func102,ntmps102;go_wp2_with fail;refine k.mono ?_;rintro e N ⟨rfl,u⟩;go_wp2_with fail;refine(iG N b F bs 7 3 (h.Y u) (by omega) (by omega) (by omega)).mono ?_;rintro e O ⟨rfl,y,E,C⟩;have ad:=gE.pre u C;have a:=HT.o.Z HA.o ad.Z;have J:=HA.o.grow HT.o.cells ad;have K:(bs++gx 7 3).length<68719476736:=by rw[zC,gH];omega
 have M:=Ji O b y _ l A cap W d E a.w0 a.w1 a.d0 a.d1 a.pos a.le a.leW a.smp a.cells J HK.o K;go_wp2_with fail;refine M.mono ?_;rintro e P ⟨rfl,z,I,D⟩;go_wp2_with fail;go_ret;exact⟨rfl,z,I,ad.trans D⟩
theorem Ay(k:Nat)(e:k<=7)(a:iE k l W d=true):Calls prog 102 #[.pointer b,k,.slice A l.length cap,W,H,d] w (kF w b F bs (ik k l W H d)):=by
 rcases(by omega:k=0\/k=1\/k=2\/k=3\/k=4\/k=5\/k=6\/k=7)with rfl|rfl|rfl|rfl|rfl|rfl|rfl|rfl
 .exact LR cap t b F bs h hA hp h0F hbs a
 .exact KF cap t b F bs h hA hp h0F hbs a
 .exact JA cap t b F bs h hA hp h0F hbs a
 .exact Jf cap t b F bs h hA hp h0F hbs a
 .exact J5 cap t b F bs h hA hp h0F hbs a
 .exact J6 cap t b F bs h hA hp h0F hbs a
 .exact Je cap t b F bs h hA hp h0F hbs a
 .exact Jg cap t b F bs h hA hp h0F hbs a
end
def nc(k:Nat)(l:List Int)(W H d:Nat):Nat:=(ik k l W H d).length
theorem Mb(k:Nat)(l:List Int)(W H d:Nat):3<=nc k l W H d:=by
 unfold nc ik;rw[zC,gH];omega
def kn(l:List Int)(W H d:Nat):Nat->Nat × Nat
 | 0=>(1,0)
 | m+1=>if iE m l W d=true/\((kn l W H d m).2=0\/nc m l W H d<(kn l W H d m).2)then(m,nc m l W H d)else kn l W H d m
def m6(l:List Int)(W H d:Nat):Nat:=(kn l W H d 8).1
theorem N8(l:List Int)(W d:Nat):iE 1 l W d=true:=by unfold iE;rw[if_neg (by omega),if_pos (by omega)]
theorem FH(l:List Int)(W H d:Nat):∀m,((kn l W H d m).2=0->(kn l W H d m).1=1/\∀k,k<m->iE k l W d=false)/\((kn l W H d m).2≠0->(kn l W H d m).1<m/\iE (kn l W H d m).1 l W d=true/\(kn l W H d m).2=nc (kn l W H d m).1 l W H d/\∀k,k<m->iE k l W d=true->(kn l W H d m).2<=nc k l W H d)
 | 0=>⟨λ_=>⟨rfl,λk h=>by omega⟩,λh=>absurd rfl h⟩
 | m+1=>by
  obtain⟨a,j⟩:=FH l W H d m;have hp:=Mb m l W H d;unfold kn;generalize kn l W H d m=s at *;by_cases hc:iE m l W d=true/\(s.2=0\/nc m l W H d<s.2)
  .rw[if_pos hc]
   refine⟨λh=>by simp only at h;omega,λ_=>⟨by simp only;omega,hc.1,rfl,λk hk hm=>?_⟩⟩;simp only;by_cases e:k=m
   .rw[e];exact zQ _
   .rcases hc.2 with r|r
    .have:=(a r).2 k (by omega)
     rw[hm]at this;cases this
    .have:=(j (by omega)).2.2.2 k (by omega) hm
     omega
  .rw[if_neg hc]
   refine⟨λh=>⟨(a h).1,λk hk=>?_⟩,λh=>?_⟩
   .by_cases e:k=m
    .subst e
     cases hm:iE k l W d with
     | false=>rfl
     | true=>exact absurd ⟨hm,.inl h⟩ hc
    .exact(a h).2 k (by omega)
   .obtain⟨z,u,x,y⟩:=j h
    refine⟨by omega,u,x,λk hk hm=>?_⟩;by_cases e:k=m
    .subst e
     have:¬nc k l W H d<s.2:=λh5=>hc ⟨hm,.inr h5⟩
     omega
    .exact y k (by omega) hm
theorem sW(l:List Int)(W H d:Nat):m6 l W H d<=7/\iE (m6 l W H d) l W d=true/\∀k,k<=7->iE k l W d=true->nc (m6 l W H d) l W H d<=nc k l W H d:=by
 obtain⟨e,j⟩:=FH l W H d 8;have a:(kn l W H d 8).2≠0:=λh=>by
  have:=(e h).2 1 (by omega)
  rw[N8]at this;cases this
 obtain⟨x,r,s,u⟩:=j a;unfold m6;exact⟨by omega,r,λk hk hm=>by rw[<-s];exact u k (by omega) hm⟩
section
variable {w:World} {l:List Int} {A:Option Addr} {W H d:Nat} (cap:Nat) (t:mf w l A W H d) (hp:iK w)
include t hp
theorem OS(k:Nat)(u:k<=7)(y:iE k l W d=true):Calls prog 107 #[k,.slice A l.length cap,W,H,d] w λe w'=>e=.returned (.int .i64 (nc k l W H d))/\gg [] w w':=by
 have⟨w1,aa⟩:=zX (w.alloc (.cells #[.slice none 0 0,(0:Int)] 90));have⟨B,hB⟩:=zX w.heap.size;have s:hJ w1 B [B] []:=by rw[aa,hB];exact hJ.new w
 have a:=H4 aa;have J:=hp.lt;have j:ib A l [B]:=ib.fresh t.cells (F:=[B]) (by rw[hB];simp);have ad:=Ay cap (t.Y a) B [B] [] s j (hp.Y a) (by simp;omega) (by simp) k u y;have r:nc k l W H d=(ik k l W H d).length:=rfl;rw[r];unfold kF at ad;rw[nil_append]at ad;generalize ik k l W H d=ts at *;have C:gh (∀x∈[B],w.heap.size<=x):=gd (by intro x K;rw[zU.1 K,hB];exact zQ _);have⟨aj,ai⟩:=gy aa hB;clear t hp y u aa hB s j r J;go_enter func107,ntmps107;go_wp2_with fail;rw[<-aj.o,<-ai.o];refine ad.mono ?_;rintro e M ⟨rfl,z,E,D⟩;have I:=Bg M B z ts E;go_wp2_with fail;refine gB I ?_;go_wp2;go_ret;exact⟨rfl,D.fresh C.o a⟩
variable (b:Nat) (F bs:List Nat) (h:hJ w b F bs) (hA:ib A l F) (h0F:0∉F) (hbs:bs.length<34359738368)
include h hA h0F hbs
theorem Hk:Calls prog 82 #[.pointer b,.slice A l.length cap,W,H,d] w (kF w b F bs (ik (m6 l W H d) l W H d)):=by
 have X:=ue l A cap W H d w t.w0 t.w1 t.h0 t.h1 t.d0 t.d1 t.len t.smp t.cells;have I:=λk (hk:k<=7) w' (hc:gg [] w w')=>pT cap (t.Y hc) k hk;have O:=λk (hk:k<=7) (hm:iE k l W d=true) w' (hc:gg [] w w')=>OS cap (t.Y hc) (hp.Y hc) k hk hm;have D:=sW l W H d;have J:=λw' (hc:gg [] w w')=>Ay cap (t.Y hc) b F bs (h.Y hc) hA (hp.Y hc) h0F hbs (m6 l W H d) D.1 D.2.1;unfold lQ at I;unfold kF at J⊢;have s:m6 l W H d=(kn l W H d 8).1:=rfl;generalize ik (m6 l W H d) l W H d=ts at *;have⟨HM,HC,az,ay⟩:=gu I O J s;clear I O J D s t hp h hA;go_enter func82,ntmps82
 go_wp2_with(go_at_call 105;refine gB X ?_)
 go_loopg [11,12,13,14,21] 8 (λj vb vl vk vc iv wr=>∃(m bk a:Nat),iv=.int .i64 m/\vb=.int .i64 bk/\vl=.int .i64 a/\m+j=8/\gh (kn l W H d m=(bk,a))/\gg [] w wr)
 .exact⟨0,1,0,rfl,rfl,rfl,rfl,gd rfl,zR _ _⟩
 obtain⟨m,bk,a,rfl,rfl,rfl,aC,N,u⟩:=hrel;rcases gk with _|j
 .obtain rfl:m=8:=by omega
  have S:=az.o wr u;have s:=ay.o;rw[N.o]at s;have P:m6 l W H d=bk:=s;rw[P]at S;clear s P;go_wp2_with fail;refine S.mono ?_;rintro e w2 ⟨rfl,U,Z,Y⟩;go_wp2;go_ret;exact⟨rfl,U,Z,gE.pre u Y⟩
 .have R:m<=7:=by omega
  have x:=HM.o m R wr u;have M:=HC.o m R;have y:kn l W H d (m+1)=if iE m l W d=true/\((kn l W H d m).2=0\/nc m l W H d<(kn l W H d m).2)then(m,nc m l W H d)else kn l W H d m:=rfl;rw[N.o]at y;simp only at y;have z:=gd y;clear y
  cases hmb:iE m l W d with
  | false=>
   rw[hmb]at x;have r:gh (kn l W H d (m+1)=(bk,a)):=gd (by rw[z.o,if_neg (by rw[hmb];simp)]);have K:=gd hmb;clear hmb M;go_wp2_with fail;refine x.mono ?_;rintro e T ⟨rfl,C⟩;go_wp2_with fail
   go_roundg j
   .exact⟨m+1,bk,a,by go_num,rfl,rfl,by omega,r,u.tq C⟩
   .omega
  | true=>
   rw[hmb]at x;have E:=M hmb;have⟨c,hc⟩:=zX (nc m l W H d);rw[<-hc]at E;have⟨am,K⟩:=gy hc hmb;clear hmb M hc;go_wp2_with fail;refine x.mono ?_;rintro e T ⟨rfl,C⟩;have Q:=E T (u.tq C);clear x E;go_wp2_with fail;refine Q.mono ?_;rintro e w2 ⟨rfl,V⟩;have ad:=(u.tq C).tq V;clear Q;by_cases hl0:a=0
   .have t1:((a:Int)==0)=true:=by rw[beq_iff_eq];omega
    have r:gh (kn l W H d (m+1)=(m,c)):=gd (by rw[z.o,if_pos ⟨K.o,.inl hl0⟩,am.o]);clear hl0;go_wp2_with fail
    go_roundg j
    .exact⟨m+1,m,c,by go_num,rfl,rfl,by omega,r,ad⟩
    .omega
   .have t1:((a:Int)==0)=false:=by rw[beq_eq_false_iff_ne];omega
    by_cases hlt:c<a
    .have t2:decide (c<a)=true:=zB hlt
     have r:gh (kn l W H d (m+1)=(m,c)):=gd (by rw[z.o,if_pos ⟨K.o,.inr (by rw[<-am.o];exact hlt)⟩,am.o]);clear hl0 hlt;go_wp2_with fail
     go_roundg j
     .exact⟨m+1,m,c,by go_num,rfl,rfl,by omega,r,ad⟩
     .omega
    .have t2:decide (c<a)=false:=zA hlt
     have r:gh (kn l W H d (m+1)=(bk,a)):=gd (by rw[z.o,if_neg (by rw[<-am.o];intro h;rcases h.2 with h|h<;>omega)]);clear hl0 hlt;go_wp2_with fail
     go_roundg j
     .exact⟨m+1,bk,a,by go_num,rfl,rfl,by omega,r,ad⟩
     .omega
end
def mw(x:Int):Prop:=-9223372036854775808<=x/\x<=9223372036854775807
def pV(x lo hi:Int):Int:=if lo<=x/\x<=hi then x else if x.tmod (hi-lo+1)<0 then lo+(x.tmod (hi-lo+1)+hi-lo+1)else lo+x.tmod (hi-lo+1)
theorem EP(x:Int){a hi:Int}(h:a<=hi):a<=pV x a hi/\pV x a hi<=hi:=by
 unfold pV;have e:=Int.tmod_lt_of_pos x (show 0<hi-a+1 by omega);have j:=Int.lt_tmod_of_pos x (show 0<hi-a+1 by omega);split
 .assumption
 .split<;>omega
theorem EQ(x a j:Int)(w:World)(J:mw x)(D : -1099511627776<=a)(E:a<=j)(I:j<=1099511627776):Calls prog 8 #[x,a,j] w λe w'=>e=.returned (.int .i64 (pV x a j))/\w=w':=by
 obtain⟨z,ad⟩:=J;by_cases hin:a<=x/\x<=j
 .have K:decide (a<=x)=true:=zB hin.1
  have M:decide (x<=j)=true:=zB hin.2;have e:pV x a j=x:=by unfold pV;rw[if_pos hin]
  rw[e];clear hin D E I z ad e;go_enter func8,ntmps8;go_wp2;go_ret;exact⟨rfl,rfl⟩
 .have s:pV x a j=if x.tmod (j-a+1)<0 then a+(x.tmod (j-a+1)+j-a+1)else a+x.tmod (j-a+1):=by unfold pV;rw[if_neg hin]
  have⟨m,hm⟩:=zX (j-a+1);have u:0<m:=by omega
  rw[<-hm]at s;have⟨q,hq⟩:=zX (x.tmod m);have Q:q<m:=by rw[hq];exact Int.tmod_lt_of_pos x u
  have P : -m<q:=by rw[hq];exact Int.lt_tmod_of_pos x u
  rw[<-hq]at s;have R:j-a+1=m:=hm.symm;have e2:x.tmod m=q:=hq.symm;have O:m≠0:=by omega
  rw[s];clear hm hq s;have C:∀k r,decide (a<=x)=k->decide (x<=j)=r->(k&&r)=false->Calls prog 8 #[x,a,j] w λe w'=>e=.returned (.int .i64 (if q<0 then a+(q+j-a+1)else a+q))/\w=w':=by
   intro k r K M y;by_cases hneg:q<0
   .have N:decide (q<0)=true:=zB hneg
    rw[if_pos hneg];cases k<;>cases r<;>simp at y
    all_goals
     clear hin;go_enter func8,ntmps8;go_wp2;go_ret;exact⟨rfl,rfl⟩
   .have N:decide (q<0)=false:=zA hneg
    rw[if_neg hneg];cases k<;>cases r<;>simp at y
    all_goals
     clear hin;go_enter func8,ntmps8;go_wp2;go_ret;exact⟨rfl,rfl⟩
  refine C _ _ rfl rfl ?_
  cases h:(decide (a<=x)&&decide (x<=j))with
  | false=>rfl
  | true=>
   rw[Bool.and_eq_true,decide_eq_true_eq,decide_eq_true_eq]at h;exact absurd h hin
structure jv (w:World) (b:Nat) (A:Option Addr) (cap:Nat) (L:List Int) (at_:Nat):Prop where
 blk:gn w b 52 #[.slice A L.length cap,at_]
 cells:gz vi w A L
 apt:ib A L [b]
 in64:∀x∈L,mw x
 at_le:at_<=L.length
 len:L.length<=9223372036854775807
theorem jv.Y{w:World}{b cap at_:Nat}{A:Option Addr}{L:List Int}(h:jv w b A cap L at_){F:List Nat}(a:gg F w w')(e:b∉F)(hA:ib A L F):jv w' b A cap L at_:=
 { h with blk:=h.blk.Z a e,cells:=h.cells.N hA a }
theorem GN{w:World}{b cap at_:Nat}{A:Option Addr}{L:List Int}(h:jv w b A cap L at_)(a:at_<L.length)(n1 n2:Nat):jv (((w.drewN n1).setCell ⟨b,1,none⟩ (.int .i64 ((at_:Int)+1))).drewN n2) b A cap L (at_+1)/\gg [b] w (((w.drewN n1).setCell ⟨b,1,none⟩ (.int .i64 ((at_:Int)+1))).drewN n2):=by
 have j:gg [b] w (((w.drewN n1).setCell ⟨b,1,none⟩ (.int .i64 ((at_:Int)+1))).drewN n2):=(((zR [b] w).drewN n1).zs 1 (.int .i64 ((at_:Int)+1))).drewN n2;have k:=((h.blk.drewN n1).S 1 (.int .i64 ((at_:Int)+1))).drewN n2;have e:((at_+1:Nat):Int)=(at_:Int)+1:=by simp
 refine⟨⟨?_,h.cells.N h.apt j,h.apt,h.in64,a,h.len⟩,j⟩;rw[e]
 simpa using k
theorem mN(w:World)(b cap at_ n:Nat)(A:Option Addr)(L:List Int)(h:jv w b A cap L at_)(Q:1<=n)(R:n<=1073741824):Calls prog 17 #[.pointer b,n] w λe w'=>∃v at':Nat,e=.returned v/\v<n/\jv w' b A cap L at'/\gg [b] w w':=by
 have E:=h.blk.X 0;have P:=h.blk.X 1;simp at E P;have a:=gd h;have⟨m,hm⟩:=zX L.length;rw[<-hm]at E;have t2:=Ra n 1 (by omega);by_cases hend:at_=m
 .have t1:=jB m at_ (by omega)
  have O:decide (m<=at_)=true:=zB (by omega);clear h hm hend;go_enter func17,ntmps17;go_wp2
  go_quiet (fail)
  go_wp2;go_ret;exact⟨0,at_,rfl,by omega,a.o.Y ((zR [] w).drewN nq) (by simp) (λ_ _ _=>by simp),(zR [b] w).drewN nq⟩
 .have D:at_<m:=by have:=h.at_le;omega
  have K:at_<L.length:=by rw[<-hm];exact D
  have O:decide (m<=at_)=false:=zA (by omega);obtain⟨g,o,rfl,u⟩:=h.cells.at_ K;have C:=h.in64 L[at_] (zG _);have Z:g≠b:=by
   have:=h.apt (by omega) _ rfl
   simpa using this
  have⟨x,hx⟩:=zX (L[at_]);rw[<-hx]at u C;have s:=λw=>EQ x 0 1073741824 w C (by omega) (by omega) (by omega);have j:=EP x (show(0:Int)<=1073741824 by omega);have⟨y,hy⟩:=zX (pV x 0 1073741824);rw[<-hy]at s j;obtain⟨k,I⟩:∃k:Nat,(k:Int)=y:=⟨y.toNat,Int.toNat_of_nonneg j.1⟩;rw[<-I]at s j;have ad:k%n<n:=mod_lt _ (by omega);have hbs:=h.blk.S 1 (.int .i64 ((at_:Int)+1));have S:=h.len;have f1:=h.blk.U 1;have V:w.cell? ⟨g,o+at_,none⟩=some (.int .i64 x):=u;have N:(k:Int).tmod (n:Int)=((k%n:Nat):Int):=by rw[Int.tmod_eq_emod_of_nonneg (by omega)];simp
  have T:(n:Int)≠0:=by omega
  have⟨r,hr⟩:=zX (k%n);rw[<-hr]at N ad;have M:=gd ad;have X:(0:Int)<=(at_:Int):=by omega
  have Y:(at_:Int)<(m:Int):=by omega
  have U:(at_:Int)+1-1=(at_:Int):=by omega
  have J:=gd hm;clear h hm hend u hy I hr ad hx hbs;go_enter func17,ntmps17;go_wp2
  go_quiet (fail)
  go_wp2
  go_quiet ((go_at_call 8;exact sV (s _)))
  go_wp2;go_ret;have z:at_<L.length:=by rw[<-J.o];exact D
  exact⟨r,at_+1,rfl,M.o,(GN a.o z _ _).1,(GN a.o z _ _).2⟩
theorem K2(x:Int)(l:List Int)(n:Nat):iq (x::l) n=gx x.toNat n++iq l n:=rfl
theorem Kf(l:List Int)(n:Nat)(a:m<l.length):iq (l.drop m) n=gx (l[m]).toNat n++iq (l.drop (m+1)) n:=by
 rw[drop_eq_getElem_cons a,K2]
theorem xk(w:World)(b:Nat)(F k:List Nat)(p d:Nat)(l:List Int)(h:gM w b F k p)(hd:d<=16)(hs:ie d l)(hl:l.length<=4096)(ha:ig k p (iq l d)):Calls prog 112 #[.pointer b,l.length,d] w λe w'=>∃v g,e=.returned v/\gv w' 3 v g (l.map vi)/\gM w' b F k (p+(iq l d).length)/\gg [b] w w'/\w.heap.size<=g:=by
 have⟨HS,HA⟩:=gy hs ha;have aL:=h.lt b h.mem;have ay:=h.lt;have⟨n,hn⟩:=zX l.length;rw[<-hn]at hl⊢;have aM:=kg (P:=prog) iO rfl .i64 .i64 n (by omega) (by omega);have E:=gd hn;have K:=gv.zeros w n (by omega);have⟨B,hB⟩:=zX w.heap.size;have M:gg [] w (w.alloc (.cells (replicate n (Value.int .i64 0)).toArray 3)):=(zR [] w).alloc _;have ah:=h.Y M;have aG:b≠B:=by omega
 have aA:gh (∀y∈F,y∉[B]):=gd (λy hy hm=>by have:=ay y hy;simp at hm;omega);rw[<-hB]at K;have D:=gd hB;clear hn hs ha hB h ay;go_enter func112,ntmps112;go_wp2_with fail;rw[<-D.o]
 go_loopg [13] n (λj iv wr=>∃(done:List Int) (r:Nat),iv=.int .i64 done.length/\done.length+j=n/\gh (done=l.take done.length)/\gv wr 3 (.slice B n n) B ((ia done n).map vi)/\gM wr b F k r/\gh (ig k r (iq (l.drop done.length) d))/\gh (r+(iq (l.drop done.length) d).length=p+(iq l d).length)/\gh (gg [b] w wr))
 .exact⟨[],p,rfl,by simp,gd (by simp),K,ah,by simpa using HA,gd (by simp),gd (M.mono (by simp))⟩
 clear K M ah;obtain⟨done,r,rfl,O,Y,u,R,V,I,av⟩:=hrel;have⟨m,hm⟩:=zX done.length;rcases gk with _|j
 .rw[<-hm]at O V I⊢
  obtain rfl:m=n:=by omega
  have a:=gd hm;clear hm O;go_wp2;go_ret;have e:done=l:=by rw[Y.o,<-a.o,E.o,zN]
  have e2:l.drop m=[]:=by rw[E.o,drop_length]
  have hp:=I.o;rw[e2]at hp;rw[q7 a.o.symm,e]at u;exact⟨_,B,rfl,u,R.cast (by simpa[iq]using hp),av.o,by have:=D.o;omega⟩
 .have Q:m<l.length:=by rw[<-E.o];omega
  have C:=Kf l d Q;have S:=jD l Q;have⟨x,hx⟩:=zX (l[m]);have U:=HS.o l[m] (zG _);rw[<-hx]at C U S;obtain⟨X,hX⟩:∃X:Nat,X=x.toNat:=⟨_,rfl⟩;have T:x=(X:Int):=by omega
  have z:=V.o;rw[<-hm,C,<-hX]at z;have N:X<2^d:=by
   have e:(2:Int)^d=((2^d:Nat):Int):=by simp
   have:=U.2
   rw[e,T]at this;omega
  have aF:X<65536:=Nat.lt_of_lt_of_le N (show 2^d<=2^16 from Nat.pow_le_pow_right (by decide) hd);have ag:=iU wr b F k r d X R (by omega) N z.left;have⟨az,aC,aD,aE⟩:=gu z.right C S T;have⟨ak,a⟩:=gy u hm;have aI:m+(j+1)=n:=by omega
  rw[<-hm];clear Q C S hx U z N hX T R u hm O;go_wp2_with fail;refine ag.mono ?_;rintro e w1 ⟨rfl,aK,aw⟩;have ad:=ak.o.Z aw (by simpa using aG.symm);obtain⟨aH,aJ⟩:=ad.fill_cell (by have:=a.o;omega);have J:=ad.fill (by have:=a.o;omega) (X:Int);rw[<-a.o]at aH aJ J;have aB:=gd J;have ax:(ia done n).length=n:=nM (by have:=a.o;omega);clear ag ad J;go_wp2
  go_roundg j
  .have Z:gg [B] w1 (w1.setCell ⟨B,m,none⟩ (.int .i64 X)):=(zR _ _).setCell (.inl (by simp)) _
   have s:(done++[(X:Int)]).length=m+1:=(by rw[zC,length_singleton,<-a.o]);refine⟨done++[(X:Int)],r+d,by rw[s];go_num,by rw[s];omega,?_,aB.o,aK.Z Z aA.o,?_,?_,?_⟩
   .rw[s,aD.o,aE.o]
    have:=Y.o
    rw[<-a.o]at this;rw[<-this];exact gd rfl
   .rw[s]
    have:=az.o
    rw[gH]at this;exact gd this
   .rw[s]
    have h1:=I.o;have h2:=aC.o;rw[<-a.o,h2,zC,gH]at h1;exact gd (by omega)
   .exact gd ((av.o.tq aw).trans Z λy hy=>.inr (by have:=D.o;simp at hy;omega))
  .omega
theorem Ke(x:Int)(l:List Int)(n:Nat):iq (x::l) n=gx x.toNat n++iq l n:=rfl
theorem xF(l:List Int)(n:Nat):(iq l n).length=n*l.length:=by
 induction l with
 | nil=>rfl
 | cons x l ih=>rw[Ke,zC,gH,ih,zK,Nat.mul_add];omega
theorem LC{l:List Nat}{B:Nat}(h:∀x∈l,x<=B):jG l<=B:=by
 unfold jG
 suffices H:∀(l:List Nat) (m:Nat),m<=B->(∀x∈l,x<=B)->l.foldl max m<=B from H l 0 (zero_le _) h
 intro l
 induction l with
 | nil=>intro m e _;exact e
 | cons x l ih=>intro m e a;exact ih _ (by have := a x (by simp);omega) (λy hy=>a y (by simp[hy]))
theorem Ju(w:World)(b:Nat)(F r:List Nat)(p:Nat)(l:List Int)(W H d:Nat)(h:gM w b F r p)(P:1<=W)(hw1:W<=16)(O:1<=H)(hh1:H<=16)(z:1<=d)(X:d<=16)(hl:l.length=W*H)(hs:ie d l)(Y:ig r p (pF l W H d)):Calls prog 113 #[.pointer b,W,H,d] w λe w'=>∃v g,e=.returned (.tuple #[v,(0:Int)])/\gv w' 3 v g (l.map vi)/\gM w' b F r (p+(pF l W H d).length)/\gg [b] w w'/\w.heap.size<=g:=by
 have bf:pF l W H d=iq (mi l W H d) 4++qC (k8 l W H d) (W*H):=rfl;rw[bf]at Y⊢;rw[zC];have I:=zi l W H d;have bi:=Ev l W H d;have D:=λhr=>xk w b F r p 4 (mi l W H d) hr (by omega) bi (by rw[I];omega) Y.left;have aS:=Y.right;have N:=Aa l W H d;have be:=zf l W H d z X;have⟨m,hm⟩:=zX (W*H);have bH:1<=m:=by rw[hm];exact Nat.mul_pos P O
 have bk:m<=256:=by rw[hm];exact zL hw1 hh1
 have bQ:(W:Int)*(H:Int)=(m:Int):=by rw[hm];simp
 have aQ:k8 l W H d=(nf l W H d (jI l W H d)).map λv=>ii v d:=rfl;have M:=Mq l W H d (jI l W H d);rw[<-aQ]at M;have a8:=Fe l W H d (jI l W H d);have aR:=Ab l W H d (jI l W H d);have a7:=λy x (hy:y<H) (hx:x<W)=>NJ l d (jI l W H d) hy hx;have aW:∀x∈k8 l W H d,ii x d=x:=λx hx=>by
  rw[aQ]at hx;obtain⟨v,_,rfl⟩:=List.mem_map.1 hx;obtain⟨r0,r1⟩:=om v z;exact Fd z r0 r1
 have u:=λA AK cap capk w' (hc:gz vi w' A (nf l W H d (jI l W H d))) (hk:gz i64 w' AK (jI l W H d))=>
  NN l (nf l W H d (jI l W H d)) (jI l W H d) A AK cap capk W H d w' P (by omega) O (by omega) z X hl hs aR a8 (λy x hy hx=>a7 y x hy hx) (sD l W H d) (vJ l W H d) hc hk
 rw[aR,<-hm,sD]at u;have ak:∀Ak w,gz vi w Ak (mi l W H d)->gz i64 w Ak (jI l W H d):=λAk w h=>gz.map (f:=vi) (k:=Int.ofNat) h;have aY:jG (jI l W H d)<=9:=LC (λx hx=>by have:=vJ l W H d x hx;omega);have aF:jI l W H d≠[]:=λe=>by have:=sD l W H d;rw[e]at this;simp at this;omega
 have J:=Ag (jI l W H d) aF;have bh:mi l W H d=(jI l W H d).map Int.ofNat:=rfl;rw[<-bh]at J;rw[<-hm]at aS N⊢;have Z:=tX (n:=m) (warm:=0) (most:=4) (by omega) (k8 l W H d);have aG:=Ae (n:=m) (k8 l W H d);have aE:=C6 (n:=m) (k8 l W H d);have a:=λw' (hr:gM w' b F r (p+(iq (mi l W H d) 4).length))=>Pd w' b F r (p+(iq (mi l W H d) 4).length) _ m 0 _ (k8 l W H d) hr Z.2.1 bH (by omega) (by omega) Z.1.1 aE aG N be aS;have bm:qC (k8 l W H d) m=m9 (jS m 0 4 (k8 l W H d)).order (jS m 0 4 (k8 l W H d)).ks (iQ (iR (jS m 0 4 (k8 l W H d)).order m 0) (k8 l W H d)):=rfl;rw[<-bm]at a;have⟨E,hE⟩:=zX (nf l W H d (jI l W H d));have⟨EF,aj⟩:=zX (k8 l W H d);rw[<-hE]at M u;rw[<-aj]at M aW N a;rw[<-aj];have⟨K,hK⟩:=zX (mi l W H d);rw[<-hK]at D I J ak a;rw[<-hK];have⟨mx,bl⟩:=zX (jG (jI l W H d));rw[<-bl]at aY J;have⟨a1,ba⟩:=zX ((iq K 4).length);have⟨a2,au⟩:=zX ((qC EF m).length);rw[<-ba]at D a⊢;rw[<-au]at a⊢;rw[I]at D;generalize (jS m 0 4 EF).order=po at a;have am:=D h;rw[show((4:Nat):Int)=4 from rfl]at am;have t9:=Ra 9 mx (by omega);have bK:=h.lt b h.mem;have bj:=h.lt;have⟨aO,bw,br,bx⟩:=gu I J ak a;have⟨bs,bu,bq,aq⟩:=gu M aW u N;have bv:=gd bj;clear bf I bi D Y aS N be hm aQ M a8 aR a7 aW u ak aF bh Z aG aE a bm hE aj hK bl ba au J hs hl h bj;go_enter func113,ntmps113;go_wp2_with fail;refine am.mono ?_;rintro e w1 ⟨vk,R,rfl,T,a3,a5,bO⟩;obtain⟨ck,rfl,bD,bE,_,_⟩:=T.T;have aT:gz vi w1 (some ⟨R,0,none⟩) K:=T.R.cells;have an:=slices_Max_int R 0 H ck K w1 (by omega) (by rw[aO.o];exact zQ _) (by omega) (gz.getD_ aT);rw[zT (by rw[aO.o];exact zQ _),bw.o]at an;rw[aO.o];have bg:=T.lt;have a:=bx.o w1 a3;rw[show((0:Nat):Int)=0 from rfl]at a;clear am T
 go_wp2_with(go_at_call 60;refine gB (iS _ b F r _ a3) ?_)
 refine gB an ?_;clear an;go_wp2_with fail;refine a.mono ?_;rintro e w2 ⟨Ap,np,cp,v2,G2,rfl,aJ,bn,aP,a9⟩;have aX:R∉[b]:=by simp;omega
 have av:gz vi w2 (some ⟨R,0,none⟩) K:=aT.N (λ_ ad e=>by injection e with e;subst e;exact aX) aP;rcases aJ.cases with⟨_,aZ,_⟩|⟨g,V,rfl⟩
 .exfalso
  have:=congrArg length aZ
  rw[zE,aq.o]at this;simp at this;omega
 obtain⟨cg,rfl,aU,bC,_,_⟩:=V.T;rw[aq.o]at aU V⊢;have bM:=a9 g (by simp);have ai:=a5.tq aP;have⟨w3,a4⟩:=zX (w2.alloc (.cells #[po,.slice Ap np cp] 176));have Q:=H4 a4;have bI:=bn.Y Q;have aK:=V.Z Q (by simp);have aw:=av.Y Q;have aV:=ai.trans Q (by simp);have bz:=gd a4;have al:=λv w'=>oB v d w' z X;have ao:=λv w'=>o7 v d w' z X;clear aJ V bn aT av a a4 ai aP a9 a3 a5;go_wp2_with fail;rw[<-bz.o]
 go_loopg [15,16,42] m (λj va vb iv wr=>∃(i:Nat),iv=.int .i64 i/\i+j=m/\gv wr 3 (.slice (some ⟨g,0,none⟩) m cg) g ((nE (λv=>gU v d) EF i).map vi)/\gg [g] w3 wr)
 .exact⟨0,rfl,by omega,by rw[Rh];exact aK,zR _ _⟩
 clear aK;obtain⟨i,rfl,bP,s,S⟩:=hrel;rcases gk with _|j
 .obtain rfl:m=i:=by omega
  have t1:decide (m<m)=false:=by simp
  rw[<-aq.o,Ah,bs.o,aq.o]at s;have bb:gz vi wr (some ⟨g,0,none⟩) E:=s.R.cells;have ax:=br.o _ _ (aw.Z S (λad e=>by injection e with e;subst e;simp;omega));have u:=bq.o _ _ cg ck wr bb ax;have bJ:=bI.Z S (λx hx hm=>by simp at hm;have:=bv.o x hx;omega);have ay:=aV.trans S (λx hx=>by simp at hx;right;omega);clear bb ax aw s;go_wp2_with fail;refine u.mono ?_;rintro e w5 ⟨v5,g5,rfl,aH,a6,bN⟩;go_wp2
  go_ret2
  exact⟨v5,g5,rfl,aH,(bJ.Y a6).cast (by omega),ay.trans a6 (by simp),by have:=ay.size;omega⟩
 .have bG:i<m:=by omega
  have C:i<EF.length:=by rw[aq.o];exact bG
  obtain⟨bA,bF,_,_,ah,aA⟩:=s.T;have bc:=ah i _ (Bs (λv=>gU v d) EF C);have bL:=aA i;have U:=s.S (i:=i) (by rw[zE,AT];exact C) (vi (gU (EF.getD i 0) d));rw[<-map_set,AU (λv=>gU v d) EF C]at U;have bp:=bu.o (EF.getD i 0) (by rw[zD,zF C];exact zG C);have bd:=λw=>al (EF.getD i 0) w;have bo:=λw=>ao (EF.getD i 0) w;rw[bp]at bd;generalize EF.getD i 0=x at *;have⟨y,hy⟩:=zX (gU x d);rw[<-hy]at U bo;have bB:wr.cell? ⟨g,i,none⟩=some (.int .i64 x):=bc;have aI:gv (wr.setCell ⟨g,i,none⟩ (.int .i64 y)) _ _ _ _:=U;clear bF ah aA bc U hy s bp
  go_wp2_with(first|(go_at_call 79;refine gB (bd _) ?_)|(go_at_call 81;refine gB (bo _) ?_))
  go_roundg j
  .exact⟨i+1,by go_num,by omega,aI,S.setCell (.inl (by simp)) _⟩
  .omega
def qO(D:List Int)(v:Int):Int:=D.getD v.toNat 0
theorem NX(l:List Int):(oK l).map (qO (iA l))=l:=by
 unfold oK;rw[map_map];refine(map_congr_left λs hs=>?_).trans (map_id _);have h:=(yG (iA l) (uv l) ((sP l s).2 hs)).2;show qO (iA l) ((iA l).countP (· < s):Int)=s;unfold qO;rw[Int.toNat_natCast,zD,h];rfl
theorem I9(w:World)(b:Nat)(F a:List Nat)(p:Nat)(l:List Int)(d:Nat)(h:gM w b F a p)(h0:1<=d)(h1:d<=16)(K:0<l.length)(hl:l.length<=256)(hs:ie d l)(U:(iA l).length<=16)(r:ig a p (pE l d)):Calls prog 117 #[.pointer b,l.length,d] w λe w'=>∃v g,e=.returned (.tuple #[v,(0:Int)])/\gv w' 3 v g (l.map vi)/\gM w' b F a (p+(pE l d).length)/\gg [b] w w'/\w.heap.size<=g:=by
 have aI:=Eh K;have aH:=E7 hs;have ah:=uv l;have aU:=λx (hx:x∈l)=>(yG (iA l) (uv l) ((sP l x).2 hx)).1;have aR:pE l d=gx ((iA l).length-1) 4++iq (iA l) d++iq (oK l) (lG (iA l).length):=rfl;rw[aR]at r⊢;have Q:=NX l;have C:=Fm l;have⟨D,hD⟩:=zX (iA l);have⟨k,ak⟩:=zX D.length;have R:∀x∈oK l,0<=x/\x<(k:Int):=λx hx=>by
  obtain⟨s,bw,rfl⟩:=List.mem_map.1 hx
  have:=aU s bw
  rw[ak,hD];show(0:Int)<=_/\((iA l).countP (· < s):Int)<((iA l).length:Int);omega
 rw[<-hD]at aI aH ah U Q r⊢;have aD:=Dw U;have aQ:=AB U;have S:=λw=>DN D.length w aI (by omega);rw[<-ak]at aI U aD aQ S r⊢;have⟨q,hq⟩:=zX (lG k);rw[<-hq]at aD aQ S r⊢;have⟨I,hI⟩:=zX (oK l);rw[<-hI]at Q C R r⊢;have⟨n,hn⟩:=zX l.length;rw[<-hn]at C hl K⊢;have aJ:=iU w b F a p 4 (k-1) h (by omega) (by omega) r.left.left;have Y:=r.left.right;have Z:=r.right;rw[gH]at Y;rw[zC,gH]at Z;have aK:=λw' (hr:gM w' b F a (p+4))=>xk w' b F a (p+4) d D hr h1 aH (by rw[<-ak];omega) Y;have aX:ie q I:=λx hx=>by
  have:=R x hx
  have e:(2:Int)^q=((2^q:Nat):Int):=by simp
  rw[e];omega
 have aL:=λw' (hr:gM w' b F a (p+(4+(iq D d).length)))=>xk w' b F a (p+(4+(iq D d).length)) q I hr (by omega) aX (by rw[C];omega) Z;rw[<-ak]at aK;rw[C]at aL;rw[zC,zC,gH];generalize (iq D d).length=a1 at *;generalize (iq I q).length=a2 at *;have⟨k1,aY⟩:=zX (k-1);have ek:(k1:Int)+1=(k:Int):=by omega
 rw[<-aY]at aJ;have bI:IntKind.i64.wrap (k1:Int)=(k1:Int):=IntWalk.i64_in _ (by omega);have bg:=h.lt b h.mem;have⟨ay,a7,ap,a8⟩:=gu ak Q C R;have⟨a5,a6,ax,a9⟩:=gu aK aL ah h.lt;clear hn ak Q C R aK aL ah aR hD hI hq hs aU aH r Y Z aX aY aD h;go_enter func117,ntmps117;go_wp2_with fail;refine aJ.mono ?_;rintro e w1 ⟨rfl,a0,O⟩;clear aJ;go_wp2_with fail;refine(a5.o w1 a0).mono ?_;rintro e w2 ⟨vD,T,rfl,ad,a3,az,bD⟩;obtain⟨cD,rfl,bh,bi,_,_⟩:=ad.T;rw[<-ay.o];have aV:=ad.lt;go_wp2_with fail;refine gB (S w2) ?_;go_wp2_with fail;refine(a6.o w2 (a3.cast (by omega))).mono ?_;rintro e M ⟨vI,gI,rfl,tD,aN,V,bE⟩;obtain⟨cI,rfl,aE,bj,_,_⟩:=tD.T;rw[ap.o]at aE tD⊢;have ag:=ad.Z V (by have:=O.size;simp;omega);have al:=(O.tq az).tq V;have bH:=(O.tq az).size;clear ad a0 a3 O az V S;have bn:w.heap.size<=gI:=by omega
 have bF:T<gI:=by omega
 go_wp2_with(go_at_call 60;refine gB (iS _ b F a _ aN) ?_)
 have⟨ba,a4,bb,aP⟩:=gu aN al tD ag;clear aN al tD ag
 go_loopg [11] (k-1) (λj iv wr=>∃i u:Nat,iv=.int .i64 i/\1<=i/\i+j=k/\wr=M.drewN u)
 .exact⟨1,0,rfl,zQ _,by omega,rfl⟩
 obtain⟨i,u,rfl,bG,bq,rfl⟩:=hrel;rcases gk with _|j
 .obtain rfl:k=i:=by omega
  have u1:decide (k<k)=false:=by simp
  have af:=bb.o.drewN u;have aO:=aP.o.drewN u;have bu:=ba.o.Y ((zR [] M).drewN u);have aF:=a4.o.drewN u;generalize M.drewN u=w4 at *;go_wp2_with fail
  go_loopg [12,13,50] n (λj va vb iv wr=>∃(i:Nat),iv=.int .i64 i/\i+j=n/\gv wr 3 (.slice gI n cI) gI ((nE (qO D) I i).map vi)/\gg [gI] w4 wr)
  .exact⟨0,rfl,by omega,by rw[Rh];exact af,zR _ _⟩
  clear af;obtain⟨i,rfl,bq,E,P⟩:=hrel;rcases gk with _|j
  .obtain rfl:n=i:=by omega
   have u2:decide (n<n)=false:=(by simp);rw[<-ap.o,Ah,a7.o,ap.o]at E;have bv:=bu.Z P (λx hx hm=>by simp at hm;have:=a9.o x hx;omega);have aG:=aF.trans P (λx hx=>by simp at hx;right;omega);go_wp2_with fail
   go_ret2
   exact⟨_,gI,rfl,E,bv.cast (by omega),aG,bn⟩
  .have aW:i<n:=by omega
   have u2:decide (i<n)=true:=zB aW;have J:i<I.length:=(by rw[ap.o];exact aW);obtain⟨bd,bm,_,_,ae,am⟩:=E.T;have aT:=ae i _ (Bs (qO D) I J);have bC:=am i;have N:=E.S (i:=i) (by rw[zE,AT];exact J) (vi (qO D (I.getD i 0)));rw[<-map_set,AU (qO D) I J]at N;have bz:=a8.o (I.getD i 0) (by rw[zD,zF J];exact zG J);generalize I.getD i 0=x at *;obtain⟨X,hX⟩:∃X:Nat,X=x.toNat:=⟨_,rfl⟩;have bx:x=(X:Int):=(by omega);have bf:X<k:=(by omega);have aZ:qO D x=D.getD X 0:=(by unfold qO;rw[hX]);obtain⟨bc,ai,_,_,z,_⟩:=(aO.Z P (by simp;omega)).T;have be:X<D.length:=(by rw[<-ay.o];exact bf);have aS:=z X (D.getD X 0) (by rw[zD,zF be];rfl);rw[aZ]at N;generalize D.getD X 0=y at *;subst bx;have u3:decide (k<=X)=false:=zA (by omega);have bl:wr.cell? ⟨gI,i,none⟩=some (.int .i64 X):=aT;have bk:wr.cell? ⟨T,X,none⟩=some (.int .i64 y):=aS;have ao:gv (wr.setCell ⟨gI,i,none⟩ (.int .i64 y)) _ _ _ _:=N;clear bm ae am aT N hX E bz aZ z ai aS;go_wp2
   go_roundg j
   .exact⟨i+1,by go_num,by omega,ao,P.setCell (.inl (by simp)) _⟩
   .omega
 .have br:i<k:=by omega
  have⟨i0,bo⟩:=zX (i-1);have ei:(i:Int)-1=(i0:Int):=by omega
  have aM:i<D.length:=by rw[<-ay.o];exact br
  have bs:=List.pairwise_iff_getElem.1 ax.o i0 i (by omega) aM (by omega);obtain⟨bc,ai,_,_,z,_⟩:=aP.o.T;have c1:=z i0 _ (zF (by omega));have c2:=z i _ (zF aM);generalize D[i0]=x at *;generalize D[i]=y at *;have bA:M.cell? ⟨T,i0,none⟩=some (.int .i64 x):=c1;have bB:M.cell? ⟨T,i,none⟩=some (.int .i64 y):=c2;have u2:decide (y<=x)=false:=zA (by omega);have bp:i0<k:=by omega
  clear bo z ai c1 c2 bs aM;go_wp2
  go_quiet (fail)
  go_wp2
  go_roundg j
  .exact⟨i+1,u+nq,by go_num,by omega,by omega,by first|rfl|rw[World.drewN_drewN]⟩
  .omega
theorem Lm{F:List Nat}(hF:jC F (mj n)):iV (F.take 4)≠4294967295:=by
 have:=hF.hi
 simp[mj,pre,iV]at this;unfold iV;simp;omega
theorem LI(N:Nat){F:List Nat}(e:∀d∈F,d<256)(a:4<=F.length)(hF:jC F (mj N)):lX (p8 F N):=by
 have:=hF.hi
 simp[mj,pre,iV]at this;refine⟨e,by simp[p8],by simp[p8],?_,a,by simp[p8]⟩;simp[p8,iV];omega
theorem BE(l:List Int)(W:Nat){d:Nat}(a:1<=d)(e:d<=16)(i:Nat):jU l W d i<65536:=
 Nat.lt_of_lt_of_le (sM l W a i) (Nat.pow_le_pow_right (n:=2) (by decide) e)
theorem AF(l:List Int)(W:Nat){d:Nat}(a:1<=d)(e:d<=16):∀i,jb (kN l W d i)
 | 0=>LH _
 | i+1=>by
  have h:=qD l W a e i;have j:=uH l W d i;have k:=BE l W a e i;exact Og h.1 (AF l W a e i) (by omega) (by rw[h.2.1];omega)
theorem Fg(l:List Int)(W:Nat){d:Nat}(a:1<=d)(e:d<=16){F:List Nat}(j:∀x∈F,x<256):∀(k i:Nat),jC F (kN l W d (i+k))->jC F (kN l W d i)
 | 0,_,h=>h
 | k+1,i,h=>by
  have r:=qD l W a e (i+k);have u:=uH l W d (i+k);have y:=BE l W a e (i+k);have s:jC F (mc (kN l W d (i+k)) (33*nj l W d (i+k)) (jU l W d (i+k))):=h;exact Fg l W a e j k i (OV (v:=jU l W d (i+k)) (ctx:=33*nj l W d (i+k)) j r.1 (AF l W a e _) (by omega) (by rw[r.2.1];omega) s)
theorem Eo{l:List Int}{d:Nat}(j:ie d l)(W i:Nat):gU (jV 7 (kL l W i) d+jr (jU l W d i)) d=l.getD i 0:=by
 obtain⟨a,e⟩:=mZ j i;unfold jU;rw[Cq];exact Dp a e
theorem DM{l:List Int}{W:Nat}(e:1<=W)(a:i<=l.length):kL (ia (l.take i) l.length) W i=kL l W i:=by
 unfold kL;exact AV (mod_lt _ (by omega)) (by rw[zY];exact div_add_mod i W) a
theorem En{d:Nat}{l:List Int}(a:ie d l)(i n:Nat):ie d (ia (l.take i) n):=by
 intro s h;unfold ia at h;rcases zP.1 h with h|h
 .exact a s (mem_of_mem_take h)
 .rw[eq_of_mem_replicate h];exact⟨Int.le_refl _,ke d⟩
theorem Dq(g:Int)(f d:Nat)(w:World)(j:1<=d)(k:d<=16)(r:0<=g)(s:g<65536)(C:f<65536):Calls prog 148 #[g,f,d] w λe w'=>e=.returned (.int .i64 (gU (g+jr f) d))/\w=w':=by
 have x:=ur f w (by omega);have z:IntKind.u64.wrap (f:Int)=(f:Int):=IntWalk.u64_in _ (by omega);have y : -65536<=jr f/\jr f<=65536:=by unfold jr;split<;>omega
 have a:=o7 (g+jr f) d w j k;generalize jr f=u at *;go_enter func148,ntmps148;go_wp2_with fail;refine gB x ?_;go_wp2_with fail;refine gB a ?_;go_wp2;go_ret;exact⟨rfl,rfl⟩
theorem PU:jx prog 41 5 (.int .u8 0) 1 1:=.mk' underlying41 (by kernel_rfl)
def nV(done:List Nat)(n:Nat):List Nat:=done++replicate (n-done.length) 0
theorem Lf{l:List Nat}(h:l.length=n):nV l n=l:=by simp[nV,h]
theorem Mj(h:done.length<n):(nV done n)[done.length]?=some 0:=by
 unfold nV;rw[zS (zQ _),Nat.sub_self,getElem?_replicate,if_pos (by omega)]
theorem Ml(h:done.length<n)(x:Nat):(nV done n).set done.length x=nV (done++[x]) n:=by
 unfold nV;obtain⟨k,a⟩:∃k,n-done.length=k+1:=⟨n-done.length-1,by omega⟩;rw[a,set_append_right _ _ (zQ _),Nat.sub_self,replicate_succ,set_cons_zero,zC,length_singleton,show n-(done.length+1)=k by omega];simp
theorem Mk(h:done.length<=n):(nV done n).length=n:=by simp[nV];omega
theorem Kk(R:List Nat)(a:m<R.length):(R.drop m).flatMap (λx=>gx x 8)=gx R[m] 8++(R.drop (m+1)).flatMap (λx=>gx x 8):=by
 rw[drop_eq_getElem_cons a,flatMap_cons]
theorem JU(w:World)(b:Nat)(F C:List Nat)(p:Nat)(l:List Int)(W H d:Nat)(h:gM w b F C p)(hw0:1<=W)(hw1:W<=16)(hh0:1<=H)(hh1:H<=16)(u:1<=d)(y:d<=16)(hl:l.length=W*H)(hs:ie d l)(U:ig C p (pG l W d)):Calls prog 116 #[.pointer b,W,H,d] w λe w'=>∃v g,e=.returned (.tuple #[v,(0:Int)])/\gv w' 3 v g (l.map vi)/\gM w' b F C (p+(pG l W d).length)/\gg [b] w w'/\w.heap.size<=g:=by
 have bW:pG l W d=gx (nv l W d).length 16++(nv l W d).flatMap λx=>gx x 8:=rfl;have bE:=yY l W u y;have Z:=DQ l W u y;have a:nv l W d=(kN l W d l.length).low:=rfl;rw[bW]at U⊢;rw[zC,gH];have⟨R,hR⟩:=zX (nv l W d);rw[<-hR]at bE Z a U⊢;have⟨n,hn⟩:=zX l.length;have bU:n<=256:=by rw[hn,hl];exact zL hw1 hh1
 have cv:n<=64*W:=by rw[hn,hl,zY];exact mul_le_mul_right W (by omega)
 have cu:(W:Int)*(H:Int)=(n:Int):=by rw[hn,hl];simp
 rw[<-hn]at bE a;have aw:jC R (kN l W d n):=by rw[a];exact NM (qD l W u y n).1
 have aA:=λi (hi:i<=n)=>Fg l W u y Z (n-i) i (by rw[show i+(n-i)=n by omega];exact aw);have bu:jC R (mj 429):=aA 0 (zero_le _);have bn:4<=R.length:=by rw[a];exact(qD l W u y n).1.len
 have bO:=Lm bu;have aN:=LI 429 Z bn bu;have aJ:=λi=>qD l W u y i;have ao:=λi=>AF l W u y i;have a3:=λi=>uH l W d i;have ah:=λi=>BE l W u y i;have aj:=λi=>sM l W u i;have N:=λi=>Eo hs W i;have⟨r,hr⟩:=zX R.length;rw[<-hr]at bE bn U;have bC:r<2^16:=by omega
 have bQ:=iU w b F C p 16 r h (by omega) bC U.left;have bo:=U.right;rw[gH]at bo;have ci:=kg (P:=prog) PU rfl .i64 .i64 r (by omega) (by omega);have ct:=kg (P:=prog) iO rfl .i64 .i64 n (by omega) (by omega);have cm:IntKind.i64.wrap (r:Int)=(r:Int):=IntWalk.i64_in _ (by omega);have cp:=h.lt b h.mem;have⟨HN,HR,bI,ca⟩:=gu hn hr Z a;have⟨HA,bf,b4,bc⟩:=gu bo aA bO aN;have⟨a9,b0,b1,bd⟩:=gu aJ ao a3 ah;have⟨be,b3,HS,b6⟩:=gu aj N hs h.lt;clear hn hr Z a U bo aA bO aN aJ ao a3 ah aj N hs bW hR aw bu hl h;go_enter func116,ntmps116;go_wp2_with fail;refine bQ.mono ?_;rintro e V ⟨rfl,bV,bi⟩;have⟨B,hB⟩:=zX V.heap.size;have cB:w.heap.size<=B:=by rw[hB];exact bi.size
 have bl:gg [] V (V.alloc (.cells (replicate r (Value.int .u8 0)).toArray 5)):=(zR [] V).alloc _;have Q:gv (V.alloc (.cells (replicate r (Value.int .u8 0)).toArray 5)) 5 (.slice B r r) B ((nV [] r).map b8):=by
  have:=gv.made V 5 (replicate r (Value.int .u8 0)) (by simp[maxLen];omega)
  rw[<-hB,zV]at this;have e:(nV [] r).map b8=replicate r (Value.int .u8 0):=by simp[nV,b8]
  rw[e];exact this
 have aU:=bV.Y bl;have HB:=gd hB;have aF:=(bi.trans bl (by simp));clear bQ hB bV bi bl;go_wp2_with fail;rw[<-HB.o]
 go_loopg [11,27] r (λj va iv wr=>∃(i J:Nat),iv=.int .i64 i/\i+j=r/\gv wr 5 (.slice B r r) B ((nV (R.take i) r).map b8)/\gM wr b F C J/\gh (ig C J ((R.drop i).flatMap λx=>gx x 8))/\gh (J+((R.drop i).flatMap λx=>gx x 8).length=p+(16+(R.flatMap λx=>gx x 8).length))/\gh (gg [b] w wr))
 .exact⟨0,p+16,rfl,by omega,Q,aU,HA,gd (by rw[drop_zero];omega),gd aF⟩
 clear Q aU aF;obtain⟨i,J,rfl,ch,s,a,Ha,Hp,a8⟩:=hrel;rcases gk with _|j
 .obtain rfl:r=i:=by omega
  have u1:decide ((r:Int)<(r:Int))=false:=by simp
  have cE:decide (r<r)=false:=by simp
  have e1:R.take r=R:=by rw[HR.o,zN]
  have e2:R.drop r=[]:=by rw[HR.o,drop_length]
  rw[e1,Lf HR.o.symm]at s;have hp:=Hp.o;rw[e2]at hp;have b9:gh (J=p+(16+(R.flatMap λx=>gx x 8).length)):=gd (by
   rw[show(([]:List Nat).flatMap λx=>gx x 8)=[]from rfl,length_nil]at hp;omega)
  obtain⟨bh,bs,_,_,ad,_⟩:=s.T;have bA:=Jx B r R 429 wr (by decide) (by decide) (by rw[<-HR.o];exact zQ _) (by omega) ad bI.o (by rw[<-HR.o];exact bn) (by rw[<-HR.o];omega) b4.o;rw[<-HR.o,show((429:Nat):Int)=429 from rfl]at bA;clear e1 e2 hp bs ad Ha Hp s
  go_wp2_with(go_at_call 60;refine gB (iS _ b F C _ a) ?_)
  refine bA.mono ?_;rintro e w3 ⟨S,dg,T,rfl,E,bj,cq,cr,cs⟩;have Q:=gv.zeros w3 n (by omega);have⟨G,hG⟩:=zX w3.heap.size;have a0:gg [] w3 (w3.alloc (.cells (replicate n (Value.int .i64 0)).toArray 3)):=(zR [] w3).alloc _;have ap:=E.Y a0;have aV:=(a.Y bj).Y a0;have aG:=(a8.o.trans bj (by simp)).trans a0 (by simp);rw[<-hG]at Q;have bx:=E.lt;rw[<-hG]at bx;have cn:=a8.o.size;have bK:=a.lt;have⟨bH,HG⟩:=gy bK hG;clear bA a E bj a0 hG bK;go_wp2_with fail;rw[<-HG.o]
  go_loopg [16,17,18,19,20,56] n (λj va vb vc vd ve iv w5=>∃(i:Nat) (D:i8),iv=.int .i64 i/\i+j=n/\gv w5 3 (.slice G n n) G ((ia (l.take i) n).map vi)/\kz 249 w5 S dg T D/\lX D/\lu D (kN l W d i)/\D.data=R/\gM w5 b F C J/\gh (gg [b] w w5))
  .exact⟨0,p8 R 429,rfl,by omega,by simpa using Q,ap,bc.o,Ps _ _,rfl,aV,gd aG⟩
  clear Q ap aV aG;obtain⟨i,D,rfl,ch,s,E,a4,a7,ag,a,aE⟩:=hrel;rcases gk with _|j
  .obtain rfl:n=i:=by omega
   have u2:decide ((n:Int)<(n:Int))=false:=(by simp);have cF:decide (n<n)=false:=(by simp);have e:ia (l.take n) n=l:=by
    have:=uw l
    rw[<-HN.o]at this;exact this
   rw[e]at s;have bS:=N7 wr S dg T D E a4.pos;have k:D.data.length-D.pos=0:=(by rw[a7.pos,ag,<-ca.o];omega);rw[k]at bS;clear E a4 a7 ag k e;go_wp2_with fail;refine bS.mono ?_;rintro e w' ⟨rfl,n6,rfl⟩;go_wp2_with fail
   go_ret2
   exact⟨_,G,rfl,s.drewN n6,(a.Y ((zR [] _).drewN n6)).cast b9.o,aE.o.drewN n6,by have:=HG.o;omega⟩
  .have I:i<n:=by omega
   have bw:i<l.length:=(by rw[<-HN.o];exact I);have bB:=DM (l:=l) hw0 (i:=i) (by omega);rw[<-HN.o]at bB;have am:(ia (l.take i) n).length=n:=nM (by rw[zI];omega);have X:=xA (ia (l.take i) n) (some ⟨G,0,none⟩) n W d i wr u y hw0 (by omega) (by rw[am];omega) (by omega) (En HS.o i n) s.R.cells (by rw[am];omega);have bq:=a9.o i;have a3:=b1.o i;have N:=b3.o i;have ah:=bd.o i;have aj:=be.o i;have Y:kN l W d (i+1)=mc (kN l W d i) (33*nj l W d i) (jU l W d i):=rfl;have bm:=bf.o (i+1) (by omega);rw[Y]at bm;have cw:2^d<=65536:=Nat.pow_le_pow_right (n:=2) (by decide) y;have cj:=Nat.two_pow_pos d;have M:=λw' (hq:kz 249 w' S dg T D)=>NC w' S dg T D (kN l W d i) (33*nj l W d i) (jU l W d i) (2^d-1) hq a4 a7 bq.1 (b0.o i) (by rw[bq.2.1];omega) (by omega) (by omega) (by rw[ag];exact bm);unfold sY at M;rw[if_pos (by omega:jU l W d i<=2^d-1)]at M;rw[bB,am,<-Eb]at X;have a5:=sN (d:=d) (g:=kL l W i) (qL HS.o W _ _) 7;have⟨gs,bR⟩:=zX (jV 7 (kL l W i) d);rw[<-bR]at X a5 N;have⟨f,hf⟩:=zX (jU l W d i);rw[<-hf]at M N ah aj Y;have⟨cx,br⟩:=zX (33*nj l W d i);have ce:(33:Int)*((nj l W d i:Nat):Int)=(cx:Int):=(by rw[br];simp);rw[<-br]at M Y;have⟨cl,aI⟩:=zX (nj l W d i);rw[<-aI]at ce X a3;have⟨mo,bT⟩:=zX (2^d-1);rw[<-bT]at M;have aQ:gs<65536:=by
    have e:((2^d:Nat):Int)=(2:Int)^d:=by simp
    have:=a5.2
    omega
   have bF:=λw'=>Dq gs f d w' u y a5.1 aQ ah;rw[N]at bF;have cg:f<=mo:=(by omega);have K:=jD l bw;have bY:l[i]=l.getD i 0:=(by rw[zD,zF bw];rfl);rw[bY]at K;generalize l.getD i 0=xv at *;have bL:(l.take i).length=i:=(by rw[zI];omega);have cy:((2^d:Nat):Int)=(2:Int)^d:=(by simp);have cA:IntKind.u64.wrap ((2:Int)^d)=(2:Int)^d:=IntWalk.u64_in _ (by omega);have cz:IntKind.u64.wrap ((2:Int)^d-1)=(mo:Int):=(by rw[IntWalk.u64_in _ (by omega)];omega);have cC:IntKind.i64.wrap (f:Int)=(f:Int):=IntWalk.i64_in _ (by omega);have⟨bg,bb,ax,cd⟩:=gu K bL M bF;have⟨b7,ay,ba⟩:=Q9 Y s ag;clear bB am bq N bm M bR hf br aI bT bF K bY bL Y s a4 a7 ag bw aj a5;go_wp2_with fail;refine X.mono ?_;rintro e w6 ⟨rfl,aZ⟩;have aq:=E.Y aZ;have aW:=a.Y aZ;have aH:=aE.o.trans aZ (by simp);have av:=ay.o.Z aZ (by simp);have aM:=ax.o w6 aq;clear X E a;go_wp2_with fail;refine aM.mono ?_;rintro e w7 ⟨rfl,D',ar,bX,aK,bk⟩;rw[if_pos cg]at bX;obtain⟨aL,aB⟩:=bX;have bN:=OT w7 S dg T D' ar;rw[aB.err,show((0:Nat):Int)=0 from rfl]at bN;have aR:∀z∈F,z∉[S,T]:=λz k hm=>by have:=bH.o z k;simp at hm;omega
   have bD:=aW.Z bk aR;have bp:=aH.trans bk (λz k=>.inr (by simp at k;omega));have al:=av.Z bk (by simp;omega);obtain⟨a2,bP⟩:=al.fill_cell (by rw[bb.o];exact I);have ai:=al.fill (by rw[bb.o];exact I) xv;rw[bb.o]at a2 bP ai;have⟨b5,b2,cc⟩:=Q9 ai aL aB;have bG:=cd.o w7;clear aM aq aW aH av al ai aL aB aR
   go_wp2_with(first|(go_at_call 147;refine bN.mono ?_;rintro e w' ⟨rfl,rfl⟩)|(go_at_call 148;refine bG.mono ?_;rintro e w' ⟨rfl,rfl⟩))
   go_roundg j
   .have O:gg [G] w' (w'.setCell ⟨G,i,none⟩ (.int .i64 xv)):=(zR _ _).setCell (.inl (by simp)) _
    refine⟨i+1,D',by go_num,by omega,?_,ar.Z O (by simp;omega) (by simp;omega) (by simp;omega),b2.o,by rw[b7.o];exact cc.o,aK.trans ba.o,bD.Z O (λz k hm=>by simp at hm;have:=bH.o z k;omega),gd (bp.trans O (λz k=>.inr (by simp at k;omega)))⟩;rw[bg.o];exact b5.o
   .omega
 .have I:i<r:=by omega
  have bz:i<R.length:=by rw[<-HR.o];exact I
  have a6:=Kk R bz;have K:=jD R bz;have co:=bI.o R[i] (zG _);have⟨x,hx⟩:=zX (R[i]);rw[<-hx]at a6 K co;have a1:=Ha.o;rw[a6]at a1;have aP:=iU wr b F C J 8 x a (by omega) (by omega) a1.left;have bZ:=gd a1.right;have bM:(R.take i).length=i:=by rw[zI];omega
  have cD:IntKind.u8.wrap (x:Int)=(x:Int):=by rw[IntKind.wrap_u8];omega
  have⟨cb,bg,ax,ay⟩:=gu a6 K bM s;clear a6 K hx a1 bz bM a s;go_wp2_with fail;refine aP.mono ?_;rintro e w2 ⟨rfl,ck,bJ⟩;have ak:=ay.o.Z bJ (by simp;omega);obtain⟨bh,bs,_,_,ad,aO⟩:=ak.T;have a2:=ad i 0 (by have:=Mj (done:=R.take i) (n:=r) (by rw[ax.o];exact I);rw[ax.o]at this;exact this);have cf:w2.cell? ⟨B,i,none⟩=some (.int .u8 0):=a2;have bP:=aO i;have an:=ak.S (i:=i) (by rw[zE,Mk (by rw[ax.o];omega)];exact I) (b8 x);rw[<-map_set]at an;have bv:=Ml (done:=R.take i) (n:=r) (by rw[ax.o];exact I) x;rw[ax.o,<-bg.o]at bv;rw[bv]at an;have aY:gv (w2.setCell ⟨B,i,none⟩ (.int .u8 x)) _ _ _ _:=an;clear aP ak bs ad aO a2 an bv;go_wp2_with fail
  go_roundg j
  .have O:gg [B] w2 (w2.setCell ⟨B,i,none⟩ (.int .u8 x)):=(zR _ _).setCell (.inl (by simp)) _
   refine⟨i+1,J+8,by go_num,by omega,aY,ck.Z O (λz k hm=>by simp at hm;have:=b6.o z k;omega),gd ?_,gd ?_,gd ((a8.o.tq bJ).trans O (λz k=>.inr (by simp at k;omega)))⟩
   .have:=bZ.o
    rw[gH]at this;exact this
   .have:=Hp.o
    rw[cb.o,zC,gH]at this;omega
  .omega
def GZ:List Int:=[8,1,2,4,8,10,12,16,5,8]
theorem Mh(k:Nat)(h:k<10):∃d:Nat,GZ[k]?=some (d:Int)/\1<=d/\d<=16:=by
 rcases(by omega:k=0\/k=1\/k=2\/k=3\/k=4\/k=5\/k=6\/k=7\/k=8\/k=9)with rfl|rfl|rfl|rfl|rfl|rfl|rfl|rfl|rfl|rfl
 .exact⟨8,rfl,by omega,by omega⟩
 .exact⟨1,rfl,by omega,by omega⟩
 .exact⟨2,rfl,by omega,by omega⟩
 .exact⟨4,rfl,by omega,by omega⟩
 .exact⟨8,rfl,by omega,by omega⟩
 .exact⟨10,rfl,by omega,by omega⟩
 .exact⟨12,rfl,by omega,by omega⟩
 .exact⟨16,rfl,by omega,by omega⟩
 .exact⟨5,rfl,by omega,by omega⟩
 .exact⟨8,rfl,by omega,by omega⟩
theorem jv.fresh{w:World}{b cap at_:Nat}{A:Option Addr}{L:List Int}(h:jv w b A cap L at_)(a:gg [] w w'):jv w' b A cap L at_:=h.Y a (by simp) (λ_ _ _=>by simp)
theorem Ny(w:World)(b cap at_:Nat)(A:Option Addr)(L:List Int)(h:jv w b A cap L at_):Calls prog 26 #[.pointer b] w λe w'=>∃d at':Nat,e=.returned d/\1<=d/\d<=16/\jv w' b A cap L at'/\gg [b] w w':=by
 have⟨w1,aa⟩:=zX (w.alloc (.cells #[(8:Int),(1:Int),(2:Int),(4:Int),(8:Int),(10:Int),(12:Int),(16:Int),(5:Int),(8:Int)] 3));have a:gn w1 w.heap.size 3 #[(8:Int),(1:Int),(2:Int),(4:Int),(8:Int),(10:Int),(12:Int),(16:Int),(5:Int),(8:Int)]:=by rw[aa];exact gn.new w _ _
 have u:=H4 aa;have C:=mN w1 b cap at_ 10 A L (h.fresh u) (by omega) (by omega);have s:w.heap.size≠b:=by have:=h.blk.lt;omega
 have J:=gd aa;have⟨B,hB⟩:=zX w.heap.size;rw[<-hB]at a s;have E:=gd hB;clear aa h hB;go_enter func26,ntmps26;go_wp2_with fail;rw[<-J.o,<-E.o];refine C.mono ?_;rintro e D ⟨k,at',rfl,M,K,r⟩;obtain⟨d,z,x,y⟩:=Mh k M;have ad:=a.Z r (by simpa using s);have N:D.cell? ⟨B,k,none⟩=some (.int .i64 d):=by
  rw[ad.X k];have e:(#[Value.int .i64 8,(1:Int),(2:Int),(4:Int),(8:Int),(10:Int),(12:Int),(16:Int),(5:Int),(8:Int)]:Array Value)=(GZ.map vi).toArray:=rfl;rw[e,getElem?_toArray,zW,z];rfl
 have O:(0:Int)<=(k:Int):=by omega
 have P:(k:Int)<10:=by omega
 have j:=gd (And.intro x y);have I:gh (gg [b] w D):=gd ((u.mono (by simp)).tq r);clear z ad a C x y;go_wp2_with fail;go_ret;exact⟨d,at',rfl,j.o.1,j.o.2,K,I.o⟩
def sj(w:World)(b:Nat)(s:Nat):Prop:=gn w b 83 #[s]/\s<2147483648
theorem L2(x:Int)(m:Nat)(j:m<9223372036854775808):∃k:Nat,k<=m/\bits .and .i64 x (m:Int)=(k:Int):=by
 refine⟨(BitVec.ofInt 64 x &&& BitVec.ofInt 64 (m:Int)).toNat,?_,?_⟩
 .rw[BitVec.toNat_and]
  have e:(BitVec.ofInt 64 (m:Int)).toNat=m:=by
   rw[BitVec.ofInt_natCast,BitVec.toNat_ofNat];exact mod_eq_of_lt (by omega)
  rw[e];exact and_le_right
 .show IntKind.i64.wrap ((BitVec.ofInt 64 x &&& BitVec.ofInt 64 (m:Int)).toNat:Int)=_
  have a:(BitVec.ofInt 64 x &&& BitVec.ofInt 64 (m:Int)).toNat<=m:=by
   rw[BitVec.toNat_and];have e:(BitVec.ofInt 64 (m:Int)).toNat=m:=by
    rw[BitVec.ofInt_natCast,BitVec.toNat_ofNat];exact mod_eq_of_lt (by omega)
   rw[e];exact and_le_right
  generalize (BitVec.ofInt 64 x &&& BitVec.ofInt 64 (m:Int)).toNat=q at *;exact IntWalk.i64_in _ (by omega)
theorem O6(w:World)(b s n:Nat)(h:sj w b s)(E:1<=n)(I:n<=1073741824):Calls prog 38 #[.pointer b,n] w λe w'=>∃v s':Nat,e=.returned v/\v<n/\sj w' b s'/\gg [b] w w':=by
 obtain⟨a,S⟩:=h;have D:=a.X 0;have R:=a.U 0;simp at D;have⟨x,hx⟩:=zX (s*1103515245+12345);have O:x<4611686018427387904:=by omega
 have N:(s:Int)*1103515245+12345=(x:Int):=by omega
 obtain⟨y,J,j⟩:=L2 (x:Int) 2147483647 (by omega);have C:y<2147483648:=by omega
 have k:=a.S 0 (.int .i64 y);have K:bits BinOp.and IntKind.i64 (x:Int) 2147483647=(y:Int):=j;have⟨z,hz⟩:=zX (y / 256);have Q:(y:Int) / 256=(z:Int):=by omega
 have P:z<8388608:=by omega
 have⟨r,hr⟩:=zX (z%n);have u:r<n:=by rw[hr];exact mod_lt _ (by omega)
 have M:(z:Int).tmod (n:Int)=(r:Int):=by rw[hr,Int.tmod_eq_emod_of_nonneg (by omega)];simp
 have⟨HS,ad⟩:=gy k u;clear k a hx J hz hr u j;go_enter func38,ntmps38;go_wp2;go_ret;refine⟨r,y,rfl,ad.o,⟨?_,C⟩,(zR [b] w).setCell (.inl (by simp)) _⟩
 simpa using HS.o
theorem rM{I u w4:World}{b cap S d P r j rb s:Nat}{A:Option Addr}{L:List Int}{l:List Int}{F:List Nat}{C a:Nat}{o:Obj}(E:sj u rb s)(R:jv u b A cap L S)(M:gg [rb] I u)(hF:∀x∈F,rb<x)(N:l.length=i)(Q:ie d l)(Z:r<P)(X:P=2^d)(hsz:I.heap.size<=u.heap.size)(hs3:I.heap.size=rb+1)(hb:b<rb)(K:ib A L F)(Y:i+(j+1)=n)(O:gv w4 3 (.slice C (i+1) a) C (l.map vi++[.int .i64 r]))(D:gE F [C] (u.alloc o) w4):∃(i' s':Nat) (l':List Int) (F':List Nat),Value.int .i64 ((i:Int)+1)=.int .i64 i'/\i'+j=n/\jj w4 3 (.slice C (i+1) a) F' (l'.map vi)/\l'.length=i'/\gh (ie d l')/\sj w4 rb s'/\(∀x∈F',rb<x)/\jv w4 b A cap L S/\gg [rb] I w4:=by
 have J:gg F u w4:=((zR [] u).alloc o).mono (by simp) |>.tq D.Z;have U:rb∉F:=λhm=>by have:=hF rb hm;omega
 have V:b∉F:=λhm=>by have:=hF b hm;omega
 refine⟨i+1,s,l++[(r:Int)],[C],by simp,by omega,?_,by simp[N],?_,⟨E.1.Z J U,E.2⟩,?_,?_,?_⟩
 .have:=O.R
  simpa[vi]using this
 .refine gd ?_
  intro z hz;rcases zP.1 hz with k|k
  .exact Q z k
  .simp at k
   subst k;have e:(2:Int)^d=(P:Int):=(by rw[X];simp);rw[e];omega
 .intro y T
  simp at T;subst T;rcases D.new y (by simp)with k|k
  .exact hF y k
  .simp at k
   omega
 .exact R.Y J V K
 .exact M.trans J λx hx=>.inr (by have:=hF x hx;omega)
theorem GU(w:World)(b cap at_ W H d:Nat)(A:Option Addr)(L:List Int)(h:jv w b A cap L at_)(hw0:1<=W)(hw1:W<=64)(hh0:1<=H)(hh1:H<=64)(h0:1<=d)(h1:d<=16):Calls prog 27 #[.pointer (some ⟨b,0,none⟩),W,H,d] w λe w'=>∃(v:Value) (g:Nat) (l:List Int) (at':Nat),e=.returned v/\gv w' 3 v g (l.map vi)/\l.length=W*H/\ie d l/\jv w' b A cap L at'/\gg [b] w w'/\w.heap.size<=g:=by
 have ba:=mN w b cap at_ 7 A L h (by omega) (by omega);have⟨n,hn⟩:=zX (W*H);have bJ:(W:Int)*(H:Int)=(n:Int):=by rw[hn];simp
 have bI:n<=4096:=by rw[hn];exact zL hw1 hh1
 have bH:1<=n:=by rw[hn];exact Nat.mul_pos hw0 hh0
 have bK:n<=64*W:=by rw[hn,zY];exact mul_le_mul_right W hh1
 have⟨P,hP⟩:=zX (2^d);have bC:(2:Int)^d=(P:Int):=by rw[hP];simp
 have bA:1<=P:=by rw[hP];exact Nat.two_pow_pos d
 have bB:P<=65536:=by rw[hP];exact Nat.pow_le_pow_right (n:=2) (by decide) h1
 have⟨HP,HN⟩:=gy hP hn;rw[<-hn];clear hn hP h;go_enter func27,ntmps27;go_wp2_with fail;refine ba.mono ?_;rintro e w1 ⟨kd,a1,rfl,bG,aN,T⟩;have aL:=mN w1 b cap a1 1048576 A L aN (by omega) (by omega);clear ba aN;go_wp2_with fail;refine aL.mono ?_;rintro e w2 ⟨sd,a2,rfl,bM,z,a9⟩;have⟨rb,aS⟩:=zX w2.heap.size;have⟨w3,aK⟩:=zX (w2.alloc (.cells #[sd] 83));have Z:sj w3 rb sd:=⟨by rw[aK,aS];exact gn.new w2 _ _,by omega⟩;have V:gh (∀F:List Nat,(∀x∈F,rb<x)->ib A L F):=gd (λF hF=>ib.fresh z.cells (λx hx=>by have:=hF x hx;omega));have X:gh (ib A L [rb]):=gd (ib.fresh z.cells (by simp;omega));have aO:jv w3 b A cap L a2:=z.fresh (by rw[aK];exact(zR [] w2).alloc _);have aG:=T.tq a9;have bL:=aG.size;have aX:gg [b] w w3:=by rw[aK];exact aG.alloc _
 have an:rb≠b:=by have:=z.blk.lt;omega
 have am:gh (b<rb):=gd (by have:=z.blk.lt;omega);have bc:w3.heap.size=rb+1:=by rw[aK,aS];simp
 have⟨be,bd,aF⟩:=Q9 aK aS bc;have a0:w.heap.size<=rb:=by omega
 clear aL z T a9 aG aK aS bc;go_wp2_with fail;rw[<-be.o,<-bd.o]
 go_loopg [13,14,15,16,17] n (λj vo vi' v15 v16 v17 wr=>∃(i s:Nat) (l:List Int) (F:List Nat),vi'=.int .i64 i/\i+j=n/\jj wr 3 vo F (l.map vi)/\l.length=i/\gh (ie d l)/\sj wr rb s/\(∀x∈F,rb<x)/\jv wr b A cap L a2/\gg [rb] w3 wr)
 .exact⟨0,sd,[],[],rfl,by omega,jj.nil _ _,rfl,gd (by intro s hs;simp at hs),Z,by simp,aO,zR _ _⟩
 clear Z aO;obtain⟨i,s,l,F,rfl,bE,az,Y,S,Z,hF,a4,aW⟩:=hrel;obtain⟨R,U,rfl,bh,bi,_⟩:=az.T;rcases gk with _|j
 .obtain rfl:i=n:=by omega
  have aY:gg [b] w wr:=aX.trans aW (λx hx=>by rw[zU.1 hx];exact .inr a0);rcases az.cases with⟨_,aZ,_⟩|⟨g,a3,rfl⟩
  .exfalso
   have:=congrArg length aZ
   rw[zE]at this;simp at this;rw[this]at Y;simp at Y;omega
  have bD:=hF g (by simp);clear az hF;go_wp2;go_ret;exact⟨_,g,l,a2,rfl,a3,Y,S.o,a4,aY,by omega⟩
 .have bF:i<n:=by omega
  have⟨x,hx⟩:=zX (i%W);have⟨y,hy⟩:=zX (i / W);have aQ:x<64:=by have:=mod_lt i (show W>0 by omega);omega
  have aR:y<64:=by rw[hy];exact Nat.div_lt_of_lt_mul (by rw[zY];omega)
  have bf:(i:Int)%(W:Int)=(x:Int):=by rw[hx];simp
  have bg:(i:Int) / (W:Int)=(y:Int):=by rw[hy];simp
  have bx:(i:Int).tmod (W:Int)=(x:Int):=by rw[Int.tmod_eq_emod_of_nonneg (by omega)];exact bf
  have bz:(i:Int).tdiv (W:Int)=(y:Int):=by rw[Int.tdiv_eq_ediv_of_nonneg (by omega)];exact bg
  have bb:=λn (a:1<=n) (b:n<=1073741824) w' (hc:gg [] wr w')=>O6 w' rb s n ⟨Z.1.Z hc (by simp),Z.2⟩ a b;have⟨a7,ap,aV⟩:=Q9 bb a4 Z;have I:gh (jj wr 3 (.slice R i U) F (l.map vi)):=gd (by rw[<-Y];exact az);rw[Y];have⟨af,aj,ao⟩:=Q9 Y hF aW;clear hx hy bb a4 Z az hF aW Y bh;go_wp2
  go_quiet (fail)
  have⟨p3,bo⟩:=zX (x / 3);have⟨p4,bq⟩:=zX (y / 4);have bp:p3<64:=by omega
  have br:p4<64:=by omega
  have x3:(x:Int) / 3=(p3:Int):=by omega
  have y4:(y:Int) / 4=(p4:Int):=by omega
  have bN:(x:Int).tdiv 3=(p3:Int):=by rw[Int.tdiv_eq_ediv_of_nonneg (by omega)];exact x3
  have bP:(y:Int).tdiv 4=(p4:Int):=by rw[Int.tdiv_eq_ediv_of_nonneg (by omega)];exact y4
  have⟨xx,a5⟩:=zX (x*x);have⟨yy,a6⟩:=zX (y*y);have bu:xx<=4096:=by rw[a5];exact zL (Nat.le_of_lt aQ) (Nat.le_of_lt aQ)
  have bw:yy<=4096:=by rw[a6];exact zL (Nat.le_of_lt aR) (Nat.le_of_lt aR)
  have bs:(x:Int)*(x:Int)=(xx:Int):=by rw[a5];simp
  have bv:(y:Int)*(y:Int)=(yy:Int):=by rw[a6];simp
  have⟨p2,bm⟩:=zX (yy / 2);have bn:p2<=4096:=by omega
  have y2:(yy:Int) / 2=(p2:Int):=by omega
  have bO:(yy:Int).tdiv 2=(p2:Int):=by rw[Int.tdiv_eq_ediv_of_nonneg (by omega)];exact y2
  have⟨mm,bl⟩:=zX ((x+3*y)%5);have bj:((x:Int)+3*(y:Int))%5=(mm:Int):=by omega
  have bk:((x:Int)+3*(y:Int)).tmod 5=(mm:Int):=by rw[Int.tmod_eq_emod_of_nonneg (by omega)];exact bj
  clear a5 a6 bl bm bo bq;have⟨wy,aP⟩:=zX (wr.drewN nq);have E:gh (gg [rb] wr wy):=gd (by rw[aP];exact((zR [] wr).drewN nq).mono (by simp));have a8:=λn a b=>a7.o n a b wy (by rw[aP];exact(zR [] wr).drewN nq);have N:gh (sj wy rb s):=gd (by rw[aP];exact⟨aV.o.1.drewN _,aV.o.2⟩);have Q:=gd a8;rw[<-aP];clear a7 aV a8 aP;rcases(by omega:kd=0\/kd=1\/kd=2\/kd=3\/kd=4\/kd=5\/kd=6)with rfl|rfl|rfl|rfl|rfl|rfl|rfl
  .obtain⟨v,rfl⟩:=zX sd
   have⟨r,hr⟩:=zX (v%P);have D:r<P:=(by rw[hr];exact mod_lt _ (by omega));have K:(v:Int)%(P:Int)=(r:Int):=(by rw[hr];simp);have aJ:(v:Int).tmod (P:Int)=(r:Int):=(by rw[Int.tmod_eq_emod_of_nonneg (by omega)];exact K);have k:gg [rb] wr wy:=E.o;have ad:jj wy 3 (.slice R i U) F (l.map vi):=I.o.Z k (λy hy=>by have:=aj.o y hy;simp;omega);have J:=N;have u:=ao.o.tq k;have z:=ap.o.Y k (by simpa using an.symm) X.o;have⟨ai,ag,aq,ar⟩:=gu z u D u.size;clear hr D z k u Q ap I ao E N
   go_wp2_with(at_builtin;refine ka rfl rfl iO rfl rfl (ad.alloc _) (.int .i64 r) rfl ?c1 ?c2 ?c3 ?c4 ?_)
   case c1=>simp[go_sem]
   case c2=>rfl
   case c3=>rw[zE,af.o];omega
   case c4=>rw[zE,af.o];omega
   intro g2 au w4 C M;rw[af.o]at C⊢;go_wp2_with fail
   go_roundg j
   .exact rM J.o ai.o ag.o aj.o af.o S.o aq.o HP.o ar.o aF.o am.o (V.o F aj.o) (by omega) C M
   .omega
  .have O:=Q.o 65536 (by omega) (by omega)
   rw[show((65536:Nat):Int)=65536 from rfl]at O;go_wp2_with fail;refine O.mono ?_;rintro e wz ⟨q,s1,rfl,hq,aM,T⟩;clear O;obtain⟨v,rfl⟩:=zX q;have⟨r,hr⟩:=zX (v%P);have D:r<P:=(by rw[hr];exact mod_lt _ (by omega));have K:(v:Int)%(P:Int)=(r:Int):=(by rw[hr];simp);have aJ:(v:Int).tmod (P:Int)=(r:Int):=(by rw[Int.tmod_eq_emod_of_nonneg (by omega)];exact K);have k:gg [rb] wr wz:=E.o.tq T;have ad:jj wz 3 (.slice R i U) F (l.map vi):=I.o.Z k (λy hy=>by have:=aj.o y hy;simp;omega);have J:=gd aM;have u:=ao.o.tq k;have z:=ap.o.Y k (by simpa using an.symm) X.o;have⟨ai,ag,aq,ar⟩:=gu z u D u.size;clear hr D z k u Q ap I ao E N
   go_wp2_with(at_builtin;refine ka rfl rfl iO rfl rfl (ad.alloc _) (.int .i64 r) rfl ?c1 ?c2 ?c3 ?c4 ?_)
   case c1=>simp[go_sem]
   case c2=>rfl
   case c3=>rw[zE,af.o];omega
   case c4=>rw[zE,af.o];omega
   intro g2 au w4 C M;rw[af.o]at C⊢;go_wp2_with fail
   go_roundg j
   .exact rM J.o ai.o ag.o aj.o af.o S.o aq.o HP.o ar.o aF.o am.o (V.o F aj.o) (by omega) C M
   .omega
  .have O:=Q.o 3 (by omega) (by omega)
   rw[show((3:Nat):Int)=3 from rfl]at O;go_wp2_with fail;refine O.mono ?_;rintro e wz ⟨q,s1,rfl,hq,aM,T⟩;clear O;have⟨v,hv⟩:=zX (sd+3*x+2*y+q);have aT:(sd:Int)+3*(x:Int)+2*(y:Int)+(q:Int)=(v:Int):=(by omega);have aU:v<1073741824:=(by omega);clear hv;have⟨r,hr⟩:=zX (v%P);have D:r<P:=(by rw[hr];exact mod_lt _ (by omega));have K:(v:Int)%(P:Int)=(r:Int):=(by rw[hr];simp);have aJ:(v:Int).tmod (P:Int)=(r:Int):=(by rw[Int.tmod_eq_emod_of_nonneg (by omega)];exact K);have k:gg [rb] wr wz:=E.o.tq T;have ad:jj wz 3 (.slice R i U) F (l.map vi):=I.o.Z k (λy hy=>by have:=aj.o y hy;simp;omega);have J:=gd aM;have u:=ao.o.tq k;have z:=ap.o.Y k (by simpa using an.symm) X.o;have⟨ai,ag,aq,ar⟩:=gu z u D u.size;clear hr D z k u Q ap I ao E N
   go_wp2_with(at_builtin;refine ka rfl rfl iO rfl rfl (ad.alloc _) (.int .i64 r) rfl ?c1 ?c2 ?c3 ?c4 ?_)
   case c1=>simp[go_sem]
   case c2=>rfl
   case c3=>rw[zE,af.o];omega
   case c4=>rw[zE,af.o];omega
   intro g2 au w4 C M;rw[af.o]at C⊢;go_wp2_with fail
   go_roundg j
   .exact rM J.o ai.o ag.o aj.o af.o S.o aq.o HP.o ar.o aF.o am.o (V.o F aj.o) (by omega) C M
   .omega
  .have O:=Q.o 5 (by omega) (by omega)
   rw[show((5:Nat):Int)=5 from rfl]at O;go_wp2_with fail;refine O.mono ?_;rintro e wz ⟨q,s1,rfl,hq,aM,T⟩;clear O;have⟨v,hv⟩:=zX (sd+q*7);have aT:(sd:Int)+(q:Int)*7=(v:Int):=(by omega);have aU:v<1073741824:=(by omega);clear hv;have⟨r,hr⟩:=zX (v%P);have D:r<P:=(by rw[hr];exact mod_lt _ (by omega));have K:(v:Int)%(P:Int)=(r:Int):=(by rw[hr];simp);have aJ:(v:Int).tmod (P:Int)=(r:Int):=(by rw[Int.tmod_eq_emod_of_nonneg (by omega)];exact K);have k:gg [rb] wr wz:=E.o.tq T;have ad:jj wz 3 (.slice R i U) F (l.map vi):=I.o.Z k (λy hy=>by have:=aj.o y hy;simp;omega);have J:=gd aM;have u:=ao.o.tq k;have z:=ap.o.Y k (by simpa using an.symm) X.o;have⟨ai,ag,aq,ar⟩:=gu z u D u.size;clear hr D z k u Q ap I ao E N
   go_wp2_with(at_builtin;refine ka rfl rfl iO rfl rfl (ad.alloc _) (.int .i64 r) rfl ?c1 ?c2 ?c3 ?c4 ?_)
   case c1=>simp[go_sem]
   case c2=>rfl
   case c3=>rw[zE,af.o];omega
   case c4=>rw[zE,af.o];omega
   intro g2 au w4 C M;rw[af.o]at C⊢;go_wp2_with fail
   go_roundg j
   .exact rM J.o ai.o ag.o aj.o af.o S.o aq.o HP.o ar.o aF.o am.o (V.o F aj.o) (by omega) C M
   .omega
  .have⟨v,hv⟩:=zX (sd+p3*11+p4)
   have aT:(sd:Int)+(p3:Int)*11+(p4:Int)=(v:Int):=(by omega);have aU:v<1073741824:=(by omega);clear hv;have⟨r,hr⟩:=zX (v%P);have D:r<P:=(by rw[hr];exact mod_lt _ (by omega));have K:(v:Int)%(P:Int)=(r:Int):=(by rw[hr];simp);have aJ:(v:Int).tmod (P:Int)=(r:Int):=(by rw[Int.tmod_eq_emod_of_nonneg (by omega)];exact K);have k:gg [rb] wr wy:=E.o;have ad:jj wy 3 (.slice R i U) F (l.map vi):=I.o.Z k (λy hy=>by have:=aj.o y hy;simp;omega);have J:=N;have u:=ao.o.tq k;have z:=ap.o.Y k (by simpa using an.symm) X.o;have⟨ai,ag,aq,ar⟩:=gu z u D u.size;clear hr D z k u Q ap I ao E N
   go_wp2_with(at_builtin;refine ka rfl rfl iO rfl rfl (ad.alloc _) (.int .i64 r) rfl ?c1 ?c2 ?c3 ?c4 ?_)
   case c1=>simp[go_sem]
   case c2=>rfl
   case c3=>rw[zE,af.o];omega
   case c4=>rw[zE,af.o];omega
   intro g2 au w4 C M;rw[af.o]at C⊢;go_wp2_with fail
   go_roundg j
   .exact rM J.o ai.o ag.o aj.o af.o S.o aq.o HP.o ar.o aF.o am.o (V.o F aj.o) (by omega) C M
   .omega
  .have⟨v,hv⟩:=zX (sd+xx+p2)
   have aT:(sd:Int)+(xx:Int)+(p2:Int)=(v:Int):=(by omega);have aU:v<1073741824:=(by omega);clear hv;have⟨r,hr⟩:=zX (v%P);have D:r<P:=(by rw[hr];exact mod_lt _ (by omega));have K:(v:Int)%(P:Int)=(r:Int):=(by rw[hr];simp);have aJ:(v:Int).tmod (P:Int)=(r:Int):=(by rw[Int.tmod_eq_emod_of_nonneg (by omega)];exact K);have k:gg [rb] wr wy:=E.o;have ad:jj wy 3 (.slice R i U) F (l.map vi):=I.o.Z k (λy hy=>by have:=aj.o y hy;simp;omega);have J:=N;have u:=ao.o.tq k;have z:=ap.o.Y k (by simpa using an.symm) X.o;have⟨ai,ag,aq,ar⟩:=gu z u D u.size;clear hr D z k u Q ap I ao E N
   go_wp2_with(at_builtin;refine ka rfl rfl iO rfl rfl (ad.alloc _) (.int .i64 r) rfl ?c1 ?c2 ?c3 ?c4 ?_)
   case c1=>simp[go_sem]
   case c2=>rfl
   case c3=>rw[zE,af.o];omega
   case c4=>rw[zE,af.o];omega
   intro g2 au w4 C M;rw[af.o]at C⊢;go_wp2_with fail
   go_roundg j
   .exact rM J.o ai.o ag.o aj.o af.o S.o aq.o HP.o ar.o aF.o am.o (V.o F aj.o) (by omega) C M
   .omega
  .have⟨v,hv⟩:=zX (sd+mm*9)
   have aT:(sd:Int)+(mm:Int)*9=(v:Int):=(by omega);have aU:v<1073741824:=(by omega);clear hv;have⟨r,hr⟩:=zX (v%P);have D:r<P:=(by rw[hr];exact mod_lt _ (by omega));have K:(v:Int)%(P:Int)=(r:Int):=(by rw[hr];simp);have aJ:(v:Int).tmod (P:Int)=(r:Int):=(by rw[Int.tmod_eq_emod_of_nonneg (by omega)];exact K);have k:gg [rb] wr wy:=E.o;have ad:jj wy 3 (.slice R i U) F (l.map vi):=I.o.Z k (λy hy=>by have:=aj.o y hy;simp;omega);have J:=N;have u:=ao.o.tq k;have z:=ap.o.Y k (by simpa using an.symm) X.o;have⟨ai,ag,aq,ar⟩:=gu z u D u.size;clear hr D z k u Q ap I ao E N
   go_wp2_with(at_builtin;refine ka rfl rfl iO rfl rfl (ad.alloc _) (.int .i64 r) rfl ?c1 ?c2 ?c3 ?c4 ?_)
   case c1=>simp[go_sem]
   case c2=>rfl
   case c3=>rw[zE,af.o];omega
   case c4=>rw[zE,af.o];omega
   intro g2 au w4 C M;rw[af.o]at C⊢;go_wp2_with fail
   go_roundg j
   .exact rM J.o ai.o ag.o aj.o af.o S.o aq.o HP.o ar.o aF.o am.o (V.o F aj.o) (by omega) C M
   .omega
theorem P7(c:Nat)(w:World)(a:1<=c)(j:c<=16):Calls prog 39 #[c] w λe w'=>e=.returned (.bool true)/\w=w':=by
 have k:=jB 1 c (by omega);have r:=jB c 16 (by omega);go_enter func39,ntmps39;go_wp2;go_ret;exact⟨rfl,rfl⟩
theorem Qe(v:Int)(d:Nat)(w:World)(a:1<=d)(j:d<=16):Calls prog 29 #[v,d] w λe w'=>e=.returned (.int .i64 (gU v d))/\w=w':=by
 obtain⟨u,x⟩:=jX a j;have k:=Gc v (i:=d) (by omega);have s:=P7 d w a j;have r:=gd k;clear k;go_enter func29,ntmps29;go_wp2_with fail;refine s.mono ?_;rintro e y ⟨rfl,rfl⟩;go_wp2;go_ret;exact⟨congrArg (λz=>Ending.returned (.int .i64 z)) r.o,rfl⟩
theorem OK(w:World)(A:Option Addr)(cap:Nat)(L:List Int)(r:gz vi w A L)(a:∀x∈L,mw x)(j:L.length<=9223372036854775807):Calls prog 5 #[.slice A L.length cap] w λe w'=>∃b,e=.returned (.pointer (some ⟨b,0,none⟩))/\jv w' b A cap L 0/\gg [] w w'/\w.heap.size<=b:=by
 have⟨HC,HI⟩:=gy r a;clear r a;go_enter func5,ntmps5;go_wp2;go_ret;have k:gg [] w (w.alloc (.cells #[.slice A L.length cap,(0:Int)] 52)):=(zR [] w).alloc _;exact⟨w.heap.size,rfl,⟨gn.new w _ _,HC.o.Z k (by simp),ib.fresh HC.o (by simp),HI.o,zero_le _,j⟩,k,zQ _⟩
theorem OY(w:World)(A B:Option Addr)(M N:Nat)(a k:List Int)(hA:gz vi w A a)(C:gz vi w B k)(R:a.length<=4096)(S:k.length<=4611686018427387904):Calls prog 67 #[.slice A a.length M,.slice B k.length N] w λe w'=>e=.returned (.bool (decide (a=k)))/\∃q,w'=w.drewN q:=by
 by_cases hne:a.length=k.length
 .have⟨n,hn⟩:=zX a.length
  have z:k.length=n:=by rw[hn,hne]
  rw[z];rw[<-hn]at R⊢;have⟨HA,HB⟩:=gy hn z;clear hn z hne S;have V:((n:Int)==(n:Int))=true:=by simp
  have X:((n:Int) != (n:Int))=false:=by simp
  go_enter func67,ntmps67;go_wp2_with fail
  go_loopg [5] n (λj iv wr=>∃i q:Nat,iv=.int .i64 i/\i+j=n/\gh (a.take i=k.take i)/\wr=w.drewN q)
  .exact⟨0,0,rfl,by omega,gd rfl,rfl⟩
  obtain⟨i,q,rfl,aj,E,rfl⟩:=hrel;rcases gk with _|j
  .obtain rfl:i=n:=by omega
   have D:=E.o;rw[zT (by rw[<-HA.o];exact zQ _),zT (by rw[HB.o];exact zQ _)]at D;have Q:gh (decide (a=k)=true):=gd (zB D);clear D;go_wp2;go_ret;exact⟨by rw[Q.o];rfl,q,rfl⟩
  .have ad:i<n:=by omega
   have I:i<a.length:=(by rw[<-HA.o];exact ad);have J:i<k.length:=(by rw[HB.o];exact ad);obtain⟨O,T,rfl,s⟩:=hA.at_ I;obtain⟨P,U,rfl,u⟩:=C.at_ J;have⟨x,hx⟩:=zX (a[i]);have⟨y,hy⟩:=zX (k[i]);rw[<-hx]at s;rw[<-hy]at u;have cA:w.cell? ⟨O,T+i,none⟩=some (.int .i64 x):=s;have cB:w.cell? ⟨P,U+i,none⟩=some (.int .i64 y):=u;have⟨HX,HY,ag,ah⟩:=gu hx hy I J;have Z:=gd C;clear hx hy s u hA C;go_wp2
   go_quiet (fail)
   by_cases hxy:x=y
   .subst hxy
    have Y:(x != x)=false:=(by simp);go_wp2
    go_roundg j
    .refine⟨i+1,q+nq,by go_num,by omega,gd ?_,by first|rfl|rw[World.drewN_drewN]⟩
     rw[take_succ_eq_append_getElem ag.o,take_succ_eq_append_getElem ah.o,E.o,<-HX.o,<-HY.o]
    .omega
   .have Y:(x != y)=true:=by simpa using hxy
    have r:decide (a=k)=false:=zA λe=>hxy (by rw[HX.o,HY.o];subst e;rfl);have K:=gd r;clear r;go_wp2;go_ret;exact⟨by rw[K.o];rfl,q+nq,by first|rfl|rw[World.drewN_drewN]⟩
 .have r:decide (a=k)=false:=zA λe=>hne (by rw[e])
  rw[r];have V:((a.length:Int)==(k.length:Int))=false:=by simpa using(by omega:¬(a.length:Int)=k.length)
  have X:(a.length==k.length)=false:=by simpa using hne
  go_enter func67,ntmps67;go_wp2;go_ret;exact⟨rfl,0,rfl⟩
theorem QD{α:Type}{g:Nat}{l:List α}{F:List Nat}(h:g∉F):ib (some ⟨g,0,none⟩) l F:=λ_ ad e=>by
 injection e with e;subst e;exact h
theorem M8{w:World}{p q:qc}{g o:Nat}(cap:Nat)(h:ip w p g o B c G)(s:Nat)(y:ip w q g' o' B' c' G')(r:p.P=q.P)(J:p.W=q.W)(hH:p.H=q.H):Calls prog 37 #[.slice (some ⟨g,o,none⟩) p.P.length cap,.slice (some ⟨g',o',none⟩) q.P.length s] w λe w'=>e=.returned (.bool true)/\gg [] w w':=by
 have x:=h.ok;have⟨N,hN⟩:=zX (p.W*p.H);have D:∀wr,gg [] w wr->∀i,i<p.P.length->wr.cell? ⟨g,o+i,none⟩=some (.slice (B i) N (c i))/\wr.cell? ⟨g',o'+i,none⟩=some (.slice (B' i) N (c' i))/\∀wz,gg [] w wz->Calls prog 67 #[.slice (B i) N (c i),.slice (B' i) N (c' i)] wz λe w'=>e=.returned (.bool true)/\∃q,w'=wz.drewN q:=by
  intro wr K i a;have z:=(h.Y K).X i a;have C:=(y.Y K).X i (by rw[<-r];exact a);rw[<-hN]at z;rw[<-J,<-hH,<-hN]at C;refine⟨z,C,λwz hz=>?_⟩;have E:=h.len a;have e2:=y.len (i:=i) (by rw[<-r];exact a);have Q:=(h.Y hz).cells i a;have M:=(y.Y hz).cells i (by rw[<-r];exact a);rw[<-r]at M e2;have I:=OY wz (B i) (B' i) (c i) (c' i) _ _ Q M (by rw[E];exact x.area) (by rw[E];have:=x.area;omega);rw[E,<-hN]at I
  simpa using I
 rw[<-r];have⟨n,hn⟩:=zX p.P.length;have S:n<=4:=by rw[hn];exact x.n1
 rw[<-hn]at D⊢;have O:=gd D;have T:((n:Int) != (n:Int))=false:=by simp
 clear D hn x h y r J hH hN;go_enter func37,ntmps37;go_wp2_with fail
 go_loopg [5] n (λj v5 wr=>∃i:Nat,v5=.int .i64 i/\i+j=n/\gh (gg [] w wr))
 .exact⟨0,rfl,by omega,gd (zR _ _)⟩
 obtain⟨i,rfl,R,u⟩:=hrel;rcases gk with _|j
 .obtain rfl:i=n:=by omega
  have U:decide (i<i)=false:=by simp
  go_wp2;go_ret;exact⟨rfl,u.o⟩
 .have a:i<n:=by omega
  obtain⟨c1,c2,ad⟩:=O.o wr u.o i a;have P:gh (∀k,Calls prog 67 #[.slice (B i) N (c i),.slice (B' i) N (c' i)] (wr.drewN k) λe w'=>e=.returned (.bool true)/\∃q,w'=wr.drewN q):=gd (λk=>(ad (wr.drewN k) (u.o.drewN k)).mono λe w' h=>by
   obtain⟨z,q,C⟩:=h;exact⟨z,k+q,by rw[C,World.drewN_drewN]⟩)
  clear ad;go_wp2_with fail
  go_quiet ((go_at_call 67;exact P.o _))
  go_wp2_with fail
  go_roundg j
  .exact⟨i+1,by go_num,by omega,gd (u.o.drewN nq)⟩
  .omega
theorem LO{w:World}{p q:qc}{g o:Nat}(cap:Nat)(h:ip w p g o B c G)(a:Nat)(s:ip w q g' o' B' c' G')(u:p.P=q.P)(k:p.W=q.W)(hH:p.H=q.H)(x:p.d=q.d):Calls prog 25 #[gW p g o cap,gW q g' o' a] w λe w'=>e=.returned (.bool true)/\gg [] w w':=by
 have y:=λw' (hc:gg [] w w')=>M8 cap (h.Y hc) a (s.Y hc) u k hH;unfold gW;rw[<-k,<-hH,<-x];have j:gg [] w ((w.alloc (.cells #[p.W,p.H,p.d,.slice (some ⟨g,o,none⟩) p.P.length cap] 46)).alloc (.cells #[p.W,p.H,p.d,.slice (some ⟨g',o',none⟩) q.P.length a] 46)):=((zR [] w).alloc _).alloc _;have r:=y _ j;have⟨HR,HC⟩:=gy r j;clear y r j h s k hH x u;go_enter func25,ntmps25;go_wp2_with fail;refine HR.o.mono ?_;rintro e C ⟨rfl,z⟩;go_wp2;go_ret;exact⟨rfl,HC.o.tq z⟩
structure ku (w:World) (p:qc) (g o cap b capT:Nat) (A:Option Addr) (L:List Int) (bx nb rb gP cP:Nat) (wr:World) (q:qc) (xs:List Value) (gs:List Nat) (at':Nat):Prop where
 own:iL wr q gP cP xs gs
 al:iY p q
 tp:jv wr b A capT L at'
 Z:gg [b] w wr
 bxB:gn wr bx 46 #[p.W,p.H,p.d,.slice (some ⟨g,o,none⟩) p.P.length cap]
 nbB:gn wr nb 46 #[p.W,p.H,p.d,.slice gP p.P.length cP]
 rbB:gn wr rb 46 #[(0:Int),(0:Int),(0:Int),.slice none 0 0]
 Q:∀x∈gP::gs,w.heap.size<=x/\x≠bx/\x≠nb/\x≠rb
 big:w.heap.size<=bx/\w.heap.size<=nb/\w.heap.size<=rb
 old:b<w.heap.size
 tpA:∀F:List Nat,(∀x∈F,w.heap.size<=x)->ib A L F
section
variable {w:World} {p:qc} {g o cap b capT:Nat} {A:Option Addr} {L:List Int} {bx nb rb gP cP:Nat} {wr:World} {q:qc} {xs:List Value} {gs:List Nat} {at':Nat}
theorem ku.tape(h:ku w p g o cap b capT A L bx nb rb gP cP wr q xs gs at')(a:gg [b] wr w')(tp:jv w' b A capT L at2):ku w p g o cap b capT A L bx nb rb gP cP w' q xs gs at2:=by
 have r:=h.old;obtain⟨e,j,k⟩:=h.big
 exact { h with
  own:=h.own.Z a (by have:=(h.Q gP (by simp)).1;simp;omega) (λx hx=>by have:=(h.Q x (by simp[hx])).1;simp;omega)
  tp:=tp
  Z:=h.Z.tq a
  bxB:=h.bxB.Z a (by simp;omega)
  nbB:=h.nbB.Z a (by simp;omega)
  rbB:=h.rbB.Z a (by simp;omega) }
theorem ku.Y(h:ku w p g o cap b capT A L bx nb rb gP cP wr q xs gs at')(a:gg [] wr w'):ku w p g o cap b capT A L bx nb rb gP cP w' q xs gs at':=h.tape (a.mono (by simp)) (h.tp.fresh a)
theorem ku.turn(h:ku w p g o cap b capT A L bx nb rb gP cP wr q xs gs at'){r:qc}{j:List Value}{a F:List Nat}(e:gg F wr w')(hF:∀x∈F,w.heap.size<=x/\x≠bx/\x≠nb/\x≠rb)(own:iL w' r gP cP j a)(al:iY p r)(k:∀x∈gP::a,w.heap.size<=x/\x≠bx/\x≠nb/\x≠rb):ku w p g o cap b capT A L bx nb rb gP cP w' r j a at':=by
 have s:=h.old
 exact { h with
  own:=own
  al:=al
  Q:=k
  tp:=h.tp.Y e (λhm=>by have:=(hF b hm).1;omega) (h.tpA F λx hx=>(hF x hx).1)
  Z:=h.Z.trans e λx hx=>.inr (hF x hx).1
  bxB:=h.bxB.Z e λhm=>(hF _ hm).2.1 rfl
  nbB:=h.nbB.Z e λhm=>(hF _ hm).2.2.1 rfl
  rbB:=h.rbB.Z e λhm=>(hF _ hm).2.2.2 rfl }
theorem ku.store(h:ku w p g o cap b capT A L bx nb rb gP cP wr q xs gs at'){a k:Nat}{v:Int}(r:i<q.P.length)(j:gs[i]?=some a)(I:k<q.W*q.H)(J:0<=v)(K:v<2^q.d):∃q',ku w p g o cap b capT A L bx nb rb gP cP (wr.setCell ⟨a,k,none⟩ (.int .i64 v)) q' xs gs at':=by
 obtain⟨g',c,D,e,E,M⟩:=h.own.plane r;rw[j]at e;injection e with e;subst e;have u:=oO r;have s:=h.own.ok.len _ u;have C:=h.own.ok.smp _ u;refine⟨yj q i ((q.P.getD i []).set k v),?_⟩;have z:a∈gs:=mem_of_getElem? j;refine h.turn (F:=[a]) ((zR [a] wr).zs k _) ?_ ?_ (Hz h.al i _) h.Q
 .intro x y
  simp at y;subst y;exact h.Q x (by simp[z])
 .exact h.own.sample D j r E (by rw[s];exact I) (H3 h.own.ok i (by rw[length_set];exact s) (Qi C k J K)) rfl
theorem ku.plane(h:ku w p g o cap b capT A L bx nb rb gP cP wr q xs gs at'){e:World}{k:Nat}{u:Value}{l:List Int}(E:i<q.P.length)(z:gg [b] wr e)(K:jv e b A capT L at2)(r:gv e 3 u k (l.map vi))(y:wr.heap.size<=k)(I:l.length=q.W*q.H)(J:ie q.d l):∃q',ku w p g o cap b capT A L bx nb rb gP cP (e.setCell ⟨gP,i,none⟩ u) q' (xs.set i u) (gs.set i k) at2:=by
 have D:=h.tape z K;have P:=h.old;have j:=h.Q;obtain⟨M,N,O⟩:=h.big;have Q:=h.bxB.lt;have R:=h.nbB.lt;have S:=h.rbB.lt;refine⟨yj q i l,?_⟩;refine D.turn (F:=[gP]) ((zR [gP] e).zs i _) ?_ ?_ (Hz h.al i _) ?_
 .intro x a
  simp at a;subst a;exact h.Q x (by simp)
 .refine h.own.replace E r z ?_ y (H3 h.own.ok i I J) rfl
  intro x a C;simp at C;subst C
  have:=(j x a).1
  omega
 .intro x a
  rcases zJ.1 a with rfl|a
  .exact j x (by simp)
  .rcases mem_or_eq_of_mem_set a with s|s
   .exact j x (by simp[s])
   .subst s
    exact⟨by omega,by omega,by omega,by omega⟩
theorem ku.at_(h:ku w p g o cap b capT A L bx nb rb gP cP wr q xs gs at'){N:Nat}(I:i<p.P.length)(E:N=p.W*p.H):∃a j,gs[i]?=some a/\a∈gs/\wr.cell? ⟨gP,i,none⟩=some (.slice (some ⟨a,0,none⟩) N j)/\wr.frozen? ⟨gP,i,none⟩=false/\(∀k,k<N->∃v:Int,wr.cell? ⟨a,k,none⟩=some (.int .i64 v)/\0<=v/\v<2^p.d)/\∀k,wr.frozen? ⟨a,k,none⟩=false:=by
 have e:i<q.P.length:=by rw[<-h.al.n];exact I
 obtain⟨a,j,J,s,D,u⟩:=h.own.plane e;obtain⟨_,_,_,_,_,ad⟩:=h.own.row.open_;obtain⟨_,_,_,_,x,y⟩:=D.T;have r:=h.own.ok.len _ (oO e);have z:=h.own.ok.smp _ (oO e);have C:q.W*q.H=N:=by rw[E,h.al.W,h.al.H]
 rw[C]at u r;refine⟨a,j,s,mem_of_getElem? s,u,ad i,λk hk=>⟨(q.P.getD i []).getD k 0,x k _ ?_,?_⟩,y⟩
 .rw[zD (l:=q.P.getD i []),zF (by rw[r];exact hk)]
  rfl
 .rw[h.al.d]
  exact mK z k
end
end Go.Proofs.YtifdlkoepaepiaaGreatDoor
