/- Lemmas. -/
import Derived.Test.YtnepiccbpokmiaaGreatDoorMg38
import Derived.Test.YtnepiccbpokmiaaGreatDoorMg40
import Derived.Deep.CutRange
set_option linter.all false
set_option maxHeartbeats 4000000
set_option maxRecDepth 100000
namespace Go.Proofs.YtnepiccbpokmiaaGreatDoor
open Tryz List Nat Go.RowKit
variable {G G' f:List Nat}{at2 c g' i k m o' v:Nat}{c':Nat->Nat}{B B':Nat->Option Addr}{w':World}
theorem MP(w:World)(b:Nat)(F bs:List Nat)(lens l:List Nat)(A U:Option Addr)(cap I:Nat)(h:hJ w b F bs)(O:lL lens)(S:gu i64 w A lens)(hA:gM A lens F)(hl:l.length<=4096)(N:gu i64 w U l)(M:gM U l F)(hs:∀s∈l,s<lens.length/\0<gI lens s)(hbs:bs.length<137438953472):Calls prog 212 #[.pointer b,.slice A lens.length cap,.slice U l.length I] w λe w'=>e=.returned (.int .i64 0)/\∃F',hJ w' b F' (bs++nC lens l)/\gB F F' w w':=by
 have V:=L6 lens A cap w O S;have aE:=h.lt;have⟨n,hn⟩:=zX lens.length;have⟨m,hm⟩:=zX l.length;have aS:=O.n1;have aT:=O.n2;rw[<-hn]at V hs aS aT⊢;rw[<-hm]at hl⊢;have⟨HN,HM,HS,HF⟩:=gz hn hm hs O;have⟨HA,aI,az⟩:=gS hA M aE;clear hn hm hs O hA M aE;go_enter func212,ntmps212;go_wp2_with fail;refine V.mono ?_;rintro e T ⟨vw,y,rfl,D,r,aZ⟩;obtain⟨cw,rfl,aq,aQ,ah,_⟩:=D.oq;have aG:(nY lens).length=n:=by rw[HN.o];exact nc lens _
 rw[aG]at aq⊢;have aJ:=gd ah;clear V aG ah;go_wp2_with fail
 go_loopg [10,23] m (λj v10 iv wr=>∃(i:Nat),iv=.int .i64 i/\i+j=m/\wr=T)
 .exact⟨0,rfl,by omega,rfl⟩
 obtain⟨i,rfl,a0,aV⟩:=hrel;obtain rfl:=aV.symm;rcases gk with _|j
 .obtain rfl:i=m:=by omega
  go_wp2_with fail
  go_loopg [12,45] i (λj v12 iv wr2=>∃(q:Nat) (F' z:List Nat),iv=.int .i64 q/\q+j=i/\hJ wr2 b F' z/\gh (z=bs++nC lens (l.take q))/\z.length<=bs.length+24*q/\gB F F' T wr2)
  .exact⟨0,F,bs,rfl,by omega,h.Y r,gd (by simp[nC]),by omega,gB.refl F _⟩
  obtain⟨q,F',z,rfl,a1,aH,Y,aY,a⟩:=hrel;rcases gk with _|j
  .obtain rfl:q=i:=by omega
   go_wp2;go_ret;refine⟨rfl,F',?_,gB.pre r a⟩;have e:l.take q=l:=(by rw[HM.o,zN]);have h5:=Y.o;rw[e]at h5;rw[<-h5];exact aH
  .have aU:q<i:=by omega
   have Q:q<l.length:=(by rw[<-HM.o];exact aU);have x:0<lens.length:=(by rw[<-HN.o];omega);obtain⟨gl,ol,rfl,J⟩:=oF ((N.Y r).Q aI.o a.Z) Q;obtain⟨ad,R⟩:=HS.o l[q] (zG Q);have E:=Az lens (l.take q) l[q];rw[<-jd l Q]at E;have⟨s,aj⟩:=zX (l[q]);rw[<-aj]at J ad R E;have al:=DH HF.o R;have aX:gI lens s<=24:=by
    unfold gI;rw[zD,zF (by rw[<-HN.o];exact ad)];exact HF.o.le _ (zG _)
   have aF:uZ lens s=gA (nj lens s) (gI lens s):=rfl;rw[aF]at E
   -- the cells of the two tables
   have aD:=(S.Y r).Q HA.o a.Z;obtain⟨u,P,rfl,aC,C⟩:=aD.ex x;have K:=C s (gI lens s) (by unfold gI;rw[zD,zF (by rw[<-HN.o];exact ad)];rfl);have af:=aJ.o s (nj lens s) (by unfold nj;rw[zD,zF (by unfold nY;rw[nc,<-HN.o];exact ad)];rfl);have av:y∉F':=a.o D.lt (λhm=>by have:=az.o _ hm;omega);have au:u∉F':=λhm=>by
    have h8:=(HA.o.grow (S.Y r) a) x _ rfl;exact h8 hm
   have aL:wr.cell? ⟨y,s,none⟩=some (.int .u64 (nj lens s:Int)):=(World.cell?_of_block (w:=T) (a.Z.block y D.lt (λhm=>by have:=az.o _ hm;omega))).trans af;have Z:wr.cell? ⟨u,P+s,none⟩=some (.int .i64 (gI lens s:Int)):=K;have aW:wr.cell? ⟨gl,ol+q,none⟩=some (.int .i64 s):=J;generalize nj lens s=wd at *;generalize gI lens s=L at *
   have hS:∀w',gf F' wr w'->w'.cell? ⟨y,s,none⟩=some (.int .u64 wd)/\w'.cell? ⟨u,P+s,none⟩=some (.int .i64 L):=λw' hc'=>
    ⟨(World.cell?_of_block (w:=wr) (hc'.block y (Nat.lt_of_lt_of_le D.lt a.size) av)).trans aL,(World.cell?_of_block (w:=wr) (hc'.block u aC au)).trans Z⟩
   have⟨aA,aK,ao⟩:=gS hS E al;have aM:(0:Int)<=(q:Int):=(by omega);have aN:(q:Int)<(i:Int):=(by omega);have aO:(0:Int)<=(s:Int):=(by omega);have aP:(s:Int)<(n:Int):=(by omega);clear hS E al C K J af aj aF Q x aD D;go_wp2_with fail;have ax:=λw9 (hc9:gf [] wr w9)=>i8 w9 b F' z wd L (aH.Y hc9) (by omega) ao.o (by omega)
   go_region_held3 (λw'=>w'.cell? ⟨y,s,none⟩=some (.int .u64 wd)/\w'.cell? ⟨u,P+s,none⟩=some (.int .i64 L)) (first|(go_keep;done)|exact aA.o _ (((zR F' wr).drew).tq (gB.Z (by assumption)))|exact aA.o _ (gB.Z (by assumption)))
    (first|(go_at_call 70;refine(ax _ (by first|exact zR _ _|exact(zR [] wr).drew|exact(zR [] wr).drewN _)).mono ?_;rintro e w5 ⟨rfl,F5,ay,ar⟩))
   go_wp2_with fail
   go_roundg j
   .refine⟨q+1,F5,_,by go_num,by omega,ay,gd ?_,?_,a.trans (gB.pre ((zR [] wr).drew) ar)⟩
    .rw[aK.o,Y.o];simp only[zH]
    .rw[zC,gJ];omega
   .omega
 .have aR:i<m:=by omega
  have X:i<l.length:=by rw[<-HM.o];exact aR
  obtain⟨gl,ol,rfl,J⟩:=oF (N.Y r) X;obtain⟨ad,R⟩:=HS.o l[i] (zG X);have x:0<lens.length:=by rw[<-HN.o];omega
  have⟨s,aj⟩:=zX (l[i]);rw[<-aj]at J ad R;obtain⟨u,P,rfl,aC,C⟩:=(S.Y r).ex x;have K:=C s (gI lens s) (by unfold gI;rw[zD,zF (by rw[<-HN.o];exact ad)];rfl);have Z:T.cell? ⟨u,P+s,none⟩=some (.int .i64 (gI lens s:Int)):=K;have t1:=gL s 0 (by omega);have t3:((gI lens s:Int)==0)=false:=by rw[beq_eq_false_iff_ne];omega
  have aM:(0:Int)<=(i:Int):=by omega
  have aN:(i:Int)<(m:Int):=by omega
  have aO:(0:Int)<=(s:Int):=by omega
  have aP:(s:Int)<(n:Int):=by omega
  generalize gI lens s=L at *;clear K C aj X x;go_wp2_with fail
  go_roundg j
  .exact⟨i+1,by go_num,by omega,rfl⟩
  .omega
theorem Io(w:World)(b:Nat)(F bs:List Nat)(lens:List Nat)(A:Option Addr)(cap:Nat)(h:hJ w b F bs)(C:lL lens)(hc:gu i64 w A lens)(hA:gM A lens F)(hbs:bs.length<137438953472):Calls prog 211 #[.pointer b,.slice A lens.length cap] w λe w'=>e=.returned (.int .i64 0)/\∃F',hJ w' b F' (bs++oX lens)/\gB F F' w w':=by
 have Q:=DY lens A cap w C hc;have aL:=C.n1;have aM:=C.n2;have az:=C.le;have S:=Ba lens;have⟨n,hn⟩:=zX lens.length;rw[<-hn]at Q aL aM S⊢;rw[S];have⟨HN,HA,aG⟩:=gS hn hA az;have al:=λi=>FT 66 (lens.drop i);have Y:=λi=>zz 66 (lens.drop i);have aF:=λi=>Fw 66 (lens.drop i);have aE:=λi=>Fv 66 (lens.drop i);have⟨ao,aH,aJ,aI⟩:=gz al Y aF aE;clear hn hA S az C al Y aF aE;have k1:IntKind.u64.wrap ((n:Int)-1)=((n-1:Nat):Int):=by
  have e:((n-1:Nat):Int)=(n:Int)-1:=by omega
  rw[e];exact IntWalk.u64_in _ (by omega)
 go_enter func211,ntmps211;go_wp2_with fail;refine gx Q ?_;go_wp2_with fail;refine(i8 w b F bs (n-1) 10 h (by omega) (by omega) (by omega)).mono ?_;rintro e w1 ⟨rfl,F1,aj,ai⟩;clear h Q;go_wp2_with fail
 go_loopg [5,6] n (λk vi' vz wr=>∃(i:Nat) (F' u:List Nat),vi'=.int .i64 i/\i<=n/\n<=i+k/\hJ wr b F' u/\gh (u++nh lens i=bs++(gA (n-1) 10++nh lens 0))/\u.length<=bs.length+10+11*i/\gB F F' w wr)
 .exact⟨0,F1,_,rfl,by omega,by omega,aj,gd (by rw[zH]),by rw[zC,gJ];omega,ai⟩
 clear aj ai;obtain⟨D,rfl⟩:=zX wr;obtain⟨i,F',u,rfl,aK,aV,T,N,aT,E⟩:=hrel;by_cases hend:n<=i
 .obtain rfl:i=n:=by omega
  go_wp2;go_ret;refine⟨rfl,F',?_,E⟩;have h5:=N.o;have e:=AI lens;rw[<-HN.o]at e;rw[e,append_nil]at h5;rw[<-h5];exact T
 .rcases gk with _|ko
  .omega
  .have hi:i<n:=by omega
   have⟨Z,hZ⟩:=zX (zr 66 (lens.drop i));have z1:=ao.o i;have z2:=aH.o i;have U:=aJ.o i;have K:=aI.o i;rw[<-hZ]at z1 z2 U K;rw[zO,<-HN.o]at z2 K;have R:∀z,(lens.drop i).getD z 0=gI lens (i+z):=λz=>by
    unfold gI;rw[zD,getElem?_drop,<-zD]
   have ad:0<lens.length:=(by rw[<-HN.o];omega);obtain⟨gt,ot,rfl,aU,ay⟩:=(hc.Q HA.o E.Z).ex ad;have ac:∀s,s<n->D.cell? ⟨gt,ot+s,none⟩=some (.int .i64 (gI lens s:Int)):=λs hs=>by
    have:=ay s (gI lens s) (by unfold gI;rw[zD,zF (by rw[<-HN.o];exact hs)];rfl)
    exact this
   have r:=AJ (lens:=lens) (i:=i) (by rw[<-HN.o];exact hi);have a:=As (lens:=lens) (i:=i) (by rw[<-HN.o];exact hi);rw[<-hZ]at r a;have aP:gI lens i<=24:=by
    unfold gI;rw[zD,zF (by rw[<-HN.o];exact hi)];exact aG.o _ (zG _)
   have⟨HC,HZ⟩:=gy ac hZ;have Z3:gh (∀z,z<Z->gI lens (i+z)=0):=gd λz hz=>by rw[<-R];exact U z hz
   have Z4:gh (Z=66\/Z=n-i\/gI lens (i+Z)≠0):=gd (by rw[<-R];exact K);have⟨an,ah⟩:=gy r a;clear ac hZ U K R ay r a ad hend aK;go_wp2_with fail
   go_loopg [6] Z (λk vz wz=>∃z:Nat,vz=.int .i64 z/\z+k=Z/\wz=D)
   .exact⟨0,rfl,by omega,rfl⟩
   obtain⟨z,rfl,aY,V⟩:=hrel;obtain rfl:=V.symm;clear V;rcases gk with _|j
   .obtain rfl:z=Z:=by omega
    go_upto_region 7 with fail
    go_cut [38]from 20 to 40 (λs38 wx=>s38=.bool false/\wx=D)
    case first=>
     by_cases q1:z=66
     .have J:=gL z 66 (by omega)
      clear q1;go_wp2;go_meet
      case rel=>exact⟨rfl,rfl⟩
     .have J:=i6 z 66 (by omega)
      by_cases q2:i+z<n
      .have aN:gI lens (i+z)≠0:=by
        rcases Z4.o with h|h|h
        .omega
        .omega
        .exact h
       have I:=HC.o (i+z) q2;have⟨q,hq⟩:=zX (i+z);rw[<-hq]at I q2 aN;have aO:(i:Int)+(z:Int)=(q:Int):=(by omega);have t2:=i6 q n (by omega);have t3:((gI lens q:Int)==0)=false:=(by rw[beq_eq_false_iff_ne];omega);have ax:(0:Int)<=(q:Int):=(by omega);generalize gI lens q=L at *;clear hq q1;go_wp2;go_meet
       case rel=>exact⟨rfl,rfl⟩
      .have t2:decide ((i:Int)+(z:Int)<(n:Int))=false:=zA (by omega)
       clear q1;go_wp2;go_meet
       case rel=>exact⟨rfl,rfl⟩
    case rest=>
     obtain⟨rfl,h9⟩:=hcut;obtain rfl:=h9.symm;clear h9;by_cases hz3:z<3
     .have J:=i6 z 3 (by omega)
      have r:=an.o hz3;have ci:=HC.o i hi;have ak:gI lens i<2^5:=(by omega);generalize gI lens i=x at *;have ax:(0:Int)<=(i:Int):=(by omega);have aS:(i:Int)<(n:Int):=(by omega);have⟨HO,HX⟩:=gy r ak;clear r hz3 ak;go_wp2_with fail;refine(i8 D b F' u x 5 T (by omega) HX.o (by omega)).mono ?_;rintro e w5 ⟨rfl,M,P,O⟩;go_wp2_with fail
      go_roundg ko
      .refine⟨i+1,M,_,by go_num,by omega,by omega,P,gd ?_,?_,E.trans O⟩
       .rw[<-N.o,HO.o,zH]
       .rw[zC,gJ];omega
      .omega
     .have J:=gL z 3 (by omega)
      have a:=ah.o hz3;have⟨y,hy⟩:=zX (z-3);rw[<-hy]at a;have aW:(z:Int)-3=(y:Int):=(by omega);have aX:IntKind.u64.wrap (y:Int)=(y:Int):=IntWalk.u64_in _ (by omega);have X:y<2^6:=(by omega);have⟨HO,HY⟩:=gy a X;have aR:i+z<=n:=(by omega);clear a hz3 X hy;go_wp2_with fail;refine(i8 D b F' u 31 5 T (by omega) (by omega) (by omega)).mono ?_;rintro e w5 ⟨rfl,M,P,O⟩;go_wp2_with fail;refine(i8 w5 b M _ y 6 P (by omega) HY.o (by rw[zC,gJ];omega)).mono ?_;rintro e w6 ⟨rfl,F6,aw,ar⟩;go_wp2_with fail
      go_roundg ko
      .refine⟨i+z,F6,_,by go_num,by omega,by omega,aw,gd ?_,?_,(E.trans O).trans ar⟩
       .rw[<-N.o,HO.o];simp only[zH]
       .rw[zC,zC,gJ,gJ];omega
      .omega
   .have aQ:z<Z:=by omega
    have J:=i6 z 66 (by omega);have aD:i+z<n:=(by omega);have I:=HC.o (i+z) aD;rw[Z3.o z aQ]at I;have⟨q,hq⟩:=zX (i+z);rw[<-hq]at I aD;have aO:(i:Int)+(z:Int)=(q:Int):=(by omega);have t2:=i6 q n (by omega);have ax:(0:Int)<=(q:Int):=(by omega);clear hq;go_wp2_with fail
    go_roundg j
    .exact⟨z+1,by go_num,by omega,rfl⟩
    .omega
theorem Da(j:List Nat)(h:j≠[]):Lib.maxOf (j.map Int.ofNat)=((ju j:Nat):Int):=by
 have n:∀(l:List Nat) (a:Nat),(l.map Int.ofNat).foldl max (a:Int)=((l.foldl max a:Nat):Int):=by
  intro l
  induction l with
  | nil=>intro a;rfl
  | cons x l ih=>
   intro a;have e:max (a:Int) (Int.ofNat x)=((max a x:Nat):Int):=by
    show max (a:Int) (x:Int)=_;omega
   simp only[map_cons,foldl_cons];rw[e,ih]
 cases j with
 | nil=>exact absurd rfl h
 | cons x l=>
  unfold Lib.maxOf ju;show((x::l).map Int.ofNat).foldl max (x:Int)=_;rw[n];simp
def je(f:List Nat):List Nat:=(range (ju f+1)).map λv=>f.count v
def jO(m:Nat)(f:List Nat):List Nat:=(range m).map λv=>f.count v
theorem oU(m:Nat)(f:List Nat):(jO m f).length=m:=by simp[jO]
theorem I5(m:Nat):jO m []=replicate m 0:=by
 apply ext_getElem
 .simp[jO]
 .intro i h1 a;simp[jO]
theorem uw(f:List Nat)(h:v<m):(jO m f)[v]?=some (f.count v):=by simp[jO,h]
theorem Bu{x:Nat}(f:List Nat)(h:x<m):jO m (f++[x])=(jO m f).set x (f.count x+1):=by
 apply ext_getElem?;intro i;rw[getElem?_set,oU];by_cases hi:i<m
 .rw[uw _ hi]
  by_cases e:x=i
  .subst e
   rw[if_pos rfl,if_pos h,count_append];simp
  .rw[if_neg e,uw _ hi,count_append]
   have:count i [x]=0:=by
    rw[count_eq_zero];simp;omega
   rw[this];rfl
 .have a:(jO m (f++[x]))[i]?=none:=getElem?_eq_none (by rw[oU];omega)
  rw[a];by_cases e:x=i
  .omega
  .rw[if_neg e]
   exact(getElem?_eq_none (by rw[oU];omega)).symm
theorem sI(f:List Nat):(je f).length=ju f+1:=by simp[je]
theorem xA(h:v<=ju f):(je f).getD v 0=f.count v:=by
 simp[je,zD,show v<ju f+1 by omega]
theorem DX(f:List Nat):∀x∈je f,x<=f.length:=by
 intro x a;obtain⟨v,_,rfl⟩:=List.mem_map.1 a;exact count_le_length
theorem Bt(h:f≠[]):0<(iC (je f) (je f).length).length:=by
 cases f with
 | nil=>exact absurd rfl h
 | cons x l=>
  have j:x<=ju (x::l):=qy (by simp);have h1:=sp (je (x::l)) x (je (x::l)).length;rw[sI,xA j,if_pos ⟨by omega,by simp⟩]at h1;rw[sI];have a:0<iq x (iC (je (x::l)) (ju (x::l)+1)):=by omega
  obtain⟨w,e⟩:=pF.1 a;exact length_pos_of_mem e
def rm(l:List Int)(W d:Nat):List Nat:=kn (je (jN l W d))
def pN(l:List Int)(W d:Nat):List Nat:=oX (rm l W d)++nC (rm l W d) (jN l W d)
theorem xz(l:List Int)(W d:Nat):(k8 l W d).map vi=(jN l W d).map i64:=by
 unfold k8;rw[map_map];rfl
theorem Gn(w:World)(b:Nat)(F bs:List Nat)(l:List Int)(A:Option Addr)(cap W d:Nat)(h:hJ w b F bs)(hw0:1<=W)(hw1:W<=16)(h0:1<=d)(h1:d<=16)(D:0<l.length)(hl:l.length<=256)(hlW:l.length<=64*W)(hs:gU d l)(hc:gu vi w A l)(hA:gM A l F)(E:ju (jN l W d)<256)(hbs:bs.length<68719476736):Calls prog 139 #[.pointer b,.slice A l.length cap,W,d] w λe w'=>e=.returned (.tuple #[])/\∃F',hJ w' b F' (bs++pN l W d)/\gB F F' w w':=by
 have z:=x4 l A cap W d w h0 h1 hw0 (by omega) hlW hs hc (by omega);have r:=xe l W d;rw[xz]at z;have ba:pN l W d=oX (kn (je (jN l W d)))++nC (kn (je (jN l W d))) (jN l W d):=rfl;rw[ba];have⟨f,hf⟩:=zX (jN l W d);rw[<-hf]at z r E⊢;have⟨n,hn⟩:=zX l.length;rw[<-hn]at z r D hl⊢;have⟨M,hM⟩:=zX (ju f);rw[<-hM]at E;have ay:f≠[]:=by intro e;rw[e]at r;simp at r;omega
 have a7:∀x∈f,x<=M:=λx hx=>by rw[hM];exact qy hx
 have bp:=lp (P:=prog) iJ rfl .i64 .i64 (M+1) (by omega) (by omega);have a9:=h.lt;have⟨ak,aZ,HM,a2⟩:=gz r a7 hM ay;have a1:=gd a9;clear hf hn hM r a7 ay a9 hs hA hc ba;go_enter func139,ntmps139;go_wp2_with fail;refine z.mono ?_;rintro e w1 ⟨fv,u,rfl,a,S,bD⟩;obtain⟨fc,rfl,bj,bk,_,_⟩:=a.oq;rw[ak.o]at bj⊢;have a4:gu vi w1 (some ⟨u,0,none⟩) (f.map Int.ofNat):=by
  have e:f.map i64=(f.map Int.ofNat).map vi:=by rw[map_map];rfl
  have h9:=a;rw[e]at h9;exact h9.S.cells
 have a5:gu i64 w1 (some ⟨u,0,none⟩) f:=a.S.cells;have am:(f.map Int.ofNat).length=n:=by rw[zE];exact ak.o
 have an:=slices_Max_int u 0 n fc (f.map Int.ofNat) w1 D (by rw[am];exact zQ _) (by omega) (gu.getD_ a4);rw[zT (by rw[am];exact zQ _),Da f a2.o,<-HM.o]at an;have bG:=S.size;have bl:=a.lt;clear z a4 am;have⟨M1,aO⟩:=zX (M+1);have bh:(M:Int)+1=(M1:Int):=by omega
 rw[<-aO]at bp;go_wp2_with fail;refine an.mono ?_;rintro e w' ⟨rfl,rfl⟩;have⟨B,hB⟩:=zX w'.heap.size;have⟨w2,aF⟩:=zX (w'.alloc (.cells (Array.replicate M1 (Value.int .i64 0)) 3));have bd:gv w2 3 (.slice B M1 M1) B ((jO M1 (f.take 0)).map i64):=by
  rw[aF,hB,take_zero,I5];exact gv.zerosN w' M1 (by omega)
 have a3:=jD aF;have aP:=a5.Y a3;have aJ:=S.tq a3;have⟨bg,HB⟩:=gy aF hB;have aN:u≠B:=by omega
 have I:=gd aO;clear an aF hB aO a a5 S;go_wp2_with fail;rw[<-bg.o,<-HB.o]
 go_loopg [11,24] n (λj v11 iv wr=>∃(i:Nat),iv=.int .i64 i/\i+j=n/\gv wr 3 (.slice B M1 M1) B ((jO M1 (f.take i)).map i64)/\gf [B] w2 wr)
 .exact⟨0,rfl,by omega,bd,zR _ _⟩
 clear bd;obtain⟨wk,rfl⟩:=zX wr;obtain⟨i,rfl,bE,a,J⟩:=hrel;have al:=aP.Q (λ_ ad e hm=>by
  injection e with e;subst e;simp at hm;exact aN hm) J
 rcases gk with _|j
 .obtain rfl:i=n:=by omega
  have a8:jO M1 (f.take i)=je f:=by
   rw[zT (by rw[ak.o];exact zQ _),I.o,HM.o];rfl
  rw[a8]at a;have a6:gu i64 wk (some ⟨B,0,none⟩) (je f):=a.S.cells;have X:(je f).length=M1:=by rw[sI,<-HM.o,I.o]
  have V:=Ja wk (je f) (some ⟨B,0,none⟩) M1 (by omega) (by omega) (λx hx=>by have:=DX f x hx;rw[ak.o]at this;omega) (Bt a2.o) a6;rw[X]at V;have U:gf [] w wk:=aJ.trans J (λx hx=>by rw[zU.1 hx];right;have:=HB.o;omega);have bu:=h.Y U;have bf:=gd X;have bH:=U.size;clear a6 a a8 X h J;go_wp2_with fail;refine V.mono ?_;rintro e w3 ⟨lv,R,rfl,aq,N,T,bF⟩;obtain⟨lc,rfl,bn,bo,_,_⟩:=aq.oq;have Q:gu i64 w3 (some ⟨R,0,none⟩) (kn (je f)):=aq.S.cells;have aB:∀s∈f,s<(kn (je f)).length/\0<gI (kn (je f)) s:=λs hs=>by
   have bq:=aZ.o s hs;have be:s<(je f).length:=(by rw[bf.o,I.o];omega);refine⟨by rw[N.len];exact be,(N.used s be).2 ?_⟩;rw[xA (by rw[<-HM.o];exact bq)];exact List.count_pos_iff.2 hs
  have ac:=N.full;have O:gM (some ⟨R,0,none⟩) (kn (je f)) F:=λ_ ad e hm=>by
   injection e with e;subst e
   have:=a1.o _ hm
   simp at this;omega
  have aw:gM (some ⟨u,0,none⟩) f F:=λ_ ad e hm=>by
   injection e with e;subst e
   have:=a1.o _ hm
   simp at this;omega
  have ax:=al.Y T;have aV:=bu.Y T;have aM:=U.tq T;have⟨av,ab⟩:=gy aB ac;have a0:gh ((kn (je f)).length<=1024):=gd ac.n2;have⟨ap,af⟩:=zX (kn (je f));have au:=gd af;rw[<-af]at Q av ab O bn a0⊢;have bc:=Io w3 b F bs ap (some ⟨R,0,none⟩) lc aV ab.o Q O (by omega);clear V aq N aB ac af al;go_wp2_with fail;refine bc.mono ?_;rintro e w4 ⟨rfl,F4,aW,y⟩;have br:=AA ap;have bb:=MP w4 b F4 _ ap f (some ⟨R,0,none⟩) (some ⟨u,0,none⟩) lc fc aW ab.o (Q.Q O y.Z) (O.grow Q y) (by rw[ak.o];omega) (ax.Q aw y.Z) (aw.grow ax y) av.o (by rw[zC];have:=a0.o;omega);rw[ak.o]at bb;clear bc br;go_wp2_with fail;refine bb.mono ?_;rintro e w5 ⟨rfl,F5,aX,aQ⟩;go_wp2_with fail
  go_end0
  refine⟨rfl,F5,?_,(gB.pre aM y).trans aQ⟩;rw[<-zH,<-au.o];exact aX
 .have bm:i<n:=by omega
  have K:i<f.length:=by rw[ak.o];exact bm
  obtain⟨g9,o9,C,cl⟩:=oF al K;injection C with C;injection C with C e10 _;subst C;subst e10;rw[Nat.zero_add]at cl;have bv:=aZ.o f[i] (zG K);have Z:=jd f K;have⟨x,hx⟩:=zX (f[i]);rw[<-hx]at cl bv Z;have aY:x<M1:=by have:=I.o;omega
  have Y:=Bu (f.take i) aY;rw[<-Z]at Y;have bi:(f.take i).count x<=256:=Nat.le_trans count_le_length (by rw[zI];omega);obtain⟨bw,ee,_,_,aj,aA⟩:=a.oq;have cq:=aj x ((f.take i).count x) (uw _ aY);have fq:=aA x;have ao:=a.T (i:=x) (by rw[zE,oU];exact aY) (i64 ((f.take i).count x+1));rw[<-map_set,<-Y]at ao;generalize (f.take i).count x=c at *;have bx:wk.cell? ⟨B,x,none⟩=some (.int .i64 c):=cq;have ag:gv (wk.setCell ⟨B,x,none⟩ (.int .i64 ((c+1:Nat):Int))) 3 (.slice B M1 M1) B ((jO M1 (f.take (i+1))).map i64):=ao;have e2:((c+1:Nat):Int)=(c:Int)+1:=by simp
  rw[e2]at ag;have aH:=gd ag;have bz:(0:Int)<=(i:Int):=by omega
  have bA:(i:Int)<(n:Int):=by omega
  have bB:(0:Int)<=(x:Int):=by omega
  have bC:(x:Int)<(M1:Int):=by omega
  clear ee aj aA ao ag Y Z hx K cq e2 a;go_wp2_with fail
  go_roundg j
  .exact⟨i+1,by go_num,by omega,aH.o,J.setCell (.inl (by simp)) _⟩
  .omega
def ik(k:Nat)(l:List Int)(W d:Nat):Bool:=
 if k=0 then decide ((ig l).length=1)else if k<=5 then true else if k=6 then decide ((ig l).length<=16)else if k=7 then decide (ju (jN l W d)<256)else false
structure ir (w:World) (l:List Int) (A:Option Addr) (W H d:Nat):Prop where
 w0:1<=W
 w1:W<=16
 h0:1<=H
 h1:H<=16
 d0:1<=d
 d1:d<=16
 len:l.length=W*H
 smp:gU d l
 cells:gu vi w A l
theorem ir.pos{w:World}{l:List Int}{A:Option Addr}{W H d:Nat}(t:ir w l A W H d):0<l.length:=by rw[t.len];exact Nat.mul_pos t.w0 t.h0
theorem ir.le{w:World}{l:List Int}{A:Option Addr}{W H d:Nat}(t:ir w l A W H d):l.length<=256:=by rw[t.len];exact zL t.w1 t.h1
theorem ir.leW{w:World}{l:List Int}{A:Option Addr}{W H d:Nat}(t:ir w l A W H d):l.length<=64*W:=by
 rw[t.len,zY];exact mul_le_mul_right W (Nat.le_trans t.h1 (by decide))
theorem ir.Z{w:World}{l:List Int}{A:Option Addr}{W H d:Nat}{F:List Nat}(t:ir w l A W H d)(hA:gM A l F)(a:gf F w w'):ir w' l A W H d:=
 { t with cells:=t.cells.Q hA a }
theorem ir.Y{w:World}{l:List Int}{A:Option Addr}{W H d:Nat}(t:ir w l A W H d)(a:gf [] w w'):ir w' l A W H d:=
 { t with cells:=t.cells.Y a }
def jU(k:Nat)(w:World)(l:List Int)(W d:Nat)(e:Ending)(w':World):Prop:=e=.returned (.bool (ik k l W d))/\gf [] w w'
section
variable {w:World} {l:List Int} {A:Option Addr} {W H d:Nat} (cap:Nat) (t:ir w l A W H d)
include t
theorem KI(k:Nat)(n:1<=k)(j:k<=5):Calls prog 95 #[k,.slice A l.length cap,W,H,d] w (jU k w l W d):=by
 have e:=sr l A cap W H d w t.w0 t.w1 t.h0 t.h1 t.d0 t.d1 t.len t.smp t.cells;have a:ik k l W d=true:=by unfold ik;rw[if_neg (by omega),if_pos j]
 unfold jU;rw[a];rcases(by omega:k=1\/k=2\/k=3\/k=4\/k=5)with rfl|rfl|rfl|rfl|rfl
 all_goals
  clear t a;go_enter func95,ntmps95
  go_wp2_with(go_at_call 94;refine gx e ?_)
  go_ret;exact⟨rfl,zR _ _⟩
theorem Mz:Calls prog 95 #[.int .i64 (0:Nat),.slice A l.length cap,W,H,d] w (jU 0 w l W d):=by
 have r:=sr l A cap W H d w t.w0 t.w1 t.h0 t.h1 t.d0 t.d1 t.len t.smp t.cells;have n:=vR l A cap w t.pos (by have:=t.le;omega) t.cells;have a:ik 0 l W d=decide ((ig l).length=1):=by unfold ik;rw[if_pos rfl]
 have s:(((ig l).length:Int)==1)=decide ((ig l).length=1):=by
  by_cases h:(ig l).length=1
  .rw[h];rfl
  .rw[zA h,beq_eq_false_iff_ne];omega
 unfold jU;rw[a];generalize (ig l).length=k at *;generalize decide (k=1)=bb at *;clear t a;go_enter func95,ntmps95
 go_wp2_with(first|(go_at_call 94;refine gx r ?_)|(go_at_call 128;refine n.mono ?_;rintro e u ⟨g,c,rfl,_,_,_,_,j⟩))
 go_ret;exact⟨rfl,j⟩
theorem GW:Calls prog 95 #[.int .i64 (6:Nat),.slice A l.length cap,W,H,d] w (jU 6 w l W d):=by
 have r:=sr l A cap W H d w t.w0 t.w1 t.h0 t.h1 t.d0 t.d1 t.len t.smp t.cells;have n:=vR l A cap w t.pos (by have:=t.le;omega) t.cells;have a:ik 6 l W d=decide ((ig l).length<=16):=by unfold ik;rw[if_neg (by omega),if_neg (by omega),if_pos rfl]
 have s:decide (((ig l).length:Int)<=16)=decide ((ig l).length<=16):=by
  by_cases h:(ig l).length<=16
  .rw[zB h];exact zB (by omega)
  .rw[zA h];exact zA (by omega)
 unfold jU;rw[a];generalize (ig l).length=k at *;generalize decide (k<=16)=bb at *;clear t a;go_enter func95,ntmps95
 go_wp2_with(first|(go_at_call 94;refine gx r ?_)|(go_at_call 128;refine n.mono ?_;rintro e u ⟨g,c,rfl,_,_,_,_,j⟩))
 go_ret;exact⟨rfl,j⟩
theorem GX:Calls prog 95 #[.int .i64 (7:Nat),.slice A l.length cap,W,H,d] w (jU 7 w l W d):=by
 have z:=sr l A cap W H d w t.w0 t.w1 t.h0 t.h1 t.d0 t.d1 t.len t.smp t.cells;have ad:=x4 l A cap W d w t.d0 t.d1 t.w0 (by have:=t.w1;omega) t.leW t.smp t.cells (by have:=t.le;omega);have a:=xe l W d;have hp:=t.pos;have N:=t.le;rw[xz]at ad;have E:ik 7 l W d=decide (ju (jN l W d)<256):=by unfold ik;rw[if_neg (by omega),if_neg (by omega),if_neg (by omega),if_pos rfl]
 unfold jU;rw[E];have⟨f,hf⟩:=zX (jN l W d);rw[<-hf]at ad a⊢;have T:decide (((ju f:Nat):Int)<256)=decide (ju f<256):=by
  by_cases h:ju f<256
  .rw[zB h];exact zB (by omega)
  .rw[zA h];exact zA (by omega)
 have y:f≠[]:=by intro e;rw[e]at a;simp at a;omega
 have O:=Da f y;generalize ju f=M at *;generalize decide (M<256)=bb at *;have⟨n,hn⟩:=zX l.length;rw[<-hn]at a z ad hp N⊢;have u:=gd a;clear t E hf hn a y;go_enter func95,ntmps95
 go_wp2_with(first|(go_at_call 94;refine gx z ?_))
 refine ad.mono ?_;rintro e I ⟨S,C,rfl,r,J,R⟩;obtain⟨P,rfl,K,Q,_,_⟩:=r.oq;rw[u.o]at K⊢;have x:gu vi I (some ⟨C,0,none⟩) (f.map Int.ofNat):=by
  have e:f.map i64=(f.map Int.ofNat).map vi:=by rw[map_map];rfl
  have D:=r;rw[e]at D;exact D.S.cells
 have j:(f.map Int.ofNat).length=n:=by rw[zE];exact u.o
 have s:=slices_Max_int C 0 n P (f.map Int.ofNat) I hp (by rw[j];exact zQ _) (by omega) (gu.getD_ x);rw[zT (by rw[j];exact zQ _),O]at s;clear ad x j r;go_wp2_with fail;refine gx s ?_;go_wp2;go_ret;exact⟨rfl,J⟩
theorem o6(k:Nat)(a:k<=7):Calls prog 95 #[k,.slice A l.length cap,W,H,d] w (jU k w l W d):=by
 rcases(by omega:k=0\/(1<=k/\k<=5)\/k=6\/k=7)with rfl|h|rfl|rfl
 .exact Mz cap t
 .exact KI cap t k h.1 h.2
 .exact GW cap t
 .exact GX cap t
end
def sQ(l:List Int)(W d:Nat):List Nat:=qs (lf l (d+1) 12) W d
def Mr(k:Nat)(l:List Int)(W H d:Nat):List Nat:=
 if k=0 then gA (l.getD 0 0).toNat d else if k=1 then iF l d else if k=2 then qR l W H d else if k=3 then l4 l W d (W*H)
 else if k=4 then sQ l W d else if k=5 then qX l W d else if k=6 then pC l d else pN l W d
def iz(k:Nat)(l:List Int)(W H d:Nat):List Nat:=gA k 3++Mr k l W H d
def kV(w:World)(b:Nat)(F bs ts:List Nat)(e:Ending)(w':World):Prop:=e=.returned (.int .i64 0)/\∃F',hJ w' b F' (bs++ts)/\gB F F' w w'
section
variable {w:World} {l:List Int} {A:Option Addr} {W H d:Nat} (cap:Nat) (t:ir w l A W H d) (b:Nat) (F bs:List Nat) (h:hJ w b F bs) (hA:gM A l F) (hp:jJ w) (h0F:0∉F) (hbs:bs.length<34359738368)
include t h hA hp h0F hbs
theorem Jt(I:ik 0 l W d=true):Calls prog 97 #[.pointer b,.int .i64 (0:Nat),.slice A l.length cap,W,H,d] w (kV w b F bs (iz 0 l W H d)):=by
 have j:=o6 cap t 0 (by omega);unfold jU at j;rw[I]at j;unfold kV;have D:∀X:List Nat,bs++(gA 0 3++X)=bs++gA 0 3++X:=λX=>(zH _ _ _).symm;have y:iz 0 l W H d=gA 0 3++gA (l.getD 0 0).toNat d:=rfl;rw[y,D];have⟨HT,HA⟩:=gy t hA;have r:=nS t.smp 0;have C:=t.pos;have⟨x,hx⟩:=zX (l.getD 0 0);rw[<-hx]at r⊢;have s:x=((x.toNat:Nat):Int):=(Int.toNat_of_nonneg r.1).symm;have ad:x.toNat<2^d:=by
  have e2:((2^d:Nat):Int)=(2:Int)^d:=by simp
  omega
 have⟨k,hk⟩:=zX x.toNat;rw[<-hk]at s ad⊢;have U:k<65536:=Nat.lt_of_lt_of_le ad (by have:=Nat.pow_le_pow_right (n:=2) (by decide) t.d1;exact this);have⟨HX,ao⟩:=gy (And.intro hx s) ad;have T:=t.d1;clear hx r s ad hk;clear t hA I D y;go_enter func97,ntmps97;go_wp2_with fail;refine j.mono ?_;rintro e S ⟨rfl,z⟩;go_wp2_with fail;refine(i8 S b F bs 0 3 (h.Y z) (by omega) (by omega) (by omega)).mono ?_;rintro e J ⟨rfl,K,P,N⟩;have a:=gB.pre z N;have R:=HT.o.Z HA.o a.Z;have Y:=HA.o.grow HT.o.cells a;have Z:(bs++gA 0 3).length<68719476736:=by rw[zC,gJ];omega
 obtain⟨g,o,rfl,u⟩:=R.cells.at_ C;have E:l[0]=(k:Int):=by
  rw[<-HX.o.2,HX.o.1,zD,zF C];rfl
 rw[E]at u;have V:J.cell? ⟨g,o,none⟩=some (.int .i64 k):=u;clear u E;go_wp2_with fail;refine(i8 J b K _ k d P (by omega) ao.o (by omega)).mono ?_;rintro e w3 ⟨rfl,M,Q,O⟩;go_wp2_with fail;go_ret;exact⟨rfl,M,Q,a.trans O⟩
theorem Im(u:ik 1 l W d=true):Calls prog 97 #[.pointer b,.int .i64 (1:Nat),.slice A l.length cap,W,H,d] w (kV w b F bs (iz 1 l W H d)):=by
 have j:=o6 cap t 1 (by omega);unfold jU at j;rw[u]at j;unfold kV;have s:∀X:List Nat,bs++(gA 1 3++X)=bs++gA 1 3++X:=λX=>(zH _ _ _).symm;have n:iz 1 l W H d=gA 1 3++iF l d:=rfl;rw[n,s];have⟨HT,HA⟩:=gy t hA;clear t hA u s n;go_enter func97,ntmps97;go_wp2_with fail;refine j.mono ?_;rintro e K ⟨rfl,r⟩;go_wp2_with fail;refine(i8 K b F bs 1 3 (h.Y r) (by omega) (by omega) (by omega)).mono ?_;rintro e M ⟨rfl,x,D,z⟩;have a:=gB.pre r z;have ad:=HT.o.Z HA.o a.Z;have I:=HA.o.grow HT.o.cells a;have N:(bs++gA 1 3).length<68719476736:=by rw[zC,gJ];omega
 have J:=ye M b x _ l A cap d D ad.d1 (by have:=ad.le;omega) ad.smp ad.cells I (by omega);go_wp2_with fail;refine J.mono ?_;rintro e O ⟨rfl,y,E,C⟩;go_wp2_with fail;go_ret;exact⟨rfl,y,E,a.trans C⟩
theorem GE(u:ik 2 l W d=true):Calls prog 97 #[.pointer b,.int .i64 (2:Nat),.slice A l.length cap,W,H,d] w (kV w b F bs (iz 2 l W H d)):=by
 have ad:=o6 cap t 2 (by omega);unfold jU at ad;rw[u]at ad;unfold kV;have s:∀X:List Nat,bs++(gA 2 3++X)=bs++gA 2 3++X:=λX=>(zH _ _ _).symm;have n:iz 2 l W H d=gA 2 3++qR l W H d:=rfl;rw[n,s];have⟨HT,HA⟩:=gy t hA;clear t hA u s n;go_enter func97,ntmps97;go_wp2_with fail;refine ad.mono ?_;rintro e M ⟨rfl,r⟩;go_wp2_with fail;refine(i8 M b F bs 2 3 (h.Y r) (by omega) (by omega) (by omega)).mono ?_;rintro e N ⟨rfl,x,D,z⟩;have j:=gB.pre r z;have a:=HT.o.Z HA.o j.Z;have I:=HA.o.grow HT.o.cells j;have J:(bs++gA 2 3).length<68719476736:=by rw[zC,gJ];omega
 have K:=GG N b x _ l A cap W H d D a.w0 a.w1 a.h0 a.h1 a.d0 a.d1 a.len a.smp a.cells I J;go_wp2_with fail;refine K.mono ?_;rintro e O ⟨rfl,y,E,C⟩;go_wp2_with fail;go_ret;exact⟨rfl,y,E,j.trans C⟩
theorem Gk(u:ik 3 l W d=true):Calls prog 97 #[.pointer b,.int .i64 (3:Nat),.slice A l.length cap,W,H,d] w (kV w b F bs (iz 3 l W H d)):=by
 have ad:=o6 cap t 3 (by omega);unfold jU at ad;rw[u]at ad;unfold kV;have s:∀X:List Nat,bs++(gA 3 3++X)=bs++gA 3 3++X:=λX=>(zH _ _ _).symm;have n:iz 3 l W H d=gA 3 3++l4 l W d (W*H):=rfl;rw[n,s];have⟨HT,HA⟩:=gy t hA;clear t hA u s n;go_enter func97,ntmps97;go_wp2_with fail;refine ad.mono ?_;rintro e K ⟨rfl,r⟩;go_wp2_with fail;refine(i8 K b F bs 3 3 (h.Y r) (by omega) (by omega) (by omega)).mono ?_;rintro e M ⟨rfl,x,D,z⟩;have j:=gB.pre r z;have a:=HT.o.Z HA.o j.Z;have I:=HA.o.grow HT.o.cells j;have N:(bs++gA 3 3).length<68719476736:=by rw[zC,gJ];omega
 have J:=NQ M b x _ l A cap W H d D a.w0 (by have:=a.w1;omega) a.h0 (by have:=a.h1;omega) a.d0 a.d1 a.len a.smp a.cells I (by omega);go_wp2_with fail;refine J.mono ?_;rintro e O ⟨rfl,y,E,C⟩;go_wp2_with fail;go_ret;exact⟨rfl,y,E,j.trans C⟩
theorem G7(r:ik 4 l W d=true):Calls prog 97 #[.pointer b,.int .i64 (4:Nat),.slice A l.length cap,W,H,d] w (kV w b F bs (iz 4 l W H d)):=by
 have s:=o6 cap t 4 (by omega);unfold jU at s;rw[r]at s;unfold kV;have I:∀X:List Nat,bs++(gA 4 3++X)=bs++gA 4 3++X:=λX=>(zH _ _ _).symm;have y:iz 4 l W H d=gA 4 3++sQ l W d:=rfl;rw[y,I];have⟨HT,HA⟩:=gy t hA;have E:sQ l W d=qs (lf l (d+1) 12) W d:=rfl;rw[E];have ay:=t.d1;clear E;clear t hA r I y;go_enter func97,ntmps97;go_wp2_with fail;refine s.mono ?_;rintro e w1 ⟨rfl,D⟩;go_wp2_with fail;refine(i8 w1 b F bs 4 3 (h.Y D) (by omega) (by omega) (by omega)).mono ?_;rintro e w2 ⟨rfl,F2,z,S⟩;have j:=gB.pre D S;have a:=HT.o.Z HA.o j.Z;have aD:(bs++gA 4 3).length<68719476736:=by rw[zC,gJ];omega
 have Z:0∉F2:=j.o hp.lt h0F;have az:=hp.Z j.Z h0F;have n:=Mw l A cap (d+1) 12 w2 (by have:=a.le;omega) a.cells (by omega) (by omega) (by omega) (by omega);have O:=xB l (d+1) 12;have x:=Cj a.smp (d+1) 12;have J:((d+1:Nat):Int)=(d:Int)+1:=by simp
 rw[J]at n;have⟨T,hT⟩:=zX (lf l (d+1) 12);rw[<-hT]at n O x;have⟨aw,av⟩:=gy hT x;clear hT;have V:=gd z.lt;clear x J;go_wp2_with fail;refine n.mono ?_;rintro e w4 ⟨K,R,rfl,P,u,Y⟩;have N:=MI w4 b F2 _ T K R W d (z.Y u) (az.Y u) Z a.w0 (by have:=a.w1;omega) a.d0 a.d1 (by have:=a.le;omega) av.o P (λad e r=>by have:=Y ad e;have:=V.o _ r;omega) (by omega);clear n;go_wp2_with fail;refine N.mono ?_;rintro e w3 ⟨rfl,M,C,Q⟩;have U:=gB.pre u Q;rw[aw.o]at C;go_wp2_with fail;go_ret;exact⟨rfl,M,C,j.trans U⟩
theorem G8(u:ik 5 l W d=true):Calls prog 97 #[.pointer b,.int .i64 (5:Nat),.slice A l.length cap,W,H,d] w (kV w b F bs (iz 5 l W H d)):=by
 have ad:=o6 cap t 5 (by omega);unfold jU at ad;rw[u]at ad;unfold kV;have s:∀X:List Nat,bs++(gA 5 3++X)=bs++gA 5 3++X:=λX=>(zH _ _ _).symm;have n:iz 5 l W H d=gA 5 3++qX l W d:=rfl;rw[n,s];have⟨HT,HA⟩:=gy t hA;clear t hA u s n;go_enter func97,ntmps97;go_wp2_with fail;refine ad.mono ?_;rintro e M ⟨rfl,r⟩;go_wp2_with fail;refine(i8 M b F bs 5 3 (h.Y r) (by omega) (by omega) (by omega)).mono ?_;rintro e N ⟨rfl,x,D,z⟩;have j:=gB.pre r z;have a:=HT.o.Z HA.o j.Z;have I:=HA.o.grow HT.o.cells j;have J:(bs++gA 5 3).length<68719476736:=by rw[zC,gJ];omega
 have K:=Ha N b x _ l A cap W d D a.w0 a.w1 a.d0 a.d1 a.le a.leW a.smp a.cells I J;go_wp2_with fail;refine K.mono ?_;rintro e O ⟨rfl,y,E,C⟩;go_wp2_with fail;go_ret;exact⟨rfl,y,E,j.trans C⟩
theorem Gj(a:ik 6 l W d=true):Calls prog 97 #[.pointer b,.int .i64 (6:Nat),.slice A l.length cap,W,H,d] w (kV w b F bs (iz 6 l W H d)):=by
 have n:=o6 cap t 6 (by omega);unfold jU at n;rw[a]at n;have s:(ig l).length<=16:=by
  unfold ik at a;rw[if_neg (by omega),if_neg (by omega),if_pos rfl]at a;exact of_decide_eq_true a
 unfold kV;have x:∀X:List Nat,bs++(gA 6 3++X)=bs++gA 6 3++X:=λX=>(zH _ _ _).symm;have r:iz 6 l W H d=gA 6 3++pC l d:=rfl;rw[r,x];have⟨HT,HA,HK⟩:=gS t hA s;clear s;clear t hA a x r;go_enter func97,ntmps97;go_wp2_with fail;refine n.mono ?_;rintro e N ⟨rfl,u⟩;go_wp2_with fail;refine(i8 N b F bs 6 3 (h.Y u) (by omega) (by omega) (by omega)).mono ?_;rintro e O ⟨rfl,y,E,C⟩;have j:=gB.pre u C;have ad:=HT.o.Z HA.o j.Z;have J:=HA.o.grow HT.o.cells j;have K:(bs++gA 6 3).length<68719476736:=by rw[zC,gJ];omega
 have M:=Gm O b y _ l A cap d E ad.d0 ad.d1 ad.pos ad.le ad.smp ad.cells J HK.o K;go_wp2_with fail;refine M.mono ?_;rintro e P ⟨rfl,z,I,D⟩;go_wp2_with fail;go_ret;exact⟨rfl,z,I,j.trans D⟩
theorem Gl(j:ik 7 l W d=true):Calls prog 97 #[.pointer b,.int .i64 (7:Nat),.slice A l.length cap,W,H,d] w (kV w b F bs (iz 7 l W H d)):=by
 have n:=o6 cap t 7 (by omega);unfold jU at n;rw[j]at n;have r:ju (jN l W d)<256:=by
  unfold ik at j;rw[if_neg (by omega),if_neg (by omega),if_neg (by omega),if_pos rfl]at j;exact of_decide_eq_true j
 unfold kV;have x:∀X:List Nat,bs++(gA 7 3++X)=bs++gA 7 3++X:=λX=>(zH _ _ _).symm;have s:iz 7 l W H d=gA 7 3++pN l W d:=rfl;rw[s,x];have⟨HT,HA,HK⟩:=gS t hA r;clear r;clear t hA j x s;go_enter func97,ntmps97;go_wp2_with fail;refine n.mono ?_;rintro e N ⟨rfl,u⟩;go_wp2_with fail;refine(i8 N b F bs 7 3 (h.Y u) (by omega) (by omega) (by omega)).mono ?_;rintro e O ⟨rfl,y,E,C⟩;have ad:=gB.pre u C;have a:=HT.o.Z HA.o ad.Z;have J:=HA.o.grow HT.o.cells ad;have K:(bs++gA 7 3).length<68719476736:=by rw[zC,gJ];omega
 have M:=Gn O b y _ l A cap W d E a.w0 a.w1 a.d0 a.d1 a.pos a.le a.leW a.smp a.cells J HK.o K;go_wp2_with fail;refine M.mono ?_;rintro e P ⟨rfl,z,I,D⟩;go_wp2_with fail;go_ret;exact⟨rfl,z,I,ad.trans D⟩
theorem Dh(k:Nat)(e:k<=7)(a:ik k l W d=true):Calls prog 97 #[.pointer b,k,.slice A l.length cap,W,H,d] w (kV w b F bs (iz k l W H d)):=by
 rcases(by omega:k=0\/k=1\/k=2\/k=3\/k=4\/k=5\/k=6\/k=7)with rfl|rfl|rfl|rfl|rfl|rfl|rfl|rfl
 .exact Jt cap t b F bs h hA hp h0F hbs a
 .exact Im cap t b F bs h hA hp h0F hbs a
 .exact GE cap t b F bs h hA hp h0F hbs a
 .exact Gk cap t b F bs h hA hp h0F hbs a
 .exact G7 cap t b F bs h hA hp h0F hbs a
 .exact G8 cap t b F bs h hA hp h0F hbs a
 .exact Gj cap t b F bs h hA hp h0F hbs a
 .exact Gl cap t b F bs h hA hp h0F hbs a
end
def ja(k:Nat)(l:List Int)(W H d:Nat):Nat:=(iz k l W H d).length
theorem ut(k:Nat)(l:List Int)(W H d:Nat):3<=ja k l W H d:=by
 unfold ja iz;rw[zC,gJ];omega
def jg(l:List Int)(W H d:Nat):Nat->Nat × Nat
 | 0=>(1,0)
 | m+1=>if ik m l W d=true/\((jg l W H d m).2=0\/ja m l W H d<(jg l W H d m).2)then(m,ja m l W H d)else jg l W H d m
def kh(l:List Int)(W H d:Nat):Nat:=(jg l W H d 8).1
theorem rh(l:List Int)(W d:Nat):ik 1 l W d=true:=by unfold ik;rw[if_neg (by omega),if_pos (by omega)]
theorem uI(l:List Int)(W H d:Nat):∀m,((jg l W H d m).2=0->(jg l W H d m).1=1/\∀k,k<m->ik k l W d=false)/\((jg l W H d m).2≠0->(jg l W H d m).1<m/\ik (jg l W H d m).1 l W d=true/\(jg l W H d m).2=ja (jg l W H d m).1 l W H d/\∀k,k<m->ik k l W d=true->(jg l W H d m).2<=ja k l W H d)
 | 0=>⟨λ_=>⟨rfl,λk h=>by omega⟩,λh=>absurd rfl h⟩
 | m+1=>by
  obtain⟨h1,a⟩:=uI l W H d m;have hp:=ut m l W H d;unfold jg;generalize jg l W H d m=s at *;by_cases hc:ik m l W d=true/\(s.2=0\/ja m l W H d<s.2)
  .rw[if_pos hc]
   refine⟨λh=>by simp only at h;omega,λ_=>⟨by simp only;omega,hc.1,rfl,λk hk hm=>?_⟩⟩;simp only;by_cases e:k=m
   .rw[e];exact zQ _
   .rcases hc.2 with j|j
    .have:=(h1 j).2 k (by omega)
     rw[hm]at this;cases this
    .have:=(a (by omega)).2.2.2 k (by omega) hm
     omega
  .rw[if_neg hc]
   refine⟨λh=>⟨(h1 h).1,λk hk=>?_⟩,λh=>?_⟩
   .by_cases e:k=m
    .subst e
     cases hm:ik k l W d with
     | false=>rfl
     | true=>exact absurd ⟨hm,.inl h⟩ hc
    .exact(h1 h).2 k (by omega)
   .obtain⟨k1,k2,k3,k4⟩:=a h
    refine⟨by omega,k2,k3,λk hk hm=>?_⟩;by_cases e:k=m
    .subst e
     have:¬ja k l W H d<s.2:=λh5=>hc ⟨hm,.inr h5⟩
     omega
    .exact k4 k (by omega) hm
theorem si(l:List Int)(W H d:Nat):kh l W H d<=7/\ik (kh l W H d) l W d=true/\∀k,k<=7->ik k l W d=true->ja (kh l W H d) l W H d<=ja k l W H d:=by
 obtain⟨h1,e⟩:=uI l W H d 8;have a:(jg l W H d 8).2≠0:=λh=>by
  have:=(h1 h).2 1 (by omega)
  rw[rh]at this;cases this
 obtain⟨k1,k2,k3,k4⟩:=e a;unfold kh;exact⟨by omega,k2,λk hk hm=>by rw[<-k3];exact k4 k (by omega) hm⟩
section
variable {w:World} {l:List Int} {A:Option Addr} {W H d:Nat} (cap:Nat) (t:ir w l A W H d) (hp:jJ w)
include t hp
theorem Nz(k:Nat)(u:k<=7)(y:ik k l W d=true):Calls prog 96 #[k,.slice A l.length cap,W,H,d] w λe w'=>e=.returned (.int .i64 (ja k l W H d))/\gf [] w w':=by
 have⟨w1,hw1⟩:=zX (w.alloc (.cells #[.slice none 0 0,(0:Int)] 63));have⟨B,hB⟩:=zX w.heap.size;have s:hJ w1 B [B] []:=by rw[hw1,hB];exact hJ.new w
 have a:=jD hw1;have I:=hp.lt;have n:gM A l [B]:=gM.fresh t.cells (F:=[B]) (by rw[hB];simp);have j:=Dh cap (t.Y a) B [B] [] s n (hp.Y a) (by simp;omega) (by simp) k u y;have r:ja k l W H d=(iz k l W H d).length:=rfl;rw[r];unfold kV at j;rw[nil_append]at j;generalize iz k l W H d=ts at *;have C:gh (∀x∈[B],w.heap.size<=x):=gd (by intro x J;rw[zU.1 J,hB];exact zQ _);have⟨ai,ah⟩:=gy hw1 hB;clear t hp y u hw1 hB s n r I;go_enter func96,ntmps96;go_wp2_with fail;rw[<-ai.o,<-ah.o];refine j.mono ?_;rintro e K ⟨rfl,z,ad,D⟩;have E:=Nn K B z ts ad;go_wp2_with fail;refine gx E ?_;go_wp2;go_ret;exact⟨rfl,D.fresh C.o a⟩
variable (b:Nat) (F bs:List Nat) (h:hJ w b F bs) (hA:gM A l F) (h0F:0∉F) (hbs:bs.length<34359738368)
include h hA h0F hbs
theorem Oh:Calls prog 71 #[.pointer b,.slice A l.length cap,W,H,d] w (kV w b F bs (iz (kh l W H d) l W H d)):=by
 have V:=sr l A cap W H d w t.w0 t.w1 t.h0 t.h1 t.d0 t.d1 t.len t.smp t.cells;have E:=λk (hk:k<=7) w' (hc:gf [] w w')=>o6 cap (t.Y hc) k hk;have N:=λk (hk:k<=7) (hm:ik k l W d=true) w' (hc:gf [] w w')=>Nz cap (t.Y hc) (hp.Y hc) k hk hm;have C:=si l W H d;have I:=λw' (hc:gf [] w w')=>Dh cap (t.Y hc) b F bs (h.Y hc) hA (hp.Y hc) h0F hbs (kh l W H d) C.1 C.2.1;unfold jU at E;unfold kV at I⊢;have r:kh l W H d=(jg l W H d 8).1:=rfl;generalize iz (kh l W H d) l W H d=ts at *;have⟨HM,HC,az,ay⟩:=gz E N I r;clear E N I C r t hp h hA;go_enter func71,ntmps71
 go_wp2_with(go_at_call 94;refine gx V ?_)
 go_loopg [11,12,13,14,21] 8 (λj vb vl vk vc iv wr=>∃(m bk a:Nat),iv=.int .i64 m/\vb=.int .i64 bk/\vl=.int .i64 a/\m+j=8/\gh (jg l W H d m=(bk,a))/\gf [] w wr)
 .exact⟨0,1,0,rfl,rfl,rfl,rfl,gd rfl,zR _ _⟩
 obtain⟨m,bk,a,rfl,rfl,rfl,aC,M,s⟩:=hrel;rcases gk with _|j
 .obtain rfl:m=8:=by omega
  have R:=az.o wr s;have r:=ay.o;rw[M.o]at r;have O:kh l W H d=bk:=r;rw[O]at R;clear r O;go_wp2_with fail;refine R.mono ?_;rintro e w2 ⟨rfl,T,Y,X⟩;go_wp2;go_ret;exact⟨rfl,T,Y,gB.pre s X⟩
 .have Q:m<=7:=by omega
  have u:=HM.o m Q wr s;have K:=HC.o m Q;have x:jg l W H d (m+1)=if ik m l W d=true/\((jg l W H d m).2=0\/ja m l W H d<(jg l W H d m).2)then(m,ja m l W H d)else jg l W H d m:=rfl;rw[M.o]at x;simp only at x;have y:=gd x;clear x
  cases hmb:ik m l W d with
  | false=>
   rw[hmb]at u;have n:gh (jg l W H d (m+1)=(bk,a)):=gd (by rw[y.o,if_neg (by rw[hmb];simp)]);have J:=gd hmb;clear hmb K;go_wp2_with fail;refine u.mono ?_;rintro e S ⟨rfl,z⟩;go_wp2_with fail
   go_roundg j
   .exact⟨m+1,bk,a,by go_num,rfl,rfl,by omega,n,s.tq z⟩
   .omega
  | true=>
   rw[hmb]at u;have D:=K hmb;have⟨c,hc⟩:=zX (ja m l W H d);rw[<-hc]at D;have⟨am,J⟩:=gy hc hmb;clear hmb K hc;go_wp2_with fail;refine u.mono ?_;rintro e S ⟨rfl,z⟩;have P:=D S (s.tq z);clear u D;go_wp2_with fail;refine P.mono ?_;rintro e w2 ⟨rfl,U⟩;have ad:=(s.tq z).tq U;clear P;by_cases hl0:a=0
   .have Z:((a:Int)==0)=true:=by rw[beq_iff_eq];omega
    have n:gh (jg l W H d (m+1)=(m,c)):=gd (by rw[y.o,if_pos ⟨J.o,.inl hl0⟩,am.o]);clear hl0;go_wp2_with fail
    go_roundg j
    .exact⟨m+1,m,c,by go_num,rfl,rfl,by omega,n,ad⟩
    .omega
   .have Z:((a:Int)==0)=false:=by rw[beq_eq_false_iff_ne];omega
    by_cases hlt:c<a
    .have t2:decide (c<a)=true:=zB hlt
     have n:gh (jg l W H d (m+1)=(m,c)):=gd (by rw[y.o,if_pos ⟨J.o,.inr (by rw[<-am.o];exact hlt)⟩,am.o]);clear hl0 hlt;go_wp2_with fail
     go_roundg j
     .exact⟨m+1,m,c,by go_num,rfl,rfl,by omega,n,ad⟩
     .omega
    .have t2:decide (c<a)=false:=zA hlt
     have n:gh (jg l W H d (m+1)=(bk,a)):=gd (by rw[y.o,if_neg (by rw[<-am.o];intro h;rcases h.2 with h|h<;>omega)]);clear hl0 hlt;go_wp2_with fail
     go_roundg j
     .exact⟨m+1,bk,a,by go_num,rfl,rfl,by omega,n,ad⟩
     .omega
end
def mX(x:Int):Prop:=-9223372036854775808<=x/\x<=9223372036854775807
def pa(x lo hi:Int):Int:=if lo<=x/\x<=hi then x else if x.tmod (hi-lo+1)<0 then lo+(x.tmod (hi-lo+1)+hi-lo+1)else lo+x.tmod (hi-lo+1)
theorem LS(x:Int){lo hi:Int}(h:lo<=hi):lo<=pa x lo hi/\pa x lo hi<=hi:=by
 unfold pa;have h1:=Int.tmod_lt_of_pos x (show 0<hi-lo+1 by omega);have a:=Int.lt_tmod_of_pos x (show 0<hi-lo+1 by omega);split
 .assumption
 .split<;>omega
theorem LT(x lo hi:Int)(w:World)(C:mX x)(h0 : -1099511627776<=lo)(h1:lo<=hi)(z:hi<=1099511627776):Calls prog 51 #[x,lo,hi] w λe w'=>e=.returned (.int .i64 (pa x lo hi))/\w=w':=by
 obtain⟨u,ad⟩:=C;by_cases hin:lo<=x/\x<=hi
 .have D:decide (lo<=x)=true:=zB hin.1
  have E:decide (x<=hi)=true:=zB hin.2;have e:pa x lo hi=x:=by unfold pa;rw[if_pos hin]
  rw[e];clear hin h0 h1 z u ad e;go_enter func51,ntmps51;go_wp2;go_ret;exact⟨rfl,rfl⟩
 .have n:pa x lo hi=if x.tmod (hi-lo+1)<0 then lo+(x.tmod (hi-lo+1)+hi-lo+1)else lo+x.tmod (hi-lo+1):=by unfold pa;rw[if_neg hin]
  have⟨m,hm⟩:=zX (hi-lo+1);have r:0<m:=by omega
  rw[<-hm]at n;have⟨q,hq⟩:=zX (x.tmod m);have M:q<m:=by rw[hq];exact Int.tmod_lt_of_pos x r
  have K : -m<q:=by rw[hq];exact Int.lt_tmod_of_pos x r
  rw[<-hq]at n;have N:hi-lo+1=m:=hm.symm;have O:x.tmod m=q:=hq.symm;have J:m≠0:=by omega
  rw[n];clear hm hq n;have y:∀a j,decide (lo<=x)=a->decide (x<=hi)=j->(a&&j)=false->Calls prog 51 #[x,lo,hi] w λe w'=>e=.returned (.int .i64 (if q<0 then lo+(q+hi-lo+1)else lo+q))/\w=w':=by
   intro a j D E s;by_cases hneg:q<0
   .have I:decide (q<0)=true:=zB hneg
    rw[if_pos hneg];cases a<;>cases j<;>simp at s
    all_goals
     clear hin;go_enter func51,ntmps51;go_wp2;go_ret;exact⟨rfl,rfl⟩
   .have I:decide (q<0)=false:=zA hneg
    rw[if_neg hneg];cases a<;>cases j<;>simp at s
    all_goals
     clear hin;go_enter func51,ntmps51;go_wp2;go_ret;exact⟨rfl,rfl⟩
  refine y _ _ rfl rfl ?_
  cases h:(decide (lo<=x)&&decide (x<=hi))with
  | false=>rfl
  | true=>
   rw[Bool.and_eq_true,decide_eq_true_eq,decide_eq_true_eq]at h;exact absurd h hin
structure jo (w:World) (b:Nat) (A:Option Addr) (cap:Nat) (L:List Int) (at_:Nat):Prop where
 blk:gn w b 55 #[.slice A L.length cap,at_]
 cells:gu vi w A L
 apt:gM A L [b]
 in64:∀x∈L,mX x
 at_le:at_<=L.length
 len:L.length<=9223372036854775807
theorem jo.Y{w:World}{b cap at_:Nat}{A:Option Addr}{L:List Int}(h:jo w b A cap L at_){F:List Nat}(a:gf F w w')(e:b∉F)(hA:gM A L F):jo w' b A cap L at_:=
 { h with blk:=h.blk.Z a e,cells:=h.cells.Q hA a }
theorem Ft{w:World}{b cap at_:Nat}{A:Option Addr}{L:List Int}(h:jo w b A cap L at_)(a:at_<L.length)(n1 n2:Nat):jo (((w.drewN n1).setCell ⟨b,1,none⟩ (.int .i64 ((at_:Int)+1))).drewN n2) b A cap L (at_+1)/\gf [b] w (((w.drewN n1).setCell ⟨b,1,none⟩ (.int .i64 ((at_:Int)+1))).drewN n2):=by
 have j:gf [b] w (((w.drewN n1).setCell ⟨b,1,none⟩ (.int .i64 ((at_:Int)+1))).drewN n2):=(((zR [b] w).drewN n1).zs 1 (.int .i64 ((at_:Int)+1))).drewN n2;have n:=((h.blk.drewN n1).T 1 (.int .i64 ((at_:Int)+1))).drewN n2;have e:((at_+1:Nat):Int)=(at_:Int)+1:=by simp
 refine⟨⟨?_,h.cells.Q h.apt j,h.apt,h.in64,a,h.len⟩,j⟩;rw[e]
 simpa using n
theorem mC(w:World)(b cap at_ n:Nat)(A:Option Addr)(L:List Int)(h:jo w b A cap L at_)(Q:1<=n)(R:n<=1073741824):Calls prog 21 #[.pointer b,n] w λe w'=>∃v at':Nat,e=.returned v/\v<n/\jo w' b A cap L at'/\gf [b] w w':=by
 have E:=h.blk.X 0;have P:=h.blk.X 1;simp at E P;have a:=gd h;have⟨m,hm⟩:=zX L.length;rw[<-hm]at E;have t2:=gL n 1 (by omega);by_cases hend:at_=m
 .have t1:=iI m at_ (by omega)
  have O:decide (m<=at_)=true:=zB (by omega);clear h hm hend;go_enter func21,ntmps21;go_wp2
  go_quiet (fail)
  go_wp2;go_ret;exact⟨0,at_,rfl,by omega,a.o.Y ((zR [] w).drewN nq) (by simp) (λ_ _ _=>by simp),(zR [b] w).drewN nq⟩
 .have D:at_<m:=by have:=h.at_le;omega
  have K:at_<L.length:=by rw[<-hm];exact D
  have O:decide (m<=at_)=false:=zA (by omega);obtain⟨g,o,rfl,u⟩:=h.cells.at_ K;have C:=h.in64 L[at_] (zG _);have Z:g≠b:=by
   have:=h.apt (by omega) _ rfl
   simpa using this
  have⟨x,hx⟩:=zX (L[at_]);rw[<-hx]at u C;have s:=λw=>LT x 0 1073741824 w C (by omega) (by omega) (by omega);have j:=LS x (show(0:Int)<=1073741824 by omega);have⟨y,hy⟩:=zX (pa x 0 1073741824);rw[<-hy]at s j;obtain⟨k,I⟩:∃k:Nat,(k:Int)=y:=⟨y.toNat,Int.toNat_of_nonneg j.1⟩;rw[<-I]at s j;have ad:k%n<n:=mod_lt _ (by omega);have hbs:=h.blk.T 1 (.int .i64 ((at_:Int)+1));have S:=h.len;have f1:=h.blk.V 1;have V:w.cell? ⟨g,o+at_,none⟩=some (.int .i64 x):=u;have N:(k:Int).tmod (n:Int)=((k%n:Nat):Int):=by rw[Int.tmod_eq_emod_of_nonneg (by omega)];simp
  have T:(n:Int)≠0:=by omega
  have⟨r,hr⟩:=zX (k%n);rw[<-hr]at N ad;have M:=gd ad;have X:(0:Int)<=(at_:Int):=by omega
  have Y:(at_:Int)<(m:Int):=by omega
  have U:(at_:Int)+1-1=(at_:Int):=by omega
  have J:=gd hm;clear h hm hend u hy I hr ad hx hbs;go_enter func21,ntmps21;go_wp2
  go_quiet (fail)
  go_wp2
  go_quiet ((go_at_call 51;exact pO (s _)))
  go_wp2;go_ret;have z:at_<L.length:=by rw[<-J.o];exact D
  exact⟨r,at_+1,rfl,M.o,(Ft a.o z _ _).1,(Ft a.o z _ _).2⟩
theorem Hq(x:Int)(l:List Int)(n:Nat):iF (x::l) n=gA x.toNat n++iF l n:=rfl
theorem ET(l:List Int)(n:Nat):(iF l n).length=n*l.length:=by
 induction l with
 | nil=>rfl
 | cons x l ih=>rw[Hq,zC,gJ,ih,zK,Nat.mul_add];omega
theorem Jr(l:List Int)(W H d:Nat):ja 1 l W H d=3+d*l.length:=by
 unfold ja iz;rw[zC,gJ];show 3+(iF l d).length=_;rw[ET]
theorem J7{α:Type}{g:Nat}{l:List α}{F:List Nat}(h:g∉F):gM (some ⟨g,0,none⟩) l F:=λ_ ad e=>by
 injection e with e;subst e;exact h
theorem LC(l:List Int)(W H d:Nat):ja (kh l W H d) l W H d<=3+d*l.length:=by
 have:=(si l W H d).2.2 1 (by omega) (rh _ _ _)
 rw[Jr]at this;exact this
def FA:List Int:=[8,1,2,4,8,10,12,16,5,8]
theorem Ki(k:Nat)(h:k<10):∃d:Nat,FA[k]?=some (d:Int)/\1<=d/\d<=16:=by
 rcases(by omega:k=0\/k=1\/k=2\/k=3\/k=4\/k=5\/k=6\/k=7\/k=8\/k=9)with rfl|rfl|rfl|rfl|rfl|rfl|rfl|rfl|rfl|rfl
 .exact⟨8,rfl,by omega,by omega⟩
 .exact⟨1,rfl,by omega,by omega⟩
 .exact⟨2,rfl,by omega,by omega⟩
 .exact⟨4,rfl,by omega,by omega⟩
 .exact⟨8,rfl,by omega,by omega⟩
 .exact⟨10,rfl,by omega,by omega⟩
 .exact⟨12,rfl,by omega,by omega⟩
 .exact⟨16,rfl,by omega,by omega⟩
 .exact⟨5,rfl,by omega,by omega⟩
 .exact⟨8,rfl,by omega,by omega⟩
theorem jo.fresh{w:World}{b cap at_:Nat}{A:Option Addr}{L:List Int}(h:jo w b A cap L at_)(a:gf [] w w'):jo w' b A cap L at_:=h.Y a (by simp) (λ_ _ _=>by simp)
theorem Mc(w:World)(b cap at_:Nat)(A:Option Addr)(L:List Int)(h:jo w b A cap L at_):Calls prog 26 #[.pointer b] w λe w'=>∃d at':Nat,e=.returned d/\1<=d/\d<=16/\jo w' b A cap L at'/\gf [b] w w':=by
 have⟨w1,hw1⟩:=zX (w.alloc (.cells #[(8:Int),(1:Int),(2:Int),(4:Int),(8:Int),(10:Int),(12:Int),(16:Int),(5:Int),(8:Int)] 3));have a:gn w1 w.heap.size 3 #[(8:Int),(1:Int),(2:Int),(4:Int),(8:Int),(10:Int),(12:Int),(16:Int),(5:Int),(8:Int)]:=by rw[hw1];exact gn.new w _ _
 have s:=jD hw1;have z:=mC w1 b cap at_ 10 A L (h.fresh s) (by omega) (by omega);have ad:w.heap.size≠b:=by have:=h.blk.lt;omega
 have I:=gd hw1;have⟨B,hB⟩:=zX w.heap.size;rw[<-hB]at a ad;have D:=gd hB;clear hw1 h hB;go_enter func26,ntmps26;go_wp2_with fail;rw[<-I.o,<-D.o];refine z.mono ?_;rintro e C ⟨k,at',rfl,K,J,n⟩;obtain⟨d,y,u,x⟩:=Ki k K;have r:=a.Z n (by simpa using ad);have M:C.cell? ⟨B,k,none⟩=some (.int .i64 d):=by
  rw[r.X k];have e:(#[Value.int .i64 8,(1:Int),(2:Int),(4:Int),(8:Int),(10:Int),(12:Int),(16:Int),(5:Int),(8:Int)]:Array Value)=(FA.map vi).toArray:=rfl;rw[e,getElem?_toArray,zW,y];rfl
 have N:(0:Int)<=(k:Int):=by omega
 have O:(k:Int)<10:=by omega
 have j:=gd (And.intro u x);have E:gh (gf [b] w C):=gd ((s.mono (by simp)).tq n);clear y r a z u x;go_wp2_with fail;go_ret;exact⟨d,at',rfl,j.o.1,j.o.2,J,E.o⟩
def qL(w:World)(b:Nat)(s:Nat):Prop:=gn w b 88 #[s]/\s<2147483648
theorem J6(x:Int)(m:Nat)(j:m<9223372036854775808):∃k:Nat,k<=m/\bits .and .i64 x (m:Int)=(k:Int):=by
 refine⟨(BitVec.ofInt 64 x &&& BitVec.ofInt 64 (m:Int)).toNat,?_,?_⟩
 .rw[BitVec.toNat_and]
  have e:(BitVec.ofInt 64 (m:Int)).toNat=m:=by
   rw[BitVec.ofInt_natCast,BitVec.toNat_ofNat];exact mod_eq_of_lt (by omega)
  rw[e];exact and_le_right
 .show IntKind.i64.wrap ((BitVec.ofInt 64 x &&& BitVec.ofInt 64 (m:Int)).toNat:Int)=_
  have a:(BitVec.ofInt 64 x &&& BitVec.ofInt 64 (m:Int)).toNat<=m:=by
   rw[BitVec.toNat_and];have e:(BitVec.ofInt 64 (m:Int)).toNat=m:=by
    rw[BitVec.ofInt_natCast,BitVec.toNat_ofNat];exact mod_eq_of_lt (by omega)
   rw[e];exact and_le_right
  generalize (BitVec.ofInt 64 x &&& BitVec.ofInt 64 (m:Int)).toNat=q at *;exact IntWalk.i64_in _ (by omega)
theorem NS(w:World)(b s n:Nat)(h:qL w b s)(I:1<=n)(J:n<=1073741824):Calls prog 59 #[.pointer b,n] w λe w'=>∃v s':Nat,e=.returned v/\v<n/\qL w' b s'/\gf [b] w w':=by
 obtain⟨a,hs⟩:=h;have E:=a.X 0;have S:=a.V 0;simp at E;have⟨x,hx⟩:=zX (s*1103515245+12345);have P:x<4611686018427387904:=by omega
 have O:(s:Int)*1103515245+12345=(x:Int):=by omega
 obtain⟨y,K,j⟩:=J6 (x:Int) 2147483647 (by omega);have D:y<2147483648:=by omega
 have u:=a.T 0 (.int .i64 y);have M:bits BinOp.and IntKind.i64 (x:Int) 2147483647=(y:Int):=j;have⟨z,hz⟩:=zX (y / 256);have R:(y:Int) / 256=(z:Int):=by omega
 have Q:z<8388608:=by omega
 have⟨r,hr⟩:=zX (z%n);have C:r<n:=by rw[hr];exact mod_lt _ (by omega)
 have N:(z:Int).tmod (n:Int)=(r:Int):=by rw[hr,Int.tmod_eq_emod_of_nonneg (by omega)];simp
 have⟨HS,ad⟩:=gy u C;clear u a hx K hz hr C j;go_enter func59,ntmps59;go_wp2;go_ret;refine⟨r,y,rfl,ad.o,⟨?_,D⟩,(zR [b] w).setCell (.inl (by simp)) _⟩
 simpa using HS.o
theorem qk{I u w4:World}{b cap S d P r j n rb s:Nat}{A:Option Addr}{L:List Int}{l:List Int}{F:List Nat}{C a:Nat}{o:Obj}(E:qL u rb s)(R:jo u b A cap L S)(M:gf [rb] I u)(hF:∀x∈F,rb<x)(N:l.length=i)(Q:gU d l)(Z:r<P)(X:P=2^d)(hsz:I.heap.size<=u.heap.size)(hs3:I.heap.size=rb+1)(hb:b<rb)(K:gM A L F)(Y:i+(j+1)=n)(O:gv w4 3 (.slice C (i+1) a) C (l.map vi++[.int .i64 r]))(D:gB F [C] (u.alloc o) w4):∃(i' s':Nat) (l':List Int) (F':List Nat),Value.int .i64 ((i:Int)+1)=.int .i64 i'/\i'+j=n/\gE w4 3 (.slice C (i+1) a) F' (l'.map vi)/\l'.length=i'/\gh (gU d l')/\qL w4 rb s'/\(∀x∈F',rb<x)/\jo w4 b A cap L S/\gf [rb] I w4:=by
 have J:gf F u w4:=((zR [] u).alloc o).mono (by simp) |>.tq D.Z;have U:rb∉F:=λhm=>by have:=hF rb hm;omega
 have V:b∉F:=λhm=>by have:=hF b hm;omega
 refine⟨i+1,s,l++[(r:Int)],[C],by simp,by omega,?_,by simp[N],?_,⟨E.1.Z J U,E.2⟩,?_,?_,?_⟩
 .have:=O.S
  simpa[vi]using this
 .refine gd ?_
  intro z hz;rcases zP.1 hz with h1|h1
  .exact Q z h1
  .simp at h1
   subst h1;have e:(2:Int)^d=(P:Int):=(by rw[X];simp);rw[e];omega
 .intro y T
  simp at T;subst T;rcases D.new y (by simp)with h1|h1
  .exact hF y h1
  .simp at h1
   omega
 .exact R.Y J V K
 .exact M.trans J λx hx=>.inr (by have:=hF x hx;omega)
theorem Eu(w:World)(b cap at_ W H d:Nat)(A:Option Addr)(L:List Int)(h:jo w b A cap L at_)(hw0:1<=W)(hw1:W<=64)(hh0:1<=H)(hh1:H<=64)(h0:1<=d)(h1:d<=16):Calls prog 27 #[.pointer (some ⟨b,0,none⟩),W,H,d] w λe w'=>∃(v:Value) (g:Nat) (l:List Int) (at':Nat),e=.returned v/\gv w' 3 v g (l.map vi)/\l.length=W*H/\gU d l/\jo w' b A cap L at'/\gf [b] w w'/\w.heap.size<=g:=by
 have ba:=mC w b cap at_ 7 A L h (by omega) (by omega);have⟨n,hn⟩:=zX (W*H);have bJ:(W:Int)*(H:Int)=(n:Int):=by rw[hn];simp
 have bI:n<=4096:=by rw[hn];exact zL hw1 hh1
 have bH:1<=n:=by rw[hn];exact Nat.mul_pos hw0 hh0
 have bK:n<=64*W:=by rw[hn,zY];exact mul_le_mul_right W hh1
 have⟨P,hP⟩:=zX (2^d);have bC:(2:Int)^d=(P:Int):=by rw[hP];simp
 have bA:1<=P:=by rw[hP];exact Nat.two_pow_pos d
 have bB:P<=65536:=by rw[hP];exact Nat.pow_le_pow_right (n:=2) (by decide) h1
 have⟨HP,HN⟩:=gy hP hn;rw[<-hn];clear hn hP h;go_enter func27,ntmps27;go_wp2_with fail;refine ba.mono ?_;rintro e w1 ⟨kd,a1,rfl,bG,aN,U⟩;have aL:=mC w1 b cap a1 1048576 A L aN (by omega) (by omega);clear ba aN;go_wp2_with fail;refine aL.mono ?_;rintro e w2 ⟨sd,a2,rfl,bM,C,a9⟩;have⟨rb,aS⟩:=zX w2.heap.size;have⟨w3,aK⟩:=zX (w2.alloc (.cells #[sd] 88));have aI:qL w3 rb sd:=⟨by rw[aK,aS];exact gn.new w2 _ _,by omega⟩;have X:gh (∀F:List Nat,(∀x∈F,rb<x)->gM A L F):=gd (λF hF=>gM.fresh C.cells (λx hx=>by have:=hF x hx;omega));have Y:gh (gM A L [rb]):=gd (gM.fresh C.cells (by simp;omega));have aO:jo w3 b A cap L a2:=C.fresh (by rw[aK];exact(zR [] w2).alloc _);have aG:=U.tq a9;have bL:=aG.size;have aX:gf [b] w w3:=by rw[aK];exact aG.alloc _
 have an:rb≠b:=by have:=C.blk.lt;omega
 have am:gh (b<rb):=gd (by have:=C.blk.lt;omega);have bc:w3.heap.size=rb+1:=by rw[aK,aS];simp
 have⟨be,bd,aF⟩:=gS aK aS bc;have a0:w.heap.size<=rb:=by omega
 clear aL C U a9 aG aK aS bc;go_wp2_with fail;rw[<-be.o,<-bd.o]
 go_loopg [13,14,15,16,17] n (λj vo vi' v15 v16 v17 wr=>∃(i s:Nat) (l:List Int) (F:List Nat),vi'=.int .i64 i/\i+j=n/\gE wr 3 vo F (l.map vi)/\l.length=i/\gh (gU d l)/\qL wr rb s/\(∀x∈F,rb<x)/\jo wr b A cap L a2/\gf [rb] w3 wr)
 .exact⟨0,sd,[],[],rfl,by omega,gE.nil _ _,rfl,gd (by intro s hs;simp at hs),aI,by simp,aO,zR _ _⟩
 clear aI aO;obtain⟨i,s,l,F,rfl,bE,az,Z,T,aI,hF,a4,aW⟩:=hrel;obtain⟨S,V,rfl,bh,bi,_⟩:=az.oq;rcases gk with _|j
 .obtain rfl:i=n:=by omega
  have aY:gf [b] w wr:=aX.trans aW (λx hx=>by rw[zU.1 hx];exact .inr a0);rcases az.cases with⟨_,aZ,_⟩|⟨g,a3,rfl⟩
  .exfalso
   have:=congrArg length aZ
   rw[zE]at this;simp at this;rw[this]at Z;simp at Z;omega
  have bD:=hF g (by simp);clear az hF;go_wp2;go_ret;exact⟨_,g,l,a2,rfl,a3,Z,T.o,a4,aY,by omega⟩
 .have bF:i<n:=by omega
  have⟨x,hx⟩:=zX (i%W);have⟨y,hy⟩:=zX (i / W);have aQ:x<64:=by have:=mod_lt i (show W>0 by omega);omega
  have aR:y<64:=by rw[hy];exact Nat.div_lt_of_lt_mul (by rw[zY];omega)
  have bf:(i:Int)%(W:Int)=(x:Int):=by rw[hx];simp
  have bg:(i:Int) / (W:Int)=(y:Int):=by rw[hy];simp
  have bx:(i:Int).tmod (W:Int)=(x:Int):=by rw[Int.tmod_eq_emod_of_nonneg (by omega)];exact bf
  have bz:(i:Int).tdiv (W:Int)=(y:Int):=by rw[Int.tdiv_eq_ediv_of_nonneg (by omega)];exact bg
  have bb:=λn (a:1<=n) (b:n<=1073741824) w' (hc:gf [] wr w')=>NS w' rb s n ⟨aI.1.Z hc (by simp),aI.2⟩ a b;have⟨a7,ap,aV⟩:=gS bb a4 aI;have J:gh (gE wr 3 (.slice S i V) F (l.map vi)):=gd (by rw[<-Z];exact az);rw[Z];have⟨af,aj,ao⟩:=gS Z hF aW;clear hx hy bb a4 aI az hF aW Z bh;go_wp2
  go_quiet (fail)
  have⟨p3,bo⟩:=zX (x / 3);have⟨p4,bq⟩:=zX (y / 4);have bp:p3<64:=by omega
  have br:p4<64:=by omega
  have x3:(x:Int) / 3=(p3:Int):=by omega
  have y4:(y:Int) / 4=(p4:Int):=by omega
  have bN:(x:Int).tdiv 3=(p3:Int):=by rw[Int.tdiv_eq_ediv_of_nonneg (by omega)];exact x3
  have bP:(y:Int).tdiv 4=(p4:Int):=by rw[Int.tdiv_eq_ediv_of_nonneg (by omega)];exact y4
  have⟨xx,a5⟩:=zX (x*x);have⟨yy,a6⟩:=zX (y*y);have bu:xx<=4096:=by rw[a5];exact zL (Nat.le_of_lt aQ) (Nat.le_of_lt aQ)
  have bw:yy<=4096:=by rw[a6];exact zL (Nat.le_of_lt aR) (Nat.le_of_lt aR)
  have bs:(x:Int)*(x:Int)=(xx:Int):=by rw[a5];simp
  have bv:(y:Int)*(y:Int)=(yy:Int):=by rw[a6];simp
  have⟨p2,bm⟩:=zX (yy / 2);have bn:p2<=4096:=by omega
  have y2:(yy:Int) / 2=(p2:Int):=by omega
  have bO:(yy:Int).tdiv 2=(p2:Int):=by rw[Int.tdiv_eq_ediv_of_nonneg (by omega)];exact y2
  have⟨mm,bl⟩:=zX ((x+3*y)%5);have bj:((x:Int)+3*(y:Int))%5=(mm:Int):=by omega
  have bk:((x:Int)+3*(y:Int)).tmod 5=(mm:Int):=by rw[Int.tmod_eq_emod_of_nonneg (by omega)];exact bj
  clear a5 a6 bl bm bo bq;have⟨wy,aP⟩:=zX (wr.drewN nq);have I:gh (gf [rb] wr wy):=gd (by rw[aP];exact((zR [] wr).drewN nq).mono (by simp));have a8:=λn a b=>a7.o n a b wy (by rw[aP];exact(zR [] wr).drewN nq);have O:gh (qL wy rb s):=gd (by rw[aP];exact⟨aV.o.1.drewN _,aV.o.2⟩);have R:=gd a8;rw[<-aP];clear a7 aV a8 aP;rcases(by omega:kd=0\/kd=1\/kd=2\/kd=3\/kd=4\/kd=5\/kd=6)with rfl|rfl|rfl|rfl|rfl|rfl|rfl
  .obtain⟨v,rfl⟩:=zX sd
   have⟨r,hr⟩:=zX (v%P);have E:r<P:=(by rw[hr];exact mod_lt _ (by omega));have M:(v:Int)%(P:Int)=(r:Int):=(by rw[hr];simp);have aJ:(v:Int).tmod (P:Int)=(r:Int):=(by rw[Int.tmod_eq_emod_of_nonneg (by omega)];exact M);have u:gf [rb] wr wy:=I.o;have ad:gE wy 3 (.slice S i V) F (l.map vi):=J.o.Z u (λy hy=>by have:=aj.o y hy;simp;omega);have K:=O;have z:=ao.o.tq u;have C:=ap.o.Y u (by simpa using an.symm) Y.o;have⟨ai,ag,aq,ar⟩:=gz C z E z.size;clear hr E C u z R ap J ao I O
   go_wp2_with(at_builtin;refine jT rfl rfl iJ rfl rfl (ad.alloc _) (.int .i64 r) rfl ?c1 ?c2 ?c3 ?c4 ?_)
   case c1=>simp[go_sem]
   case c2=>rfl
   case c3=>rw[zE,af.o];omega
   case c4=>rw[zE,af.o];omega
   intro g2 au w4 D N;rw[af.o]at D⊢;go_wp2_with fail
   go_roundg j
   .exact qk K.o ai.o ag.o aj.o af.o T.o aq.o HP.o ar.o aF.o am.o (X.o F aj.o) (by omega) D N
   .omega
  .have Q:=R.o 65536 (by omega) (by omega)
   rw[show((65536:Nat):Int)=65536 from rfl]at Q;go_wp2_with fail;refine Q.mono ?_;rintro e wz ⟨q,s1,rfl,hq,aM,U⟩;clear Q;obtain⟨v,rfl⟩:=zX q;have⟨r,hr⟩:=zX (v%P);have E:r<P:=(by rw[hr];exact mod_lt _ (by omega));have M:(v:Int)%(P:Int)=(r:Int):=(by rw[hr];simp);have aJ:(v:Int).tmod (P:Int)=(r:Int):=(by rw[Int.tmod_eq_emod_of_nonneg (by omega)];exact M);have u:gf [rb] wr wz:=I.o.tq U;have ad:gE wz 3 (.slice S i V) F (l.map vi):=J.o.Z u (λy hy=>by have:=aj.o y hy;simp;omega);have K:=gd aM;have z:=ao.o.tq u;have C:=ap.o.Y u (by simpa using an.symm) Y.o;have⟨ai,ag,aq,ar⟩:=gz C z E z.size;clear hr E C u z R ap J ao I O
   go_wp2_with(at_builtin;refine jT rfl rfl iJ rfl rfl (ad.alloc _) (.int .i64 r) rfl ?c1 ?c2 ?c3 ?c4 ?_)
   case c1=>simp[go_sem]
   case c2=>rfl
   case c3=>rw[zE,af.o];omega
   case c4=>rw[zE,af.o];omega
   intro g2 au w4 D N;rw[af.o]at D⊢;go_wp2_with fail
   go_roundg j
   .exact qk K.o ai.o ag.o aj.o af.o T.o aq.o HP.o ar.o aF.o am.o (X.o F aj.o) (by omega) D N
   .omega
  .have Q:=R.o 3 (by omega) (by omega)
   rw[show((3:Nat):Int)=3 from rfl]at Q;go_wp2_with fail;refine Q.mono ?_;rintro e wz ⟨q,s1,rfl,hq,aM,U⟩;clear Q;have⟨v,hv⟩:=zX (sd+3*x+2*y+q);have aT:(sd:Int)+3*(x:Int)+2*(y:Int)+(q:Int)=(v:Int):=(by omega);have aU:v<1073741824:=(by omega);clear hv;have⟨r,hr⟩:=zX (v%P);have E:r<P:=(by rw[hr];exact mod_lt _ (by omega));have M:(v:Int)%(P:Int)=(r:Int):=(by rw[hr];simp);have aJ:(v:Int).tmod (P:Int)=(r:Int):=(by rw[Int.tmod_eq_emod_of_nonneg (by omega)];exact M);have u:gf [rb] wr wz:=I.o.tq U;have ad:gE wz 3 (.slice S i V) F (l.map vi):=J.o.Z u (λy hy=>by have:=aj.o y hy;simp;omega);have K:=gd aM;have z:=ao.o.tq u;have C:=ap.o.Y u (by simpa using an.symm) Y.o;have⟨ai,ag,aq,ar⟩:=gz C z E z.size;clear hr E C u z R ap J ao I O
   go_wp2_with(at_builtin;refine jT rfl rfl iJ rfl rfl (ad.alloc _) (.int .i64 r) rfl ?c1 ?c2 ?c3 ?c4 ?_)
   case c1=>simp[go_sem]
   case c2=>rfl
   case c3=>rw[zE,af.o];omega
   case c4=>rw[zE,af.o];omega
   intro g2 au w4 D N;rw[af.o]at D⊢;go_wp2_with fail
   go_roundg j
   .exact qk K.o ai.o ag.o aj.o af.o T.o aq.o HP.o ar.o aF.o am.o (X.o F aj.o) (by omega) D N
   .omega
  .have Q:=R.o 5 (by omega) (by omega)
   rw[show((5:Nat):Int)=5 from rfl]at Q;go_wp2_with fail;refine Q.mono ?_;rintro e wz ⟨q,s1,rfl,hq,aM,U⟩;clear Q;have⟨v,hv⟩:=zX (sd+q*7);have aT:(sd:Int)+(q:Int)*7=(v:Int):=(by omega);have aU:v<1073741824:=(by omega);clear hv;have⟨r,hr⟩:=zX (v%P);have E:r<P:=(by rw[hr];exact mod_lt _ (by omega));have M:(v:Int)%(P:Int)=(r:Int):=(by rw[hr];simp);have aJ:(v:Int).tmod (P:Int)=(r:Int):=(by rw[Int.tmod_eq_emod_of_nonneg (by omega)];exact M);have u:gf [rb] wr wz:=I.o.tq U;have ad:gE wz 3 (.slice S i V) F (l.map vi):=J.o.Z u (λy hy=>by have:=aj.o y hy;simp;omega);have K:=gd aM;have z:=ao.o.tq u;have C:=ap.o.Y u (by simpa using an.symm) Y.o;have⟨ai,ag,aq,ar⟩:=gz C z E z.size;clear hr E C u z R ap J ao I O
   go_wp2_with(at_builtin;refine jT rfl rfl iJ rfl rfl (ad.alloc _) (.int .i64 r) rfl ?c1 ?c2 ?c3 ?c4 ?_)
   case c1=>simp[go_sem]
   case c2=>rfl
   case c3=>rw[zE,af.o];omega
   case c4=>rw[zE,af.o];omega
   intro g2 au w4 D N;rw[af.o]at D⊢;go_wp2_with fail
   go_roundg j
   .exact qk K.o ai.o ag.o aj.o af.o T.o aq.o HP.o ar.o aF.o am.o (X.o F aj.o) (by omega) D N
   .omega
  .have⟨v,hv⟩:=zX (sd+p3*11+p4)
   have aT:(sd:Int)+(p3:Int)*11+(p4:Int)=(v:Int):=(by omega);have aU:v<1073741824:=(by omega);clear hv;have⟨r,hr⟩:=zX (v%P);have E:r<P:=(by rw[hr];exact mod_lt _ (by omega));have M:(v:Int)%(P:Int)=(r:Int):=(by rw[hr];simp);have aJ:(v:Int).tmod (P:Int)=(r:Int):=(by rw[Int.tmod_eq_emod_of_nonneg (by omega)];exact M);have u:gf [rb] wr wy:=I.o;have ad:gE wy 3 (.slice S i V) F (l.map vi):=J.o.Z u (λy hy=>by have:=aj.o y hy;simp;omega);have K:=O;have z:=ao.o.tq u;have C:=ap.o.Y u (by simpa using an.symm) Y.o;have⟨ai,ag,aq,ar⟩:=gz C z E z.size;clear hr E C u z R ap J ao I O
   go_wp2_with(at_builtin;refine jT rfl rfl iJ rfl rfl (ad.alloc _) (.int .i64 r) rfl ?c1 ?c2 ?c3 ?c4 ?_)
   case c1=>simp[go_sem]
   case c2=>rfl
   case c3=>rw[zE,af.o];omega
   case c4=>rw[zE,af.o];omega
   intro g2 au w4 D N;rw[af.o]at D⊢;go_wp2_with fail
   go_roundg j
   .exact qk K.o ai.o ag.o aj.o af.o T.o aq.o HP.o ar.o aF.o am.o (X.o F aj.o) (by omega) D N
   .omega
  .have⟨v,hv⟩:=zX (sd+xx+p2)
   have aT:(sd:Int)+(xx:Int)+(p2:Int)=(v:Int):=(by omega);have aU:v<1073741824:=(by omega);clear hv;have⟨r,hr⟩:=zX (v%P);have E:r<P:=(by rw[hr];exact mod_lt _ (by omega));have M:(v:Int)%(P:Int)=(r:Int):=(by rw[hr];simp);have aJ:(v:Int).tmod (P:Int)=(r:Int):=(by rw[Int.tmod_eq_emod_of_nonneg (by omega)];exact M);have u:gf [rb] wr wy:=I.o;have ad:gE wy 3 (.slice S i V) F (l.map vi):=J.o.Z u (λy hy=>by have:=aj.o y hy;simp;omega);have K:=O;have z:=ao.o.tq u;have C:=ap.o.Y u (by simpa using an.symm) Y.o;have⟨ai,ag,aq,ar⟩:=gz C z E z.size;clear hr E C u z R ap J ao I O
   go_wp2_with(at_builtin;refine jT rfl rfl iJ rfl rfl (ad.alloc _) (.int .i64 r) rfl ?c1 ?c2 ?c3 ?c4 ?_)
   case c1=>simp[go_sem]
   case c2=>rfl
   case c3=>rw[zE,af.o];omega
   case c4=>rw[zE,af.o];omega
   intro g2 au w4 D N;rw[af.o]at D⊢;go_wp2_with fail
   go_roundg j
   .exact qk K.o ai.o ag.o aj.o af.o T.o aq.o HP.o ar.o aF.o am.o (X.o F aj.o) (by omega) D N
   .omega
  .have⟨v,hv⟩:=zX (sd+mm*9)
   have aT:(sd:Int)+(mm:Int)*9=(v:Int):=(by omega);have aU:v<1073741824:=(by omega);clear hv;have⟨r,hr⟩:=zX (v%P);have E:r<P:=(by rw[hr];exact mod_lt _ (by omega));have M:(v:Int)%(P:Int)=(r:Int):=(by rw[hr];simp);have aJ:(v:Int).tmod (P:Int)=(r:Int):=(by rw[Int.tmod_eq_emod_of_nonneg (by omega)];exact M);have u:gf [rb] wr wy:=I.o;have ad:gE wy 3 (.slice S i V) F (l.map vi):=J.o.Z u (λy hy=>by have:=aj.o y hy;simp;omega);have K:=O;have z:=ao.o.tq u;have C:=ap.o.Y u (by simpa using an.symm) Y.o;have⟨ai,ag,aq,ar⟩:=gz C z E z.size;clear hr E C u z R ap J ao I O
   go_wp2_with(at_builtin;refine jT rfl rfl iJ rfl rfl (ad.alloc _) (.int .i64 r) rfl ?c1 ?c2 ?c3 ?c4 ?_)
   case c1=>simp[go_sem]
   case c2=>rfl
   case c3=>rw[zE,af.o];omega
   case c4=>rw[zE,af.o];omega
   intro g2 au w4 D N;rw[af.o]at D⊢;go_wp2_with fail
   go_roundg j
   .exact qk K.o ai.o ag.o aj.o af.o T.o aq.o HP.o ar.o aF.o am.o (X.o F aj.o) (by omega) D N
   .omega
theorem Nk(w:World)(A:Option Addr)(cap:Nat)(L:List Int)(r:gu vi w A L)(a:∀x∈L,mX x)(j:L.length<=9223372036854775807):Calls prog 11 #[.slice A L.length cap] w λe w'=>∃b,e=.returned (.pointer (some ⟨b,0,none⟩))/\jo w' b A cap L 0/\gf [] w w'/\w.heap.size<=b:=by
 have⟨HC,HI⟩:=gy r a;clear r a;go_enter func11,ntmps11;go_wp2;go_ret;have n:gf [] w (w.alloc (.cells #[.slice A L.length cap,(0:Int)] 55)):=(zR [] w).alloc _;exact⟨w.heap.size,rfl,⟨gn.new w _ _,HC.o.Z n (by simp),gM.fresh HC.o (by simp),HI.o,zero_le _,j⟩,n,zQ _⟩
theorem NE(w:World)(A B:Option Addr)(N O:Nat)(a r:List Int)(hA:gu vi w A a)(D:gu vi w B r)(S:a.length<=4096)(T:r.length<=4611686018427387904):Calls prog 91 #[.slice A a.length N,.slice B r.length O] w λe w'=>e=.returned (.bool (decide (a=r)))/\∃q,w'=w.drewN q:=by
 by_cases hne:a.length=r.length
 .have⟨n,hn⟩:=zX a.length
  have C:r.length=n:=by rw[hn,hne]
  rw[C];rw[<-hn]at S⊢;have⟨HA,HB⟩:=gy hn C;clear hn C hne T;have X:((n:Int)==(n:Int))=true:=by simp
  have Y:((n:Int) != (n:Int))=false:=by simp
  go_enter func91,ntmps91;go_wp2_with fail
  go_loopg [5] n (λj iv wr=>∃i q:Nat,iv=.int .i64 i/\i+j=n/\gh (a.take i=r.take i)/\wr=w.drewN q)
  .exact⟨0,0,rfl,by omega,gd rfl,rfl⟩
  obtain⟨i,q,rfl,aj,I,rfl⟩:=hrel;rcases gk with _|j
  .obtain rfl:i=n:=by omega
   have E:=I.o;rw[zT (by rw[<-HA.o];exact zQ _),zT (by rw[HB.o];exact zQ _)]at E;have R:gh (decide (a=r)=true):=gd (zB E);clear E;go_wp2;go_ret;exact⟨by rw[R.o];rfl,q,rfl⟩
  .have ad:i<n:=by omega
   have J:i<a.length:=(by rw[<-HA.o];exact ad);have K:i<r.length:=(by rw[HB.o];exact ad);obtain⟨P,U,rfl,u⟩:=hA.at_ J;obtain⟨Q,V,rfl,z⟩:=D.at_ K;have⟨x,hx⟩:=zX (a[i]);have⟨y,hy⟩:=zX (r[i]);rw[<-hx]at u;rw[<-hy]at z;have cA:w.cell? ⟨P,U+i,none⟩=some (.int .i64 x):=u;have cB:w.cell? ⟨Q,V+i,none⟩=some (.int .i64 y):=z;have⟨HX,HY,ag,ah⟩:=gz hx hy J K;have ai:=gd D;clear hx hy u z hA D;go_wp2
   go_quiet (fail)
   by_cases hxy:x=y
   .subst hxy
    have Z:(x != x)=false:=(by simp);go_wp2
    go_roundg j
    .refine⟨i+1,q+nq,by go_num,by omega,gd ?_,by first|rfl|rw[World.drewN_drewN]⟩
     rw[take_succ_eq_append_getElem ag.o,take_succ_eq_append_getElem ah.o,I.o,<-HX.o,<-HY.o]
    .omega
   .have Z:(x != y)=true:=by simpa using hxy
    have s:decide (a=r)=false:=zA λe=>hxy (by rw[HX.o,HY.o];subst e;rfl);have M:=gd s;clear s;go_wp2;go_ret;exact⟨by rw[M.o];rfl,q+nq,by first|rfl|rw[World.drewN_drewN]⟩
 .have s:decide (a=r)=false:=zA λe=>hne (by rw[e])
  rw[s];have X:((a.length:Int)==(r.length:Int))=false:=by simpa using(by omega:¬(a.length:Int)=r.length)
  have Y:(a.length==r.length)=false:=by simpa using hne
  go_enter func91,ntmps91;go_wp2;go_ret;exact⟨rfl,0,rfl⟩
def kJ:List Nat->Nat
 | []=>0
 | x::l=>max (x+1) (kJ l)
theorem DE(x:Nat):∀f:List Nat,kJ (f++[x])=max (kJ f) (x+1)
 | []=>by simp[kJ]
 | y::f=>by
  have:=DE x f
  simp only[cons_append,kJ,this];omega
theorem u9:∀ {f:List Nat},∀x∈f,x<kJ f
 | [],x,h=>by cases h
 | y::f,x,h=>by
  rcases zJ.1 h with rfl|h
  .simp only[kJ];omega
  .have:=u9 x h
   simp only[kJ];omega
theorem zj{m:Nat}:∀ {f:List Nat},(∀x∈f,x<m)->kJ f<=m
 | [],_=>zero_le _
 | y::f,h=>by
  have h1:=h y (by simp);have a:=zj (m:=m) (f:=f) λx hx=>h x (by simp[hx]);simp only[kJ];omega
theorem LM(h:f≠[]):kJ f=ju f+1:=by
 have h1:kJ f<=ju f+1:=zj λx hx=>by have:=qy hx;omega
 have e:ju f<=kJ f-1:=yY λx hx=>by have:=u9 x hx;omega
 cases f with
 | nil=>exact absurd rfl h
 | cons y f=>
  have:=u9 y (mem_cons_self (a:=y) (l:=f))
  omega
theorem H8(h:kJ f<=m):jO (m+1) f=jO m f++[0]:=by
 unfold jO;rw[range_succ,zM]
 congr 1
 simp only[map_cons,map_nil]
 congr 1
 rw[count_eq_zero];intro a
 have:=u9 _ a
 omega
theorem H7(x:Int)(d:Nat):ii (iw x d) d=ii x d:=by unfold ii;rw[J1]
theorem Ks(l:List Int){W:Nat}(e:1<=W)(H d:Nat):kN l W H d (replicate H 7)=(range (W*H)).map λi=>iw (l.getD i 0-jL 7 (lO l W i) d) d:=by
 rw[tZ l e];apply map_congr_left;intro i hi;have a:=List.mem_range.1 hi;have h1:i / W<H:=Nat.div_lt_of_lt_mul a;unfold pe ph lO;rw[zD (l:=replicate H 7),getElem?_replicate,if_pos h1,Nat.div_add_mod'];rfl
theorem LR{l:List Int}{W H:Nat}(a:1<=W)(hl:l.length=W*H)(d:Nat):((kN l W H d (replicate H 7)).map λv=>ii v d).map (λv=>((jt v:Nat):Int))=k8 l W d:=by
 rw[Ks l a,<-hl,map_map,map_map];unfold k8 jN;rw[map_map];apply map_congr_left;intro i _;show((jt (ii (iw _ d) d):Nat):Int)=Int.ofNat (kM l W d i);rw[H7];rfl
theorem Ku(h:f≠[]):je f=jO (kJ f) f:=by
 rw[LM h];rfl
theorem Ll(w:World)(b:Nat)(F bs:List Nat)(lens l:List Nat)(A R:Option Addr)(cap C:Nat)(h:hO w b F bs)(K:lL lens)(P:gu i64 w A lens)(hA:gM A lens F)(hl:l.length<=4096)(J:gu i64 w R l)(I:gM R l F)(hs:∀s∈l,s<lens.length/\0<gI lens s)(hbs:bs.length<137438953472):Calls prog 117 #[.pointer b,.slice A lens.length cap,.slice R l.length C] w λe w'=>e=.returned (.int .i64 0)/\∃F',hO w' b F' (bs++nC lens l)/\gB F F' w w':=by
 have S:=K6 lens A cap w K P;have ay:=h.lt;have⟨n,hn⟩:=zX lens.length;have⟨m,hm⟩:=zX l.length;have aP:=K.n1;have aQ:=K.n2;rw[<-hn]at S hs aP aQ⊢;rw[<-hm]at hl⊢;have⟨HN,HM,HS,HF⟩:=gz hn hm hs K;have⟨HA,aC,aE⟩:=gS hA I ay;clear hn hm hs K hA I ay;go_enter func117,ntmps117;go_wp2_with fail;refine S.mono ?_;rintro e Q ⟨vw,gw,rfl,U,a,aY⟩;obtain⟨cw,rfl,ap,aL,ah,_⟩:=U.oq;have Y:(nY lens).length=n:=by rw[HN.o];exact nc lens _
 rw[Y]at ap⊢;have aD:=gd ah;clear S Y ah;go_wp2_with fail
 go_loopg [9] m (λj iv wr=>∃(i:Nat),iv=.int .i64 i/\i+j=m/\wr=Q)
 .exact⟨0,rfl,by omega,rfl⟩
 obtain⟨i,rfl,aZ,aT⟩:=hrel;obtain rfl:=aT.symm;rcases gk with _|j
 .obtain rfl:i=m:=by omega
  go_wp2_with fail
  go_loopg [10] i (λj iv wr2=>∃(q:Nat) (F' x:List Nat),iv=.int .i64 q/\q+j=i/\hO wr2 b F' x/\gh (x=bs++nC lens (l.take q))/\x.length<=bs.length+24*q/\gB F F' Q wr2)
  .exact⟨0,F,bs,rfl,by omega,h.Y a,gd (by simp[nC]),by omega,gB.refl F _⟩
  obtain⟨q,F',x,rfl,a0,Z,X,aX,ad⟩:=hrel;rcases gk with _|j
  .obtain rfl:q=i:=by omega
   go_wp2;go_ret;refine⟨rfl,F',?_,gB.pre a ad⟩;have e:l.take q=l:=(by rw[HM.o,zN]);have h5:=X.o;rw[e]at h5;rw[<-h5];exact Z
  .have aR:q<i:=by omega
   have M:q<l.length:=(by rw[<-HM.o];exact aR);have u:0<lens.length:=(by rw[<-HN.o];omega);obtain⟨gl,ol,rfl,D⟩:=oF ((J.Y a).Q aC.o ad.Z) M;obtain⟨r,N⟩:=HS.o l[q] (zG M);have z:=Az lens (l.take q) l[q];rw[<-jd l M]at z;have⟨s,ai⟩:=zX (l[q]);rw[<-ai]at D r N z;have ak:=DH HF.o N;have aW:gI lens s<=24:=by
    unfold gI;rw[zD,zF (by rw[<-HN.o];exact r)];exact HF.o.le _ (zG _)
   have az:uZ lens s=gA (nj lens s) (gI lens s):=rfl;rw[az]at z
   -- the cells of the two tables
   have ax:=(P.Y a).Q HA.o ad.Z;obtain⟨O,V,rfl,aM,y⟩:=ax.ex u;have E:=y s (gI lens s) (by unfold gI;rw[zD,zF (by rw[<-HN.o];exact r)];rfl);have af:=aD.o s (nj lens s) (by unfold nj;rw[zD,zF (by unfold nY;rw[nc,<-HN.o];exact r)];rfl);have aN:O∉F':=λhm=>by
    have h8:=(HA.o.grow (P.Y a) ad) u _ rfl;exact h8 hm
   have aV:wr.cell? ⟨gw,s,none⟩=some (.int .u64 (nj lens s:Int)):=(World.cell?_of_block (w:=Q) (ad.Z.block gw U.lt (λhm=>by have:=aE.o _ hm;omega))).trans af;have aG:wr.cell? ⟨O,V+s,none⟩=some (.int .i64 (gI lens s:Int)):=E;have aU:wr.cell? ⟨gl,ol+q,none⟩=some (.int .i64 s):=D;generalize nj lens s=wd at *;generalize gI lens s=L at *;have⟨aF,an⟩:=gy z ak;have aH:(0:Int)<=(q:Int):=(by omega);have aI:(q:Int)<(i:Int):=(by omega);have aJ:(0:Int)<=(s:Int):=(by omega);have aK:(s:Int)<(n:Int):=(by omega);clear z ak y E D af ai az M u ax U;go_wp2_with fail;have au:=λw9 (hc9:gf [] wr w9)=>jh w9 b F' x wd L (Z.Y hc9) (by omega) an.o (by omega);refine jE 15 (by kernel_rfl) (by kernel_rfl) ?_;simp only[take_succ_cons,take_zero,drop_succ_cons,drop_zero]
   repeat(go_big_quiet_step (fail))
   refine wpQuiet_nil ?_;intro _ aS;obtain⟨nq,rfl⟩:=aS;go_wp2_with fail;refine(au _ ((zR [] wr).drewN nq)).mono ?_;rintro e w5 ⟨rfl,F5,aw,aq⟩;go_wp2_with fail
   go_roundg j
   .refine⟨q+1,F5,_,by go_num,by omega,aw,gd ?_,?_,ad.trans (gB.pre ((zR [] wr).drewN nq) aq)⟩
    .rw[aF.o,X.o];simp only[zH]
    .rw[zC,gJ];omega
   .omega
 .have aO:i<m:=by omega
  have T:i<l.length:=by rw[<-HM.o];exact aO
  obtain⟨gl,ol,rfl,D⟩:=oF (J.Y a) T;obtain⟨r,N⟩:=HS.o l[i] (zG T);have u:0<lens.length:=by rw[<-HN.o];omega
  have⟨s,ai⟩:=zX (l[i]);rw[<-ai]at D r N;obtain⟨O,V,rfl,aM,y⟩:=(P.Y a).ex u;have E:=y s (gI lens s) (by unfold gI;rw[zD,zF (by rw[<-HN.o];exact r)];rfl);have aG:Q.cell? ⟨O,V+s,none⟩=some (.int .i64 (gI lens s:Int)):=E;have t1:=gL s 0 (by omega);have t3:((gI lens s:Int)==0)=false:=by rw[beq_eq_false_iff_ne];omega
  have aH:(0:Int)<=(i:Int):=by omega
  have aI:(i:Int)<(m:Int):=by omega
  have aJ:(0:Int)<=(s:Int):=by omega
  have aK:(s:Int)<(n:Int):=by omega
  generalize gI lens s=L at *;clear E y ai T u;go_wp2_with fail
  go_roundg j
  .exact⟨i+1,by go_num,by omega,rfl⟩
  .omega
theorem He(w:World)(b:Nat)(F bs:List Nat)(lens:List Nat)(A:Option Addr)(cap:Nat)(h:hO w b F bs)(D:lL lens)(hc:gu i64 w A lens)(hA:gM A lens F)(hbs:bs.length<137438953472):Calls prog 116 #[.pointer b,.slice A lens.length cap] w λe w'=>e=.returned (.int .i64 0)/\∃F',hO w' b F' (bs++oX lens)/\gB F F' w w':=by
 have R:=Dj lens A cap w D hc;have aN:=D.n1;have aO:=D.n2;have X:=D.le;have T:=Ba lens;have⟨n,hn⟩:=zX lens.length;rw[<-hn]at R aN aO T⊢;rw[T];have⟨HN,HA,aI⟩:=gS hn hA X;have al:=λi=>FT 66 (lens.drop i);have aD:=λi=>zz 66 (lens.drop i);have aG:=λi=>Fw 66 (lens.drop i);have aF:=λi=>Fv 66 (lens.drop i);have⟨ap,aJ,aL,aK⟩:=gz al aD aG aF;clear hn hA T X D al aD aG aF;have k1:IntKind.u64.wrap ((n:Int)-1)=((n-1:Nat):Int):=by
  have e:((n-1:Nat):Int)=(n:Int)-1:=by omega
  rw[e];exact IntWalk.u64_in _ (by omega)
 go_enter func116,ntmps116;go_wp2_with fail;refine gx R ?_;go_wp2_with fail;refine(jh w b F bs (n-1) 10 h (by omega) (by omega) (by omega)).mono ?_;rintro e w1 ⟨rfl,F1,aj,ai⟩;clear h R;go_wp2_with fail
 go_loopg [5,6] n (λk vi' vz wr=>∃(i:Nat) (F' u:List Nat),vi'=.int .i64 i/\i<=n/\n<=i+k/\hO wr b F' u/\gh (u++nh lens i=bs++(gA (n-1) 10++nh lens 0))/\u.length<=bs.length+10+11*i/\gB F F' w wr)
 .exact⟨0,F1,_,rfl,by omega,by omega,aj,gd (by rw[zH]),by rw[zC,gJ];omega,ai⟩
 clear aj ai;obtain⟨E,rfl⟩:=zX wr;obtain⟨i,F',u,rfl,aM,aW,U,O,aU,I⟩:=hrel;by_cases hend:n<=i
 .obtain rfl:i=n:=by omega
  go_wp2;go_ret;refine⟨rfl,F',?_,I⟩;have h5:=O.o;have e:=AI lens;rw[<-HN.o]at e;rw[e,append_nil]at h5;rw[<-h5];exact U
 .rcases gk with _|ko
  .omega
  .have hi:i<n:=by omega
   have⟨Z,hZ⟩:=zX (zr 66 (lens.drop i));have z1:=ap.o i;have z2:=aJ.o i;have V:=aL.o i;have M:=aK.o i;rw[<-hZ]at z1 z2 V M;rw[zO,<-HN.o]at z2 M;have S:∀z,(lens.drop i).getD z 0=gI lens (i+z):=λz=>by
    unfold gI;rw[zD,getElem?_drop,<-zD]
   have ad:0<lens.length:=(by rw[<-HN.o];omega);obtain⟨gt,ot,rfl,aV,az⟩:=(hc.Q HA.o I.Z).ex ad;have ac:∀s,s<n->E.cell? ⟨gt,ot+s,none⟩=some (.int .i64 (gI lens s:Int)):=λs hs=>by
    have:=az s (gI lens s) (by unfold gI;rw[zD,zF (by rw[<-HN.o];exact hs)];rfl)
    exact this
   have r:=AJ (lens:=lens) (i:=i) (by rw[<-HN.o];exact hi);have a:=As (lens:=lens) (i:=i) (by rw[<-HN.o];exact hi);rw[<-hZ]at r a;have aQ:gI lens i<=24:=by
    unfold gI;rw[zD,zF (by rw[<-HN.o];exact hi)];exact aI.o _ (zG _)
   have⟨HC,HZ⟩:=gy ac hZ;have Z3:gh (∀z,z<Z->gI lens (i+z)=0):=gd λz hz=>by rw[<-S];exact V z hz
   have Z4:gh (Z=66\/Z=n-i\/gI lens (i+Z)≠0):=gd (by rw[<-S];exact M);have⟨ao,ah⟩:=gy r a;clear ac hZ V M S az r a ad hend aM;go_wp2_with fail
   go_loopg [6] Z (λk vz wz=>∃z:Nat,vz=.int .i64 z/\z+k=Z/\wz=E)
   .exact⟨0,rfl,by omega,rfl⟩
   obtain⟨z,rfl,a0,Y⟩:=hrel;obtain rfl:=Y.symm;clear Y;rcases gk with _|j
   .obtain rfl:z=Z:=by omega
    go_upto_region 7 with fail
    go_cut [38]from 20 to 40 (λs38 wx=>s38=.bool false/\wx=E)
    case first=>
     by_cases q2:i+z<n
     .have C:=HC.o (i+z) q2
      have J:=Z4.o;have⟨q,hq⟩:=zX (i+z);rw[<-hq]at C q2 J;have aP:(i:Int)+(z:Int)=(q:Int):=(by omega);have t2:=i6 q n (by omega);by_cases q1:z=66
      .have K:=gL z 66 (by omega)
       have aH:decide (z<66)=false:=zA (by omega);clear q1 hq C J;go_wp2;go_meet
       case rel=>exact⟨rfl,rfl⟩
      .have K:=i6 z 66 (by omega)
       have aH:decide (z<66)=true:=zB (by omega);have aX:gI lens q≠0:=by
        rcases J with h|h|h
        .omega
        .omega
        .exact h
       have t3:((gI lens q:Int)==0)=false:=(by rw[beq_eq_false_iff_ne];omega);have ay:(0:Int)<=(q:Int):=(by omega);generalize gI lens q=L at *;clear hq q1 J;go_wp2;go_meet
       case rel=>exact⟨rfl,rfl⟩
     .have t2:decide ((i:Int)+(z:Int)<(n:Int))=false:=zA (by omega)
      go_wp2;go_meet
      case rel=>exact⟨rfl,rfl⟩
    case rest=>
     obtain⟨rfl,h9⟩:=hcut;obtain rfl:=h9.symm;clear h9;by_cases hz3:z<3
     .have K:=kK 3 z (by omega)
      have aH:decide (3<=z)=false:=zA (by omega);have r:=ao.o hz3;have ci:=HC.o i hi;have ak:gI lens i<2^5:=(by omega);generalize gI lens i=x at *;have ay:(0:Int)<=(i:Int):=(by omega);have aT:(i:Int)<(n:Int):=(by omega);have⟨HO,HX⟩:=gy r ak;clear r hz3 ak;go_wp2_with fail;refine(jh E b F' u x 5 U (by omega) HX.o (by omega)).mono ?_;rintro e w5 ⟨rfl,N,Q,P⟩;go_wp2_with fail
      go_roundg ko
      .refine⟨i+1,N,_,by go_num,by omega,by omega,Q,gd ?_,?_,I.trans P⟩
       .rw[<-O.o,HO.o,zH]
       .rw[zC,gJ];omega
      .omega
     .have K:=iI 3 z (by omega)
      have a:=ah.o hz3;have⟨y,hy⟩:=zX (z-3);rw[<-hy]at a;have aY:(z:Int)-3=(y:Int):=(by omega);have aZ:IntKind.u64.wrap (y:Int)=(y:Int):=IntWalk.u64_in _ (by omega);have aC:y<2^6:=(by omega);have⟨HO,HY⟩:=gy a aC;have aS:i+z<=n:=(by omega);clear a hz3 aC hy;go_wp2_with fail;refine(jh E b F' u 31 5 U (by omega) (by omega) (by omega)).mono ?_;rintro e w5 ⟨rfl,N,Q,P⟩;go_wp2_with fail;refine(jh w5 b N _ y 6 Q (by omega) HY.o (by rw[zC,gJ];omega)).mono ?_;rintro e w6 ⟨rfl,F6,ax,au⟩;go_wp2_with fail
      go_roundg ko
      .refine⟨i+z,F6,_,by go_num,by omega,by omega,ax,gd ?_,?_,(I.trans P).trans au⟩
       .rw[<-O.o,HO.o];simp only[zH]
       .rw[zC,zC,gJ,gJ];omega
      .omega
   .have aR:z<Z:=by omega
    have K:=i6 z 66 (by omega);have aE:i+z<n:=(by omega);have C:=HC.o (i+z) aE;rw[Z3.o z aR]at C;have⟨q,hq⟩:=zX (i+z);rw[<-hq]at C aE;have aP:(i:Int)+(z:Int)=(q:Int):=(by omega);have t2:=i6 q n (by omega);have ay:(0:Int)<=(q:Int):=(by omega);clear hq;go_wp2_with fail
    go_roundg j
    .exact⟨z+1,by go_num,by omega,rfl⟩
    .omega
structure rI (l:List Int) (W H d m k:Nat):Prop where
 may:ik k l W d=true
 le:∀j,j<m->ik j l W d=true->ja k l W H d<ja j l W H d\/ja k l W H d=ja j l W H d/\k<=j
theorem rI.uniq{l:List Int}{W H d k':Nat}(h:rI l W H d m k)(e:rI l W H d m k')(j:k<m)(a:k'<m):k=k':=by
 have h1:=h.le k' a e.may;have n:=e.le k j h.may;omega
theorem BF(l:List Int)(W H d:Nat):∀m,(jg l W H d m).2≠0->rI l W H d m (jg l W H d m).1
 | 0,h=>absurd rfl h
 | m+1,h=>by
  have hp:=ut m l W H d;obtain⟨h1,a⟩:=uI l W H d m;have r:=BF l W H d m;unfold jg at h⊢;generalize jg l W H d m=s at *;by_cases hc:ik m l W d=true/\(s.2=0\/ja m l W H d<s.2)
  .rw[if_pos hc]at h⊢
   refine⟨hc.1,λj hj hm=>?_⟩;simp only;by_cases e:j=m
   .subst e;exact .inr ⟨rfl,zQ _⟩
   .rcases hc.2 with n|n
    .have:=(h1 n).2 j (by omega)
     rw[hm]at this;cases this
    .obtain⟨k1,k2,k3,k4⟩:=a (by omega)
     have:=(r (by omega)).le j (by omega) hm
     omega
  .rw[if_neg hc]at h⊢
   obtain⟨k1,k2,k3,k4⟩:=a h;refine⟨k2,λj hj hm=>?_⟩;by_cases e:j=m
   .subst e
    have:¬ja j l W H d<s.2:=λh5=>hc ⟨hm,.inr h5⟩
    omega
   .exact(r h).le j (by omega) hm
theorem Ge(l:List Int)(W H d:Nat):rI l W H d 8 (kh l W H d):=by
 refine BF l W H d 8 λh=>?_
 have:=((uI l W H d 8).1 h).2 1 (by omega)
 rw[rh]at this;cases this
def mF(k:Nat)(l:List Int)(W H d:Nat):Nat:=if ik k l W d=true then ja k l W H d else 0
structure l8 (l:List Int) (W H d m k c:Nat):Prop where
 cost:c=ja k l W H d
 le7:k<=7
 first:rI l W H d m k
 one:c<ja 1 l W H d\/c=ja 1 l W H d/\k<=1
theorem l8.start(l:List Int)(W H d:Nat):l8 l W H d 0 1 (ja 1 l W H d):=⟨rfl,by omega,⟨rh l W d,λj hj=>by omega⟩,.inr ⟨rfl,zQ _⟩⟩
theorem l8.take{l:List Int}{W H d:Nat}(h:l8 l W H d m k c)(r:m<=7)(hp:0<mF m l W H d)(n:mF m l W H d<c\/mF m l W H d=c/\m<k):l8 l W H d (m+1) m (mF m l W H d):=by
 unfold mF at *;by_cases hy:ik m l W d=true
 .rw[if_pos hy]at hp n⊢
  obtain⟨h1,s,a,u⟩:=h;refine⟨rfl,r,⟨hy,λj hj hj'=>?_⟩,by omega⟩;by_cases e:j=m
  .subst e;exact .inr ⟨rfl,zQ _⟩
  .have:=a.le j (by omega) hj'
   omega
 .rw[if_neg hy]at hp
  omega
theorem l8.skip{l:List Int}{W H d:Nat}(h:l8 l W H d m k c)(n:mF m l W H d=0\/c<mF m l W H d\/mF m l W H d=c/\k<=m):l8 l W H d (m+1) k c:=by
 obtain⟨h1,r,a,s⟩:=h;refine⟨h1,r,⟨a.may,λj hj hj'=>?_⟩,s⟩;by_cases e:j=m
 .subst e
  unfold mF at n;rw[if_pos hj']at n
  have:=ut j l W H d
  omega
 .exact a.le j (by omega) hj'
theorem l8.best{l:List Int}{W H d:Nat}(h:l8 l W H d 8 k c):k=kh l W H d:=
 h.first.uniq (Ge l W H d) (by have:=h.le7;omega) (by have:=(si l W H d).1;omega)
theorem IK(x:Int)(l:List Int)(n:Nat):iF (x::l) n=gA x.toNat n++iF l n:=rfl
theorem Hr(l:List Int)(n:Nat)(a:m<l.length):iF (l.drop m) n=gA (l[m]).toNat n++iF (l.drop (m+1)) n:=by
 rw[drop_eq_getElem_cons a,IK]
theorem Kv(w:World)(b:Nat)(F ds:List Nat)(p d:Nat)(l:List Int)(h:iU w b F ds p)(hd:d<=16)(hs:gU d l)(hl:l.length<=4096)(ha:jG ds p (iF l d)):Calls prog 121 #[.pointer b,l.length,d] w λe w'=>∃v g,e=.returned v/\gv w' 3 v g (l.map vi)/\iU w' b F ds (p+(iF l d).length)/\gf [b] w w'/\w.heap.size<=g:=by
 have⟨HS,HA⟩:=gy hs ha;have aL:=h.lt b h.mem;have ay:=h.lt;have⟨n,hn⟩:=zX l.length;rw[<-hn]at hl⊢;have aM:=lp (P:=prog) iJ rfl .i64 .i64 n (by omega) (by omega);have E:=gd hn;have K:=gv.zeros w n (by omega);have⟨B,hB⟩:=zX w.heap.size;have M:gf [] w (w.alloc (.cells (replicate n (Value.int .i64 0)).toArray 3)):=(zR [] w).alloc _;have ah:=h.Y M;have aG:b≠B:=by omega
 have aA:gh (∀y∈F,y∉[B]):=gd (λy hy hm=>by have:=ay y hy;simp at hm;omega);rw[<-hB]at K;have D:=gd hB;clear hn hs ha hB h ay;go_enter func121,ntmps121;go_wp2_with fail;rw[<-D.o]
 go_loopg [13] n (λj iv wr=>∃(done:List Int) (r:Nat),iv=.int .i64 done.length/\done.length+j=n/\gh (done=l.take done.length)/\gv wr 3 (.slice B n n) B ((jI done n).map vi)/\iU wr b F ds r/\gh (jG ds r (iF (l.drop done.length) d))/\gh (r+(iF (l.drop done.length) d).length=p+(iF l d).length)/\gh (gf [b] w wr))
 .exact⟨[],p,rfl,by simp,gd (by simp),K,ah,by simpa using HA,gd (by simp),gd (M.mono (by simp))⟩
 clear K M ah;obtain⟨done,r,rfl,O,Y,u,R,V,I,av⟩:=hrel;have⟨m,hm⟩:=zX done.length;rcases gk with _|j
 .rw[<-hm]at O V I⊢
  obtain rfl:m=n:=by omega
  have a:=gd hm;clear hm O;go_wp2;go_ret;have e:done=l:=by rw[Y.o,<-a.o,E.o,zN]
  have e2:l.drop m=[]:=by rw[E.o,drop_length]
  have hp:=I.o;rw[e2]at hp;rw[sq a.o.symm,e]at u;exact⟨_,B,rfl,u,R.cast (by simpa[iF]using hp),av.o,by have:=D.o;omega⟩
 .have Q:m<l.length:=by rw[<-E.o];omega
  have C:=Hr l d Q;have S:=jd l Q;have⟨x,hx⟩:=zX (l[m]);have U:=HS.o l[m] (zG _);rw[<-hx]at C U S;obtain⟨X,hX⟩:∃X:Nat,X=x.toNat:=⟨_,rfl⟩;have T:x=(X:Int):=by omega
  have z:=V.o;rw[<-hm,C,<-hX]at z;have N:X<2^d:=by
   have e:(2:Int)^d=((2^d:Nat):Int):=by simp
   have:=U.2
   rw[e,T]at this;omega
  have aF:X<65536:=Nat.lt_of_lt_of_le N (show 2^d<=2^16 from Nat.pow_le_pow_right (by decide) hd);have ag:=qY wr b F ds r d X R (by omega) N z.left;have⟨az,aC,aD,aE⟩:=gz z.right C S T;have⟨ak,a⟩:=gy u hm;have aI:m+(j+1)=n:=by omega
  rw[<-hm];clear Q C S hx U z N hX T R u hm O;go_wp2_with fail;refine ag.mono ?_;rintro e w1 ⟨rfl,aK,aw⟩;have ad:=ak.o.Z aw (by simpa using aG.symm);obtain⟨aH,aJ⟩:=ad.fill_cell (by have:=a.o;omega);have J:=ad.fill (by have:=a.o;omega) (X:Int);rw[<-a.o]at aH aJ J;have aB:=gd J;have ax:(jI done n).length=n:=xY (by have:=a.o;omega);clear ag ad J;go_wp2
  go_roundg j
  .have Z:gf [B] w1 (w1.setCell ⟨B,m,none⟩ (.int .i64 X)):=(zR _ _).setCell (.inl (by simp)) _
   have s:(done++[(X:Int)]).length=m+1:=(by rw[zC,length_singleton,<-a.o]);refine⟨done++[(X:Int)],r+d,by rw[s];go_num,by rw[s];omega,?_,aB.o,aK.Z Z aA.o,?_,?_,?_⟩
   .rw[s,aD.o,aE.o]
    have:=Y.o
    rw[<-a.o]at this;rw[<-this];exact gd rfl
   .rw[s]
    have:=az.o
    rw[gJ]at this;exact gd this
   .rw[s]
    have h1:=I.o;have h2:=aC.o;rw[<-a.o,h2,zC,gJ]at h1;exact gd (by omega)
   .exact gd ((av.o.tq aw).trans Z λy hy=>.inr (by have:=D.o;simp at hy;omega))
  .omega
section
variable {w:World} {b:Nat} {F ds:List Nat} {p:Nat} {l:List Int} {W H d:Nat} (h:iU w b F ds p) (hw0:1<=W) (hw1:W<=16) (hh0:1<=H) (hh1:H<=16) (h0:1<=d) (h1:d<=16) (hl:l.length=W*H) (hs:gU d l)
include h hw0 hw1 hh0 hh1 h0 h1 hl hs
theorem Nl(j:jG ds p (iz 1 l W H d)):Calls prog 88 #[.pointer b,W,H,d] w (th w b F ds p l (iz 1 l W H d).length):=by
 have J:=Cc W H d w hw0 hw1 hh0 hh1 h0 h1;have s:=zL hw1 hh1;have u:iz 1 l W H d=gA 1 3++iF l d:=rfl;have z:(iz 1 l W H d).length=3+(iF l d).length:=by rw[u,zC,gJ]
 rw[z];rw[u]at j;have ad:=j.right;rw[gJ]at ad;have I:=qY w b F ds p 3 1 h (by omega) (by decide) j.left;have a:=λw' (hr:iU w' b F ds (p+3)) (hc:gf [b] w w')=>Kv w' b F ds (p+3) d l hr h1 hs (by rw[hl];exact Nat.le_trans s (by decide)) ad;have⟨n,hn⟩:=zX (W*H);have N:(W:Int)*(H:Int)=(n:Int):=by rw[hn];simp
 have M:n<=256:=by rw[hn];exact s
 rw[hl,<-hn]at a;have D:=gd a;unfold th;generalize (iF l d).length=q at *;clear hn u z j ad hs hl a s;go_enter func88,ntmps88
 go_wp2_with(go_at_call 119;refine gx J ?_)
 refine I.mono ?_;rintro e K ⟨rfl,x,r⟩;have a:=D.o K x r
 go_wp2_with(go_at_call 87;refine gx (vt _ b F ds _ x) ?_)
 refine a.mono ?_;rintro e P ⟨v,g,rfl,C,y,E,O⟩;clear a
 go_wp2_with(go_at_call 87;refine gx (vt _ b F ds _ y) ?_)
 go_ret2
 exact⟨v,[g],rfl,C.S,y.cast (by omega),r.tq E,by have:=r.size;simp;omega⟩
end
theorem Lz{w:World}{p q:gH}{g o:Nat}{c:Nat->Nat}(cap:Nat)(h:gW w p g o B c G)(cap':Nat)(u:gW w q g' o' B' c' G')(a:p.P=q.P)(D:p.W=q.W)(hH:p.H=q.H):Calls prog 58 #[.slice (some ⟨g,o,none⟩) p.P.length cap,.slice (some ⟨g',o',none⟩) q.P.length cap'] w λe w'=>e=.returned (.bool true)/\gf [] w w':=by
 have s:=h.ok;have⟨N,hN⟩:=zX (p.W*p.H);have y:∀wr,gf [] w wr->∀i,i<p.P.length->wr.cell? ⟨g,o+i,none⟩=some (.slice (B i) N (c i))/\wr.cell? ⟨g',o'+i,none⟩=some (.slice (B' i) N (c' i))/\∀wz,gf [] w wz->Calls prog 91 #[.slice (B i) N (c i),.slice (B' i) N (c' i)] wz λe w'=>e=.returned (.bool true)/\∃q,w'=wz.drewN q:=by
  intro wr E i hi;have h1:=(h.Y E).X i hi;have x:=(u.Y E).X i (by rw[<-a];exact hi);rw[<-hN]at h1;rw[<-D,<-hH,<-hN]at x;refine⟨h1,x,λwz hz=>?_⟩;have z:=h.len hi;have K:=u.len (i:=i) (by rw[<-a];exact hi);have k1:=(h.Y hz).cells i hi;have k2:=(u.Y hz).cells i (by rw[<-a];exact hi);rw[<-a]at k2 K;have C:=NE wz (B i) (B' i) (c i) (c' i) _ _ k1 k2 (by rw[z];exact s.area) (by rw[z];have:=s.area;omega);rw[z,<-hN]at C
  simpa using C
 rw[<-a];have⟨n,hn⟩:=zX p.P.length;have O:n<=4:=by rw[hn];exact s.n1
 rw[<-hn]at y⊢;have I:=gd y;have P:((n:Int) != (n:Int))=false:=by simp
 clear y hn s h u a D hH hN;go_enter func58,ntmps58;go_wp2_with fail
 go_loopg [5] n (λj v5 wr=>∃i:Nat,v5=.int .i64 i/\i+j=n/\gh (gf [] w wr))
 .exact⟨0,rfl,by omega,gd (zR _ _)⟩
 obtain⟨i,rfl,M,r⟩:=hrel;rcases gk with _|j
 .obtain rfl:i=n:=by omega
  have Q:decide (i<i)=false:=by simp
  go_wp2;go_ret;exact⟨rfl,r.o⟩
 .have hi:i<n:=by omega
  obtain⟨c1,c2,ad⟩:=I.o wr r.o i hi;have J:gh (∀k,Calls prog 91 #[.slice (B i) N (c i),.slice (B' i) N (c' i)] (wr.drewN k) λe w'=>e=.returned (.bool true)/\∃q,w'=wr.drewN q):=gd (λk=>(ad (wr.drewN k) (r.o.drewN k)).mono λe w' h=>by
   obtain⟨h1,q,x⟩:=h;exact⟨h1,k+q,by rw[x,World.drewN_drewN]⟩)
  clear ad;go_wp2_with fail
  go_quiet ((go_at_call 91;exact J.o _))
  go_wp2_with fail
  go_roundg j
  .exact⟨i+1,by go_num,by omega,gd (r.o.drewN nq)⟩
  .omega
theorem Jq{w:World}{p q:gH}{g o:Nat}{c:Nat->Nat}(cap:Nat)(h:gW w p g o B c G)(cap':Nat)(r:gW w q g' o' B' c' G')(s:p.P=q.P)(j:p.W=q.W)(hH:p.H=q.H)(u:p.d=q.d):Calls prog 25 #[gN p g o cap,gN q g' o' cap'] w λe w'=>e=.returned (.bool true)/\gf [] w w':=by
 have x:=λw' (hc:gf [] w w')=>Lz cap (h.Y hc) cap' (r.Y hc) s j hH;unfold gN;rw[<-j,<-hH,<-u];have a:gf [] w ((w.alloc (.cells #[p.W,p.H,p.d,.slice (some ⟨g,o,none⟩) p.P.length cap] 25)).alloc (.cells #[p.W,p.H,p.d,.slice (some ⟨g',o',none⟩) q.P.length cap'] 25)):=((zR [] w).alloc _).alloc _;have n:=x _ a;have⟨HR,HC⟩:=gy n a;clear x n a h r j hH u s;go_enter func25,ntmps25;go_wp2_with fail;refine HR.o.mono ?_;rintro e z ⟨rfl,y⟩;go_wp2;go_ret;exact⟨rfl,HC.o.tq y⟩
structure kq (w:World) (p:gH) (g o cap b capT:Nat) (A:Option Addr) (L:List Int) (bx nb rb gP cP:Nat) (wr:World) (q:gH) (xs:List Value) (gs:List Nat) (at':Nat):Prop where
 own:iL wr q gP cP xs gs
 al:jv p q
 tp:jo wr b A capT L at'
 Z:gf [b] w wr
 bxB:gn wr bx 25 #[p.W,p.H,p.d,.slice (some ⟨g,o,none⟩) p.P.length cap]
 nbB:gn wr nb 25 #[p.W,p.H,p.d,.slice gP p.P.length cP]
 rbB:gn wr rb 25 #[(0:Int),(0:Int),(0:Int),.slice none 0 0]
 R:∀x∈gP::gs,w.heap.size<=x/\x≠bx/\x≠nb/\x≠rb
 big:w.heap.size<=bx/\w.heap.size<=nb/\w.heap.size<=rb
 old:b<w.heap.size
 tpA:∀F:List Nat,(∀x∈F,w.heap.size<=x)->gM A L F
section
variable {w:World} {p:gH} {g o cap b capT:Nat} {A:Option Addr} {L:List Int} {bx nb rb gP cP:Nat} {wr:World} {q:gH} {xs:List Value} {gs:List Nat} {at':Nat}
theorem kq.tape(h:kq w p g o cap b capT A L bx nb rb gP cP wr q xs gs at')(a:gf [b] wr w')(tp:jo w' b A capT L at2):kq w p g o cap b capT A L bx nb rb gP cP w' q xs gs at2:=by
 have n:=h.old;obtain⟨h1,e,j⟩:=h.big
 exact { h with
  own:=h.own.Z a (by have:=(h.R gP (by simp)).1;simp;omega) (λx hx=>by have:=(h.R x (by simp[hx])).1;simp;omega)
  tp:=tp
  Z:=h.Z.tq a
  bxB:=h.bxB.Z a (by simp;omega)
  nbB:=h.nbB.Z a (by simp;omega)
  rbB:=h.rbB.Z a (by simp;omega) }
theorem kq.Y(h:kq w p g o cap b capT A L bx nb rb gP cP wr q xs gs at')(a:gf [] wr w'):kq w p g o cap b capT A L bx nb rb gP cP w' q xs gs at':=h.tape (a.mono (by simp)) (h.tp.fresh a)
theorem kq.turn(h:kq w p g o cap b capT A L bx nb rb gP cP wr q xs gs at'){r:gH}{j:List Value}{a F:List Nat}(e:gf F wr w')(hF:∀x∈F,w.heap.size<=x/\x≠bx/\x≠nb/\x≠rb)(own:iL w' r gP cP j a)(al:jv p r)(n:∀x∈gP::a,w.heap.size<=x/\x≠bx/\x≠nb/\x≠rb):kq w p g o cap b capT A L bx nb rb gP cP w' r j a at':=by
 have s:=h.old
 exact { h with
  own:=own
  al:=al
  R:=n
  tp:=h.tp.Y e (λhm=>by have:=(hF b hm).1;omega) (h.tpA F λx hx=>(hF x hx).1)
  Z:=h.Z.trans e λx hx=>.inr (hF x hx).1
  bxB:=h.bxB.Z e λhm=>(hF _ hm).2.1 rfl
  nbB:=h.nbB.Z e λhm=>(hF _ hm).2.2.1 rfl
  rbB:=h.rbB.Z e λhm=>(hF _ hm).2.2.2 rfl }
theorem kq.store(h:kq w p g o cap b capT A L bx nb rb gP cP wr q xs gs at'){a:Nat}{v:Int}(hi:i<q.P.length)(j:gs[i]?=some a)(C:k<q.W*q.H)(D:0<=v)(E:v<2^q.d):∃q',kq w p g o cap b capT A L bx nb rb gP cP (wr.setCell ⟨a,k,none⟩ (.int .i64 v)) q' xs gs at':=by
 obtain⟨g',c,h1,e,z,I⟩:=h.own.plane hi;rw[j]at e;injection e with e;subst e;have r:=mM hi;have n:=h.own.ok.len _ r;have y:=h.own.ok.smp _ r;refine⟨vB q i ((q.P.getD i []).set k v),?_⟩;have u:a∈gs:=mem_of_getElem? j;refine h.turn (F:=[a]) ((zR [a] wr).zs k _) ?_ ?_ (Cx h.al i _) h.R
 .intro x s
  simp at s;subst s;exact h.R x (by simp[u])
 .exact h.own.sample h1 j hi z (by rw[n];exact C) (Fp h.own.ok i (by rw[length_set];exact n) (N9 y k D E)) rfl
theorem kq.plane(h:kq w p g o cap b capT A L bx nb rb gP cP wr q xs gs at'){e:World}{n:Nat}{u:Value}{l:List Int}(hi:i<q.P.length)(z:gf [b] wr e)(E:jo e b A capT L at2)(r:gv e 3 u n (l.map vi))(y:wr.heap.size<=n)(hl:l.length=q.W*q.H)(hs:gU q.d l):∃q',kq w p g o cap b capT A L bx nb rb gP cP (e.setCell ⟨gP,i,none⟩ u) q' (xs.set i u) (gs.set i n) at2:=by
 have D:=h.tape z E;have M:=h.old;have j:=h.R;obtain⟨I,J,K⟩:=h.big;have N:=h.bxB.lt;have O:=h.nbB.lt;have P:=h.rbB.lt;refine⟨vB q i l,?_⟩;refine D.turn (F:=[gP]) ((zR [gP] e).zs i _) ?_ ?_ (Cx h.al i _) ?_
 .intro x a
  simp at a;subst a;exact h.R x (by simp)
 .refine h.own.replace hi r z ?_ y (Fp h.own.ok i hl hs) rfl
  intro x a C;simp at C;subst C
  have:=(j x a).1
  omega
 .intro x a
  rcases zJ.1 a with rfl|a
  .exact j x (by simp)
  .rcases mem_or_eq_of_mem_set a with s|s
   .exact j x (by simp[s])
   .subst s
    exact⟨by omega,by omega,by omega,by omega⟩
theorem kq.at_(h:kq w p g o cap b capT A L bx nb rb gP cP wr q xs gs at'){N:Nat}(hi:i<p.P.length)(D:N=p.W*p.H):∃a j,gs[i]?=some a/\a∈gs/\wr.cell? ⟨gP,i,none⟩=some (.slice (some ⟨a,0,none⟩) N j)/\wr.frozen? ⟨gP,i,none⟩=false/\(∀k,k<N->∃v:Int,wr.cell? ⟨a,k,none⟩=some (.int .i64 v)/\0<=v/\v<2^p.d)/\∀k,wr.frozen? ⟨a,k,none⟩=false:=by
 have e:i<q.P.length:=by rw[<-h.al.n];exact hi
 obtain⟨a,j,h1,r,C,s⟩:=h.own.plane e;obtain⟨_,_,_,_,_,ad⟩:=h.own.row.open_;obtain⟨_,_,_,_,u,x⟩:=C.oq;have n:=h.own.ok.len _ (mM e);have y:=h.own.ok.smp _ (mM e);have z:q.W*q.H=N:=by rw[D,h.al.W,h.al.H]
 rw[z]at s n;refine⟨a,j,r,mem_of_getElem? r,s,ad i,λk hk=>⟨(q.P.getD i []).getD k 0,u k _ ?_,?_⟩,x⟩
 .rw[zD (l:=q.P.getD i []),zF (by rw[n];exact hk)]
  rfl
 .rw[h.al.d]
  exact nB y k
end
end Go.Proofs.YtnepiccbpokmiaaGreatDoor
