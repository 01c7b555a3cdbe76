/- Lemmas. -/
import Derived.Test.YtifdlkoepaepiaaGreatDoorMh15
set_option linter.all false
set_option maxHeartbeats 4000000
set_option maxRecDepth 100000
namespace Go.Proofs.YtifdlkoepaepiaaGreatDoor
open Tryz List Nat Go.RowKit
variable {ps:List (List Int)}{l:List Int}{bs ds ks:List Nat}{W b cp d i j k m n q:Nat}{P:Program}{v:Value}
def lenOf(t:gZ):Int:=jr (t.len-3)
def mH(W:Nat)(t:gZ):Int:=jr (nA t.dist W-1)
def iz(T:List gZ):List Int:=T.flatMap λt=>if t.isLit then[]else[lenOf t]
def i6(W:Nat)(T:List gZ):List Int:=T.flatMap λt=>if t.isLit then[]else[mH W t]
def kE(k j W d:Nat)(t:gZ):List Nat:=if t.isLit then gx 0 1++gx t.lit.toNat d else gx 1 1++jp k (lenOf t)++jp j (mH W t)
def nL(T:List gZ)(W d:Nat):List Nat:=
 gx (j8 (iz T)) 5++gx (j8 (i6 W T)) 5++T.flatMap (kE (j8 (iz T)) (j8 (i6 W T)) W d)
def qd(d:Nat)(t:gZ):Prop:=(t.isLit=true/\0<=t.lit/\t.lit<2^d)\/(t.isLit=false/\t.isCopy=true)
theorem qd.ok{t:gZ}(h:qd d t):t.ok:=by
 rcases h with h|h
 .exact .inl h.1
 .exact .inr h.2
theorem yN{u:Nat}(h:u<=1073741823):iy (jr u):=by
 unfold iy jr;split<;>omega
theorem DJ{t:gZ}(h:t.isCopy=true):iy (lenOf t):=by
 have:=gZ.isCopy_iff.1 h
 exact yN (by omega)
theorem CV{t:gZ}(W:Nat)(h:t.isCopy=true):iy (mH W t):=by
 have a:=gZ.isCopy_iff.1 h;have e:=(AG (d:=t.dist) (W:=W) (by omega)).1;exact yN (by omega)
theorem Jq{T:List gZ}(h:∀t∈T,qd d t):∀x∈iz T,iy x:=λx hx=>by
 obtain⟨t,f,a⟩:=List.mem_flatMap.1 hx;rcases h t f with e|e
 .rw[if_pos e.1]at a;simp at a
 .rw[if_neg (by simp[e.1])]at a
  rw[zU.1 a];exact DJ e.2
theorem I8{T:List gZ}(h:∀t∈T,qd d t):∀x∈i6 W T,iy x:=λx hx=>by
 obtain⟨t,f,a⟩:=List.mem_flatMap.1 hx;rcases h t f with e|e
 .rw[if_pos e.1]at a;simp at a
 .rw[if_neg (by simp[e.1])]at a
  rw[zU.1 a];exact CV W e.2
theorem Cw(T:List gZ):(iz T).length<=T.length:=by
 induction T with
 | nil=>exact zQ _
 | cons t T ih=>
  have e:iz (t::T)=(if t.isLit then[]else[lenOf t])++iz T:=rfl;rw[e,zC];split<;>simp<;>omega
theorem yx(W:Nat)(T:List gZ):(i6 W T).length=(iz T).length:=by
 induction T with
 | nil=>rfl
 | cons t T ih=>
  have e:iz (t::T)=(if t.isLit then[]else[lenOf t])++iz T:=rfl;have e2:i6 W (t::T)=(if t.isLit then[]else[mH W t])++i6 W T:=rfl;rw[e,e2,zC,zC,ih];split<;>rfl
theorem Ck(T:List gZ)(t:gZ):iz (T++[t])=iz T++(if t.isLit then[]else[lenOf t]):=by simp[iz]
theorem I7(W:Nat)(T:List gZ)(t:gZ):i6 W (T++[t])=i6 W T++(if t.isLit then[]else[mH W t]):=by simp[i6]
theorem Kl(T:List gZ){t:gZ}(h:T[i]?=some t)(s:t.isLit=false):(iz T)[(iz (T.take i)).length]?=some (lenOf t):=by
 have r:i<T.length:=(List.getElem?_eq_some_iff.1 h).1;have e:T=T.take i++t::T.drop (i+1):=by
  have f:=(List.getElem?_eq_some_iff.1 h).2;rw[<-f,<-drop_eq_getElem_cons r,take_append_drop]
 have e2:iz T=iz (T.take i)++(lenOf t::iz (T.drop (i+1))):=by
  have e3:∀a b:List gZ,iz (a++b)=iz a++iz b:=λa b=>by simp[iz]
  have e4:iz (t::T.drop (i+1))=(if t.isLit then[]else[lenOf t])++iz (T.drop (i+1)):=rfl;rw[s]at e4;rw[show iz T=iz (T.take i++t::T.drop (i+1))from congrArg iz e,e3,e4];rfl
 rw[e2,zS (zQ _),Nat.sub_self];rfl
theorem JS(W:Nat)(T:List gZ){t:gZ}(h:T[i]?=some t)(s:t.isLit=false):(i6 W T)[(iz (T.take i)).length]?=some (mH W t):=by
 have r:i<T.length:=(List.getElem?_eq_some_iff.1 h).1;have e:T=T.take i++t::T.drop (i+1):=by
  have f:=(List.getElem?_eq_some_iff.1 h).2;rw[<-f,<-drop_eq_getElem_cons r,take_append_drop]
 have e2:i6 W T=i6 W (T.take i)++(mH W t::i6 W (T.drop (i+1))):=by
  have e3:∀a b:List gZ,i6 W (a++b)=i6 W a++i6 W b:=λa b=>by simp[i6]
  have e4:i6 W (t::T.drop (i+1))=(if t.isLit then[]else[mH W t])++i6 W (T.drop (i+1)):=rfl;rw[s]at e4;rw[show i6 W T=i6 W (T.take i++t::T.drop (i+1))from congrArg (i6 W) e,e3,e4];rfl
 rw[e2,<-yx W,zS (zQ _),Nat.sub_self];rfl
theorem KQ(e:k<=25)(a:j<=25)(r:d<=16)(t:gZ):(kE k j W d t).length<=131:=by
 unfold kE;have f:=pN k (lenOf t) e;have h:=pN j (mH W t) a;split
 .rw[zC,gH,gH];omega
 .rw[zC,zC,gH,qy,qy];omega
theorem Kp{α:Type}(f:α->List Nat)(B:Nat)(h:∀a,(f a).length<=B)(l:List α):(l.flatMap f).length<=B*l.length:=by
 induction l with
 | nil=>simp
 | cons a l ih=>
  rw[flatMap_cons,zC,zK,Nat.mul_add,Nat.mul_one]
  have:=h a
  omega
theorem Jw(T:List gZ)(W d:Nat)(a:d<=16):(nL T W d).length<=10+131*T.length:=by
 unfold nL;have e:=Kp (kE (j8 (iz T)) (j8 (i6 W T)) W d) 131 (λt=>KQ (q8 _) (q8 _) a t) T;rw[zC,zC,gH,gH];omega
theorem xc(d:Nat)(w:World)(a:1<=d)(f:d<=16):Calls prog 194 #[d] w λe w'=>e=.returned (.bool true)/\w=w':=by
 have h:=jB 1 d (by omega);have r:=jB d 16 (by omega);go_enter func194,ntmps194;go_wp2;go_ret;exact⟨rfl,rfl⟩
theorem Ad(c:Nat)(w:World)(a:c<365):Calls prog 199 #[c] w λe w'=>e=.returned (.bool true)/\w=w':=by
 have f:=jo c 365 (by omega);go_enter func199,ntmps199;go_wp2;go_ret;exact⟨rfl,rfl⟩
theorem te(x:Int)(w:World)(h:lL x):Calls prog 200 #[x] w λe w'=>e=.returned (.int .i64 (i7 x))/\w=w':=by
 obtain⟨s,t⟩:=h;by_cases hx:x<0
 .have r:decide (x<0)=true:=zB hx
  have a:i7 x=-x:=by unfold i7;rw[if_pos hx]
  have f:=gd a;clear a;go_enter func200,ntmps200;go_wp2;go_ret;rw[f.o];exact⟨rfl,rfl⟩
 .have r:decide (x<0)=false:=zA hx
  have a:i7 x=x:=by unfold i7;rw[if_neg hx]
  have f:=gd a;clear a;go_enter func200,ntmps200;go_wp2;go_ret;rw[f.o];exact⟨rfl,rfl⟩
theorem AQ(g:Int)(d:Nat)(w:World)(E:1<=d)(H:d<=16)(K : -2^d<g)(L:g<2^d):Calls prog 260 #[g,d] w λe w'=>e=.returned (.int .i64 (jz g d))/\w=w':=by
 obtain⟨Q,R⟩:=jX E H;have T:decide (g<=(-2^d:Int))=false:=zA (by omega);have U:decide ((2:Int)^d<=g)=false:=zA (by omega);have t:=xc d w E H;by_cases hz:g=0
 .have M:(g==0)=true:=by rw[beq_iff_eq];exact hz
  have x:jz g d=0:=by unfold jz;rw[if_pos hz]
  have z:=gd x;clear x hz;go_enter func260,ntmps260
  go_wp2_with(go_at_call 194;refine gB t ?_)
  go_ret;rw[z.o];exact⟨rfl,rfl⟩
 .have M:(g==0)=false:=by rw[beq_eq_false_iff_ne];exact hz
  have s:=te g w (by unfold lL;omega);have A:0<=i7 g/\i7 g<=65536:=by unfold i7;split<;>omega
  have x:jz g d=if g<0 then -ry (i7 g*256 / 2^d)else ry (i7 g*256 / 2^d):=by unfold jz;rw[if_neg hz]
  have⟨a,ae⟩:=zX (i7 g);rw[<-ae]at s A x;obtain⟨N,O⟩:=A;have⟨u,hu⟩:=zX (a*256 / 2^d);rw[<-hu]at x;have S:a*256 / 2^d=u:=hu.symm;have⟨st,ad⟩:=zX (ry u);have C:st=if u<3 then 1 else if u<7 then 2 else if u<21 then 3 else 4:=by rw[ad];rfl
  rw[<-ad]at x;have⟨z,HS⟩:=gy x C;clear x ad C hu ae;have D:∀k:Int,st=k->-4<=k->k<=4->gh (jz g d=if g<0 then -k else k):=λk hk _ _=>gd (by rw[z.o,hk]);have I:∀(h:g<0),decide (g<0)=true:=λh=>zB h;have J:∀(h:¬g<0),decide (g<0)=false:=λh=>zA h;have⟨ab,ac,aa⟩:=Q9 I J D;clear I J D z;by_cases u3:u<3
  .have c1:decide (u<3)=true:=zB u3
   have r:=HS.o;rw[if_pos u3]at r;have f:=aa.o 1 r (by omega) (by omega);clear r;by_cases hn:g<0
   .have y:=ab.o hn
    rw[if_pos hn]at f;go_enter func260,ntmps260
    go_wp2_with(first|(go_at_call 194;refine gB t ?_)|(go_at_call 200;refine gB s ?_))
    go_ret;rw[f.o];exact⟨rfl,rfl⟩
   .have y:=ac.o hn
    rw[if_neg hn]at f;go_enter func260,ntmps260
    go_wp2_with(first|(go_at_call 194;refine gB t ?_)|(go_at_call 200;refine gB s ?_))
    go_ret;rw[f.o];exact⟨rfl,rfl⟩
  .have c1:decide (u<3)=false:=zA u3
   by_cases u7:u<7
   .have c2:decide (u<7)=true:=zB u7
    have r:=HS.o;rw[if_neg u3,if_pos u7]at r;have f:=aa.o 2 r (by omega) (by omega);clear r;by_cases hn:g<0
    .have y:=ab.o hn
     rw[if_pos hn]at f;go_enter func260,ntmps260
     go_wp2_with(first|(go_at_call 194;refine gB t ?_)|(go_at_call 200;refine gB s ?_))
     go_ret;rw[f.o];exact⟨rfl,rfl⟩
    .have y:=ac.o hn
     rw[if_neg hn]at f;go_enter func260,ntmps260
     go_wp2_with(first|(go_at_call 194;refine gB t ?_)|(go_at_call 200;refine gB s ?_))
     go_ret;rw[f.o];exact⟨rfl,rfl⟩
   .have c2:decide (u<7)=false:=zA u7
    by_cases u21:u<21
    .have c3:decide (u<21)=true:=zB u21
     have r:=HS.o;rw[if_neg u3,if_neg u7,if_pos u21]at r;have f:=aa.o 3 r (by omega) (by omega);clear r;by_cases hn:g<0
     .have y:=ab.o hn
      rw[if_pos hn]at f;go_enter func260,ntmps260
      go_wp2_with(first|(go_at_call 194;refine gB t ?_)|(go_at_call 200;refine gB s ?_))
      go_ret;rw[f.o];exact⟨rfl,rfl⟩
     .have y:=ac.o hn
      rw[if_neg hn]at f;go_enter func260,ntmps260
      go_wp2_with(first|(go_at_call 194;refine gB t ?_)|(go_at_call 200;refine gB s ?_))
      go_ret;rw[f.o];exact⟨rfl,rfl⟩
    .have c3:decide (u<21)=false:=zA u21
     have r:=HS.o;rw[if_neg u3,if_neg u7,if_neg u21]at r;have f:=aa.o 4 r (by omega) (by omega);clear r;by_cases hn:g<0
     .have y:=ab.o hn
      rw[if_pos hn]at f;go_enter func260,ntmps260
      go_wp2_with(first|(go_at_call 194;refine gB t ?_)|(go_at_call 200;refine gB s ?_))
      go_ret;rw[f.o];exact⟨rfl,rfl⟩
     .have y:=ac.o hn
      rw[if_neg hn]at f;go_enter func260,ntmps260
      go_wp2_with(first|(go_at_call 194;refine gB t ?_)|(go_at_call 200;refine gB s ?_))
      go_ret;rw[f.o];exact⟨rfl,rfl⟩
theorem sV{f:FuncId}{a:Array Value}{w:World}(h:Calls P f a (w.drewN n) λe w'=>e=.returned v/\w.drewN n=w'):Calls P f a (w.drewN n) λe r=>e=.returned v/\∃m,r=w.drewN m:=
 h.mono λ_ _ ⟨he,hm⟩=>⟨he,n,hm.symm⟩
theorem Ex(g:mS)(d:Nat)(w:World)(h:1<=d)(r:d<=16)(L:tj d g):Calls prog 238 #[g.w,g.n,g.nw,g.ne,d] w λe w'=>e=.returned (.agg #[.int .i64 (jz (g.ne-g.n) d),.int .i64 (jz (g.n-g.nw) d),.int .i64 (jz (g.nw-g.w) d)])/\gg [] w w':=by
 obtain⟨aj,ak⟩:=jX h r;obtain⟨a,b,c,e⟩:=g;obtain⟨⟨C,D⟩,⟨I,J⟩,⟨c1,c2⟩,⟨K,e2⟩⟩:=L;simp only at C D I J c1 c2 K e2⊢;have M:=λw=>xc d w h r;have V:decide (a<0)=false:=zA (by omega);have X:decide ((2:Int)^d<=a)=false:=zA (by omega);have Y:decide (b<0)=false:=zA (by omega);have Z:decide ((2:Int)^d<=b)=false:=zA (by omega);have u5:decide (c<0)=false:=zA (by omega);have u6:decide ((2:Int)^d<=c)=false:=zA (by omega);have u7:decide (e<0)=false:=zA (by omega);have u8:decide ((2:Int)^d<=e)=false:=zA (by omega);have N:∀w,(Instr.index 73 (.agg #[a,b,c,.int .i64 e]) (.int .i64 0)).run prog w=.ok (.int .i64 a) w:=λ_=>by kernel_rfl
 have O:∀w,(Instr.index 73 (.agg #[a,b,c,.int .i64 e]) (.int .i64 1)).run prog w=.ok (.int .i64 b) w:=λ_=>by kernel_rfl
 have Q:∀w,(Instr.index 73 (.agg #[a,b,c,.int .i64 e]) (.int .i64 2)).run prog w=.ok (.int .i64 c) w:=λ_=>by kernel_rfl
 have R:∀w,(Instr.index 73 (.agg #[a,b,c,.int .i64 e]) (.int .i64 3)).run prog w=.ok (.int .i64 e) w:=λ_=>by kernel_rfl
 go_enter func238,ntmps238
 go_wp2_with(go_at_call 194;refine gB (M _) ?_)
 have f:=gn.new w 282 #[(0:Int),(0:Int),(0:Int)];have E:gg [] w (w.alloc (.cells #[(0:Int),(0:Int),(0:Int)] 282)):=(zR [] w).alloc _;have⟨B,hB⟩:=zX w.heap.size;rw[<-hB]at f⊢;generalize w.alloc (.cells #[(0:Int),(0:Int),(0:Int)] 282)=w0 at *;have s:=gd hB;clear hB
 go_loopg [22] 4 (λj iv wr=>w0=wr/\((j=4/\iv=.int .i64 0)\/(j=3/\iv=.int .i64 1)\/(j=2/\iv=.int .i64 2)\/(j=1/\iv=.int .i64 3)\/(j=0/\iv=.int .i64 4)))
 .exact⟨rfl,.inl ⟨rfl,rfl⟩⟩
 obtain⟨rfl,hrel⟩:=hrel;rcases hrel with⟨rfl,rfl⟩|⟨rfl,rfl⟩|⟨rfl,rfl⟩|⟨rfl,rfl⟩|⟨rfl,rfl⟩
 .go_wp2
  go_roundg 3
  .exact⟨rfl,.inr (.inl ⟨rfl,rfl⟩)⟩
  .omega
 .go_wp2
  go_roundg 2
  .exact⟨rfl,.inr (.inr (.inl ⟨rfl,rfl⟩))⟩
  .omega
 .go_wp2
  go_roundg 1
  .exact⟨rfl,.inr (.inr (.inr (.inl ⟨rfl,rfl⟩)))⟩
  .omega
 .go_wp2
  go_roundg 0
  .exact⟨rfl,.inr (.inr (.inr (.inr ⟨rfl,rfl⟩)))⟩
  .omega
 .clear N O Q R V X Y Z u5 u6 u7 u8
  have y:=AQ (e-b) d w0 h r (by omega) (by omega);have z:=AQ (b-c) d w0 h r (by omega) (by omega);have A:=AQ (c-a) d w0 h r (by omega) (by omega);have⟨x0,ab⟩:=zX (jz (e-b) d);have⟨x1,ac⟩:=zX (jz (b-c) d);have⟨x2,ad⟩:=zX (jz (c-a) d);rw[<-ab]at y;rw[<-ac]at z;rw[<-ad]at A;have⟨ae,af,ag⟩:=Q9 ab ac ad;clear ab ac ad;have S:=f.X 0;have T:=f.X 1;have U:=f.X 2;have⟨f0,f1,f2⟩:=RK f 0 1 2;simp at S T U;go_wp2_with fail;refine gB y ?_;go_wp2_with fail;refine gB z ?_;go_wp2_with fail;refine gB A ?_;go_wp2_with fail;have hF:=((f.S 0 (.int .i64 x0)).S 1 (.int .i64 x1)).S 2 (.int .i64 x2);have H:gg [] w (((w0.setCell B (.int .i64 x0)).setCell ⟨B,1,none⟩ (.int .i64 x1)).setCell ⟨B,2,none⟩ (.int .i64 x2)):=((E.setCell (.inr (by have:=s.o;simp;omega)) _).setCell (.inr (by have:=s.o;simp;omega)) _).setCell (.inr (by have:=s.o;simp;omega)) _;generalize ((w0.setCell B (.int .i64 x0)).setCell ⟨B,1,none⟩ (.int .i64 x1)).setCell ⟨B,2,none⟩ (.int .i64 x2)=wF at *;have t:=hF.X 0;have u:=hF.X 1;have x:=hF.X 2;simp at t u x;exact bodyPost_ret (v:=.agg #[x0,x1,x2]) (by simp[results,results238,go_sem,t,u,x]) rfl ⟨by rw[ae.o,af.o,ag.o],H⟩
theorem La(g:mS)(d:Nat)(w:World)(z:1<=d)(A:d<=16)(C:tj d g):Calls prog 195 #[g.w,g.n,g.nw,g.ne,d] w λe w'=>e=.returned (.tuple #[.int .i64 (qk g d),.bool (si g d)])/\gg [] w w':=by
 have r:=Ex g d w z A C;have s:=Rc (g.ne-g.n) d;have t:=Rc (g.n-g.nw) d;have u:=Rc (g.nw-g.w) d;have a:sm g d=81*jz (g.ne-g.n) d+9*jz (g.n-g.nw) d+jz (g.nw-g.w) d:=rfl;have h:si g d=decide (sm g d<0):=rfl;have f:((qk g d:Nat):Int)=i7 (sm g d):=by
  unfold qk;exact Int.toNat_of_nonneg (by unfold i7;split<;>omega)
 have⟨x0,aa⟩:=zX (jz (g.ne-g.n) d);have⟨x1,ab⟩:=zX (jz (g.n-g.nw) d);have⟨x2,ac⟩:=zX (jz (g.nw-g.w) d);rw[<-aa,<-ab,<-ac]at r a;rw[<-aa]at s;rw[<-ab]at t;rw[<-ac]at u;have⟨n,ad⟩:=zX (sm g d);rw[<-ad]at h f a;obtain⟨E,H⟩:=s;obtain⟨I,J⟩:=t;obtain⟨K,L⟩:=u;have y:=λw=>te n w (by unfold lL;omega);have⟨HT,HN⟩:=gy h f;have D:81*x0+9*x1+x2=n:=a.symm;clear h f aa ab ac ad a;go_enter func195,ntmps195;go_wp2_with fail;refine r.mono ?_;rintro e M ⟨rfl,x⟩
 go_wp2_with(go_at_call 200;refine gB (y _) ?_)
 go_ret2
 rw[HT.o,HN.o];exact⟨rfl,x.alloc _⟩
theorem Nv(g:mS)(d:Nat)(w:World)(I:1<=d)(J:d<=16)(K:tj d g):Calls prog 204 #[g.w,g.n,g.nw,g.ne,d] w λe w'=>e=.returned (.int .i64 (pY g d))/\gg [] w w':=by
 have t:=Ex g d w I J K;have h:=Rc (g.ne-g.n) d;have r:=Rc (g.n-g.nw) d;have s:=Rc (g.nw-g.w) d;have f:pY g d=i7 (jz (g.ne-g.n) d)+i7 (jz (g.n-g.nw) d)+i7 (jz (g.nw-g.w) d):=rfl;have⟨x0,aa⟩:=zX (jz (g.ne-g.n) d);have⟨x1,ac⟩:=zX (jz (g.n-g.nw) d);have⟨x2,ad⟩:=zX (jz (g.nw-g.w) d);rw[<-aa,<-ac,<-ad]at t f;rw[<-aa]at h;rw[<-ac]at r;rw[<-ad]at s;have a:∀x:Int,-4<=x/\x<=4->0<=i7 x/\i7 x<=4:=λx hx=>by unfold i7;split<;>omega
 have D:=a x0 h;have E:=a x1 r;have H:=a x2 s;have y:=λw=>te x0 w (by unfold lL;omega);have z:=λw=>te x1 w (by unfold lL;omega);have A:=λw=>te x2 w (by unfold lL;omega);generalize i7 x0=y0 at *;generalize i7 x1=y1 at *;generalize i7 x2=y2 at *;obtain⟨L,M⟩:=D;obtain⟨N,O⟩:=E;obtain⟨Q,R⟩:=H;have u:=gd f;clear aa ac ad f a h r s;go_enter func204,ntmps204;go_wp2_with fail;refine t.mono ?_;rintro e S ⟨rfl,C⟩;go_wp2_with fail
 go_quiet ((first|(go_at_call 200;with_reducible exact sV (y _))|(go_at_call 200;with_reducible exact sV (z _))|(go_at_call 200;with_reducible exact sV (A _))))
 go_wp2;go_ret;rw[u.o];exact⟨rfl,(C.alloc _).drewN _⟩
def p7(z:Array Value)(v:Int):Array Value:=z.setIfInBounds 0 (.int .i64 v)
theorem Fy:zeroCells240=(replicate 1461 (Value.int .i64 0)).toArray:=by kernel_rfl
theorem FA:(zeroCells240).size=1461:=by rw[Fy,size_toArray,zV]
theorem Kx{z:Array Value}(a:z.size=1461)(v:Int):(p7 z v).size=1461:=by
 unfold p7;rw[Array.size_setIfInBounds,a]
theorem Kw{z:Array Value}(a:z.size=1461)(v:Int):(p7 z v)[0]?=some (.int .i64 v):=by
 unfold p7;rw[Array.getElem?_setIfInBounds,if_pos rfl,if_pos (by omega)]
theorem LD{z:Array Value}(e:z=(replicate 1461 (Value.int .i64 0)).toArray)(v:Int)(i:Nat)(f:0<i)(a:i<1461):(p7 z v)[i]?=some (.int .i64 0):=by
 unfold p7;rw[Array.getElem?_setIfInBounds,if_neg (by omega),e,getElem?_toArray,getElem?_replicate,if_pos a]
structure r8 (cs:Array Value) (d:Nat) (m:List ir):Prop where
 size:cs.size=1461
 len:m.length=365
 depth:cs[0]?=some (.int .i64 d)
 n:∀i s,m[i]?=some s->cs[1+i*4]?=some (.int .i64 s.n)
 a:∀i s,m[i]?=some s->cs[1+i*4+1]?=some (.int .i64 s.a)
 b:∀i s,m[i]?=some s->cs[1+i*4+2]?=some (.int .i64 s.b)
 c:∀i s,m[i]?=some s->cs[1+i*4+3]?=some (.int .i64 s.c)
theorem r8.set4{e:Array Value}{m:List ir}(h:r8 e d m)(u:i<365)(s:ir):r8 ((((e.setIfInBounds (1+i*4) (.int .i64 s.n)).setIfInBounds (1+i*4+1) (.int .i64 s.a)).setIfInBounds (1+i*4+2) (.int .i64 s.b)).setIfInBounds (1+i*4+3) (.int .i64 s.c)) d (m.set i s):=by
 have f:=h.size;have r:=h.len;refine⟨by simp[f],by simp[r],?_,?_,?_,?_,?_⟩
 .simp only[Array.getElem?_setIfInBounds]
  rw[if_neg (by omega),if_neg (by omega),if_neg (by omega),if_neg (by omega)];exact h.depth
 all_goals
  intro j t a;rw[getElem?_set]at a;simp only[Array.getElem?_setIfInBounds,Array.size_setIfInBounds,f];by_cases hij:i=j
  .subst hij
   rw[if_pos rfl,if_pos (by omega)]at a;injection a with a;subst a
   first
    | (rw[if_pos (by omega),if_pos (by omega)])
    | (rw[if_neg (by omega),if_pos (by omega),if_pos (by omega)])
    | (rw[if_neg (by omega),if_neg (by omega),if_pos (by omega),if_pos (by omega)])
    | (rw[if_neg (by omega),if_neg (by omega),if_neg (by omega),if_pos (by omega),if_pos (by omega)])
  .rw[if_neg hij]at a
   rw[if_neg (by omega),if_neg (by omega),if_neg (by omega),if_neg (by omega)]
   first|exact h.n j t a|exact h.a j t a|exact h.b j t a|exact h.c j t a
structure jh (w:World) (b d:Nat) (m:List ir):Prop where
 ex:∃cs,gn w b 240 cs/\r8 cs d m
theorem jh.Z{w w':World}{m:List ir}{F:List Nat}(h:jh w b d m)(s:gg F w w')(r:b∉F):jh w' b d m:=by
 obtain⟨a,e,f⟩:=h.ex;exact⟨a,e.Z s r,f⟩
theorem jh.set4{w:World}{m:List ir}(h:jh w b d m)(f:i<365)(s:ir):jh ((((w.setCell ⟨b,1+i*4,none⟩ (.int .i64 s.n)).setCell ⟨b,1+i*4+1,none⟩ (.int .i64 s.a)).setCell ⟨b,1+i*4+2,none⟩ (.int .i64 s.b)).setCell ⟨b,1+i*4+3,none⟩ (.int .i64 s.c)) b d (m.set i s):=by
 obtain⟨r,a,e⟩:=h.ex;exact⟨_,(((a.S _ _).S _ _).S _ _).S _ _,e.set4 f s⟩
theorem jh.lt{w:World}{m:List ir}(h:jh w b d m):b<w.heap.size:=by
 obtain⟨e,a,_⟩:=h.ex;exact a.lt
theorem jh.cells{w:World}{m:List ir}(h:jh w b d m):w.cell? b=some (.int .i64 d)/\(∀i,w.frozen? ⟨b,i,none⟩=false) /\ ∀i s,m[i]?=some s->w.cell? ⟨b,1+i*4,none⟩=some (.int .i64 s.n)/\w.cell? ⟨b,1+i*4+1,none⟩=some (.int .i64 s.a)/\w.cell? ⟨b,1+i*4+2,none⟩=some (.int .i64 s.b)/\w.cell? ⟨b,1+i*4+3,none⟩=some (.int .i64 s.c):=by
 obtain⟨f,a,e⟩:=h.ex;refine⟨by rw[a.X];exact e.depth,a.U,λi s hs=>⟨?_,?_,?_,?_⟩⟩
 .rw[a.X];exact e.n i s hs
 .rw[a.X];exact e.a i s hs
 .rw[a.X];exact e.b i s hs
 .rw[a.X];exact e.c i s hs
theorem MH(b d:Nat)(m:List ir)(ctx:Nat)(p:Int)(t:Bool)(w:World)(h:jh w b d m)(E:pQ m)(C:1<=d)(D:d<=16)(x:ctx<365)(H:0<=p)(I:p<2^d):Calls prog 196 #[.pointer b,ctx,p,.bool t] w λe w'=>e=.returned (.int .i64 (pZ (jW m ctx) p t d))/\w=w':=by
 obtain⟨K,L⟩:=jX C D;obtain⟨y,f⟩:=rN E x;obtain⟨M,_,u⟩:=h.cells;obtain⟨_,_,_,J⟩:=u ctx _ y;have A:=f.c0;have c1:=f.c1;have a:pZ (jW m ctx) p t d=min (max (p+(if t then -(jW m ctx).c else(jW m ctx).c)) 0) (2^d-1):=rfl;have⟨s,hs⟩:=zX ((jW m ctx).c);rw[<-hs]at J A c1 a;have r:=gd a;have N:decide (p<0)=false:=zA (by omega);have O:decide ((2:Int)^d-1<p)=false:=zA (by omega);have ad:=Ad ctx w x;clear a hs y f u h
 cases t with
 | false=>
  go_enter func196,ntmps196
  go_wp2_with(go_at_call 199;refine gB ad ?_)
  all_goals
   go_ret;rw[r.o];exact⟨congrArg (λz=>Ending.returned (.int .i64 z)) (show _=min (max (p+s) 0) (2^d-1)by omega),rfl⟩
 | true=>
  go_enter func196,ntmps196
  go_wp2_with(go_at_call 199;refine gB ad ?_)
  all_goals
   go_ret;rw[r.o];exact⟨congrArg (λz=>Ending.returned (.int .i64 z)) (show _=min (max (p + -s) 0) (2^d-1)by omega),rfl⟩
theorem Hn(b d:Nat)(m:List ir)(ctx:Nat)(w:World)(h:jh w b d m)(C:pQ m)(z:ctx<365):Calls prog 140 #[.pointer b,ctx] w λe w'=>e=.returned (.int .i64 (pz (jW m ctx)))/\∃n,w'=w.drewN n:=by
 obtain⟨A,a⟩:=rN C z;obtain⟨_,_,y⟩:=h.cells;obtain⟨H,E,_,_⟩:=y ctx _ A;have D:=a.n0;have n1:=a.n1;have x:=a.a0;have r:=a.a1;have⟨s,hs⟩:=zX (jW m ctx);rw[<-hs]at H E D n1 x r a⊢;have J:=Ad ctx w z;have ad:pz s=oI s 16 0:=rfl;have⟨sn,aj⟩:=zX s.n;have⟨sa,ai⟩:=zX s.a;rw[<-aj]at H D n1 r;rw[<-ai]at E x r;have⟨HD,af,ae,ak⟩:=gu ad aj ai a;clear ad hs A a y h aj ai C;go_enter func140,ntmps140
 go_wp2_with(go_at_call 199;refine gB J ?_)
 go_loopg [5] 16 (λj v wr=>∃(k n:Nat),v=.int .i64 k/\k+j=16/\gh (pz s=oI s j k)/\wr=w.drewN n)
 .exact⟨0,0,rfl,rfl,HD,rfl⟩
 obtain⟨k,O,rfl,R,u,rfl⟩:=hrel;have S:=ke k;by_cases hlt:sn*2^k<sa
 .have I:k<15:=NY ak.o (by rw[<-af.o,<-ae.o];exact hlt)
  have M:(2:Int)^k<=32768:=by
   have:=Nat.pow_le_pow_right (n:=2) (by decide) (show k<=15 by omega)
   have e:(2:Int)^k<=2^15:=(by exact_mod_cast this);exact e
  have K:0<=sn*2^k:=Int.mul_nonneg (by omega) (by omega);have L:sn*2^k<=64*32768:=Int.le_trans (Int.mul_le_mul_of_nonneg_right n1 (by omega)) (by omega);have N:IntKind.i64.wrap (sn*2^k)=sn*2^k:=IntWalk.i64_in _ (by omega);have Q:decide (sn*2^k<sa)=true:=zB hlt;obtain⟨g,rfl⟩:∃g,gk=g+1:=⟨gk-1,by omega⟩;have f:pz s=oI s g (k+1):=by rw[u.o,Lp (by rw[<-af.o,<-ae.o];exact hlt)]
  have t:=gd f;clear f hlt;go_wp2_with fail
  go_quiet (fail)
  go_wp2
  go_roundg g
  .exact⟨k+1,_,by go_num,by omega,t,rfl⟩
  .omega
 .have f:=Lq (s:=s) (k:=k) (by rw[<-af.o,<-ae.o];exact hlt) gk
  rw[<-u.o]at f;have t:=gd f;have I:k<=15:=by have:=xT ak.o;omega
  have M:(2:Int)^k<=32768:=by
   have:=Nat.pow_le_pow_right (n:=2) (by decide) (show k<=15 by omega)
   have e:(2:Int)^k<=2^15:=(by exact_mod_cast this);exact e
  have K:0<=sn*2^k:=Int.mul_nonneg (by omega) (by omega);have L:sn*2^k<=64*32768:=Int.le_trans (Int.mul_le_mul_of_nonneg_right n1 (by omega)) (by omega);have N:IntKind.i64.wrap (sn*2^k)=sn*2^k:=IntWalk.i64_in _ (by omega);have Q:decide (sn*2^k<sa)=false:=zA hlt;clear f hlt;go_wp2_with fail
  go_quiet (fail)
  go_wp2;go_ret;rw[t.o];exact⟨rfl,O+nq,by rw[World.drewN_drewN]⟩
theorem MJ{wr:World}{B nq:Nat}{r:Int}(a:jh wr B d (replicate k (oX d)++replicate (j+1) ⟨0,0,0,0⟩))(s:k<365)(f:r=xV d):jh (((((wr.drewN nq).setCell ⟨B,1+k*4,none⟩ (.int .i64 1)).setCell ⟨B,1+k*4+1,none⟩ (.int .i64 r)).setCell ⟨B,1+k*4+2,none⟩ (.int .i64 0)).setCell ⟨B,1+k*4+3,none⟩ (.int .i64 0)) B d (replicate (k+1) (oX d)++replicate j ⟨0,0,0,0⟩):=by
 have h:=(a.Z ((zR [] wr).drewN nq) (by simp)).set4 s (oX d);have e:(replicate k (oX d)++replicate (j+1) (⟨0,0,0,0⟩:ir)).set k (oX d)=replicate (k+1) (oX d)++replicate j ⟨0,0,0,0⟩:=by
  rw[set_append_right _ _ (by simp),zV,Nat.sub_self,replicate_succ' (n:=k)];simp[replicate_succ]
 rw[e]at h;subst f;exact h
theorem Gw(d : Nat)(w : World)(A : 1 <= d)(C : d <= 16):Calls prog 137 #[d] w λe w'=>∃b,e=.returned (.tuple #[.pointer (some ⟨b,0,none⟩),(0:Int)])/\jh w' b d (xu d)/\gg [] w w'/\w.heap.size<=b:=by
  obtain⟨L,M⟩:=jX A C;have E:=xc d w A C;have y:=gn.new w 240 (p7 zeroCells240 (d:Int));have t:gg [] w (w.alloc (.cells (p7 zeroCells240 (d:Int)) 240)):=(zR [] w).alloc _;have f:jh (w.alloc (.cells (p7 zeroCells240 (d:Int)) 240)) w.heap.size d (replicate 365 ⟨0,0,0,0⟩):=by
    have K:∀i s,(replicate 365 (⟨0,0,0,0⟩:ir))[i]?=some s->i<365/\s=⟨0,0,0,0⟩:=λi s h=>by
      rw[getElem?_replicate]at h;split at h
      · rename_i D
        injection h with h;exact⟨D,h.symm⟩
      · cases h
    refine⟨⟨_,y,Kx FA _,zV,Kw FA _,?_,?_,?_,?_⟩⟩
    all_goals
      intro i s h;obtain⟨D,rfl⟩:=K i s h;exact LD Fy _ _ (by omega) (by omega)
  unfold p7 at t f;go_enter func137,ntmps137
  go_wp2_with(go_at_call 194;refine gB E ?_)
  have⟨B,hB⟩:=zX w.heap.size;rw[<-hB]at f⊢;have a:=gd hB;have⟨ak,ad⟩:=zX (zeroCells240.setIfInBounds 0 (Value.int .i64 d));rw[<-ad]at t f⊢;clear hB ad y E;have H:gh (xV d=max 2 ((2^d+32) / 64)):=gd rfl
  go_loopg [12] 365 (λj iv wr=>∃k:Nat,iv=.int .i64 k/\k+j=365/\jh wr B d (replicate k (oX d)++replicate j ⟨0,0,0,0⟩)/\gg [] w wr)
  .exact⟨0,rfl,rfl,by simpa using f,t⟩
  obtain⟨k,rfl,N,u,z⟩:=hrel;clear f t;rcases gk with _|j
  · obtain rfl:k=365:=by omega
    go_wp2
    go_ret2
    exact⟨B,rfl,by simpa[xu]using u,z,by rw[a.o];exact zQ _⟩
  · have J:k<365:=by omega
    have Y:=jo k 365 (by omega);obtain⟨_,r,x⟩:=u.cells;obtain⟨T,U,V,X⟩:=x k ⟨0,0,0,0⟩ (by rw[zS (by simp),zV,Nat.sub_self];rfl);have O:=r (1+k*4);have Q:=r (1+k*4+1);have R:=r (1+k*4+2);have S:=r (1+k*4+3);clear r x;go_wp2_with fail;refine i9 11 (by kernel_rfl) (by kernel_rfl) ?_;simp only[take_succ_cons,take_zero,drop_succ_cons,drop_zero]
    repeat(go_big_quiet_step (fail))
    all_goals
      refine wpQuiet_nil ?_;intro _ I;obtain⟨nq,rfl⟩:=I;go_wp2_with fail
      all_goals
       go_roundg j
       .refine⟨k+1,by go_num,by omega,?_,(((((z.drewN nq).setCell (.inr (by have:=a.o;simp;omega)) _).setCell (.inr (by have:=a.o;simp;omega)) _).setCell (.inr (by have:=a.o;simp;omega)) _).setCell (.inr (by have:=a.o;simp;omega)) _)⟩
        exact MJ u J (by rw[H.o];omega)
       .omega
theorem r8.set1{r:Array Value}{m:List ir}(h:r8 r d m)(H:i<365){s:ir}(f:m[i]?=some s)(k:Nat)(v:Int)(e:ir)(C:(k=0/\e=⟨v,s.a,s.b,s.c⟩)\/(k=1/\e=⟨s.n,v,s.b,s.c⟩)\/(k=2/\e=⟨s.n,s.a,v,s.c⟩)\/(k=3/\e=⟨s.n,s.a,s.b,v⟩)):r8 (r.setIfInBounds (1+i*4+k) (.int .i64 v)) d (m.set i e):=by
 have u:=h.size;have D:=h.len;have x:=h.n i s f;have y:=h.a i s f;have z:=h.b i s f;have A:=h.c i s f;have E:k<4:=by omega
 refine⟨by simp[u],by simp[D],?_,?_,?_,?_,?_⟩
 .rw[Array.getElem?_setIfInBounds,if_neg (by omega)]
  exact h.depth
 all_goals
  intro j t a;rw[getElem?_set]at a;rw[Array.getElem?_setIfInBounds];by_cases hij:i=j
  .subst hij
   rw[if_pos rfl,if_pos (by omega)]at a;injection a with a;subst a;rcases C with⟨rfl,rfl⟩|⟨rfl,rfl⟩|⟨rfl,rfl⟩|⟨rfl,rfl⟩
   all_goals first
    | (rw[if_pos (by omega),if_pos (by omega)])
    | (rw[if_neg (by omega)];first | exact x | exact y | exact z | exact A)
  .rw[if_neg hij]at a
   rw[if_neg (by omega)]
   first|exact h.n j t a|exact h.a j t a|exact h.b j t a|exact h.c j t a
theorem jh.set1{w:World}{m:List ir}(h:jh w b d m)(e:i<365){s:ir}(t:m[i]?=some s)(k:Nat)(v:Int)(s':ir)(r:(k=0/\s'=⟨v,s.a,s.b,s.c⟩)\/(k=1/\s'=⟨s.n,v,s.b,s.c⟩)\/(k=2/\s'=⟨s.n,s.a,v,s.c⟩)\/(k=3/\s'=⟨s.n,s.a,s.b,v⟩)):jh (w.setCell ⟨b,1+i*4+k,none⟩ (.int .i64 v)) b d (m.set i s')/\(m.set i s')[i]?=some s':=by
 obtain⟨u,f,a⟩:=h.ex;exact⟨⟨_,f.S _ _,a.set1 e t k v s' r⟩,by rw[getElem?_set_self (by rw[a.len];exact e)]⟩
theorem jh.toSet{w:World}{m:List ir}{s t:ir}(h:jh w b d ((m.set i s).set i t)):jh w b d (m.set i t):=by rw[<-set_set (a:=s)];exact h
theorem jh.count{w:World}{m:List ir}(h:jh w b d m)(f:i<365){s:ir}(y:m[i]?=some s)(a vb e:Int):jh (((w.setCell ⟨b,1+i*4+1,none⟩ (.int .i64 a)).setCell ⟨b,1+i*4+2,none⟩ (.int .i64 vb)).setCell ⟨b,1+i*4,none⟩ (.int .i64 e)) b d (m.set i ⟨e,a,vb,s.c⟩)/\(m.set i ⟨e,a,vb,s.c⟩)[i]?=some ⟨e,a,vb,s.c⟩:=by
 obtain⟨r,x⟩:=h.set1 f y 1 a ⟨s.n,a,s.b,s.c⟩ (.inr (.inl ⟨rfl,rfl⟩));obtain⟨t,e2⟩:=r.set1 f x 2 vb ⟨s.n,a,vb,s.c⟩ (.inr (.inr (.inl ⟨rfl,rfl⟩)));obtain⟨u,e3⟩:=t.set1 f e2 0 e ⟨e,a,vb,s.c⟩ (.inl ⟨rfl,rfl⟩);rw[set_set,set_set]at e3;exact⟨u.toSet.toSet,e3⟩
theorem jh.count64{w:World}{m:List ir}(h:jh w b d m)(f:i<365){s:ir}(J:m[i]?=some s)(t vb a e u r:Int):jh ((((((w.setCell ⟨b,1+i*4+1,none⟩ (.int .i64 t)).setCell ⟨b,1+i*4+2,none⟩ (.int .i64 vb)).setCell ⟨b,1+i*4+1,none⟩ (.int .i64 a)).setCell ⟨b,1+i*4+2,none⟩ (.int .i64 e)).setCell ⟨b,1+i*4,none⟩ (.int .i64 u)).setCell ⟨b,1+i*4,none⟩ (.int .i64 r)) b d (m.set i ⟨r,a,e,s.c⟩)/\(m.set i ⟨r,a,e,s.c⟩)[i]?=some ⟨r,a,e,s.c⟩:=by
 obtain⟨y,H⟩:=h.set1 f J 1 t ⟨s.n,t,s.b,s.c⟩ (.inr (.inl ⟨rfl,rfl⟩));obtain⟨z,e2⟩:=y.set1 f H 2 vb ⟨s.n,t,vb,s.c⟩ (.inr (.inr (.inl ⟨rfl,rfl⟩)));obtain⟨A,e3⟩:=z.set1 f e2 1 a ⟨s.n,a,vb,s.c⟩ (.inr (.inl ⟨rfl,rfl⟩));obtain⟨C,e4⟩:=A.set1 f e3 2 e ⟨s.n,a,e,s.c⟩ (.inr (.inr (.inl ⟨rfl,rfl⟩)));obtain⟨D,I⟩:=C.set1 f e4 0 u ⟨u,a,e,s.c⟩ (.inl ⟨rfl,rfl⟩);obtain⟨E,x⟩:=D.set1 f I 0 r ⟨r,a,e,s.c⟩ (.inl ⟨rfl,rfl⟩);rw[set_set,set_set,set_set,set_set,set_set]at x;exact⟨E.toSet.toSet.toSet.toSet.toSet,x⟩
theorem jh.even{w:World}{m:List ir}{s:ir}(h:jh w b d (m.set i s))(e:i<365)(u:(m.set i s)[i]?=some s)(vb a:Int):jh ((w.setCell ⟨b,1+i*4+2,none⟩ (.int .i64 vb)).setCell ⟨b,1+i*4+3,none⟩ (.int .i64 a)) b d (m.set i ⟨s.n,s.a,vb,a⟩):=by
 obtain⟨f,t⟩:=h.set1 e u 2 vb ⟨s.n,s.a,vb,s.c⟩ (.inr (.inr (.inl ⟨rfl,rfl⟩)));obtain⟨r,e2⟩:=f.set1 e t 3 a ⟨s.n,s.a,vb,a⟩ (.inr (.inr (.inr ⟨rfl,rfl⟩)));exact r.toSet.toSet
theorem Ft(b d:Nat)(m:List ir)(ctx:Nat)(e:Int)(w:World)(h:jh w b d m)(hm:pQ m)(h0:1<=d)(h1:d<=16)(J:ctx<365)(he0 : -2^(d-1)<=e)(he1:e<2^(d-1)):Calls prog 141 #[.pointer b,ctx,e] w λx w'=>x=.returned (.tuple #[])/\jh w' b d (m.set ctx (p6 (jW m ctx) e))/\gg [b] w w':=by
 obtain⟨aK,aL⟩:=jX h0 h1;obtain⟨T,aJ⟩:=rN hm J;obtain⟨q0,U,ak⟩:=h.cells;obtain⟨qn,X,Y,Z⟩:=ak ctx _ T;have fn:=U (1+ctx*4);have fa:=U (1+ctx*4+1);have fb:=U (1+ctx*4+2);have aF:=Ad ctx w J;have av:=sF h0;have aM:=ke (d-1);have e1:(2:Int)^((d:Int)-1).toNat=2^(d-1):=by congr 1;omega
 obtain⟨V,n1,K,L,R,S,c0,c1⟩:=aJ;have ha:0<=i7 e/\i7 e<=32768:=by unfold i7;split<;>omega
 have aB:=λw=>te e w (by unfold lL;omega);have⟨s,hs⟩:=zX (jW m ctx);rw[<-hs]at qn X Y Z V n1 K L R S c0 c1 T⊢;have ah:=λw' (f:gg [] w w') va vb vn=>(h.Z f (by simp)).count J T va vb vn;have ac:=λw' (f:gg [] w w') va vb wa wb wn vn=>(h.Z f (by simp)).count64 J T va vb wa wb wn vn;obtain⟨C,r,t,a⟩:=s;simp only at qn X Y Z V n1 K L R S c0 c1 ah ac;have aH:(2:Int)^(d-1)<=32768:=by omega
 have t1:decide (e<(-2^(d-1):Int))=false:=zA (by omega);have t2:decide ((2:Int)^(d-1)<=e)=false:=zA (by omega);have aC : -32768<=e:=by omega
 have aI:e<=32767:=by omega
 have⟨u,hu⟩:=zX (i7 e);rw[<-hu]at ha aB;obtain⟨u0,u1⟩:=ha;have⟨HU,aG,az⟩:=Q9 hu ah ac;have aE:gh (∀w,gg [b] w w):=gd λw=>zR _ _;clear av hu ah ac hs T U ak h hm;have z:=Ed (s:=⟨C,r,t,a⟩) ⟨V,n1,K,L,R,S,c0,c1⟩ aC (by omega);have ap:=gd z;clear z;by_cases hn:C=64
 .subst hn
  have O:m7 ⟨64,r,t,a⟩ e=⟨33,(r+u) / 2,(t+e) / 2,a⟩:=by unfold m7;rw[if_pos rfl,HU.o]
  have I:=gd O;clear O;go_enter func141,ntmps141;go_wp2_with fail;refine gB aF ?_;go_wp2_with fail;refine i9 9 (by kernel_rfl) (by kernel_rfl) ?_;simp only[take_succ_cons,take_zero,drop_succ_cons,drop_zero]
  repeat(go_big_quiet_step ((go_at_call 200;exact sV (aB _))))
  refine wpQuiet_nil ?_;intro _ f;obtain⟨nq,rfl⟩:=f;go_wp2_with fail;obtain⟨ad,D⟩:=az.o _ ((zR [] w).drewN nq) (r+u) (t+e) ((r+u) / 2) ((t+e) / 2) 32 33
  have E:gg [b] w (((((((w.drewN nq).setCell ⟨b,1+ctx*4+1,none⟩ (.int .i64 (r+u))).setCell ⟨b,1+ctx*4+2,none⟩ (.int .i64 (t+e))).setCell ⟨b,1+ctx*4+1,none⟩ (.int .i64 ((r+u) / 2))).setCell ⟨b,1+ctx*4+2,none⟩ (.int .i64 ((t+e) / 2))).setCell ⟨b,1+ctx*4,none⟩ (.int .i64 32)).setCell ⟨b,1+ctx*4,none⟩ (.int .i64 33)) :=
   (((((((aE.o w).drewN nq).setCell (by simp) _).setCell (by simp) _).setCell (by simp) _).setCell (by simp) _).setCell (by simp) _).setCell (by simp) _
  generalize ((((((w.drewN nq).setCell ⟨b,1+ctx*4+1,none⟩ (.int .i64 (r+u))).setCell ⟨b,1+ctx*4+2,none⟩ (.int .i64 (t+e))).setCell ⟨b,1+ctx*4+1,none⟩ (.int .i64 ((r+u) / 2))).setCell ⟨b,1+ctx*4+2,none⟩ (.int .i64 ((t+e) / 2))).setCell ⟨b,1+ctx*4,none⟩ (.int .i64 32)).setCell ⟨b,1+ctx*4,none⟩ (.int .i64 33)=w2 at *;have z:=ap.o;rw[I.o]at z;simp only at z;have⟨n3,ax⟩:=zX ((33:Int));have⟨a2,aq⟩:=zX ((r+u) / 2);have⟨b2,ar⟩:=zX ((t+e) / 2);rw[<-ax,<-aq,<-ar]at z ad D I;obtain⟨m0,m1,m2,m3,m4,m5,-⟩:=z;obtain⟨_,H,M⟩:=ad.cells;obtain⟨rn,ra,rb,rc⟩:=M ctx _ D;simp only at rn ra rb rc;have gb:=H (1+ctx*4+2);have gc:=H (1+ctx*4+3);have N:=gd (λw' (f:gg [] w2 w') vb vc=>(ad.Z f (by simp)).even J D vb vc);have Q:p6 ⟨64,r,t,a⟩ e=mL ⟨n3,a2,b2,a⟩:=by unfold p6;rw[I.o]
  have⟨an,aA⟩:=gy Q ad;clear Q H M ax aq ar qn X Y Z fn fa fb q0 K L R S ad D;by_cases hA:b2<=-n3
  .have u1:decide (b2<=-n3)=true:=zB hA
   have y:mL ⟨n3,a2,b2,a⟩=⟨n3,a2,max (b2+n3) (1-n3),max (a-1) (-128)⟩:=(by unfold mL;rw[if_pos hA]);have A:=gd y;clear y
   go_quiet (fail)
   go_wp2_with fail;refine i9 18 (by kernel_rfl) (by kernel_rfl) ?_;simp only[take_succ_cons,take_zero,drop_succ_cons,drop_zero]
   repeat(any_goals (go_big_quiet_step (fail)))
   all_goals
    refine wpQuiet_nil ?_;intro _ f;obtain⟨aD,rfl⟩:=f;go_wp2_with fail
   all_goals
    go_end0
    refine⟨rfl,?_,?_⟩
    .rw[an.o,A.o]
     first|rw[show max (b2+n3) (1-n3)=1-n3 by omega]|rw[show max (b2+n3) (1-n3)=b2+n3 by omega]
     first|rw[show max (a-1) (-128)=-128 by omega]|rw[show max (a-1) (-128)=a-1 by omega]
     exact N.o _ ((zR [] w2).drewN _) _ _
    .exact((E.drewN _).setCell (by simp) _).setCell (by simp) _
  .have u1:decide (b2<=-n3)=false:=zA hA
   by_cases hB:0<b2
   .have u2:decide (0<b2)=true:=zB hB
    have y:mL ⟨n3,a2,b2,a⟩=⟨n3,a2,min (b2-n3) 0,min (a+1) 127⟩:=(by unfold mL;rw[if_neg hA,if_pos hB]);have A:=gd y;clear y
    go_quiet (fail)
    go_wp2_with fail;refine i9 13 (by kernel_rfl) (by kernel_rfl) ?_;simp only[take_succ_cons,take_zero,drop_succ_cons,drop_zero]
    repeat(any_goals (go_big_quiet_step (fail)))
    all_goals
     refine wpQuiet_nil ?_;intro _ f;obtain⟨aD,rfl⟩:=f;go_wp2_with fail
    all_goals
     go_end0
     refine⟨rfl,?_,?_⟩
     .rw[an.o,A.o]
      first|rw[show min (b2-n3) 0=0 by omega]|rw[show min (b2-n3) 0=b2-n3 by omega]
      first|rw[show min (a+1) 127=127 by omega]|rw[show min (a+1) 127=a+1 by omega]
      exact N.o _ ((zR [] w2).drewN _) _ _
     .exact((E.drewN _).setCell (by simp) _).setCell (by simp) _
   .have u2:decide (0<b2)=false:=zA hB
    have y:mL ⟨n3,a2,b2,a⟩=⟨n3,a2,b2,a⟩:=(by unfold mL;rw[if_neg hA,if_neg hB]);have A:=gd y;clear y
    go_quiet (fail)
    go_wp2_with fail
    go_end0
    refine⟨rfl,?_,E.drewN _⟩;rw[an.o,A.o];exact aA.o.Z ((zR [] w2).drewN _) (by simp)
 .have t3:(C==64)=false:=by rw[beq_eq_false_iff_ne];exact hn
  have O:m7 ⟨C,r,t,a⟩ e=⟨C+1,r+u,t+e,a⟩:=by unfold m7;rw[if_neg hn,HU.o]
  have I:=gd O;clear O hn;go_enter func141,ntmps141;go_wp2_with fail;refine gB aF ?_;go_wp2_with fail;refine i9 9 (by kernel_rfl) (by kernel_rfl) ?_;simp only[take_succ_cons,take_zero,drop_succ_cons,drop_zero]
  repeat(go_big_quiet_step ((go_at_call 200;exact sV (aB _))))
  refine wpQuiet_nil ?_;intro _ f;obtain⟨nq,rfl⟩:=f;go_wp2_with fail;obtain⟨ad,D⟩:=aG.o _ ((zR [] w).drewN nq) (r+u) (t+e) (C+1)
  have E:gg [b] w ((((w.drewN nq).setCell ⟨b,1+ctx*4+1,none⟩ (.int .i64 (r+u))).setCell ⟨b,1+ctx*4+2,none⟩ (.int .i64 (t+e))).setCell ⟨b,1+ctx*4,none⟩ (.int .i64 (C+1))) :=
   ((((aE.o w).drewN nq).setCell (by simp) _).setCell (by simp) _).setCell (by simp) _
  generalize (((w.drewN nq).setCell ⟨b,1+ctx*4+1,none⟩ (.int .i64 (r+u))).setCell ⟨b,1+ctx*4+2,none⟩ (.int .i64 (t+e))).setCell ⟨b,1+ctx*4,none⟩ (.int .i64 (C+1))=w2 at *;have z:=ap.o;rw[I.o]at z;simp only at z;have⟨n3,ax⟩:=zX (C+1);have⟨a2,aq⟩:=zX (r+u);have⟨b2,ar⟩:=zX (t+e);rw[<-ax,<-aq,<-ar]at z ad D I;obtain⟨m0,m1,m2,m3,m4,m5,-⟩:=z;obtain⟨_,H,M⟩:=ad.cells;obtain⟨rn,ra,rb,rc⟩:=M ctx _ D;simp only at rn ra rb rc;have gb:=H (1+ctx*4+2);have gc:=H (1+ctx*4+3);have N:=gd (λw' (f:gg [] w2 w') vb vc=>(ad.Z f (by simp)).even J D vb vc);have Q:p6 ⟨C,r,t,a⟩ e=mL ⟨n3,a2,b2,a⟩:=by unfold p6;rw[I.o]
  have⟨an,aA⟩:=gy Q ad;clear Q H M ax aq ar qn X Y Z fn fa fb q0 V n1 K L R S ad D;by_cases hA:b2<=-n3
  .have u1:decide (b2<=-n3)=true:=zB hA
   have y:mL ⟨n3,a2,b2,a⟩=⟨n3,a2,max (b2+n3) (1-n3),max (a-1) (-128)⟩:=(by unfold mL;rw[if_pos hA]);have A:=gd y;clear y
   go_quiet (fail)
   go_wp2_with fail;refine i9 18 (by kernel_rfl) (by kernel_rfl) ?_;simp only[take_succ_cons,take_zero,drop_succ_cons,drop_zero]
   repeat(any_goals (go_big_quiet_step (fail)))
   all_goals
    refine wpQuiet_nil ?_;intro _ f;obtain⟨aD,rfl⟩:=f;go_wp2_with fail
   all_goals
    go_end0
    refine⟨rfl,?_,?_⟩
    .rw[an.o,A.o]
     first|rw[show max (b2+n3) (1-n3)=1-n3 by omega]|rw[show max (b2+n3) (1-n3)=b2+n3 by omega]
     first|rw[show max (a-1) (-128)=-128 by omega]|rw[show max (a-1) (-128)=a-1 by omega]
     exact N.o _ ((zR [] w2).drewN _) _ _
    .exact((E.drewN _).setCell (by simp) _).setCell (by simp) _
  .have u1:decide (b2<=-n3)=false:=zA hA
   by_cases hB:0<b2
   .have u2:decide (0<b2)=true:=zB hB
    have y:mL ⟨n3,a2,b2,a⟩=⟨n3,a2,min (b2-n3) 0,min (a+1) 127⟩:=(by unfold mL;rw[if_neg hA,if_pos hB]);have A:=gd y;clear y
    go_quiet (fail)
    go_wp2_with fail;refine i9 13 (by kernel_rfl) (by kernel_rfl) ?_;simp only[take_succ_cons,take_zero,drop_succ_cons,drop_zero]
    repeat(any_goals (go_big_quiet_step (fail)))
    all_goals
     refine wpQuiet_nil ?_;intro _ f;obtain⟨aD,rfl⟩:=f;go_wp2_with fail
    all_goals
     go_end0
     refine⟨rfl,?_,?_⟩
     .rw[an.o,A.o]
      first|rw[show min (b2-n3) 0=0 by omega]|rw[show min (b2-n3) 0=b2-n3 by omega]
      first|rw[show min (a+1) 127=127 by omega]|rw[show min (a+1) 127=a+1 by omega]
      exact N.o _ ((zR [] w2).drewN _) _ _
     .exact((E.drewN _).setCell (by simp) _).setCell (by simp) _
   .have u2:decide (0<b2)=false:=zA hB
    have y:mL ⟨n3,a2,b2,a⟩=⟨n3,a2,b2,a⟩:=(by unfold mL;rw[if_neg hA,if_neg hB]);have A:=gd y;clear y
    go_quiet (fail)
    go_wp2_with fail
    go_end0
    refine⟨rfl,?_,E.drewN _⟩;rw[an.o,A.o];exact aA.o.Z ((zR [] w2).drewN _) (by simp)
theorem DP{f:FuncId}{a:Array Value}{w:World}(h:Calls P f a (w.drewN n) λe w'=>e=.returned v/\∃m,w'=(w.drewN n).drewN m):Calls P f a (w.drewN n) λe r=>e=.returned v/\∃m,r=w.drewN m:=Calls.quiet_of h
theorem gE.forget{a b c:World}{x:Nat}{F F':List Nat}(k:gg [] a b)(h:gE (x::F) (x::F') b c)(f:a.heap.size<=x):gE F F' a c:=
 ⟨⟨h.Z.os.trans k.os,h.Z.tape.trans k.tape,h.Z.output.trans k.output,Nat.le_trans k.size h.Z.size,λy hy hn=>
   (h.Z.block y (Nat.lt_of_lt_of_le hy k.size) (by simp;exact⟨by omega,hn⟩)).trans (k.block y hy (by simp))⟩,
  λy hy=>by
   rcases h.new y (by simp[hy])with e|e
   .rcases zJ.1 e with rfl|e
    .exact .inr f
    .exact .inl e
   .exact .inr (Nat.le_trans k.size e)⟩
theorem Fw(b d:Nat)(m:List ir)(l:List Int)(A:Option Addr)(a W i:Nat)(w:World)(h:jh w b d m)(Q:pQ m)(t:1<=d)(u:d<=16)(z:1<=W)(C:W<=64)(hi:i<=l.length)(E:i<64*W)(R:ie d l)(D:gz vi w A l)(hll:l.length<=4096):Calls prog 138 #[.pointer b,.slice A l.length a,W,i] w λe w'=>e=.returned (.tuple #[.int .i64 (j0 l W d i),.bool (kH l W d i),.int .i64 (lV m l W d i)])/\gg [] w w':=by
 have⟨x,hx⟩:=zX (i%W);have⟨y,hy⟩:=zX (i / W);have Y:x<W:=by rw[hx];exact mod_lt _ (by omega)
 have X:y<64:=by rw[hy];exact Nat.div_lt_of_lt_mul (by rw[zY];exact E)
 have Z:y*W+x=i:=by rw[hx,hy,zY];exact div_add_mod i W
 have e1:(i:Int)%(W:Int)=(x:Int):=by rw[hx];simp
 have e2:(i:Int) / (W:Int)=(y:Int):=by rw[hy];simp
 have f:=λw D=>xJ l A a W x y w z C Y X (by omega) D (by omega);have r:=qL R W x y;have H:=λw=>La (iC l W x y) d w t u r;have I:=λw=>xU 7 (iC l W x y) d w (by omega) t u r;have s:=sN r 7;have U:=uJ (iC l W x y) d;have M:j0 l W d i=qk (iC l W x y) d:=by unfold j0;rw[<-hx,<-hy]
 have N:kH l W d i=si (iC l W x y) d:=by unfold kH;rw[<-hx,<-hy]
 have O:lV m l W d i=pZ (jW m (qk (iC l W x y) d)) (jV 7 (iC l W x y) d) (si (iC l W x y) d) d:=by unfold lV j0 kH;rw[<-hx,<-hy]
 rw[M,N,O];have T:=λw h=>MH b d m (qk (iC l W x y) d) (jV 7 (iC l W x y) d) (si (iC l W x y) d) w h Q t u U s.1 s.2;have⟨n,hn⟩:=zX l.length;rw[<-hn]at f⊢;generalize iC l W x y=g at *;generalize qk g d=cx at *;generalize si g d=tb at *;generalize jV 7 g d=gs at *;generalize pZ (jW m cx) gs tb d=gm at *;obtain⟨ga,gb,gc,ge⟩:=g;simp only at f H I;have S:=gd f;clear hx hy Z f r s M N O hn R hi Q;go_enter func138,ntmps138;go_wp2_with fail
 go_quiet ((go_at_call 192;exact DP (S.o _ (D.Y ((zR [] w).drewN _)))))
 have L:=h.Z ((zR [] w).drewN nq) (by simp);obtain⟨q0,_,_⟩:=L.cells;go_wp2_with fail;refine(H _).mono ?_;rintro e w1 ⟨rfl,J⟩;have ad:=L.Z J (by simp);obtain⟨q1,_,_⟩:=ad.cells;go_wp2_with fail;refine(I _).mono ?_;rintro e w2 ⟨rfl,K⟩;have V:=ad.Z K (by simp);go_wp2_with fail;refine(T _ V).mono ?_;rintro e w3 ⟨rfl,rfl⟩;go_wp2_with fail
 go_ret3
 exact⟨rfl,(((zR [] w).drewN nq).tq J).tq K⟩
theorem LA(l:List Int)(A:Option Addr)(h W H d:Nat)(w:World)(K:1<=W)(s:W<=64)(J:1<=H)(r:H<=64)(u:1<=d)(y:d<=16)(a:l.length=W*H)(z:ie d l)(I:gz vi w A l):Calls prog 167 #[.slice A l.length h,W,H,d] w λe w'=>e=.returned (.bool true)/\w=w':=by
 have V:=Ra W 1 (by omega);have X:=Ra 64 W (by omega);have Y:=Ra H 1 (by omega);have Z:=Ra 64 H (by omega);obtain⟨O,Q⟩:=jX u y;have⟨m,hm⟩:=zX l.length;rw[<-hm]at a⊢;have M:(W:Int)*(H:Int)=(m:Int):=by rw[a];simp
 have N:m<=4096:=by rw[a];exact zL s r
 have⟨HN,HS⟩:=gy hm z;clear hm a z;go_enter func167,ntmps167
 go_wp2_with(go_at_call 194;refine gB (xc _ _ u y) ?_)
 go_loopg [38] m (λj i wr=>j<=m/\i=.int .i64 ((m-j:Nat):Int)/\w=wr)
 .exact⟨zQ _,by simp,rfl⟩
 obtain⟨U,rfl,rfl⟩:=hrel;rcases gk with _|j
 .have t8:decide (((m-0:Nat):Int)<(m:Int))=false:=by simp
  go_wp2;go_ret;exact⟨rfl,rfl⟩
 .have⟨i,ac⟩:=zX (m-(j+1))
  rw[<-ac];have E:i<m:=by omega
  have ad:m-j=i+1:=by omega
  have D:=gd ad;clear ac ad;have t:i<l.length:=by rw[<-HN.o];exact E
  obtain⟨g,o,rfl,f⟩:=I.at_ t;have C:=HS.o l[i] (zG _);have⟨x,af⟩:=zX (l[i]);rw[<-af]at f C;have L:w.cell? ⟨g,o+i,none⟩=some (.int .i64 x):=f;obtain⟨R,S⟩:=C;have t9:decide (x<0)=false:=zA (by omega);have T:decide ((2:Int)^d<=x)=false:=zA (by omega);clear f af t;go_wp2
  go_roundg j
  .rw[D.o]
   exact⟨by omega,by go_num,rfl⟩
  .omega
theorem Ej(s g:Int)(t:Bool)(a:1<=d)(e:d<=16):iy (qe s g t d):=by
 have:=sG e (vL s g t a)
 unfold iy;omega
theorem FQ(w:World)(b:Nat)(F bs:List Nat)(k:Nat)(x:Int)(h:hJ w b F bs)(A:k<=25)(D:iy x)(a:bs.length+65<274877906944):Calls prog 168 #[.pointer b,k,.slice (some ⟨w.heap.size,0,none⟩) 1 1] (w.alloc (.cells #[x] 3)) λe w'=>e=.returned (.int .i64 0)/\∃F',hJ w' b F' (bs++jp k x)/\gE F F' w w':=by
 have r:gg [] w (w.alloc (.cells #[x] 3)):=(zR [] w).alloc _;have f:gv (w.alloc (.cells #[x] 3)) 3 (.slice (some ⟨w.heap.size,0,none⟩) 1 1) w.heap.size ([x].map vi):=gv.made w 3 [.int .i64 x] (by simp[maxLen]);have t:=f.R.cells;have s:=f.R.apt (l':=[x]) (F':=F) (λy hy=>by
  rw[zU.1 hy];intro C
  have:=h.lt _ C
  omega)
 refine(xN _ b F bs k [x] _ 1 (h.Y r) A (λy hy=>by rw[zU.1 hy];exact D) t s (by simpa using a)).mono ?_;rintro e w' ⟨rfl,F',z,u⟩;refine⟨rfl,F',?_,u.pre r⟩;have e:jl k [x]=jp k x:=by simp[jl]
 rw[<-e];exact z
theorem O4(w:World)(b:Nat)(F bs:List Nat)(l:List Int)(A:Option Addr)(u W H d:Nat)(h:hJ w b F bs)(O:1<=W)(C:W<=64)(hh0:1<=H)(z:H<=64)(f:1<=d)(r:d<=16)(K:l.length=W*H)(X:ie d l)(J:gz vi w A l)(hA:ib A l F)(hbs:bs.length<137438953472):Calls prog 124 #[.pointer b,.slice A l.length u,W,H,d] w λe w'=>e=.returned (.int .i64 0)/\∃F',hJ w' b F' (bs++kw l W d (W*H))/\gE F F' w w':=by
 have aY:l.length<=4096:=by rw[K];exact zL C z
 have aK:=LA l A u W H d w O C hh0 z f r K X J;obtain⟨bg,R⟩:=jX f r;have a2:=λi=>vZ l W f r R i;have a1:=λi=>yA l W f r R i;have ah:=λi (hi:i<l.length) m (hm:pQ m) a w (h:jh w a d m) (J:gz vi w A l)=>Fw a d m l A u W i w h hm f r O C (by omega) (by rw[K]at hi;have:=mul_le_mul_left W z;rw[zY 64 W];omega) X J aY;have a0:∀x∈F,x<w.heap.size:=h.lt;have⟨n,hn⟩:=zX l.length;rw[<-hn]at aK ah aY K⊢;rw[<-K];have⟨HL,bc,bb,HS⟩:=gu ah a2 a1 X;have⟨HN,ba,HP,HA⟩:=gu hn a0 R hA;clear ah a2 a1 X hn K a0 R hA;go_enter func124,ntmps124;go_wp2_with fail;refine gB aK ?_;go_wp2_with fail;refine(Gw d w f r).mono ?_;rintro e w1 ⟨a,rfl,bf,Z,aS⟩;have aL:=h.Y Z;have aE:a∉F:=λhm=>by have:=ba.o _ hm;omega
 have be:=J.Y Z;have bd:gh (ib A l (a::F)):=gd λf ad e hm=>by
  rcases zJ.1 hm with h9|h9
  .exact ib.fresh J (F:=[a]) (by simpa using aS) f ad e (by rw[h9];simp)
  .exact HA.o f ad e h9
 clear aK h J;go_wp2_with fail
 go_loopg [36] n (λj iv wr=>∃(i:Nat) (F' s:List Nat),iv=.int .i64 i/\i+j=n/\hJ wr b F' s/\gh (s=bs++kw l W d i)/\s.length<=bs.length+65*i/\jh wr a d (mG l W d i)/\a∉F'/\gE (a::F) (a::F') w1 wr)
 .exact⟨0,F,bs,rfl,by simp,aL,gd (by simp[kw]),by omega,bf,aE,gE.refl _ _⟩
 obtain⟨i,F',s,rfl,bj,a7,Y,bh,an,T,aJ⟩:=hrel;rcases gk with _|j
 .obtain rfl:i=n:=by omega
  go_wp2;go_ret;refine⟨rfl,F',?_,gE.forget Z aJ aS⟩;rw[<-Y.o];exact a7
 .have aW:i<n:=by omega
  have aG:gz vi wr A l:=be.N bd.o aJ.Z;have N:kw l W d (i+1)=kw l W d i++rT (mG l W d i) l W d i:=rfl;have Q:mG l W d (i+1)=sg (mG l W d i) l W d i:=rfl;have I:=bc.o i;have S:=bb.o (i+1);rw[N,zC]at S;have⟨m,hm⟩:=zX (mG l W d i);rw[<-hm]at an N Q I S;have aT:=uJ (iC l W (i%W) (i / W)) d;have aZ:=HL.o i aW m I a wr an aG;have aV:i<l.length:=by rw[<-HN.o];exact aW
  obtain⟨g,o,rfl,af⟩:=aG.at_ aV;have a9:l[i]=l.getD i 0:=by rw[zD,zF aV];rfl
  have hx:=HS.o l[i] (zG _);rw[a9]at af hx;have aF:wr.cell? ⟨g,o+i,none⟩=some (.int .i64 (l.getD i 0)):=af;clear af;have a5:=Eq (jW m (j0 l W d i)) (jV 7 (iC l W (i%W) (i / W)) d) (kH l W d i) (d:=d) bg;have a4:lV m l W d i=pZ (jW m (j0 l W d i)) (jV 7 (iC l W (i%W) (i / W)) d) (kH l W d i) d:=rfl;rw[<-a4]at a5;have U:=vL (l.getD i 0) (lV m l W d i) (kH l W d i) f;have aI:=Ej (l.getD i 0) (lV m l W d i) (kH l W d i) f r;have aH:RE m l W d i=qe (l.getD i 0) (lV m l W d i) (kH l W d i) d:=rfl;rw[<-aH]at U aI;have aR:rT m l W d i=jp (pz (jW m (j0 l W d i))) (RE m l W d i):=rfl;have a3:sg m l W d i=m.set (j0 l W d i) (p6 (jW m (j0 l W d i)) (RE m l W d i)):=rfl;rw[aR]at N S;rw[a3]at Q;have aj:j0 l W d i<365:=aT;have bk:=xT (rN I aj).2;generalize j0 l W d i=cx at *;generalize lV m l W d i=pr at *;generalize kH l W d i=tb at *;generalize RE m l W d i=er at *;generalize l.getD i 0=x at *;have aX:=λw h=>Hn a d m cx w h I aj;generalize pz (jW m cx)=kk at *;have ag:=λw h=>Ft a d m cx er w h I f r aj U.1 U.2;obtain⟨bo,a8⟩:=hx;obtain⟨bl,a6⟩:=a5;have bp:x<65536:=Int.lt_of_lt_of_le a8 HP.o;have bn:pr<65536:=Int.lt_of_lt_of_le a6 HP.o;clear a8 a6;have⟨aO,aN,aQ,aP⟩:=gu ag aX N Q;have aM:=gd aH;clear ag aX N Q aH S hm a4 aT a9 aR a3 I aG U;go_wp2_with fail;refine aZ.mono ?_;rintro e D ⟨rfl,aD⟩;clear aZ;have aw:=a7.Y aD;have E:=an.Z aD (by simp);have au:=aJ.Y aD
  cases tb with
  | false=>
   have V:=oB (x-pr) d D f r;have e1:ii (x-pr) d=er:=(by rw[aM.o];rfl);rw[e1]at V;go_wp2_with fail;refine gB V ?_;go_wp2_with fail;refine(aN.o _ E).mono ?_;rintro e w3 ⟨rfl,n3,rfl⟩;go_wp2_with fail;refine(FQ _ b F' s kk er (aw.Y ((zR [] D).drewN n3)) (by omega) aI (by omega)).mono ?_;rintro e w4 ⟨rfl,F2,ao,t⟩;have M:a∉F2:=t.o E.lt T;have al:=(E.Z ((zR [] D).drewN n3) (by simp)).Z t.Z T;have ak:=(au.drewN n3).trans (t.cons a);go_wp2_with fail;refine(aO.o _ al).mono ?_;rintro e w5 ⟨rfl,am,L⟩;go_wp2_with fail
   go_roundg j
   .refine⟨i+1,F2,s++jp kk er,by go_num,by omega,ao.Z L (λy hy hm=>by rw[zU.1 hm]at hy;exact M hy),gd (by rw[aQ.o,<-zH,<-Y.o]),?_,?_,M,?_⟩
    .rw[zC];have:=qy kk er;have:=pN kk er (by omega);omega
    .rw[aP.o];exact am
    .exact ak.trans ⟨L.mono λy hy _=>by rw[zU.1 hy];simp,λy hy=>.inl hy⟩
   .omega
  | true=>
   have V:=oB (x-pr) d D f r;have ar:=oB (-ii (x-pr) d) d D f r;have aU:=om (x-pr) f;have e1:ii (-ii (x-pr) d) d=er:=(by rw[aM.o];rfl);rw[e1]at ar;have bi:=sG r aU;generalize ii (x-pr) d=fo at *;clear aU;go_wp2_with fail;refine gB V ?_;go_wp2_with fail;refine gB ar ?_;go_wp2_with fail;refine(aN.o _ E).mono ?_;rintro e w3 ⟨rfl,n3,rfl⟩;go_wp2_with fail;refine(FQ _ b F' s kk er (aw.Y ((zR [] D).drewN n3)) (by omega) aI (by omega)).mono ?_;rintro e w4 ⟨rfl,F2,ao,t⟩;have M:a∉F2:=t.o E.lt T;have al:=(E.Z ((zR [] D).drewN n3) (by simp)).Z t.Z T;have ak:=(au.drewN n3).trans (t.cons a);go_wp2_with fail;refine(aO.o _ al).mono ?_;rintro e w5 ⟨rfl,am,L⟩;go_wp2_with fail
   go_roundg j
   .refine⟨i+1,F2,s++jp kk er,by go_num,by omega,ao.Z L (λy hy hm=>by rw[zU.1 hm]at hy;exact M hy),gd (by rw[aQ.o,<-zH,<-Y.o]),?_,?_,M,?_⟩
    .rw[zC];have:=qy kk er;have:=pN kk er (by omega);omega
    .rw[aP.o];exact am
    .exact ak.trans ⟨L.mono λy hy _=>by rw[zU.1 hy];simp,λy hy=>.inl hy⟩
   .omega
theorem CQ{p:Nat}(h:ig ds p (replicate n 0++1::bs)):(∀i,i<n->lW ds (p+i)=0)/\lW ds (p+n)=1:=
 ⟨λi hi=>h.get (by rw[getElem?_append_left (by simpa using hi)];simp[hi]),h.get (by rw[zS (by simp)];simp)⟩
theorem D6{p:Nat}(h:ig ds p (replicate n 0++1::bs)):ig ds (p+n+1) bs:=by
 have a:ig ds p ((replicate n 0++[1])++bs):=by simpa using h
 have:=a.right
 rw[zC,zV,length_singleton,<-Nat.add_assoc]at this;exact this
theorem Pj(w:World)(b:Nat)(F ds:List Nat)(p k:Nat)(x:Int)(h:gM w b F ds p)(V:k<=25)(Q:iy x)(a:ig ds p (jp k x)):Calls prog 198 #[.pointer b,k] w λe w'=>e=.returned (.tuple #[x,(0:Int)])/\gM w' b F ds (p+(jp k x).length)/\gg [b] w w':=by
 have L:=Bc Q;have J:=Cq x;have N:=h.at_le;have⟨u,aq⟩:=zX (kM x);have f:jp k x=if u / 2^k<32 then replicate (u / 2^k) 0++1::gx (u%2^k) k else replicate 32 0++1::gx u 32:=by unfold jp;rw[<-aq]
 rw[<-aq]at L J;have D:=div_add_mod u (2^k);have E:=mod_lt u (Nat.two_pow_pos k);have⟨q,ao⟩:=zX (u / 2^k);have⟨r,ap⟩:=zX (u%2^k);have U:(u:Int) / 2^k=(q:Int):=by rw[ao];simp
 rw[<-ao]at D f;rw[<-ap]at D E f;have O:(q:Int)*2^k=(u:Int)-r:=by
  have:((2^k*q+r:Nat):Int)=(u:Int):=by rw[D]
  rw[Int.natCast_add,Int.natCast_mul,Int.natCast_pow]at this;rw[Int.mul_comm];simp at this;omega
 have T:r<=u:=by rw[ap];exact mod_le _ _
 have⟨aj,au⟩:=gy E J;clear D ao ap aq E J;by_cases hs:q<32
 .rw[if_pos hs]at f
  rw[f]at a⊢;obtain⟨C,A⟩:=CQ a;have ad:=D6 a;have K:=a.le N;simp only[zC,zV,zK,gH]at K;have s:(replicate q 0++1::gx r k).length=q+1+k:=by simp[gH];omega
  rw[s];have R:decide ((q:Int)<32)=true:=by simp;omega
  have⟨ak,al,ai⟩:=Q9 C A ad;clear C A ad a f s;go_enter func198,ntmps198;go_wp2_with fail;refine(EI w b F ds p q 32 h (by omega) (by omega) ak.o al.o (by omega)).mono ?_;rintro e S ⟨rfl,t,H⟩
  go_wp2_with(go_at_call 60;refine gB (iS _ b F ds _ t) ?_)
  refine(iU _ b F ds (p+q+1) k r t (by omega) aj.o ai.o).mono ?_;rintro e M ⟨rfl,y,I⟩;go_wp2_with fail;have z:=ur u M L;rw[au.o]at z;refine z.mono ?_;rintro e Y ⟨rfl,rfl⟩
  go_wp2_with(go_at_call 60;refine gB (iS _ b F ds _ y) ?_)
  go_ret2
  exact⟨rfl,by rw[show p+(q+1+k)=p+q+1+k by omega];exact y,H.tq I⟩
 .rw[if_neg hs]at f
  rw[f]at a⊢;obtain⟨C,A⟩:=CQ a;have ad:=D6 a;have K:=a.le N;simp only[zC,zV,zK,gH]at K;have s:(replicate 32 0++1::gx u 32).length=32+1+32:=by simp[gH]
  rw[s];have R:decide ((2147483648:Int)<=(u:Int))=false:=by simp;omega
  have X:decide ((q:Int)<32)=false:=by simp;omega
  have⟨ak,al,ai⟩:=Q9 C A ad;clear C A ad a f s O;go_enter func198,ntmps198;go_wp2_with fail;refine(EI w b F ds p 32 32 h (by omega) (by omega) ak.o al.o (by omega)).mono ?_;rintro e S ⟨rfl,t,H⟩
  go_wp2_with(go_at_call 60;refine gB (iS _ b F ds _ t) ?_)
  refine(iU _ b F ds (p+32+1) 32 u t (by omega) (by omega) ai.o).mono ?_;rintro e M ⟨rfl,y,I⟩;have z:=ur u M L;rw[au.o]at z
  go_wp2_with(first|(go_at_call 60;refine gB (iS _ b F ds _ y) ?_)|(go_at_call 171;refine gB z ?_))
  go_ret2
  exact⟨rfl,y,H.tq I⟩
theorem JE(k:Nat)(x:Int)(l:List Int):jl k (x::l)=jp k x++jl k l:=by simp[jl]
theorem Jj(k:Nat)(l:List Int)(a:m<l.length):jl k (l.drop m)=jp k l[m]++jl k (l.drop (m+1)):=by
 rw[drop_eq_getElem_cons a,JE]
theorem ig.cast{p:Nat}(h:ig ds p bs)(e:p=q):ig ds q bs:=e ▸ h
theorem gM.cast{w:World}{F:List Nat}{p:Nat}(h:gM w b F ds p)(e:p=q):gM w b F ds q:=e ▸ h
theorem Bd(w:World)(b:Nat)(F ds:List Nat)(p k:Nat)(l:List Int)(h:gM w b F ds p)(V:k<=25)(Y:∀x∈l,iy x)(hl:l.length<=4194304)(U:ig ds p (jl k l)):Calls prog 139 #[.pointer b,k,l.length] w λe w'=>∃v G,e=.returned (.tuple #[v,(0:Int)])/\jj w' 3 v G (l.map vi)/\gM w' b F ds (p+(jl k l).length)/\gg [b] w w'/\∀x∈G,w.heap.size<=x:=by
 have⟨HW,HA⟩:=gy Y U;clear Y U;have aA:=h.lt b h.mem;have⟨n,hn⟩:=zX l.length;rw[<-hn]at hl⊢;have D:=gd hn;clear hn;have t1:decide ((n:Int)<0)=false:=by simp
 have t2:decide ((4194304:Int)<(n:Int))=false:=by simp;omega
 go_enter func139,ntmps139
 go_wp2_with(first|(go_at_call 197;refine gB (xn _ _ V) ?_)|(go_at_call 60;refine gB (iS _ b F ds _ h) ?_))
 go_loopg [8,28] n (λj v i wr=>∃G t a,j<=n/\i=.int .i64 ((n-j:Nat):Int)/\jj wr 3 v G (a.map vi)/\gh (a=l.take (n-j))/\gM wr b F ds t/\gh (ig ds t (jl k (l.drop (n-j))))/\gh (t+(jl k (l.drop (n-j))).length=p+(jl k l).length)/\gg [b] w wr/\∀x∈G,w.heap.size<=x)
 .exact⟨[],p,[],zQ _,by simp,jj.nil _ _,gd (by simp),h,by simpa using HA,gd (by simp),zR _ _,by simp⟩
 obtain⟨G,t,a,hj,rfl,C,s,R,M,E,I,T⟩:=hrel;obtain⟨A,az,rfl,aB,aC,-⟩:=C.T;have r:=gd T;clear T;rcases gk with _|j
 .have t4:decide (((n-0:Nat):Int)<(n:Int))=false:=by simp
  go_wp2
  go_ret2
  have e:l.take (n-0)=l:=by rw[D.o,Nat.sub_zero,zN]
  have e2:l.drop (n-0)=[]:=by rw[D.o,Nat.sub_zero,drop_length]
  rw[s.o,e]at C;have X:=E.o;rw[e2]at X;refine⟨_,G,rfl,?_,R.cast (by simpa[jl]using X),I,r.o⟩;rw[s.o,e];exact C
 .have⟨m,aj⟩:=zX (n-(j+1))
  rw[<-aj]at M E s⊢;have au:m<n:=by omega
  have Q:n-j=m+1:=by omega
  have Z:=gd Q;clear aj Q;have J:m<l.length:=by rw[<-D.o];exact au
  have z:=Jj k l J;have K:=jD l J;have S:iy l[m]:=HW.o _ (zG _);have⟨x,hx⟩:=zX (l[m]);rw[<-hx]at z S K;have u:=M.o;rw[z]at u;have N:=Pj wr b F ds t k x R V S u.left;have an:=gd u.right;have aD:a.length<=4194304:=by rw[s.o,zI];omega
  have⟨ap,ao⟩:=gy K z;clear z K hx u J;go_wp2_with fail;refine N.mono ?_;rintro e w1 ⟨rfl,ax,ad⟩;have O:∀y∈G,y∉[b]:=λy f=>by have:=r.o y f;simp;omega
  have aw:=C.Z ad O;clear N O
  go_wp2_with(at_builtin;refine ka rfl rfl iO rfl rfl (aw.alloc _) (.int .i64 x) rfl ?c1 ?c2 ?c3 ?c4 ?_)
  case c1=>simp[go_sem]
  case c2=>rfl
  case c3=>rw[zE];omega
  case c4=>rw[zE];omega
  intro g2 aq w2 ay H;go_wp2_with fail
  go_roundg j
  .rw[Z.o]
   have ar:gg [b] w w2:=(I.tq (ad.alloc _)).trans H.Z λx hx=>.inr (r.o x hx);have av:∀y∈F,y∉G:=λy f hyG=>by have:=r.o y hyG;have:=h.lt y f;omega
   refine⟨[g2],_,a++[x],by omega,by go_num,?_,?_,(ax.Y ((zR [] w1).alloc _)).Z H.Z av,an,?_,ar,?_⟩
   .have:=ay.R
    simpa[vi]using this
   .exact gd (by rw[s.o,ap.o])
   .refine gd ?_
    rw[<-E.o,ao.o,zC];omega
   .intro y f
    simp at f;subst f;rcases H.new y (by simp)with L|L
    .exact r.o y L
    .have:=I.size
     have:=ad.size
     simp at L;omega
  .omega
theorem BG(m:Nat)(w:World)(a:m<=30):Calls prog 261 #[.int .i64 ((m:Int)+1)] w λe w'=>e=.returned (.int .i64 (-2^m))/\w=w':=by
 have r:decide ((m:Int)+1<1)=false:=by simp;omega
 have s:decide ((31:Int)<(m:Int)+1)=false:=by simp;omega
 have h:(2:Int)^m<=1073741824:=vH (n:=30) a;have f:=ke m;go_enter func261,ntmps261;go_wp2;go_ret;refine⟨?_,rfl⟩
 first|rfl|(go_num)
theorem Bp(m:Nat)(w:World)(a:m<=30):Calls prog 262 #[.int .i64 ((m:Int)+1)] w λe w'=>e=.returned (.int .i64 (2^m-1))/\w=w':=by
 have r:decide ((m:Int)+1<1)=false:=by simp;omega
 have s:decide ((31:Int)<(m:Int)+1)=false:=by simp;omega
 have h:(2:Int)^m<=1073741824:=vH (n:=30) a;have f:=ke m;go_enter func262,ntmps262;go_wp2;go_ret;refine⟨?_,rfl⟩
 first|rfl|(go_num)
theorem OU(x:Int)(n:Nat)(w:World)(t:n<=31)(u : -4611686018427387904<=x)(y:x<=4611686018427387904):Calls prog 247 #[x,n] w λe w'=>e=.returned (.bool (kK x n))/\w=w':=by
 rcases n with _|m
 .have f:kK x 0=false:=by simp[kK]
  rw[f];go_enter func247,ntmps247;go_wp2;go_ret;exact⟨rfl,rfl⟩
 .have a:m<=30:=by omega
  have s:((m+1:Nat):Int)=(m:Int)+1:=by omega
  rw[s];have z:decide ((1:Int)<=(m:Int)+1)=true:=by simp;omega
  have A:decide ((m:Int)+1<=31)=true:=by simp;omega
  have f:kK x (m+1)=(decide (-2^m<=x)&&decide (x<=2^m-1)):=by
   unfold kK;simp[t]
  rw[f];clear f;by_cases h1 : -2^m<=x
  .have h:decide ((-2^m:Int)<=x)=true:=by simpa using h1
   by_cases h2:x<=2^m-1
   .have r:decide (x<=(2^m-1:Int))=true:=by simpa using h2
    rw[h,r];go_enter func247,ntmps247
    go_wp2_with(first|(go_at_call 261;refine gB (BG m _ a) ?_)|(go_at_call 262;refine gB (Bp m _ a) ?_))
    go_ret;exact⟨rfl,rfl⟩
   .have r:decide (x<=(2^m-1:Int))=false:=by simpa using h2
    rw[h,r];go_enter func247,ntmps247
    go_wp2_with(first|(go_at_call 261;refine gB (BG m _ a) ?_)|(go_at_call 262;refine gB (Bp m _ a) ?_))
    go_ret;exact⟨rfl,rfl⟩
  .have h:decide ((-2^m:Int)<=x)=false:=by simpa using h1
   rw[h];go_enter func247,ntmps247
   go_wp2_with(first|(go_at_call 261;refine gB (BG m _ a) ?_)|(go_at_call 262;refine gB (Bp m _ a) ?_))
   go_ret;exact⟨rfl,rfl⟩
theorem Bf(l:List Int)(A:Option Addr)(E:Nat)(w:World)(M:∀x∈l,iy x)(X:gz vi w A l)(Y:l.length<=1099511627776):Calls prog 222 #[.slice A l.length E] w λe w'=>e=.returned (.int .i64 (kY l))/\w=w':=by
 have J:=gd M;clear M;have⟨n,hn⟩:=zX l.length;rw[<-hn]at Y⊢;have I:=gd hn;clear hn;go_enter func222,ntmps222;go_wp2_with fail
 go_loopg [3,8] n (λj s i wr=>j<=n/\i=.int .i64 ((n-j:Nat):Int)/\s=.int .i64 ((kY (l.take (n-j)):Nat):Int)/\w=wr)
 .exact⟨zQ _,by simp,by simp[kY],rfl⟩
 obtain⟨hj,rfl,rfl,rfl⟩:=hrel;rcases gk with _|j
 .have t4:decide (((n-0:Nat):Int)<(n:Int))=false:=by simp
  have e:l.take n=l:=by rw[I.o,zN]
  rw[Nat.sub_zero,e];go_wp2;go_ret;exact⟨rfl,rfl⟩
 .have⟨m,al⟩:=zX (n-(j+1))
  rw[<-al];have Q:m<n:=by omega
  have L:n-j=m+1:=by omega
  have H:=gd L;clear al L;have C:m<l.length:=by rw[<-I.o];exact Q
  obtain⟨b,o,rfl,y⟩:=X.at_ C;have r:=KT (l.take m) l[m];rw[<-jD l C]at r;have z:=ut (l:=l.take m) (λx hx=>J.o x (mem_of_mem_take hx));have⟨x,hx⟩:=zX (l[m]);rw[<-hx]at y r;have ag:w.cell? ⟨b,o+m,none⟩=some (.int .i64 x):=y;have D:iy x:=by rw[hx];exact J.o _ (zG _)
  have R:=D;obtain⟨au,av⟩:=R;have⟨s,hs⟩:=zX (kY (l.take m));rw[<-hs]at r z⊢;have t:=gd r;clear r y hx hs C;go_wp2_with fail
  go_loopg [3] (32-s) (λf v wr=>∃v':Nat,v=.int .i64 v'/\v'+f=32/\gh (jT x 32 s=jT x f v')/\v'<=31/\w=wr)
  .exact⟨s,rfl,by omega,gd (by
   have:∀d,d+(32-s)=32->jT x 32 s=jT x (32-s) s:=by
    intro d _;have S:∀f g w',w'<=31->32<=w'+f->32<=w'+g->jT x f w'=jT x g w':=by
     intro f
     induction f with
     | zero=>intro g w' T U V;omega
     | succ f ih=>
      intro g w' T U V;rcases g with _|g
      .omega
      .unfold jT
       split
       .rename_i hcc
        have:w'≠31:=λe=>by rw[e,xj D]at hcc;simp at hcc
        exact ih g (w'+1) (by omega) (by omega) (by omega)
       .rfl
    exact S 32 (32-s) s z (by omega) (by omega)
   exact this s (by omega)),z,rfl⟩
  obtain⟨v,rfl,ar,h,O,rfl⟩:=hrel;have u:=OU x v w O (by omega) (by omega);by_cases hx00:x=0
  .have a:=EB (x:=x) (w:=v) (f:=gk) (.inl hx00)
   rw[<-h.o,<-t.o]at a;have ad:=gd a;clear a h t;have Z:(x != 0)=false:=(by simp[hx00]);clear hx00;go_wp2
   go_roundg j
   .rw[H.o,ad.o];exact⟨by omega,by go_num,rfl,rfl⟩
   .omega
  .have Z:(x != 0)=true:=by simp[hx00]
   have t6:decide ((v:Int)<32)=true:=(by simp;omega);have K:x≠0:=hx00;have N:=gd K;clear hx00 K
   cases hfb:kK x v with
   | true=>
    rw[hfb]at u;have a:=EB (x:=x) (w:=v) (f:=gk) (.inr hfb);rw[<-h.o,<-t.o]at a;have ad:=gd a;clear a h hfb t
    go_wp2_with(go_at_call 247;refine gB u ?_)
    go_roundg j
    .rw[H.o,ad.o];exact⟨by omega,by go_num,rfl,rfl⟩
    .omega
   | false=>
    rw[hfb]at u;have aq:v≠31:=λe=>by rw[e,xj D]at hfb;cases hfb
    obtain⟨g,rfl⟩:∃g,gk=g+1:=⟨gk-1,by omega⟩;have a:=MM N.o (by omega) hfb g;rw[<-h.o]at a;have ad:=gd a;clear a h hfb
    go_wp2_with(go_at_call 247;refine gB u ?_)
    go_roundg g
    .exact⟨v+1,by go_num,by omega,ad,by omega,rfl⟩
    .omega
theorem uA(n warm:Nat)(w:World)(a:1<=n)(f:n<=4096)(h:warm<=n):Calls prog 187 #[n,warm] w λe w'=>e=.returned (.bool true)/\w=w':=by
 have r:decide ((1:Int)<=(n:Int))=true:=by simp;omega
 have s:decide ((n:Int)<=4096)=true:=by simp;omega
 go_enter func187,ntmps187;go_wp2;go_ret;exact⟨rfl,rfl⟩
theorem jj.one(w:World)(e:TypeId)(u:Value):jj (w.alloc (.cells #[u] e)) e (.slice (some ⟨w.heap.size,0,none⟩) 1 1) [w.heap.size] [u]:=by
 have:=(gv.made w e [u] (by simp[maxLen])).R
 simpa using this
theorem uC(o n warm:Nat)(w:World)(t:o<=8)(D:1<=n)(E:n<=4096)(H:warm<=n):Calls prog 188 #[o,n,warm] w λe w'=>∃v G,e=.returned v/\jj w' 3 v G ((iR o n warm).map i64)/\gg [] w w'/\∀x∈G,w.heap.size<=x:=by
 have t1:decide ((o:Int)<0)=false:=by simp
 have t2:decide ((8:Int)<(o:Int))=false:=by simp;omega
 have R:2^o<=256:=Nat.pow_le_pow_right (n:=2) (j:=8) (by decide) t;have Q:=Nat.two_pow_pos o;have⟨P,hP⟩:=zX (2^o);have⟨s,hs⟩:=zX (n / 2^o);have ao:(2:Int)^o=(P:Int):=by rw[hP];simp
 have av:s<=n:=by rw[hs];exact div_le_self _ _
 have au:s*P<=n:=by rw[hs,hP];exact div_mul_le_self _ _
 have J:iR o n warm=if s*P=n/\warm<=s then(s-warm)::replicate (P-1) s else[]:=by unfold iR;rw[<-hs,<-hP]
 have e1:(n:Int) / (P:Int)=(s:Int):=by rw[hs,hP];simp
 rw[<-hP]at Q R;have f:=gd J;clear J hs;clear hP;by_cases c1:s*P=n
 .have U:(((s:Int)*(P:Int)) != (n:Int))=false:=by
   rw[bne_eq_false_iff_eq]
   exact_mod_cast c1
  by_cases c2:warm<=s
  .have V:decide (s<warm)=false:=by simp;omega
   rw[if_pos ⟨c1,c2⟩]at f;have am:((s:Int)-(warm:Int))=((s-warm:Nat):Int):=(by omega);have O:=gd c1;clear c1;go_enter func188,ntmps188
   go_wp2_with(go_at_call 187;refine gB (uA n warm _ D E H) ?_)
   go_loopg [8] (P-1) (λj v wr=>∃G a,jj wr 3 v G (a.map i64)/\gh (a=(s-warm)::replicate (P-1-j) s)/\a.length+j=P/\gg [] w wr/\∀x∈G,w.heap.size<=x)
   .exact⟨[w.heap.size],[s-warm],by simpa[i64]using jj.one w 3 (.int .i64 ((s-warm:Nat):Int)),gd (by simp),by simp;omega,(zR _ _).alloc _,by simp⟩
   obtain⟨G,a,C,z,r,ad,M⟩:=hrel;obtain⟨A,an,rfl,ap,aq,-⟩:=C.T;have u:=gd M;clear M;rcases gk with _|j
   .have X:decide (a.length<P)=false:=by simp;omega
    have K:=gd r;clear r;go_wp2;go_ret;refine⟨_,G,rfl,?_,ad,u.o⟩;rw[f.o];have t:=z.o;rw[Nat.sub_zero]at t;rw[<-t];exact C
   .have X:decide (a.length<P)=true:=by simp;omega
    have K:=gd r;have Z:a.length<=256:=(by omega);clear r
    go_wp2_with(at_builtin;refine ka rfl rfl iO rfl rfl (C.alloc _) (.int .i64 s) rfl ?c1 ?c2 ?c3 ?c4 ?_)
    case c1=>simp[go_sem]
    case c2=>rfl
    case c3=>rw[zE];omega
    case c4=>rw[zE];omega
    intro T Y w2 S L;go_wp2_with fail
    go_roundg j
    .have r:=K.o
     refine⟨[T],a++[s],?_,gd ?_,by rw[zC,length_singleton];omega,(ad.alloc _).trans L.Z λx hx=>.inr (u.o x hx),?_⟩
     .have:=S.R
      simpa[i64]using this
     .have ar:1<=a.length:=by rw[z.o];simp
      rw[z.o];have e:P-1-j=P-1-(j+1)+1:=(by omega);rw[e,replicate_succ',cons_append]
     .intro y N
      simp at N;subst N;rcases L.new y (by simp)with I|I
      .exact u.o y I
      .have:=ad.size
       simp at I;omega
    .omega
  .have V:decide (s<warm)=true:=by simp;omega
   rw[if_neg (λh=>c2 h.2)]at f;have O:=gd c1;clear c1;go_enter func188,ntmps188
   go_wp2_with(go_at_call 187;refine gB (uA n warm _ D E H) ?_)
   go_ret;refine⟨_,[],rfl,?_,zR _ _,by simp⟩;rw[f.o];exact jj.nil _ _
 .have U:(((s:Int)*(P:Int)) != (n:Int))=true:=by
   rw[bne_iff_ne];intro h;exact c1 (by exact_mod_cast h)
  rw[if_neg (λh=>c1 h.1)]at f;clear c1;go_enter func188,ntmps188
  go_wp2_with(go_at_call 187;refine gB (uA n warm _ D E H) ?_)
  go_ret;refine⟨_,[],rfl,?_,zR _ _,by simp⟩;rw[f.o];exact jj.nil _ _
theorem EE(n warm:Nat)(l:List Int)(A:Option Addr)(f:Nat)(w:World)(D:1<=n)(E:n<=4096)(H:warm<=n)(s:l.length=n-warm)(t:∀x∈l,iy x)(I:gz vi w A l):Calls prog 219 #[n,warm,.slice A l.length f] w λe w'=>e=.returned (.bool true)/\w=w':=by
 have z:=gd t;clear t;have⟨m,hm⟩:=zX l.length;rw[<-hm]at s⊢;have K:((n:Int)-(warm:Int))=(m:Int):=by omega
 have y:=gd hm;have L:m<=4096:=by omega
 clear hm s;go_enter func219,ntmps219
 go_wp2_with(go_at_call 187;refine gB (uA n warm _ D E H) ?_)
 go_loopg [23] m (λj i wr=>j<=m/\i=.int .i64 ((m-j:Nat):Int)/\w=wr)
 .exact⟨zQ _,by simp,rfl⟩
 obtain⟨O,rfl,rfl⟩:=hrel;rcases gk with _|j
 .have Q:decide (((m-0:Nat):Int)<(m:Int))=false:=by simp
  go_wp2;go_ret;exact⟨rfl,rfl⟩
 .have⟨i,ac⟩:=zX (m-(j+1))
  rw[<-ac];have C:i<m:=by omega
  have ad:m-j=i+1:=by omega
  have u:=gd ad;clear ac ad;have h:i<l.length:=by rw[<-y.o];exact C
  obtain⟨g,o,rfl,a⟩:=I.at_ h;have r:iy l[i]:=z.o _ (zG _);have⟨x,hx⟩:=zX (l[i]);rw[<-hx]at a r;have J:w.cell? ⟨g,o+i,none⟩=some (.int .i64 x):=a;obtain⟨M,N⟩:=r;have R:decide (x < -1073741824)=false:=zA (by omega);have S:=mF 1073741824 x (by omega);clear a hx h;go_wp2
  go_roundg j
  .rw[u.o]
   exact⟨by omega,by go_num,rfl⟩
  .omega
theorem GF(l:List Int)(A:Option Addr)(a:Nat)(w:World)(h:∀x∈l,iy x)(z:gz vi w A l)(C:l.length<=4194304):Calls prog 245 #[.slice A l.length a] w λe w'=>e=.returned (.int .i64 (oZ l))/\w=w':=by
 have f:=Bf l A a w h z (by omega);have u:=ut h;have⟨s,hs⟩:=zX (kY l);have t:oZ l=5+s*l.length:=by unfold oZ;rw[<-hs]
 rw[<-hs]at f u;have r:=gd t;have y:s*l.length<=31*4194304:=zL u C;have⟨n,hn⟩:=zX l.length;rw[<-hn]at f y r⊢;have D:(s:Int)*(n:Int)<=130023424:=by
  have:((s*n:Nat):Int)<=130023424:=by omega
  rwa [Int.natCast_mul]at this
 have ad:(0:Int)<=(s:Int)*(n:Int):=Int.mul_nonneg (by omega) (by omega);clear t hs h z hn y;go_enter func245,ntmps245
 go_wp2_with(go_at_call 222;refine gB f ?_)
 go_ret;rw[r.o];refine⟨?_,rfl⟩
 first|rfl|(go_num)
theorem L6(l:List Int)(A:Option Addr)(a:Nat)(w:World)(y:∀x∈l,iy x)(u:gz vi w A l)(D:l.length<=4194304):Calls prog 220 #[.slice A l.length a] w λe w'=>e=.returned (.int .i64 (l4 l))/\w=w':=by
 have z:=Ba l A a w y u (by omega);have C:=GF l A a w y u D;have r:=Bw (j8 l) l A a w (q8 l) y u (by omega);have h:l4 l=if oZ l<kr (j8 l) l then 31 else j8 l:=rfl;have⟨s,hs⟩:=zX (oZ l);have⟨b,hb⟩:=zX (j8 l);rw[<-hs,<-hb]at h;rw[<-hs]at C;rw[<-hb]at z r;have⟨t,ht⟩:=zX (kr b l);rw[<-ht]at h r;have f:=gd h;clear h hs hb ht y u;by_cases hlt:s<t
 .have E:decide (s<t)=true:=by simpa using hlt
  rw[if_pos hlt]at f;go_enter func220,ntmps220
  go_wp2_with(first|(go_at_call 173;refine gB z ?_)|(go_at_call 245;refine gB C ?_)|(go_at_call 226;refine gB r ?_))
  go_ret;rw[f.o];exact⟨rfl,rfl⟩
 .have E:decide (s<t)=false:=by simpa using hlt
  rw[if_neg hlt]at f;go_enter func220,ntmps220
  go_wp2_with(first|(go_at_call 173;refine gB z ?_)|(go_at_call 245;refine gB C ?_)|(go_at_call 226;refine gB r ?_))
  go_ret;rw[f.o];exact⟨rfl,rfl⟩
theorem gz.i64_at{w:World}{A:Option Addr}{l:List Nat}(h:gz i64 w A l)(a:m<l.length):∃b o,A=some ⟨b,o,none⟩/\w.cell? ⟨b,o+m,none⟩=some (.int .i64 (l[m]:Nat)):=h.at_ a
def sk(ks:List Nat):Prop:=∀k∈ks,k<=25\/k=31
theorem Oy(o n warm:Nat)(ks:List Nat)(A:Option Addr)(f:Nat)(w:World)(H:o<=8)(R:1<=n)(S:n<=4096)(T:warm<=n)(r:iR o n warm≠[])(a:ks.length=(iR o n warm).length)(h:sk ks)(E:gz i64 w A ks):Calls prog 246 #[.agg #[.int .i64 o,.slice A ks.length f],n,warm] w λe w'=>e=.returned (.bool true)/\gg [] w w':=by
 have Q:=sJ r;have K:2^o<=256:=Nat.pow_le_pow_right (n:=2) (j:=8) (by decide) H;have J:=Nat.two_pow_pos o;have⟨N,hN⟩:=zX ks.length;have z:N=(iR o n warm).length:=by rw[hN,a]
 have Z:1<=N:=by omega
 have ay:N<=256:=by omega
 rw[<-hN];have⟨ak,HN,al⟩:=Q9 h hN z;clear Q K J hN z a h r;go_enter func246,ntmps246;go_wp2_with fail;refine(uC o n warm _ H R S T).mono ?_;rintro e w1 ⟨v,G,rfl,y,ad,hG⟩;obtain⟨U,V,rfl,X,Y,-⟩:=y.T;rw[<-al.o];have C:=(gn.new w 176 #[o,.slice A N f]).Z ad (by simp);have M:=C.X 1;simp at M;have x:gg [] w w1:=((zR [] w).alloc _).tq ad;have L:=E.Y x;have t1:((N:Int)==0)=false:=by rw[beq_eq_false_iff_ne];omega
 clear ad C y E;go_wp2_with fail
 go_loopg [29] N (λj i wr=>j<=N/\i=.int .i64 ((N-j:Nat):Int)/\w1=wr)
 .exact⟨zQ _,by simp,rfl⟩
 obtain⟨hj,rfl,rfl⟩:=hrel;rcases gk with _|j
 .have t4:decide (((N-0:Nat):Int)<(N:Int))=false:=by simp
  go_wp2;go_ret;exact⟨rfl,x⟩
 .have⟨i,ah⟩:=zX (N-(j+1))
  rw[<-ah];have O:i<N:=by omega
  have D:N-j=i+1:=by omega
  have u:=gd D;clear ah D;have s:i<ks.length:=by rw[<-HN.o];exact O
  obtain⟨g,az,rfl,I⟩:=L.i64_at s;have t:=ak.o _ (zG s);have⟨k,aj⟩:=zX (ks[i]);rw[<-aj]at I t;have t5:decide ((k:Int)<0)=false:=by simp
  clear aj s;rcases t with t|rfl
  .have t6:decide ((25:Int)<(k:Int))=false:=by simp;omega
   go_wp2
   go_roundg j
   .rw[u.o]
    exact⟨by omega,by go_num,rfl⟩
   .omega
  .go_wp2
   go_roundg j
   .rw[u.o]
    exact⟨by omega,by go_num,rfl⟩
   .omega
theorem Lb{p:List Int}(a:ks[i]?=some k)(e:ps[i]?=some p):lH (ks.take (i+1)) (ps.take (i+1))=lH (ks.take i) (ps.take i)+oz k p:=by
 have f:=(List.getElem?_eq_some_iff.1 a).1;have h:=(List.getElem?_eq_some_iff.1 e).1;have r:=(List.getElem?_eq_some_iff.1 a).2;have s:=(List.getElem?_eq_some_iff.1 e).2;unfold lH;rw[take_succ_eq_append_getElem f,take_succ_eq_append_getElem h,zip_append (by simp;omega),zM,sum_append,r,s];simp;omega
theorem yW{p:List Int}(e:k<=25\/k=31)(a:∀x∈p,iy x):oz k p<=10+65*p.length:=by
 unfold oz oZ;split
 .have:=mul_le_mul_right p.length (ut a)
  omega
 .have:=GK k p (by omega)
  omega
theorem nP(w:World):(sizeOf 3).run prog w=.ok 1 w:=by
 exact sizeOf3 w
theorem yI{α:Type}(l:List α)(ss:List Nat)(i:Nat)(h:i<ss.length):(l.drop (kh ss i)).drop ss[i]=l.drop (kh ss (i+1)):=by
 rw[drop_drop,yM ss i h]
theorem FG(o n warm:Nat)(ks:List Nat)(A:Option Addr)(z:Nat)(l:List Int)(S:Option Addr)(a:Nat)(w:World)(ho:o<=8)(h1:1<=n)(h2:n<=4096)(h3:warm<=n)(u:iR o n warm≠[])(f:ks.length=(iR o n warm).length)(E:sk ks)(C:gz i64 w A ks)(t:l.length=n-warm)(hw:∀x∈l,iy x)(D:gz vi w S l)(h:l.length<=a)(r:a<=9223372036854775807):Calls prog 221 #[.agg #[.int .i64 o,.slice A ks.length z],n,warm,.slice S l.length a] w λe w'=>e=.returned (.int .i64 (lH ks (iQ (iR o n warm) l)))/\gg [] w w':=by
 have aY:=ug u;have ao:=sJ u;have be:2^o<=256:=Nat.pow_le_pow_right (n:=2) (j:=8) (by decide) ho;have⟨ss,aH⟩:=zX (iR o n warm);have⟨N,hN⟩:=zX ks.length;have⟨L,hL⟩:=zX l.length;have az:=λw C=>Oy o n warm ks A z w ho h1 h2 h3 u f E C;have ac:=λw C=>EE n warm l S a w h1 h2 h3 t hw C;have ad:=λw=>uC o n warm w ho h1 h2 h3;rw[<-aH]at f aY ao ad⊢;rw[<-hN]at az f⊢;rw[<-hL]at ac t h⊢;have⟨aQ,aq,ar,a9⟩:=gu az ac ad E;have⟨HW,HN,HL,aP⟩:=gu hw hN hL f;have⟨bb,ba⟩:=gy aY t;have a0:N<=256:=by omega
 have bd:L<=4096:=by omega
 clear az ac ad E hw hN hL f aY ao be aH t u;go_enter func221,ntmps221;go_wp2_with fail;refine(aQ.o _ (C.Y ((zR [] w).alloc _))).mono ?_;rintro e w1 ⟨rfl,aR⟩;have aB:gg [] w w1:=((zR [] w).alloc _).tq aR;have aT:=(gn.new w 176 #[o,.slice A N z]).Z aR (by simp);have a2:=aT.X 0;simp at a2;go_wp2_with fail;refine(aq.o _ (D.Y aB)).mono ?_;rintro e bv ⟨rfl,rfl⟩;go_wp2_with fail;refine(ar.o _).mono ?_;rintro e w2 ⟨v,G,rfl,aG,aS,hG⟩;obtain⟨A2,bc,rfl,aU,bj,al⟩:=aG.T;have au:gg [] w w2:=aB.tq aS;have aC:=aT.Z aS (by simp);have bk:=aC.X 1;simp at bk;have bg:=C.Y au;have bh:=D.Y au;have ah:=aP.o;rw[<-ah];clear aT aC a2 aR aS aG C D hG;have am:=gd ah;clear ah;have aN:=gd r;clear aU r;go_wp2_with fail
 go_loopg [3,9,31] N (λj lv cv i wr=>j<=N/\i=.int .i64 ((N-j:Nat):Int)/\w2=wr/\cv=.int .i64 ((lH (ks.take (N-j)) ((iQ ss l).take (N-j)):Nat):Int)/\lH (ks.take (N-j)) ((iQ ss l).take (N-j))<=4+(N-j)*300000 /\
   ∃H c' rest,lv=.slice H rest.length c'/\gh (rest=l.drop (kh ss (N-j)))/\gz vi w2 H rest/\rest.length<=c'/\c'<=9223372036854775807/\rest.length<=4096)
 .refine⟨zQ _,by simp,rfl,by simp[lH],by simp[lH],S,a,l,?_,gd (by simp[kh]),bh,?_,aN.o,?_⟩
  .rw[<-HL.o]
  .rw[<-HL.o];exact h
  .rw[<-HL.o];exact bd
 obtain⟨hj,rfl,rfl,rfl,U,H,c',rest,rfl,ae,T,bl,bq,br⟩:=hrel;rcases gk with _|j
 .have t4:decide (((N-0:Nat):Int)<(N:Int))=false:=by simp
  have e1:ks.take N=ks:=by rw[HN.o,zN]
  have e2:(iQ ss l).take N=iQ ss l:=by rw[am.o,<-q4 ss l,zN]
  rw[Nat.sub_zero,e1,e2];go_wp2;go_ret;exact⟨rfl,au⟩
 .have⟨i,a4⟩:=zX (N-(j+1))
  rw[<-a4]at U ae⊢;have a5:i<N:=by omega
  have a6:N-j=i+1:=by omega
  have HI:=gd a6;clear a4 a6;have X:i<ks.length:=by rw[<-HN.o];exact a5
  have O:i<ss.length:=by rw[<-am.o];exact a5
  obtain⟨bo,bs,rfl,aw⟩:=bg.i64_at X;obtain⟨bp,bu,rfl,ax⟩:=al.i64_at O;have K:=a9.o _ (zG X);have ay:=ui ss l i O;have Q:=Lb (ks:=ks) (ps:=iQ ss l) (i:=i) (zF X) ay;have aE:=vO ss i O;have V:=yI l ss i O;rw[<-ae.o]at ay Q V;have⟨k,a7⟩:=zX (ks[i]);have⟨s,hs⟩:=zX (ss[i]);rw[<-a7]at aw K Q;rw[<-hs]at ax Q aE V;have bn:s<=rest.length:=by
   have:=bb.o
   have:=ba.o
   have:=HL.o
   rw[ae.o,zO];omega
  have Y:∀x∈rest.take s,iy x:=λx hx=>HW.o x (by
   have:=mem_of_mem_take hx
   rw[ae.o]at this;exact mem_of_mem_drop this)
  have aV:(rest.take s).length=s:=by rw[zI];omega
  have I:=yW K Y;rw[aV]at I;have R:=GF (rest.take s) H c' w2 Y (T.take s) (by omega);have J:=λ(K:k<=25)=>Bw k (rest.take s) H c' w2 K Y (T.take s) (by omega);rw[aV]at R J;obtain⟨A3,a8,bf,aD⟩:=uh (P:=prog) underlying22 nP H rest.length c' s bn bl;have av:=aD Int vi w2 rest rfl T;have⟨HS,ag⟩:=gy J Q;have aO:gh (rest.drop s=l.drop (kh ss (i+1))):=gd V;have a3:rest.length-s=(rest.drop s).length:=by rw[zO]
  rw[a3]at a8;have aW:(rest.drop s).length<=4096:=by rw[zO];omega
  have aX:(rest.drop s).length<=c'-s:=by rw[zO];omega
  have⟨ap,ak⟩:=zX (rest.drop s);rw[<-ak]at a8 aW aX av aO;have bm:s<=c':=by omega
  have⟨part,an⟩:=zX (rest.take s);rw[<-an]at R ag I HS;clear Q ay V a7 hs Y bf aD J aE a3 ak aV an T X O;have⟨c0,a1⟩:=zX (lH (ks.take i) ((iQ ss l).take i));rw[<-a1]at ag U⊢;have bi:c0<=76800004:=by omega
  have aZ:=gd U;clear a1 U;have Z:∀q,q=oz k part->gh (lH (ks.take (i+1)) ((iQ ss l).take (i+1))=c0+q):=λq hq=>gd (by rw[ag.o,hq]);by_cases hk31:k=31
  .have t6:((k:Int)==31)=true:=by rw[beq_iff_eq];omega
   have y:oz k part=5+oZ part:=(by unfold oz;rw[if_pos hk31]);rw[y]at I;have M:=Z _ y.symm;have⟨q,hq⟩:=zX (oZ part);rw[<-hq]at R I M;clear K y hk31 hq Z ag HS
   go_wp2_with(go_at_call 245;refine gB R ?_)
   go_roundg j
   .rw[HI.o,M.o]
    refine⟨by omega,by go_num,rfl,by go_num,?_,A3,_,ap,rfl,aO,av,aX,by omega,aW⟩
    have:=aZ.o
    rw[Nat.add_mul];omega
   .omega
  .have t6:((k:Int)==31)=false:=by rw[beq_eq_false_iff_ne];omega
   have y:oz k part=5+kr k part:=(by unfold oz;rw[if_neg hk31]);rw[y]at I;have M:=Z _ y.symm;have J:=HS.o (by omega);have⟨q,hq⟩:=zX (kr k part);rw[<-hq]at J I M;clear K y hk31 hq Z ag HS R
   go_wp2_with(go_at_call 226;refine gB J ?_)
   go_roundg j
   .rw[HI.o,M.o]
    refine⟨by omega,by go_num,rfl,by go_num,?_,A3,_,ap,rfl,aO,av,aX,by omega,aW⟩
    have:=aZ.o
    rw[Nat.add_mul];omega
   .omega
theorem K6{o:Nat}{p:List Int}(a:ks[i]?=some k)(e:ps[i]?=some p):m9 o (ks.take (i+1)) (ps.take (i+1))=m9 o (ks.take i) (ps.take i)++mV k p:=by
 have f:=(List.getElem?_eq_some_iff.1 a).1;have h:=(List.getElem?_eq_some_iff.1 e).1;have r:=(List.getElem?_eq_some_iff.1 a).2;have s:=(List.getElem?_eq_some_iff.1 e).2;unfold m9;rw[take_succ_eq_append_getElem f,take_succ_eq_append_getElem h,zip_append (by simp;omega),flatMap_append,r,s];simp
theorem Mn(n:Nat)(l:List Int)(x:Int):(l++[x]).flatMap (λx=>gx (kO x n) n)=l.flatMap (λx=>gx (kO x n) n)++gx (kO x n) n:=by simp
theorem OP(x:Int)(h:n<=31):bits .and .u64 (x%18446744073709551616) (2^n-1)=((kO x n:Nat):Int):=by
 have e:0<=x%18446744073709551616:=Int.emod_nonneg _ (by decide);have f:x%18446744073709551616<18446744073709551616:=Int.emod_lt_of_pos _ (by decide);rw[CO e f (by omega),Ez];have a:((2:Int)^n)∣18446744073709551616:=by
  have:(18446744073709551616:Int)=2^n*2^(64-n):=by
   rw[<-Int.pow_add]
   have:n+(64-n)=64:=by omega
   rw[this];rfl
  rw[this];exact Int.dvd_mul_right _ _
 exact Int.emod_emod_of_dvd x a
theorem Pg(w:World)(b:Nat)(F bs:List Nat)(o n warm:Nat)(ks:List Nat)(A:Option Addr)(C:Nat)(l:List Int)(S:Option Addr)(a:Nat)(h:hJ w b F bs)(ho:o<=8)(h1:1<=n)(h2:n<=4096)(h3:warm<=n)(E:iR o n warm≠[])(f:ks.length=(iR o n warm).length)(K:sk ks)(hc:gz i64 w A ks)(D:l.length=n-warm)(hw:∀x∈l,iy x)(u:gz vi w S l)(r:l.length<=a)(t:a<=9223372036854775807)(hA:ib A ks F)(hAl:ib S l F)(hbs:bs.length<137438953472):Calls prog 166 #[.pointer b,.agg #[.int .i64 o,.slice A ks.length C],n,warm,.slice S l.length a] w λe w'=>e=.returned (.int .i64 0)/\∃F',hJ w' b F' (bs++m9 o ks (iQ (iR o n warm) l))/\gE F F' w w':=by
 have bU:=ug E;have aB:=sJ E;have cr:2^o<=256:=Nat.pow_le_pow_right (n:=2) (j:=8) (by decide) ho;have R:=λw hc u=>FG o n warm ks A C l S a w ho h1 h2 h3 E f K hc D hw u r t;have⟨ss,bd⟩:=zX (iR o n warm);have⟨N,hN⟩:=zX ks.length;have⟨L,hL⟩:=zX l.length;have ae:=λw=>uC o n warm w ho h1 h2 h3;have b9:=Mc ks (iQ (iR o n warm) l);rw[<-bd]at f bU aB ae R b9⊢;have⟨CC,b4⟩:=zX (lH ks (iQ ss l));rw[<-b4]at R b9;rw[<-hN]at R f⊢;rw[<-hL]at R D r⊢;have⟨a1,aD,ck,HW⟩:=gu R ae K hw;have⟨HN,HL,bA,cn⟩:=gu hN hL f bU;have⟨cl,HA,bu,HF⟩:=gu D hA hAl h.lt;have b6:N<=256:=by omega
 have cq:L<=4096:=by omega
 have t0:((CC:Int)==0)=false:=by rw[beq_eq_false_iff_ne];omega
 clear R ae K hw hN hL f bU aB cr bd D E b4 hA hAl;go_enter func166,ntmps166;go_wp2_with fail;have bi:gg [] w (w.alloc (.cells #[o,.slice A N C] 176)):=(zR [] w).alloc _;refine(a1.o _ (hc.Y bi) (u.Y bi)).mono ?_;rintro e w1 ⟨rfl,bD⟩;have bj:=(gn.new w 176 #[o,.slice A N C]).Z bD (by simp);have Y:gg [] w w1:=bi.tq bD;have bb:=bj.lt;have Q:=bj.X 0;simp at Q;have be:=h.Y Y;clear bD bi;go_wp2_with fail;refine(iG _ b F bs o 4 be (by omega) (by omega) (by omega)).mono ?_;rintro e cL ⟨rfl,F1,an,aq⟩;have cg:w.heap.size∉F:=λhm=>by have:=HF.o _ hm;omega
 have aI:=bj.Z aq.Z cg;have a7:=aI.X 0;simp at a7;clear Q bj;go_wp2_with fail;refine(aD.o _).mono ?_;rintro e w2 ⟨v,G,rfl,aw,bh,hG⟩;obtain⟨A2,co,rfl,bM,cy,-⟩:=aw.T;have M:gE F F1 w1 w2:=aq.Y bh;have aJ:=aI.Z bh (by simp);have aK:=hc.Y Y;have aL:=u.Y Y;have bJ:=aK.N HA.o M.Z;have cv:=aL.N bu.o M.Z;have bV:=an.Y bh;have b5:∀x∈G,x∉F1:=λx hx hm=>by
  have h5:=hG x hx;have h6:=an.lt x hm;omega
 have bX:w.heap.size∉F1:=aq.o bb cg;have⟨bq,bv⟩:=gy (HA.o.grow aK M) (bu.o.grow aL M);have cj:gh (ib A2 ss F1):=gd (aw.apt b5);have cx:gz i64 w2 A2 ss:=aw.cells;have bN:gE F F1 w w2:=gE.pre Y M;have ah:=bA.o;rw[<-ah];have az:=gd ah;clear ah aI a7 hc u hG aq bh an be M Y aK aL aw HA bu bb b5;have bx:=gd t;clear bM t;go_wp2_with fail
 go_loopg [4,34] N (λj lv i wr=>j<=N/\i=.int .i64 ((N-j:Nat):Int) /\
   ∃H c' rest F' z,lv=.slice H rest.length c'/\gh (rest=l.drop (kh ss (N-j)))/\gh (ib H rest F1)/\gz vi w2 H rest/\rest.length<=c'/\c'<=9223372036854775807/\rest.length<=4096 /\
    hJ wr b F' z/\gh (z=bs++m9 o (ks.take (N-j)) ((iQ ss l).take (N-j)))/\z.length<=bs.length+4+(N-j)*300000/\gE F1 F' w2 wr)
 .refine⟨zQ _,by simp,S,a,l,F1,bs++gx o 4,?_,gd (by simp[kh]),bv,cv,?_,bx.o,?_,bV,gd (by simp[m9]),by simp[gH],gE.refl _ _⟩
  .rw[<-HL.o]
  .rw[<-HL.o];exact r
  .rw[<-HL.o];exact cq
 obtain⟨hj,rfl,H,c',rest,F',z,rfl,af,bY,bK,cA,cH,cI,ci,U,bI,J⟩:=hrel;have a5:=aJ.Z J.Z bX;have Q:=a5.X 1;simp at Q;clear a5;rcases gk with _|j
 .have t4:decide (((N-0:Nat):Int)<(N:Int))=false:=by simp
  have e1:ks.take N=ks:=by rw[HN.o,zN]
  have e2:(iQ ss l).take N=iQ ss l:=by rw[az.o,<-q4 ss l,zN]
  rw[Nat.sub_zero,e1,e2]at U;go_wp2;go_ret;refine⟨rfl,F',?_,bN.trans J⟩;rw[<-U.o];exact ci
 .have⟨i,cb⟩:=zX (N-(j+1))
  rw[<-cb]at bI U af⊢;have cc:i<N:=by omega
  have cd:N-j=i+1:=by omega
  have HI:=gd cd;clear cb cd;have bl:i<ks.length:=by rw[<-HN.o];exact cc
  have ba:i<ss.length:=by rw[<-az.o];exact cc
  obtain⟨cE,cJ,rfl,aN⟩:=(bJ.N bq.o J.Z).i64_at bl;obtain⟨cF,cK,rfl,aO⟩:=(cx.N cj.o J.Z).i64_at ba;have hk:=ck.o _ (zG bl);have aP:=ui ss l i ba;have a9:=vO ss i ba;have bk:=yI l ss i ba;rw[<-af.o]at aP bk;have au:=K6 (o:=o) (ks:=ks) (ps:=iQ ss l) (i:=i) (zF bl) aP;have⟨k,bP⟩:=zX (ks[i]);have⟨s,hs⟩:=zX (ss[i]);rw[<-bP]at aN hk au;rw[<-hs]at aO au a9 bk;have cD:s<=rest.length:=by
   have:=cn.o
   have:=cl.o
   have:=HL.o
   rw[af.o,zO];omega
  have bp:∀x∈rest.take s,iy x:=λx hx=>HW.o x (by
   have:=mem_of_mem_take hx
   rw[af.o]at this;exact mem_of_mem_drop this)
  have bn:(rest.take s).length=s:=by rw[zI];omega
  have bm:=yW hk bp;have aT:=Cz k (rest.take s);rw[bn]at bm;obtain⟨A3,ch,b7,a6⟩:=uh (P:=prog) underlying22 nP H rest.length c' s cD cA;have aM:=a6 Int vi w2 rest rfl bK;have aG:ib A3 (rest.drop s) F1:=bY.o.to (by rw[zO];omega) b7;have bG:bs++m9 o (ks.take (i+1)) ((iQ ss l).take (i+1))=z++mV k (rest.take s):=by rw[au,U.o,zH]
  have bz:gh (rest.drop s=l.drop (kh ss (i+1))):=gd bk;have ca:rest.length-s=(rest.drop s).length:=by rw[zO]
  rw[ca]at ch;have bS:(rest.drop s).length<=4096:=by rw[zO];omega
  have bT:(rest.drop s).length<=c'-s:=by rw[zO];omega
  have O:=bK.take s;have ar:ib H (rest.take s) F1:=bY.o.of (by rw[zI];omega);have⟨aC,am⟩:=zX (rest.drop s);rw[<-am]at ch bS bT aM bz aG;have cC:s<=c':=by omega
  have⟨part,aA⟩:=zX (rest.take s);rw[<-aA]at bm bG O bn bp aT ar;have⟨b0,a0,ap,bC⟩:=gu bG aG ar bp;have cw:=O.N (ar) J.Z;have⟨b3,aW,b1,b2⟩:=gu aT bn bl bP;have a2:=gd bm;have cB:s<=4096:=by omega
  have av:k<=31:=by omega
  have⟨HK,bZ⟩:=gy hk bI;have ct:z.length<=137515753476:=by omega
  clear au aP bk bP hs b7 a6 a9 ca am aA bK ba bG aG ar bp aT hk bI U bn bm;have ag:=iG wr b F' z k 5 ci (by omega) (by omega) (by omega);by_cases av:k=31
  .have t6:((k:Int) != 31)=false:=by rw[bne_eq_false_iff_eq];omega
   have al:mV k part=gx k 5++(gx (kY part) 5++part.flatMap (λx=>gx (kO x (kY part)) (kY part))):=(by unfold mV;rw[if_pos av]);have bg:=gd al;clear al av;go_wp2_with fail;refine ag.mono ?_;rintro e w3 ⟨rfl,F3,aV,bE⟩;have y:=J.trans bE;have Z:=aJ.Z y.Z bX;have V:=Z.X 1;simp at V;obtain⟨_,_,e4,X⟩:=(bJ.N bq.o y.Z).i64_at b1.o;injection e4 with e4;injection e4 with e4 e5 _;subst e4;subst e5;rw[<-b2.o]at X;have ak:=O.N ap.o y.Z;have aU:=Bf part H c' w3 bC.o ak (by rw[aW.o];omega);have ax:=ut bC.o;rw[aW.o]at aU;have⟨W,hW⟩:=zX (kY part);rw[<-hW]at aU ax bg;clear Z Q ag hW
   go_wp2_with(go_at_call 222;refine gB aU ?_)
   refine(iG w3 b F3 _ W 5 aV (by omega) (by omega) (by rw[zC,gH];omega)).mono ?_;rintro e w4 ⟨rfl,F4,ay,bF⟩;have aR:=y.trans bF;have cG:(2:Int)^W<=2147483648:=vH (n:=31) ax;have cs:=ke W;clear V X ak;go_wp2_with fail
   go_loopg [75] s (λq iv wx=>q<=s/\iv=.int .i64 ((s-q:Nat):Int)/\∃T I,hJ wx b T I/\gh (I=(z++gx k 5++gx W 5)++(part.take (s-q)).flatMap (λx=>gx (kO x W) W))/\I.length<=z.length+10+W*(s-q)/\gE F1 T w2 wx)
   .exact⟨zQ _,by simp,F4,_,ay,gd (by simp),by simp[gH],aR⟩
   obtain⟨hq,rfl,T,I,bf,aE,aH,aS⟩:=hrel;rcases gk with _|q
   .have t7:decide (((s-0:Nat):Int)<(s:Int))=false:=by simp
    go_wp2
    go_roundg j
    .rw[HI.o]
     have e7:part.take (s-0)=part:=(by rw[Nat.sub_zero,<-aW.o,zN]);have bH:=aE.o;rw[e7,zH,zH,<-bg.o]at bH;refine⟨by omega,by go_num,A3,_,aC,T,I,rfl,bz,a0,aM,bT,by omega,bS,bf,gd (by rw[bH,b0.o]),?_,aS⟩;have e8:=b3.o;have e9:=bZ.o;rw[bH,zC,e8,Nat.add_mul]
     have:=a2.o
     omega
    .omega
   .have⟨m,ce⟩:=zX (s-(q+1))
    rw[<-ce]at aE aH⊢;have cz:m<s:=(by omega);have cf:s-q=m+1:=(by omega);have HM:=gd cf;clear ce cf;have bQ:m<part.length:=(by rw[aW.o];exact cz);obtain⟨g8,o8,rfl,ad⟩:=(O.N ap.o aS.Z).at_ bQ;have bo:=Mn W (part.take m) part[m];rw[<-jD part bQ]at bo;have⟨x,hx⟩:=zX (part[m]);rw[<-hx]at ad bo;have bL:wr.cell? ⟨g8,o8+m,none⟩=some (.int .i64 x):=ad;have a4:bits BinOp.and IntKind.u64 (IntKind.u64.wrap x) (2^W-1)=((kO x W:Nat):Int):=(by rw[IntKind.wrap_u64];exact OP x ax);have br:=gd a4;clear a4;have bc:=xI x W;have⟨cm,bB⟩:=gy bo bc;have cu:I.length<=137520000000:=by
     have:W*m<=31*4096:=zL ax (by omega)
     omega
    have bw:=gd aH;clear ad hx bQ bo bc aH;go_wp2_with fail;rw[br.o];refine(iG wr b T I (kO x W) W bf (by omega) bB.o (by omega)).mono ?_;rintro e w6 ⟨rfl,F6,bW,cp⟩;go_wp2_with fail
    go_roundg q
    .rw[HM.o]
     refine⟨by omega,by go_num,F6,_,bW,gd ?_,?_,aS.trans cp⟩
     .rw[cm.o,aE.o,zH]
     .have e9:=bw.o
      rw[zC,gH,Nat.mul_add];omega
    .omega
  .have t6:((k:Int) != 31)=true:=by rw[bne_iff_ne];omega
   have al:mV k part=gx k 5++jl k part:=(by unfold mV;rw[if_neg av]);have bg:=gd al;have bO:k<=25:=(by have:=HK.o;omega);clear al;go_wp2_with fail;refine ag.mono ?_;rintro e w3 ⟨rfl,F3,aV,bE⟩;have y:=J.trans bE;have Z:=aJ.Z y.Z bX;have V:=Z.X 1;simp at V;obtain⟨_,_,e4,X⟩:=(bJ.N bq.o y.Z).i64_at b1.o;injection e4 with e4;injection e4 with e4 e5 _;subst e4;subst e5;rw[<-b2.o]at X;have ak:=O.N ap.o y.Z;have bR:=xN w3 b F3 (z++gx k 5) k part H c' aV bO bC.o ak (ap.o.grow O y) (by rw[zC,gH,aW.o];omega);rw[aW.o]at bR;clear Z Q ag;go_wp2_with fail;refine bR.mono ?_;rintro e w4 ⟨rfl,F4,ay,bF⟩;have aR:=y.trans bF;clear V X ak bR;go_wp2_with fail
   go_roundg j
   .rw[HI.o]
    rw[zH,<-bg.o]at ay;refine⟨by omega,by go_num,A3,_,aC,F4,_,rfl,bz,a0,aM,bT,by omega,bS,ay,gd b0.o.symm,?_,aR⟩;have e8:=b3.o;have e9:=bZ.o;rw[zC,e8,Nat.add_mul]
    have:=a2.o
    omega
   .omega
theorem D5(o bit:Nat)(w:World)(f:o<=4096)(a:bit=0\/bit=1):Calls prog 241 #[o,bit] w λe w'=>e=.returned (.int .i64 (pX o bit:Nat))/\w'=w:=by
 rcases a with rfl|rfl
 all_goals
  go_enter func241,ntmps241;go_wp2;go_ret;exact⟨by unfold pX;simp;go_num,rfl⟩
theorem NS(w:World)(b g:Nat)(v r:Value)(W:Int)(ds:List Nat)(h:Nat)(C:gn w b 270 #[v,.int .u64 W,r])(D:gv w 5 v g (ds.map b8))(H:∀d∈ds,d<256)(R:h<9223372036854775808):Calls prog 263 #[.pointer b,.int .u64 h] w λe w'=>e=.returned (.tuple #[])/\gv w' 5 v g ((mM ds h).map b8)/\gg [g] w w':=by
 obtain⟨L,rfl,U,V,-,-⟩:=D.T;have N:=D.ne_ C (by decide);have I:=gd H;clear H;have E:=C.X 0;simp at E;go_enter func263,ntmps263;go_wp2
 go_loopw [1,4] (λn i wr=>∃(l t:List Nat) (c:Nat) (j:Int),i=.int .i64 j/\n=.int .u64 c/\j=(l.length:Int)-1/\c<9223372036854775808/\l.length+t.length=ds.length /\
   mM ds h=mM l c++t/\(∀d∈l,d<256)/\gv wr 5 (.slice g ds.length L) g ((l++t).map b8)/\gg [g] w wr)
  (λn i _=>(intOf i+1).toNat)
 .exact⟨ds,[],h,_,rfl,rfl,rfl,R,by simp,by simp,I.o,by simpa using D,zR _ _⟩
 obtain⟨l,t,c,j,rfl,rfl,z,hc,y,ad,A,f,u⟩:=hrel;have M:=C.Z u (by simpa using N.symm);have J:=M.X 0;simp at J;clear E;rcases eq_nil_or_concat l with rfl|⟨l',d,rfl⟩
 .obtain rfl:j=-1:=by simpa using z
  have s:=gd ad;clear z y ad A;go_wp2
  all_goals
   go_end0
   refine⟨rfl,?_,u⟩;rw[s.o];simpa[Mt]using f
 .have T:wr.cell? ⟨g,l'.length,none⟩=some (.int .u8 d):=by
   obtain⟨_,Q,_,_,a,_⟩:=f.T;exact a l'.length d (by simp)
  have Y:wr.frozen? ⟨g,l'.length,none⟩=false:=by
   obtain⟨_,Q,_,_,_,a⟩:=f.T;exact a _
  obtain rfl:j=(l'.length:Int):=by simp at z;omega
  have S:d<256:=A d (by simp);have Z:l'.length<ds.length:=by simp at y;omega
  have⟨HL,s,ah⟩:=Q9 y ad A;clear z y ad A;go_wp2
  .have X:0<c:=by omega
   go_roundw
   case rel=>
    have O:=Ln l' d c (by omega);have K:=HL.o;refine⟨l',(c+d)%256::t,(c+d) / 256,_,rfl,by go_num,rfl,by omega,by simp at K⊢;omega,?_,λx hx=>ah.o x (by simp[hx]),?_,u.setCell (by simp) _⟩
    .rw[s.o,concat_eq_append,O,zH];rfl
    .have a:=f.S (i:=l'.length) (by simp) (b8 ((c+d)%256))
     have e2:((l'.concat d++t).map b8).set l'.length (b8 ((c+d)%256))=(l'++(c+d)%256::t).map b8:=by
      rw[concat_eq_append,zH,zM,zM,set_append_right _ _ (by simp)];simp
     rw[e2]at a;have e3:b8 ((c+d)%256)=.int .u8 (((c:Int)+d)%256):=(by unfold b8;go_num);rw[e3]at a;exact a
   case measure=>simp[intOf]
  .obtain rfl:c=0:=by omega
   go_end0
   refine⟨rfl,?_,u⟩;rw[s.o,Lo];exact f
theorem xZ:jx prog 41 5 (.int .u8 0) 1 1:=.mk' underlying41 (by kernel_rfl)
theorem EY(w:World)(b g h:Nat)(c:ij)(bound bit:Nat)(hc:kI 270 w b g h c)(r:iw c)(R:mW c bound)(A:bit=0\/bit=1)(hlen:c.low.length<=1099511627776):Calls prog 249 #[.pointer b,.int .u64 bound,bit] w λe w'=>e=.returned (.tuple #[]) /\ ∃a,kI 270 w' b a h (jF c bound bit)/\gg [b,g] w w'/\(a=g\/w.heap.size<=a):=by
 obtain⟨vl,T,f,C,S⟩:=hc.ex;obtain⟨z,aY⟩:=R;have a1:=r.hi;have L:=C.ne_ f (by decide);have aV:=S.ne_ f (by decide);have aU:=C.ne_row S (by decide);obtain⟨Q,rfl,aZ,a0,-,-⟩:=C.T;have U:=f.X 0;have V:=f.X 1;have aP:=f.U 1;simp at U V;have aI:=GQ r ⟨z,by omega⟩ bit;have⟨W1,aA⟩:=zX (me c bound bit);have⟨l1,J⟩:=zX (lY c bound bit);rw[<-aA]at aI;have⟨ar,aj⟩:=gy aA J;clear aA J;have aq:l1.length=c.low.length:=by rw[aj.o,sT]
 have D:=gd aq;clear aq;go_enter func249,ntmps249
 go_upto_if 7 with fail
 go_cut [] (λwx=>gn wx b 270 #[.slice g c.low.length Q,.int .u64 W1,T]/\gv wx 5 (.slice g c.low.length Q) g (l1.map b8)/\gg [b,g] w wx)
 case first=>
  rcases A with rfl|rfl
  .go_wp2
   go_meet
   case rel=>
    refine⟨?_,?_,(zR _ _).setCell (by simp) _⟩
    .have:=f.S 1 (.int .u64 W1)
     rw[ar.o]at this⊢;exact this
    .rw[aj.o]
     exact C.Q (p:=⟨b,1,none⟩) L _
  .go_wp2_with(go_at_call 263;refine(NS _ _ _ _ _ _ _ _ f C r.dig (by omega)).mono ?_;rintro e w1 ⟨rfl,J,am⟩;have z:=f.Z am (by simpa using L.symm);have aB:=z.X 1;have aQ:=z.U 1;simp at aB)
   go_meet
   case rel=>
    refine⟨?_,?_,(am.mono (F':=[b,g]) (by simp)).setCell (by simp) _⟩
    .have:=z.S 1 (.int .u64 ((c.W:Int)-bound))
     have e:((W1:Nat):Int)=(c.W:Int)-bound:=(by rw[ar.o];unfold me;simp;omega);rw[e];exact this
    .rw[aj.o]
     exact J.Q (p:=⟨b,1,none⟩) L _
 case rest=>
  obtain⟨y,aO,aE⟩:=hcut;have H:=y.X 0;have I:=y.X 1;have⟨aS,X⟩:=RL y 0 1;simp at H I;clear U V aP;go_wp2_with fail
  go_loopg [] 1 (λk wr=>∃(a N:Nat) (l:List Nat) (W:Nat),gn wr b 270 #[.slice (some ⟨a,0,none⟩) l.length N,.int .u64 W,T] /\
    gv wr 5 (.slice (some ⟨a,0,none⟩) l.length N) a (l.map b8)/\gg [b,g] w wr/\(a=g\/w.heap.size<=a) /\
    ((k=1/\W=W1/\l=l1)\/(k=0/\16777216<=W/\W<4294967296/\gh (jF c bound bit=⟨l,W,c.L⟩))))
  .exact⟨g,Q,l1,W1,by rw[D.o];exact y,by rw[D.o];exact aO,aE,.inl rfl,.inl ⟨rfl,rfl,rfl⟩⟩
  clear H I aS X y aO;obtain⟨a,N,l,W,s,M,u,t,al⟩:=hrel;have ap:=M.ne_ s (by decide);have H:=s.X 0;have I:=s.X 1;have X:=s.U 1;simp at H I;have ao:∀W',W'=W->jF c bound bit=⟨l,W',c.L⟩->kI 270 wr b a h (jF c bound bit):=λW' e he=>by
   subst e;rw[he];have aW:h∉[b,g]:=(by simp;exact⟨aV,aU.symm⟩);exact⟨_,T,s,M,S.Z u aW⟩
  have ai:=gd ao;clear ao;rcases al with⟨rfl,rfl,rfl⟩|⟨rfl,hW,aX,ay⟩
  .by_cases hs:W<16777216
   .have an:decide ((W:Int)<16777216)=true:=by simp;omega
    go_wp2_with(at_builtin;refine IS rfl rfl xZ rfl rfl ((M.Q (p:=⟨b,1,none⟩) ap _).alloc _) (.int .u8 0) rfl ?c1 ?c2 ?c3 ?c4 ?_)
    case c1=>simp[go_sem]
    case c2=>rfl
    case c3=>simp;have:=D.o;omega
    case c4=>simp;have:=D.o;omega
    intro g2 ad w2 Z O Y;have E:=((s.S 1 (.int .u64 ((W:Int)*256))).alloc (.cells #[.int .u8 0] 5)).Z O (by simpa using ap.symm);have aG:=Z.ne_ E (by decide);have aD:gg [b,g] w w2:=((u.setCell (p:=⟨b,1,none⟩) (by simp) _).alloc _).trans O (by
     intro x hx;simp at hx;subst hx;rcases t with rfl|t
     .exact .inl (by simp)
     .exact .inr t)
    have aC:=E.X 0;have aR:=E.U 0;simp at aC;have a2:=u.size;have aT:g2=g\/w.heap.size<=g2:=by
     rcases Y with rfl|Y
     .exact t
     .exact .inr (by omega)
    clear O;go_wp2
    go_roundg 0
    .refine⟨g2,ad,l++[0],W*256,?_,?_,aD.setCell (by simp) _,aT,.inr ⟨rfl,by omega,by omega,?_⟩⟩
     .have K:=E.S 0 (.slice g2 (l.length+1) ad)
      simp at K
      simpa using K
     .have K:=Z.Q (p:=⟨b,0,none⟩) aG (.slice g2 (l.length+1) ad)
      simpa[b8]using K
     .refine gd ?_
      unfold jF;rw[<-ar.o,if_pos hs,<-aj.o]
    .omega
   .have an:decide ((W:Int)<16777216)=false:=by simp;omega
    go_wp2
    go_end0
    refine⟨rfl,a,?_,u,t⟩;refine ai.o W rfl ?_;unfold jF;rw[<-ar.o,if_neg hs,<-aj.o]
  .have an:decide ((W:Int)<16777216)=false:=by simp;omega
   go_wp2
   go_end0
   exact⟨rfl,a,ai.o W rfl ay.o,u,t⟩
theorem DB{c:ij}{ctx:Nat}(a:ctx<c.L.length):c.L[ctx]?=some (ny c ctx):=by
 unfold ny;rw[zD,zF a];rfl
theorem Hf(w:World)(b g h:Nat)(c:ij)(ctx bit:Nat)(M:kI 270 w b g h c)(f:iw c)(a:ctx<c.L.length)(t:bit=0\/bit=1)(u:c.low.length<=1099511627776):Calls prog 227 #[.pointer b,ctx,bit] w λe w'=>e=.returned (.int .i64 0) /\ ∃s,kI 270 w' b s h (kq c ctx bit)/\gg [b,g,h] w w'/\(s=g\/w.heap.size<=s):=by
 obtain⟨vl,vo,D,hl,N⟩:=M.ex;have r:=uj f a;have aG:=f.hi;have Q:=N.ne_ D (by decide);obtain⟨aw,rfl,aF,az,H,V⟩:=N.T;have z:=H ctx _ (DB a);replace z:w.cell? ⟨h,ctx,none⟩=some (.int .i64 (ny c ctx:Int)):=z;clear H;have⟨o1,am⟩:=zX (ny c ctx);have R:=An f a;rw[<-am]at z R r;have I:=gd am;clear am;have y:=D.X 1;have Y:=D.X 2;simp at y Y;have t1:decide ((ctx:Int)<0)=false:=by simp
 have t2:decide (c.L.length<=ctx)=false:=by simp;omega
 have⟨bd,ab⟩:=zX (c.W / 4096*o1);have aC:IntKind.u64.wrap ((c.W:Int) / 4096*(o1:Int))=(bd:Int):=by
  rw[<-ab]at r
  have:=r.2
  have e:((c.W:Int) / 4096*(o1:Int))=(bd:Int):=by rw[ab];simp
  rw[e];exact IntWalk.u64_in _ (by omega)
 rw[<-ab]at r;have T:gh (kq c ctx bit={ jF c bd bit with L:=c.L.set ctx (pX o1 bit) }):=by
  refine gd ?_;rw[ab,I.o];rfl
 clear ab;go_enter func227,ntmps227;rcases t with rfl|rfl
 all_goals
  go_wp2;refine i9 16 (by kernel_rfl) (by kernel_rfl) ?_;simp only[take_succ_cons,take_zero,drop_succ_cons,drop_zero]
  repeat(go_big_quiet_step (fail))
  refine wpQuiet_nil ?_;intro _ A;obtain⟨nq,rfl⟩:=A;go_wp2_with fail;refine(EY (w.drewN nq) b g h c bd _ (M.Y (((zR _ _).drewN nq))) f r (by simp) u).mono ?_;rintro e Z ⟨rfl,s,y,U,O⟩;obtain⟨aJ,aK,J,K,x⟩:=y.ex;rw[DC]at x;have X:=K.ne_row x (by decide);obtain⟨aq,rfl,ay,au,E,ad⟩:=x.T;have aH:Z.cell? ⟨h,ctx,none⟩=some (.int .i64 o1):=by rw[I.o];exact E ctx _ (DB a)
  have aI:=ad ctx;have S:=J.X 2;simp at S;clear E ad V;go_wp2_with fail;refine i9 14 (by kernel_rfl) (by kernel_rfl) ?_;simp only[take_succ_cons,take_zero,drop_succ_cons,drop_zero]
  repeat(go_big_quiet_step ((go_at_call 241;exact Calls.quiet_of_same (D5 o1 _ _ (by omega) (by simp)))))
  refine wpQuiet_nil ?_;intro _ A;obtain⟨C,rfl⟩:=A;go_wp2;go_ret;refine⟨rfl,s,?_,?_,O⟩
  .rw[T.o]
   refine⟨_,_,(J.drewN C).Q (p:=⟨h,ctx,none⟩) Q.symm _,(K.drewN C).Q (p:=⟨h,ctx,none⟩) X _,?_⟩;simp only;rw[map_set];exact(x.drewN C).S (i:=ctx) (by simpa using a) _
  .refine gg.setCell (gg.drewN ?_ _) (by simp) _
   exact((zR _ _).drewN nq).trans U (by simp)
def qb(d:Nat)(t:gZ):Prop:=0<=t.lit/\t.lit<2^d
theorem Fv(d a b:Nat):qb d ⟨a,b,0⟩:=⟨Int.le_refl _,ke d⟩
theorem N3{at_:Nat}{D:List Nat}{p:List Nat × List gZ}(h:∀t∈p.2,qb d t):∀t∈(n7 cp at_ D n p).2,qb d t:=by
 unfold n7;split
 .exact h
 .split
  .intro t e
   rcases mem_or_eq_of_mem_set e with a|rfl
   .exact h t a
   .exact Fv d _ _
  .exact h
theorem Ew{d cp at_:Nat}{D:List Nat}:∀f m p,(∀t∈p.2,qb d t)->∀t∈(nW cp at_ D f m p).2,qb d t
 | 0,_,_,h=>h
 | f+1,m,p,h=>Ew f (m+1) _ (N3 h)
theorem Mx{a:Nat}(f:ie d l){s:l3}(h:∀t∈s.first,qb d t):∀t∈(rx l a cp k s).first,qb d t:=by
 refine Ew 65 0 _ λt ht=>?_;rcases mem_or_eq_of_mem_set ht with e|rfl
 .exact h t e
 .exact mZ f k
theorem Gr{d a cp:Nat}{l:List Int}(e:ie d l):∀k s,(∀t∈s.first,qb d t)->∀t∈(qW l a cp k s).first,qb d t
 | 0,_,h=>h
 | k+1,s,h=>Gr e k _ (Mx e h)
theorem EM{Q:gZ->Prop}{F:List gZ}(h:∀t∈F,Q t){n:Nat}(e:n<=F.length):∀f i,∀t∈lh F n f i,Q t
 | 0,_,t,ht=>by simp[lh]at ht
 | f+1,i,t,ht=>by
  unfold lh at ht;split at ht
  .rename_i hi
   rcases zJ.1 ht with rfl|a
   .unfold jA
    rw[zD,zF (by omega)];exact h _ (zG _)
   .exact EM h e f _ t a
  .simp at ht
theorem Lu(e:ie d l)(a cp:Nat):∀t∈l5 l a cp,qb d t:=
 EM (Gr e _ _ λt ht=>by
  have:t=⟨0,0,0⟩:=eq_of_mem_replicate ht
  rw[this];exact Fv d _ _) (by
   have:=(vY l a cp).pair.fl
   unfold rU at this;rw[this];exact zQ _) _ _
theorem DI(r:ie d l)(e cp:Nat):∀t∈l5 l e cp,qd d t:=by
 intro t h;have a:=MA l e cp t h;have f:=Lu r e cp t h;unfold gZ.ok at a;unfold qd
 cases hl:t.isLit with
 | true=>exact .inl ⟨rfl,f.1,f.2⟩
 | false=>
  right;refine⟨rfl,?_⟩;rcases a with a|a
  .rw[hl]at a;cases a
  .exact a
theorem jt(w:World)(o:Obj):(w.alloc o).heap.size=w.heap.size+1:=by
 show(w.heap.push o).size=_;exact Array.size_push _
theorem gn.new2(w:World)(o:Obj)(t:TypeId)(cs:Array Value):gn ((w.alloc o).alloc (.cells cs t)) (w.heap.size+1) t cs:=by
 have h:=gn.new (w.alloc o) t cs;rw[jt]at h;exact h
theorem gn.new3(w:World)(o a:Obj)(t:TypeId)(cs:Array Value):gn (((w.alloc o).alloc a).alloc (.cells cs t)) (w.heap.size+1+1) t cs:=by
 have h:=gn.new2 (w.alloc o) a t cs;rw[jt]at h;exact h
def gW(p:qc)(g o cap:Nat):Value:=.agg #[p.W,p.H,p.d,.slice (some ⟨g,o,none⟩) p.P.length cap]
structure ip (w:World) (p:qc) (g o:Nat) (B:Nat->Option Addr) (c:Nat->Nat) (G:List Nat):Prop where
 ok:p.Ok
 gG:g∈G
 lt:∀x∈G,x<w.heap.size
 X:∀i,i<p.P.length->w.cell? ⟨g,o+i,none⟩=some (.slice (B i) (p.W*p.H) (c i))
 cells:∀i,i<p.P.length->gz vi w (B i) (p.P.getD i [])
 blk:∀i,i<p.P.length->∀ad,B i=some ad->ad.block∈G
 cap:∀i,i<p.P.length->p.W*p.H<=c i/\c i<=9223372036854775807
section
variable {w w':World} {p:qc} {g o:Nat} {B:Nat->Option Addr} {c:Nat->Nat} {G F:List Nat}
theorem ip.Z(h:ip w p g o B c G)(a:gg F w w')(f:∀x∈G,x∉F):ip w' p g o B c G:=
 { h with
  lt:=λx hx=>Nat.lt_of_lt_of_le (h.lt x hx) a.size
  X:=λi hi=>(World.cell?_of_block (w:=w) (a.block g (h.lt g h.gG) (f g h.gG))).trans (h.X i hi)
  cells:=λi hi=>(h.cells i hi).Z a λad e=>f _ (h.blk i hi ad e) }
theorem ip.Y(h:ip w p g o B c G)(a:gg [] w w'):ip w' p g o B c G:=h.Z a (by simp)
theorem ip.len(h:ip w p g o B c G)(a:i<p.P.length):(p.P.getD i []).length=p.W*p.H:=h.ok.len _ (by
 rw[zD,zF a];exact zG a)
theorem ip.at_(h:ip w p g o B c G)(a:i<p.P.length):∃b q,B i=some ⟨b,q,none⟩/\b∈G/\∀k,k<p.W*p.H->w.cell? ⟨b,q+k,none⟩=some (.int .i64 ((p.P.getD i []).getD k 0)):=by
 have f:=h.len a;obtain⟨b,q,e,s,r⟩:=(h.cells i a).ex (by rw[f];exact h.ok.pos);refine⟨b,q,e,h.blk i a _ e,λk hk=>?_⟩;refine r k _ ?_;rw[zD (l:=p.P.getD i []),zF (by rw[f];exact hk)];rfl
end
end Go.Proofs.YtifdlkoepaepiaaGreatDoor
