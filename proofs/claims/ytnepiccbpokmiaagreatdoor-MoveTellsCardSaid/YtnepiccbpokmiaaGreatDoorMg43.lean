/- Lemmas. -/
import Derived.Test.YtnepiccbpokmiaaGreatDoorMg42
import Derived.Test.YtnepiccbpokmiaaGreatDoorRows
import Derived.ProofKit
import Derived.LaidMore
import Derived.OpenShut
import Derived.Stop.Joined
import Derived.Deep.Slices
import Derived.Deep.Fields
import Derived.ChangeOld
import Derived.Below
set_option linter.all false
set_option maxRecDepth 100000
namespace Go.Proofs.YtnepiccbpokmiaaGreatDoor
open List Nat Go.ChangeShapes Go.WideShapes Go.ChangeAt Go.RowKit Go.Deep
variable {cap len:Nat}{A:Option Addr}
theorem own:ownKnob Tryz.prog.godebug=none:=by kernel_rfl
theorem uT:laidOutB Tryz.prog=true:=by kernel_rfl
def tr:List (String × DataW Unit):= [("kinora/match.points", Rows.laid_kinora_match_points)]
theorem OU:Tryz.prog.globalNamed "kinora/match.points" = some 0:= by kernel_rfl
theorem OW:(Tryz.prog.globals[0]?).map (·.type)=some 258:=by kernel_rfl
def rz(p:Int × Int):DataW Unit:=.agg [.lit (.int .i64 p.1),.lit (.int .i64 p.2)]
theorem Mu:(Rows.laid_kinora_match_points:DataW Unit)=.agg (mq.map rz):=rfl
theorem GZ{w:World}{fuel:Nat}{spare:Nat->Bool}{held:Bool}{f:List Value}{p:Int × Int}{ps:List MemPlace}(h:DataW.trod (λ_=>()) Tryz.prog w 0 spare held fuel 48 f=some (rz p,ps)):f=[.int .i64 p.1,.int .i64 p.2]:=by
 obtain⟨o,m,rfl,c,g,n,i⟩:=DataW.trod_array Tryz.underlying48 h;have c1:Tryz.prog.cellsOf 3=1:=by kernel_rfl
 have c2:Tryz.prog.cellsOf 48=2:=by kernel_rfl
 rw[c2]at g;have d:=i 0 (by decide);have e:=i 1 (by decide);rw[c1]at d e
 match o,n,c,d,e with
 | [x0,x1],_,c,d,e=>
  simp only[map_cons,map_nil,rz,Prod.mk.injEq,DataW.agg.injEq,List.cons.injEq,and_true]at c
  match f,g,d,e with
  | [a,b],_,d,e=>
   obtain⟨q,j,l,_⟩:=DataW.trod_int Tryz.underlying3 (show DataW.trod _ Tryz.prog w 0 _ _ m 3 [a]=some x0 from d);obtain⟨k1,k,f1,_⟩:=DataW.trod_int Tryz.underlying3 (show DataW.trod _ Tryz.prog w 0 _ _ m 3 [b]=some x1 from e);rw[l,f1]at c;simp at c j k;rw[j,k,c.1.1,c.1.2]
theorem Ik{W:World}(h:laidMetH Tryz.prog tr W):jJ W:=by
 rw[MakeChecks.laidMetH_plain _ _ _ (by kernel_rfl)]at h;obtain⟨ps,⟨C,F,ad,B,D,E,f,r,s,e,_,_⟩,_,_⟩:=h;obtain rfl:=Option.some.inj (OU.symm.trans f);obtain rfl:=Option.some.inj (OW.symm.trans r);rw[Mu]at e;obtain⟨a,m,rfl,z,l,y,o⟩:=DataW.trod_array Tryz.underlying258 e;have c2:Tryz.prog.cellsOf 48=2:=by kernel_rfl
 have n:Tryz.prog.cellsOf 258=48:=by kernel_rfl
 rw[n]at l;have x:a.map (·.1)=mq.map rz:=by
  have:=congrArg Prod.fst z
  simpa using this.symm
 have b:∀i,W.cell? ⟨0,i,none⟩=ad.toList[i]?:=λi=>by
  have:=World.var?_cell f s i
  rw[this];simp
 have c:∀i,i<24->(ad.toList.drop (i*2)).take 2=[.int .i64 (mK i),.int .i64 (m8 i)]:=λi hi=>by
  have d:=o i hi;rw[c2]at d;have g:i<a.length:=by rw[y];exact hi
  rw[zF g]at d;have u:(a[i]).1=rz (mq.getD i (0,0)):=by
   have k:(a.map (·.1))[i]?=(mq.map rz)[i]?:=(by rw[x]);have j:i<mq.length:=(by simpa[mq]using hi);rw[zW,zW,zF g,zF j]at k;rw[zD,zF j]
   simpa using k
  have v:=GZ (p:=mq.getD i (0,0)) (ps:=(a[i]).2) (by rw[d,<-u]);exact v
 have q:0<W.heap.size:=by
  have t:=c 0 (by decide)
  have:W.cell? ⟨0,0,none⟩=some (.int .i64 (mK 0)):=by
   rw[b]
   have:=congrArg (·[0]?) t
   simpa using this
  exact World.block_lt_of_cell? W _ this
 refine⟨λi hi=>?_,λi hi=>?_,q⟩
 .rw[b]
  have:=congrArg (·[0]?) (c i hi)
  simpa[getElem?_take,getElem?_drop]using this
 .rw[b]
  have:=congrArg (·[1]?) (c i hi)
  simpa[getElem?_take,getElem?_drop]using this
noncomputable def Fg(os:Os):World:=
 let w0:=World.holding Tryz.prog os ⟨#[],#[],[]⟩
 { w0 with heap:=w0.heap.modify 0 fun
   | .cells _ t frozen=>.cells (mq.flatMap λp=>[Value.int .i64 p.1,.int .i64 p.2]).toArray t frozen
   | o=>o }
theorem Ij(os:Os)(a:Array Value):laidMetH Tryz.prog tr ((Fg os).forCall (λ_ _=>0) ⟨#[],a,[]⟩).memory:=by
 rw[MakeChecks.laidMetH_plain _ _ _ (by kernel_rfl)];exact laidMet_of_run' 8 (by kernel_rfl) (by kernel_rfl)
section
variable {H:Type} {enc:TypeId × Value->H} {w:World} {base:Nat} {spare:Nat->Bool} {held:Bool} {fuel:Nat}
theorem Gu{α:Type}[Inhabited α]{f:α->Value}{t e:TypeId}(N:Tryz.prog.underlying t=some (.slice e))(J:Tryz.prog.cellsOf e=1)(d:∀(fuel:Nat) (q:List Value) (x:DataW H × List MemPlace),DataW.trod enc Tryz.prog w base spare held fuel e q=some x->∃a,q=[f a]){x:DataW H × List MemPlace}(h:DataW.trod enc Tryz.prog w base spare held fuel t [.slice A len cap]=some x):len<=cap/\cap<=9223372036854775807/\∃l:List α,l.length=len/\gu f w A l:=by
 rcases open_slice N h with⟨c,_⟩|⟨a,Q,P,m,n,D,O,c,T,L,M,C,U,hi⟩
 .simp at c
  obtain⟨rfl,rfl,rfl⟩:=c;exact⟨zQ _,by omega,[],rfl,⟨λh0=>by simp at h0⟩⟩
 .simp at c
  obtain⟨rfl,rfl,rfl⟩:=c;have S:len<=m:=by rw[C];split<;>omega
  have z:∀i,∃y:α,i<len->w.cell? (a.add i)=some (f y):=by
   intro i;by_cases j:i<len
   .obtain⟨R,K,E⟩:=hi i (by omega)
    obtain⟨y,rfl⟩:=d _ _ _ E;refine⟨y,λ_=>?_⟩;obtain⟨_,_,k⟩:=World.cells?_some K;rw[J]at k
    have:=k 0 (by omega)
    rw[Nat.mul_one]at this;have F:(a.add i).add 0=a.add i:=by
     unfold Addr.add;by_cases e1:i=0<;>simp[e1]
    rw[F]at this
    simpa using this
   .exact⟨default,λh0=>absurd h0 j⟩
  obtain⟨g,u⟩:=Classical.axiomOfChoice z;refine⟨L,by simpa[maxLen]using M,(range len).map g,by simp,⟨λh0=>?_⟩⟩;have B:0<len:=by simpa using h0
  obtain⟨b,o,ad⟩:=a;have s:=u 0 B;have v:ad=none:=by simpa[Addr.add]using World.cell?_spot s
  subst v;have p:=World.block_lt_of_cell? w _ s;have r:∀i,(⟨b,o,none⟩:Addr).add i=⟨b,o+i,none⟩:=λi=>by
   unfold Addr.add;by_cases e1:i=0<;>simp[e1]
  rw[r]at p;refine⟨b,o,rfl,p,λi y hy=>?_⟩;have j:i<len:=by
   have:=(List.getElem?_eq_some_iff.1 hy).1
   simpa using this
  have G:y=g i:=by
   rw[zW,getElem?_range j]at hy
   simpa using hy.symm
  subst G;have I:=u i j
  rwa [r]at I
theorem AT{x:DataW H × List MemPlace}(h:DataW.trod enc Tryz.prog w base spare held fuel 22 [.slice A len cap]=some x):len<=cap/\cap<=9223372036854775807/\∃l:List Int,l.length=len/\gu vi w A l/\∀x∈l,mX x:=by
 haveI:Inhabited {x:Int // mX x}:=⟨⟨0,by unfold mX;omega⟩⟩
 have q:Tryz.prog.cellsOf 3=1:=by kernel_rfl
 obtain⟨j,m,l,n,p⟩:=Gu (α:={x:Int // mX x}) (f:=λy=>vi y.1) Tryz.underlying22 q (λfuel cs x ht=>by
  obtain⟨k,e,_,r⟩:=DataW.trod_int Tryz.underlying3 ht;exact⟨⟨k,bounds_i64 r⟩,e⟩) h
 refine⟨j,m,l.map (·.1),by simpa using n,⟨λh0=>?_⟩,λx hx=>?_⟩
 .obtain⟨b,o,c,d,g⟩:=p.ex (by simpa using h0)
  refine⟨b,o,c,d,λi a ha=>?_⟩;rw[zW]at ha
  cases hq:l[i]? with
  | none=>rw[hq]at ha;simp at ha
  | some y=>
   rw[hq]at ha;simp at ha;rw[g i y hq,ha]
 .obtain⟨y,_,rfl⟩:=List.mem_map.1 hx
  exact y.2
end
end Go.Proofs.YtnepiccbpokmiaaGreatDoor
