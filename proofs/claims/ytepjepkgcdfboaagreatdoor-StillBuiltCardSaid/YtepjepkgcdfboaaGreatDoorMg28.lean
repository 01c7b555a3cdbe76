/- The laid points as a premise of a row, a world that meets it, and arguments as data: slices of int. -/
import Derived.Test.YtepjepkgcdfboaaGreatDoorMg27
import Derived.Test.YtepjepkgcdfboaaGreatDoorRows
import Derived.ProofKit
import Derived.LaidMore
import Derived.OpenShut
import Derived.Stop.Joined
import Derived.Deep.Slices
import Derived.Deep.Fields
import Derived.ChangeOld
import Derived.Below
set_option linter.unusedVariables false
set_option linter.unusedSimpArgs false
set_option maxRecDepth 100000
namespace Go.Proofs.YtepjepkgcdfboaaGreatDoor
open Go.ChangeShapes Go.WideShapes Go.ChangeAt Go.RowKit Go.Deep
theorem own:ownKnob Tryz.prog.godebug=none:=by kernel_rfl
theorem e3e:laidOutB Tryz.prog=true:=by kernel_rfl
def c1i : List (String × DataW Unit) := [("kinora/match.points", Rows.laid_kinora_match_points)]
theorem f5a : Tryz.prog.globalNamed "kinora/match.points" = some 0 := by kernel_rfl
theorem f5c:(Tryz.prog.globals[0]?).map (·.type)=some 283:=by kernel_rfl
def b7g (p:Int × Int):DataW Unit:=.agg [.lit (.int .i64 p.1),.lit (.int .i64 p.2)]
theorem e8k:(Rows.laid_kinora_match_points:DataW Unit)=.agg (b0x.map b7g):=rfl
theorem d1h {w:World} {fuel:Nat} {spare:Nat->Bool} {held:Bool} {cs:List Value} {p:Int × Int} {ps:List MemPlace} (h:DataW.trod (fun _=>()) Tryz.prog w 0 spare held fuel 155 cs=some (b7g p,ps)) :
  cs=[.int .i64 p.1,.int .i64 p.2]:=by
 obtain ⟨xs,m,rfl,hx,aa,hn,ab⟩:=DataW.trod_array Tryz.underlying155 h
 have c1:Tryz.prog.cellsOf 3=1:=by kernel_rfl
 have c2:Tryz.prog.cellsOf 155=2:=by kernel_rfl
 rw [c2] at aa
 have h0:=ab 0 (by decide)
 have h1:=ab 1 (by decide)
 rw [c1] at h0 h1
 match xs,hn,hx,h0,h1 with
 | [x0,x1],_,hx,h0,h1 =>
  simp only [List.map_cons,List.map_nil,b7g,Prod.mk.injEq,DataW.agg.injEq,List.cons.injEq,and_true] at hx
  match cs,aa,h0,h1 with
  | [a,b],_,h0,h1 =>
   obtain ⟨k0,e0,f0,_⟩:=DataW.trod_int Tryz.underlying3 (show DataW.trod _ Tryz.prog w 0 _ _ m 3 [a]=some x0 from h0)
   obtain ⟨k1,e1,f1,_⟩:=DataW.trod_int Tryz.underlying3 (show DataW.trod _ Tryz.prog w 0 _ _ m 3 [b]=some x1 from h1)
   rw [f0,f1] at hx
   simp at hx e0 e1
   rw [e0,e1,hx.1.1,hx.1.2]
theorem d4g {W:World} (h:laidMetH Tryz.prog c1i W):Pts W:=by
 rw [MakeChecks.laidMetH_plain _ _ _ (by kernel_rfl)] at h
 obtain ⟨ps,⟨g0,t0,ah,f0,p0,q0,af,al,aj,ae,_,_⟩,_,_⟩:=h
 obtain rfl:=Option.some.inj (f5a.symm.trans af)
 obtain rfl:=Option.some.inj (f5c.symm.trans al)
 rw [e8k] at ae
 obtain ⟨xs,m,rfl,hx,ac,hn,ai⟩:=DataW.trod_array Tryz.underlying283 ae
 have c2:Tryz.prog.cellsOf 155=2:=by kernel_rfl
 have ak:Tryz.prog.cellsOf 283=48:=by kernel_rfl
 rw [ak] at ac
 have hm:xs.map (·.1)=b0x.map b7g:=by
  have:=congrArg Prod.fst hx
  simpa using this.symm
 have ab:∀ i,W.cell? ⟨0,i,none⟩=ah.toList[i]?:=fun i=>by
  have:=World.var?_cell af aj i
  rw [this]
  simp
 have aa:∀ i,i<24->(ah.toList.drop (i*2)).take 2=[.int .i64 (ptX i),.int .i64 (ptY i)]:=fun i hi=>by
  have h1:=ai i hi
  rw [c2] at h1
  have ag:i<xs.length:=by rw [hn];exact hi
  rw [zF ag] at h1
  have h2:(xs[i]).1=b7g (b0x.getD i (0,0)):=by
   have h3:(xs.map (·.1))[i]?=(b0x.map b7g)[i]?:=by rw [hm]
   have ad:i<b0x.length:=by simpa [b0x] using hi
   rw [zW,zW,zF ag,zF ad] at h3
   rw [zD,zF ad]
   simpa using h3
  have h4:=d1h (p:=b0x.getD i (0,0)) (ps:=(xs[i]).2) (by rw [h1,<-h2])
  exact h4
 have am:0<W.heap.size:=by
  have h0:=aa 0 (by decide)
  have:W.cell? ⟨0,0,none⟩=some (.int .i64 (ptX 0)):=by
   rw [ab]
   have:=congrArg (·[0]?) h0
   simpa using this
  exact World.block_lt_of_cell? W _ this
 refine ⟨fun i hi => ?_,fun i hi => ?_,am⟩
 ·rw [ab]
  have:=congrArg (·[0]?) (aa i hi)
  simpa [List.getElem?_take,List.getElem?_drop] using this
 ·rw [ab]
  have:=congrArg (·[1]?) (aa i hi)
  simpa [List.getElem?_take,List.getElem?_drop] using this
noncomputable def e4x (os:Os):World :=
 let w0:=World.holding Tryz.prog os ⟨#[],#[],[]⟩
 { w0 with heap:=w0.heap.modify 0 fun
   | .cells _ t frozen => .cells (b0x.flatMap fun p=>[Value.int .i64 p.1,.int .i64 p.2]).toArray t frozen
   | o=>o }
theorem d4f (os:Os) (args:Array Value):laidMetH Tryz.prog c1i ((e4x os).forCall (fun _ _=>0) ⟨#[],args,[]⟩).memory:=by
 rw [MakeChecks.laidMetH_plain _ _ _ (by kernel_rfl)]
 exact laidMet_of_run' 8 (by kernel_rfl) (by kernel_rfl)
section
variable {H:Type} {enc:TypeId × Value->H} {w:World} {base:Nat} {spare:Nat->Bool} {held:Bool} {fuel:Nat}
theorem c6j {α:Type} [Inhabited α] {f:α->Value} {t e:TypeId} (ht:Tryz.prog.underlying t=some (.slice e)) (hC:Tryz.prog.cellsOf e=1)
  (hone:∀ (fuel:Nat) (cs:List Value) (x:DataW H × List MemPlace),DataW.trod enc Tryz.prog w base spare held fuel e cs=some x->∃ a,cs=[f a])
  {A:Option Addr} {len cap:Nat} {x:DataW H × List MemPlace} (h:DataW.trod enc Tryz.prog w base spare held fuel t [.slice A len cap]=some x) :
  len<=cap/\cap<=9223372036854775807/\∃ l:List α,l.length=len/\a0d f w A l:=by
 rcases open_slice ht h with ⟨ab,_⟩ | ⟨a,aj,al,m,n,D,Pl,ab,hb,hl,hm,ak,hx,hi⟩
 ·simp at ab
  obtain ⟨rfl,rfl,rfl⟩:=ab
  exact ⟨zQ _,by omega,[],rfl,⟨fun h0=>by simp at h0⟩⟩
 ·simp at ab
  obtain ⟨rfl,rfl,rfl⟩:=ab
  have am:len<=m:=by rw [ak];split<;>omega
  have ai:∀ i,∃ y:α,i<len->w.cell? (a.add i)=some (f y):=by
   intro i
   by_cases ac:i<len
   ·obtain ⟨an,hc,ah⟩:=hi i (by omega)
    obtain ⟨y,rfl⟩:=hone _ _ _ ah
    refine ⟨y,fun _ => ?_⟩
    obtain ⟨_,_,ae⟩:=World.cells?_some hc
    rw [hC] at ae
    have:=ae 0 (by omega)
    rw [Nat.mul_one] at this
    have e0:(a.add i).add 0=a.add i:=by
     unfold Addr.add
     by_cases e1:i=0<;>simp [e1]
    rw [e0] at this
    simpa using this
   ·exact ⟨default,fun h0=>absurd h0 ac⟩
  obtain ⟨g,hg⟩:=Classical.axiomOfChoice ai
  refine ⟨hl,by simpa [maxLen] using hm,(List.range len).map g,by simp,⟨fun h0 => ?_⟩⟩
  have ag:0<len:=by simpa using h0
  obtain ⟨b,o,ad⟩:=a
  have h1:=hg 0 ag
  have aa:ad=none:=by simpa [Addr.add] using World.cell?_spot h1
  subst aa
  have af:=World.block_lt_of_cell? w _ h1
  have eb:∀ i,(⟨b,o,none⟩:Addr).add i=⟨b,o+i,none⟩:=fun i=>by
   unfold Addr.add
   by_cases e1:i=0<;>simp [e1]
  rw [eb] at af
  refine ⟨b,o,rfl,af,fun i y hy => ?_⟩
  have ac:i<len:=by
   have:=(List.getElem?_eq_some_iff.1 hy).1
   simpa using this
  have ea:y=g i:=by
   rw [zW,List.getElem?_range ac] at hy
   simpa using hy.symm
  subst ea
  have h2:=hg i ac
  rwa [eb] at h2
theorem d0s {A:Option Addr} {len cap:Nat} {x:DataW H × List MemPlace} (h:DataW.trod enc Tryz.prog w base spare held fuel 22 [.slice A len cap]=some x) :
  len<=cap/\cap<=9223372036854775807/\∃ l:List Int,l.length=len/\a0d vi w A l/\∀ x∈l,c9b x:=by
 haveI:Inhabited {x:Int // c9b x}:=⟨⟨0,by unfold c9b;omega⟩⟩
 have hC:Tryz.prog.cellsOf 3=1:=by kernel_rfl
 obtain ⟨h1,h2,l,h3,h4⟩:=c6j (α:={x:Int // c9b x}) (f:=fun y=>vi y.1) Tryz.underlying22 hC (fun fuel cs x ht=>by
  obtain ⟨k,e,_,hw⟩:=DataW.trod_int Tryz.underlying3 ht
  exact ⟨⟨k,bounds_i64 hw⟩,e⟩) h
 refine ⟨h1,h2,l.map (·.1),by simpa using h3,⟨fun h0 => ?_⟩,fun x hx => ?_⟩
 ·obtain ⟨b,o,e1,e2,e3⟩:=h4.ex (by simpa using h0)
  refine ⟨b,o,e1,e2,fun i a ha => ?_⟩
  rw [zW] at ha
  cases hq:l[i]? with
  | none=>rw [hq] at ha;simp at ha
  | some y =>
   rw [hq] at ha
   simp at ha
   rw [e3 i y hq,ha]
 ·obtain ⟨y,_,rfl⟩:=List.mem_map.1 hx
  exact y.2
end
end Go.Proofs.YtepjepkgcdfboaaGreatDoor
