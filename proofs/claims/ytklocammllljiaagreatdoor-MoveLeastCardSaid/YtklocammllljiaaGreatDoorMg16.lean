/- guess.Best, Fore by their contracts. -/
import Derived.Test.YtklocammllljiaaGreatDoorMg04
set_option linter.unusedVariables false
set_option linter.unusedSimpArgs false
set_option maxHeartbeats 4000000
set_option maxRecDepth 100000
namespace Go.Proofs.YtklocammllljiaaGreatDoor
open Go.RowKit
def bkI (l:List Int) (W d y:Nat):Int:=((bestUp l W y d 9:Nat):Int)
theorem bestKinds_vi (l:List Int) (W H d:Nat):((List.range H).map (bkI l W d)).map vi=(bestKinds l W H d).map i64:=by
 unfold bestKinds
 rw [List.map_map,List.map_map]
 rfl
theorem fillL_set0 (done:List Int) (n:Nat):(fillL done n).set done.length 0=fillL done n:=by
 unfold fillL
 rw [List.set_append_right _ _ (zQ _),Nat.sub_self]
 congr 1
 rcases Nat.eq_zero_or_pos (n-done.length) with h | h
 ·rw [h];rfl
 ·obtain ⟨k,hk⟩:∃ k,n-done.length=k+1:=⟨n-done.length-1,by omega⟩
  rw [hk]
  rfl
theorem gbest_ok (l:List Int) (A:Option Addr) (cap W H d:Nat) (w:World) (hw0:1<=W) (hw1:W<=64) (hh0:1<=H) (hh1:H<=64) (h0:1<=d) (h1:d<=16) (hl:l.length=W*H) (hs:SmpOk d l) (hc:Cells vi w A l) :
  Calls Tryz.prog 170 #[.slice A l.length cap,.int .i64 W,.int .i64 H,.int .i64 d] w fun e w'=>∃ v G,e=.returned v/\Own w' 3 v G ((bestKinds l W H d).map i64)/\Chg [] w w'/\∀ x∈G,w.heap.size<=x:=by
 have bb:=run_make1 (P:=Tryz.prog) int_elem rfl .i64 .i64 H (by omega) (by omega)
 have aI:=isPlane_yes l A cap W H d w hw0 hw1 hh0 hh1 h0 h1 hl hs hc
 have an:=fun y (hy:y<H) k (hk:k<10) w hc=>row_ok l A cap W H y d k w hw0 hw1 hh1 hy h0 h1 hk hl hs hc
 have aY:=fun y k A cap w hc=>weight_ok (rowL l W y d k) A cap d w h0 h1 (by rw [rowL_len];omega) hc
 obtain ⟨m,hm⟩:=zX (l.length)
 rw [<-hm] at an aI ⊢
 have HR:=hid an
 have aU:=hid aY
 have HM:=hid hm
 clear an aY hm hl hs
 go_enter Tryz.func170,Tryz.ntmps170
 go_wp2_with (go_at_call 216;refine aI.mono ?_;rintro e w' ⟨rfl,rfl⟩)
 have ad:=Row.zeros w H (by omega)
 obtain ⟨B,hB⟩:=zX (w.heap.size)
 rw [<-hB] at ad ⊢
 have HB:=hid hB
 have aM:Chg [] w (w.alloc (.cells (List.replicate H (Value.int .i64 0)).toArray 3)):=(zR [] w).alloc _
 clear hB aI
 go_loopg [24] H (fun j iv wr=>∃ done:List Int,iv=.int .i64 done.length/\done.length+j=H/\Hid (done=(List.range done.length).map (bkI l W d))/\Row wr 3 (.slice (some ⟨B,0,none⟩) H H) B ((fillL done H).map vi)/\Chg [] w wr)
 case atStart=>exact ⟨[],rfl,by simp,hid (by simp),ad,aM⟩
 case round =>
  obtain ⟨done,rfl,aC,Hd,aF,aK⟩:=hrel
  clear ad aM
  obtain ⟨m1,aj⟩:=zX (done.length)
  rcases gk with _ | j
  ·rw [<-aj] at aC ⊢
   obtain rfl:m1=H:=by omega
   have t1:decide ((m1:Int)<(m1:Int))=false:=by simp
   have aq:=hid aj
   clear aj aC
   go_wp2
   go_ret
   refine ⟨_,[B],rfl,?_,aK,fun x hx=>by have:=HB.out;simp at hx;omega⟩
   have e:fillL done m1=(List.range m1).map (bkI l W d):=by
    rw [fillL_full aq.out.symm,Hd.out,<-aq.out]
   rw [<-bestKinds_vi,<-e]
   exact aF.toOwn
  ·have af:done++[bkI l W d m1]=(List.range (m1+1)).map (bkI l W d):=by
    rw [List.range_succ,zM,aj,<-Hd.out]
    rfl
   have ac:=fillL_set0 done H
   have ak:=fillL_set (done:=done) (n:=H) (by omega) (bkI l W d m1)
   have au:=fillL_len (done:=done) (n:=H) (by omega)
   rw [<-aj] at aC ac ak ⊢
   have aG:m1<H:=by omega
   have ba:=hid af
   have aJ:=hid ak
   have aO:=hid au
   have aq:=hid aj
   have a3:=hid aC
   have aL:=hc.same aK
   have aT:=HR.out m1 aG 0 (by omega) wr aL
   rw [<-ac] at aF
   clear af ak ac au aj aC aL
   go_wp2_with fail
   refine aT.mono ?_
   rintro e w1 ⟨v1,G1,rfl,ab,aN,bd⟩
   have al:=aU.out m1 0
   have aW:=bestUp_le l W m1 d
   obtain ⟨r0,am⟩:=zX (rowL l W m1 d 0)
   rw [<-am] at ab al
   obtain ⟨A1,c1,rfl,-,-,aB⟩:=ab.open_map
   have az:=al A1 c1 w1 aB
   have a2:=hid am
   clear aT al am
   go_wp2_with fail
   refine az.mono ?_
   rintro e bf ⟨rfl,rfl⟩
   have aw:Chg [] w w1:=aK.trans_same aN
   have aA:=aF.chg aN (by simp)
   have bc:=hid aW
   clear ab aB az aW aF
   go_wp2_with fail
   go_loopg [11,12] 9 (fun q lv kv wx=>q<=9/\kv=.int .i64 ((10-q:Nat):Int)/\lv=.int .i64 (weightI (rowL l W m1 d (bestUp l W m1 d (9-q))) d)/\Row wx 3 (.slice (some ⟨B,0,none⟩) H H) B (((fillL done H).set m1 ((bestUp l W m1 d (9-q):Nat):Int)).map vi)/\Chg [] w wx)
   case atStart=>exact ⟨zQ _,rfl,by rw [a2.out];rfl,aA,aw⟩
   case round =>
    obtain ⟨hq,rfl,rfl,ah,ae⟩:=hrel
    clear aA aw
    rcases gk with _ | q
    ·have t2:decide (((10-0:Nat):Int)<(10:Int))=false:=by simp
     rw [Nat.sub_zero] at ah
     go_wp2
     go_roundg j
     case measure=>omega
     case rel =>
      refine ⟨done++[bkI l W d m1],?_,?_,hid ?_,?_,ae⟩
      ·rw [zC,List.length_singleton,<-aq.out];go_num
      ·rw [zC,List.length_singleton,<-aq.out];have:=a3.out;omega
      ·rw [zC,List.length_singleton,<-aq.out]
       exact ba.out
      ·rw [<-aJ.out]
       exact ah
    ·obtain ⟨k,hk⟩:=zX (9-(q+1))
     rw [<-hk] at ah ⊢
     have aR:10-(q+1)=k+1:=by omega
     have aP:9-q=k+1:=by omega
     have aZ:10-q=k+2:=by omega
     have a0:k+1<10:=by omega
     rw [aR]
     have aX:=hid aP
     have aS:=hid aZ
     have ar:bestUp l W m1 d (k+1)=if weightI (rowL l W m1 d (k+1)) d<weightI (rowL l W m1 d (bestUp l W m1 d k)) d then k+1 else bestUp l W m1 d k:=rfl
     have aH:=HR.out m1 aG (k+1) a0 wr (hc.same ae)
     have aE:=aU.out m1 (k+1)
     have av:((k+1:Nat):Int)=(k:Int)+1:=by omega
     rw [av] at aH ⊢
     obtain ⟨r1,ap⟩:=zX (rowL l W m1 d (k+1))
     rw [<-ap] at aH aE ar
     obtain ⟨b,hb⟩:=zX (bestUp l W m1 d k)
     rw [<-hb] at ar ah ⊢
     obtain ⟨t,ht⟩:=zX (weightI (rowL l W m1 d b) d)
     rw [<-ht] at ar ⊢
     obtain ⟨s,hs⟩:=zX (weightI r1 d)
     rw [<-hs] at aE ar
     have aQ:=hid ar
     have bg:=hid hb
     have HT:=hid ht
     have a8:=hid hs
     have a6:=hid ap
     obtain ⟨_,ao,_⟩:=ah.open_
     have au:=aO.out
     have aV:∀ w',Chg [] wr w'->w'.cell? ⟨B,m1,none⟩=some (.int .i64 b)/\w'.frozen? ⟨B,m1,none⟩=false:=fun w' h'=>by
      obtain ⟨a4,h2,h3,h4,h5,h6⟩:=(ah.chg h' (by simp)).open_map
      refine ⟨h5 m1 (b:Int) ?_,h6 m1⟩
      rw [List.getElem?_set_self (by rw [au];exact aG)]
     have a9:=hid aV
     clear ar hb ht hs ap hk aR aP aZ au aV ao
     go_wp2_with fail
     refine aH.mono ?_
     rintro e w2 ⟨v2,G2,rfl,ag,ax,be⟩
     obtain ⟨A2,c2,rfl,-,-,aD⟩:=ag.open_map
     have ay:=aE A2 c2 w2 aD
     obtain ⟨a1,a7⟩:=a9.out w2 ax
     clear aH aE ag aD
     by_cases hlt:s<t
     ·have t3:decide (s<t)=true:=zB hlt
      have aa:=aQ.out
      rw [if_pos hlt] at aa
      have ai:=hid aa
      clear aa hlt
      go_wp2_with fail
      refine ay.mono ?_
      rintro e a5 ⟨rfl,rfl⟩
      go_wp2_with fail
      go_roundg q
      case measure=>omega
      case rel =>
       rw [aX.out,aS.out,ai.out,<-a6.out,<-a8.out]
       have h1:=(ah.chg ax (by simp)).set_ (i:=m1) (by rw [zE,List.length_set,aO.out];exact aG) (vi ((k+1:Nat):Int))
       rw [<-List.map_set,List.set_set] at h1
       refine ⟨by omega,by go_num,rfl,?_,(ae.trans_same ax).setCell (.inr (by have:=HB.out;simp;omega)) _⟩
       have e7:vi ((k+1:Nat):Int)=.int .i64 ((k:Int)+1):=by unfold vi;go_num
       rw [e7] at h1
       exact h1
     ·have t3:decide (s<t)=false:=zA hlt
      have aa:=aQ.out
      rw [if_neg hlt] at aa
      have ai:=hid aa
      clear aa hlt
      go_wp2_with fail
      refine ay.mono ?_
      rintro e a5 ⟨rfl,rfl⟩
      go_wp2_with fail
      go_roundg q
      case measure=>omega
      case rel =>
       rw [aX.out,aS.out,ai.out,<-HT.out]
       exact ⟨by omega,by go_num,rfl,ah.chg ax (by simp),ae.trans_same ax⟩
theorem Row.room (w:World) (n:Nat) (h:n<=1048576):Row (w.alloc (.cells (List.replicate n (Value.int .i64 0)).toArray 3)) 3 (.slice (some ⟨w.heap.size,0,none⟩) 0 n) w.heap.size [] :=
 ⟨n,_,rfl,Blk.new w _ _,Nat.zero_le _,by simp [maxLen];omega,by simp,by simp⟩
theorem run_make_room {P:Program} {t e:TypeId} {z:Value} {bytes:Nat} (E:Elem P t e z 1 bytes) (hzs:z.cells=#[z]) (kl kc:IntKind) (n:Nat) (hb:bytes*n<=281474976710656) (h63:n<=9223372036854775807) (w:World) :
  (Instr.makeSlice t (.int kl 0) (.int kc (n:Int))).run P w=.ok (.slice (some ⟨w.heap.size,0,none⟩) 0 n) (w.alloc (.cells (List.replicate n z).toArray e)):=by
 obtain ⟨i,hi,hz,aa,ab⟩:=E.hi
 subst ab
 have ac:(i.bytes:Int)*(n:Int)<=281474976710656:=by
  have h:((i.bytes*n:Nat):Int)<=281474976710656:=by omega
  rwa [Int.natCast_mul] at h
 have hr:=run_make (P:=P) w t e i z E.ht hi hz kl kc 0 n (by omega) (by omega) ac (by omega)
 rw [hr,aa,hzs]
 simp only [Int.toNat_natCast,Nat.mul_one]
 have:madeCells #[z] n=(List.replicate n z).toArray:=by
  apply Array.toList_inj.1
  rw [toList_madeCells_one]
 rw [this]
 rfl
theorem gfore_ok (l:List Int) (A:Option Addr) (cap W H d:Nat) (ks:List Nat) (Ak:Option Addr) (capk:Nat) (w:World) (hw0:1<=W) (hw1:W<=64) (hh0:1<=H) (hh1:H<=64) (h0:1<=d) (h1:d<=16) (hl:l.length=W*H) (hs:SmpOk d l) (hc:Cells vi w A l)
  (hkl:ks.length=H) (hks:∀ k∈ks,k<10) (hck:Cells i64 w Ak ks) :
  Calls Tryz.prog 171 #[.slice A l.length cap,.int .i64 W,.int .i64 H,.int .i64 d,.slice Ak ks.length capk] w fun e w'=>∃ v G,e=.returned (.tuple #[v,.int .i64 0])/\Own w' 3 v G ((foreL l W H d ks).map vi)/\Chg [] w w'/\∀ x∈G,w.heap.size<=x:=by
 have aF:l.length<=4096:=by rw [hl];exact zL hw1 hh1
 have az:=run_make_room (P:=Tryz.prog) int_elem rfl .i64 .i64 l.length (by omega) (by omega)
 have aj:=isPlane_yes l A cap W H d w hw0 hw1 hh0 hh1 h0 h1 hl hs hc
 have ao:=areKinds_yes ks Ak capk w hks (by omega) hck
 rw [hkl] at ao
 have af:=fun y (hy:y<H) k (hk:k<10) w hc=>row_ok l A cap W H y d k w hw0 hw1 hh1 hy h0 h1 hk hl hs hc
 obtain ⟨m,hm⟩:=zX (l.length)
 rw [<-hm] at af aj az aF ⊢
 rw [hkl]
 have HR:=hid af
 have aC:=hid hks
 have HM:=hid hm
 have aE:=hid hkl
 have an:=hl
 rw [<-hm] at an
 have aG:=hid an
 clear af hm hl hs hks hkl an
 go_enter Tryz.func171,Tryz.ntmps171
 go_wp2_with (first | (go_at_call 216;refine aj.mono ?_;rintro e w' ⟨rfl,rfl⟩) | (go_at_call 219;refine ao.mono ?_;rintro e w' ⟨rfl,rfl⟩))
 have ac:=(Row.room w m (by omega)).toOwn
 obtain ⟨B,hB⟩:=zX (w.heap.size)
 rw [<-hB] at ac ⊢
 have HB:=hid hB
 have aq:Chg [] w (w.alloc (.cells (List.replicate m (Value.int .i64 0)).toArray 3)):=(zR [] w).alloc _
 clear hB aj ao
 go_loopg [12,32] H (fun j ov iv wr=>∃ (out:List Int) (G:List Nat),j<=H/\iv=.int .i64 ((H-j:Nat):Int)/\Own wr 3 ov G (out.map vi)/\Hid (out=(List.range (H-j)).flatMap (fun y=>rowL l W y d (ks.getD y 0)))/\Chg [] w wr/\∀ x∈G,w.heap.size<=x)
 case atStart=>exact ⟨[],[B],zQ _,by simp,ac,hid (by simp),aq,fun x hx=>by have := HB.out;simp at hx;omega⟩
 case round =>
  obtain ⟨out,G,hj,rfl,ae,Ho,ah,hG⟩:=hrel
  obtain ⟨Ao,co,rfl,-,-,-⟩:=ae.open_map
  have HG:=hid hG
  clear hG ac aq
  rcases gk with _ | j
  ·have t4:decide (((H-0:Nat):Int)<(H:Int))=false:=by simp
   go_wp2
   go_ret2
   refine ⟨_,G,rfl,?_,ah,HG.out⟩
   have e:=Ho.out
   rw [Nat.sub_zero] at e
   rw [e] at ae
   rw [e]
   exact ae
  ·obtain ⟨i,av⟩:=zX (H-(j+1))
   rw [<-av] at Ho ⊢
   have ax:i<H:=by omega
   have au:H-j=i+1:=by omega
   have HI:=hid au
   clear av au
   have ai:i<ks.length:=by rw [aE.out];exact ax
   obtain ⟨g,o,rfl,ad⟩:=(hck.same ah).at_ ai
   have hk:=aC.out _ (zG ai)
   have ay:ks.getD i 0=ks[i]:=by rw [zD,zF ai];rfl
   have aa:(List.range (i+1)).flatMap (fun y=>rowL l W y d (ks.getD y 0))=out++rowL l W i d ks[i]:=by
    rw [List.range_succ,List.flatMap_append,<-Ho.out,List.flatMap_cons,List.flatMap_nil,List.append_nil,ay]
   obtain ⟨k,ar⟩:=zX (ks[i])
   rw [<-ar] at ad hk aa
   have am:wr.cell? ⟨g,o+i,none⟩=some (.int .i64 k):=ad
   have hr:=HR.out i ax k hk wr (hc.same ah)
   have al:=rowL_len l W i d k
   obtain ⟨r,aw⟩:=zX (rowL l W i d k)
   rw [<-aw] at hr aa al
   have HS:=hid aa
   have aD:=hid al
   have aI:out.length<=4096:=by
    have aJ:=aG.out
    rw [Ho.out,flatMap_len_const _ W _ fun y _=>rowL_len _ _ _ _ _,List.length_range]
    have:=Nat.mul_le_mul_left W (show i<=H by omega)
    omega
   clear ar ai ay aa aw ad al
   go_wp2_with fail
   refine hr.mono ?_
   rintro e w1 ⟨v1,G1,rfl,ab,ak,aH⟩
   obtain ⟨A1,c1,rfl,-,-,ap⟩:=ab.open_map
   have ag:=ae.same ak
   have aB:Cells (fun u=>u) w1 A1 (r.map vi):=by
    obtain ⟨A',c',h5,_,_,h6,_⟩:=ab.open_
    injection h5 with h5
    subst h5
    exact h6
   have aA:r.length<=64:=by rw [aD.out];exact hw1
   clear hr ab ap
   go_wp2_with (at_builtin;refine wpList_append_s rfl rfl int_elem rfl rfl ag (r.map vi) r.length rfl ?c1 ?c2 ?c3 ?c4 ?c5 ?_)
   case c1=>exact (zE _).symm
   case c2=>exact aB
   case c3=>exact vi_one _
   case c4=>rw [zE,zE];omega
   case c5=>rw [zE,zE];omega
   intro v' F' w2 h2 h3
   go_wp2_with fail
   go_roundg j
   case measure=>omega
   case rel =>
    rw [HI.out]
    refine ⟨out++r,F',by omega,by go_num,?_,hid HS.out.symm,(ah.trans_same ak).trans h3.chg fun x hx => .inr (HG.out x hx),fun x hx => ?_⟩
    ·rw [zM]
     exact h2
    ·rcases h3.new x hx with h9 | h9
     ·exact HG.out x h9
     ·have:=ah.size
      have:=ak.size
      omega
structure DSt where
 runs:List Nat
 dists:List Nat
 longest:Nat
structure DSt.Ok (s:DSt):Prop where
 rl:s.runs.length=1025
 dl:s.dists.length=65
 r64:∀ x∈s.runs,x<=64
 d1024:∀ x∈s.dists,x<=1024
 l64:s.longest<=64
def fillD:Nat->List Nat->Nat->Nat->List Nat
 | 0,D,_,_=>D
 | f+1,D,m,d=>fillD f (D.set (m+1) d) (m+1) d
theorem fillD_len:∀ f D m d,(fillD f D m d).length=D.length
 | 0,_,_,_=>rfl
 | f+1,D,m,d=>by rw [fillD,fillD_len,List.length_set]
theorem mem_set_le {l:List Nat} {i v B:Nat} (h:∀ x∈l,x<=B) (hv:v<=B):∀ x∈l.set i v,x<=B:=fun x hx=>by
 rcases List.mem_or_eq_of_mem_set hx with h1 | h1
 ·exact h x h1
 ·omega
theorem fillD_le {B:Nat}:∀ f D m d,(∀ x∈D,x<=B)->d<=B->∀ x∈fillD f D m d,x<=B
 | 0,_,_,_,h,_=>h
 | f+1,D,m,d,h,hd=>fillD_le f _ _ d (mem_set_le h hd) hd
def runAt (l:List Int) (at_:Nat) (rs:List Nat) (d:Nat):Nat:=if l.getD at_ 0=l.getD (at_-d) 0 then min (rs.getD d 0+1) 64 else 0
theorem runAt_le (l:List Int) (at_:Nat) (rs:List Nat) (d:Nat):runAt l at_ rs d<=64:=by
 unfold runAt
 split<;>omega
def dStep (l:List Int) (at_:Nat) (s:DSt) (d:Nat):DSt :=
 ⟨s.runs.set d (runAt l at_ s.runs d),fillD (runAt l at_ s.runs d-s.longest) s.dists s.longest d,max s.longest (runAt l at_ s.runs d)⟩
theorem dStep_ok {l:List Int} {at_ d:Nat} {s:DSt} (h:s.Ok) (hd:d<=1024):(dStep l at_ s d).Ok:=by
 have:=runAt_le l at_ s.runs d
 exact ⟨by simp [dStep,h.rl],by simp [dStep,fillD_len,h.dl],mem_set_le h.r64 this,fillD_le _ _ _ _ h.d1024 hd,by have:=h.l64;simp only [dStep];omega⟩
def dGo (l:List Int) (at_:Nat):Nat->Nat->DSt->DSt
 | 0,_,s=>s
 | f+1,d,s=>dGo l at_ f (d+1) (dStep l at_ s d)
theorem dGo_ok {l:List Int} {at_:Nat}:∀ f d s,s.Ok->d+f<=1025->(dGo l at_ f d s).Ok
 | 0,_,_,h,_=>h
 | f+1,d,s,h,hd=>dGo_ok f (d+1) _ (dStep_ok h (by omega)) (by omega)
def dStart (rs:List Nat):DSt:=⟨rs,List.replicate 65 0,0⟩
def distF (l:List Int) (at_:Nat) (rs:List Nat):DSt:=dGo l at_ (min at_ 1024) 1 (dStart rs)
def RunsOk (rs:List Nat):Prop:=rs.length=1025/\∀ x∈rs,x<=64
theorem dStart_ok {rs:List Nat} (h:RunsOk rs):(dStart rs).Ok :=
 ⟨h.1,by simp [dStart],h.2,fun x hx=>by rw [List.eq_of_mem_replicate hx];exact Nat.zero_le _,Nat.zero_le _⟩
theorem distF_ok {l:List Int} {at_:Nat} {rs:List Nat} (h:RunsOk rs):(distF l at_ rs).Ok:=dGo_ok _ _ _ (dStart_ok h) (by omega)
structure DSt.In (s:DSt) (B:Nat):Prop where
 rb:∀ x∈s.runs,x<=B
 lb:s.longest<=B
 db:∀ n,s.dists.getD n 0≠0->n<=s.longest
theorem getD_set (l:List Nat) (i v j:Nat):(l.set i v).getD j 0=if i=j/\i<l.length then v else l.getD j 0:=by
 rw [zD,zD,List.getElem?_set]
 by_cases h:i=j
 ·subst h
  by_cases h2:i<l.length
  ·simp [h2]
  ·simp [h2]
 ·simp [h]
theorem fillD_in:∀ f D m d n,(∀ n,D.getD n 0≠0->n<=m)->(fillD f D m d).getD n 0≠0->n<=m+f
 | 0,_,_,_,n,h,hn=>h n hn
 | f+1,D,m,d,n,h,hn=>by
  have:=fillD_in f (D.set (m+1) d) (m+1) d n (fun k hk=>by
   rw [getD_set] at hk
   split at hk
   ·omega
   ·have:=h k hk;omega) hn
  omega
theorem dStep_in {l:List Int} {at_ d B:Nat} {s:DSt} (h:s.In B) (hr:runAt l at_ s.runs d<=B):(dStep l at_ s d).In B:=by
 refine ⟨mem_set_le h.rb hr,?_,fun n hn => ?_⟩
 ·have:=h.lb;simp only [dStep];omega
 ·have:=fillD_in _ _ _ _ n h.db hn
  simp only [dStep]
  omega
theorem dGo_in {l:List Int} {at_ B:Nat}:∀ f d s,s.In (B+1)->(∀ k,d<=k->s.runs.getD k 0<=B)->(dGo l at_ f d s).In (B+1)
 | 0,_,_,h,_=>h
 | f+1,d,s,h,hb=>by
  have h1:=hb d (zQ _)
  have hr:runAt l at_ s.runs d<=B+1:=by
   unfold runAt
   split<;>omega
  refine dGo_in f (d+1) _ (dStep_in h hr) fun k hk => ?_
  show (s.runs.set d _).getD k 0<=B
  rw [getD_set,if_neg (by omega)]
  exact hb k (by omega)
theorem distF_in {l:List Int} {at_ B:Nat} {rs:List Nat} (h:∀ x∈rs,x<=B):(distF l at_ rs).In (B+1):=by
 have hg:∀ k,rs.getD k 0<=B:=fun k=>by
  rcases zZ k rs.length with hk | hk
  ·rw [zD,zF hk];exact h _ (zG hk)
  ·rw [zD,List.getElem?_eq_none hk];exact Nat.zero_le _
 refine dGo_in _ _ _ ⟨fun x hx=>by have:=h x hx;omega,Nat.zero_le _,fun n hn => ?_⟩ fun k _=>hg k
 exfalso
 apply hn
 show (List.replicate 65 0).getD n 0=0
 rw [zD,List.getElem?_replicate]
 split<;>rfl
structure LSt where
 costs:List Nat
 first:List Tok
 runs:List Nat
def lOne (cp at_:Nat) (D:List Nat) (n:Nat) (s:List Nat × List Tok):List Nat × List Tok :=
 if n<3\/D.getD n 0=0 then s else if s.1.getD (at_+n) 0+cp<=s.1.getD at_ 0 then (s.1.set at_ (s.1.getD (at_+n) 0+cp),s.2.set at_ ⟨n,D.getD n 0,0⟩) else s
def lPick (cp at_:Nat) (D:List Nat):Nat->Nat->List Nat × List Tok->List Nat × List Tok
 | 0,_,s=>s
 | f+1,n,s=>lPick cp at_ D f (n+1) (lOne cp at_ D n s)
def lBeg (l:List Int) (lit at_:Nat) (s:LSt):List Nat × List Tok:=(s.costs.set at_ (s.costs.getD (at_+1) 0+lit),s.first.set at_ ⟨0,0,l.getD at_ 0⟩)
def lStep (l:List Int) (lit cp at_:Nat) (s:LSt):LSt :=
 ⟨(lPick cp at_ (distF l at_ s.runs).dists 65 0 (lBeg l lit at_ s)).1,(lPick cp at_ (distF l at_ s.runs).dists 65 0 (lBeg l lit at_ s)).2,(distF l at_ s.runs).runs⟩
def lGo (l:List Int) (lit cp:Nat):Nat->LSt->LSt
 | 0,s=>s
 | k+1,s=>lGo l lit cp k (lStep l lit cp k s)
def lStart (n:Nat):LSt:=⟨List.replicate (n+1) 0,List.replicate n ⟨0,0,0⟩,List.replicate 1025 0⟩
def leastSt (l:List Int) (lit cp:Nat):LSt:=lGo l lit cp l.length (lStart l.length)
def tokAt (F:List Tok) (i:Nat):Tok:=F.getD i ⟨0,0,0⟩
def tokGo (F:List Tok) (n:Nat):Nat->Nat->List Tok
 | 0,_=>[]
 | f+1,i=>if i<n then tokAt F i::tokGo F n f (i+max (tokAt F i).len 1) else []
def leastF (l:List Int) (lit cp:Nat):List Tok:=tokGo (leastSt l lit cp).first l.length l.length 0
structure PairOk (n B:Nat) (p:List Nat × List Tok):Prop where
 cl:p.1.length=n+1
 fl:p.2.length=n
 cb:∀ x∈p.1,x<=B
 fo:∀ t∈p.2,t.ok
structure LSt.Ok (n lit k:Nat) (s:LSt):Prop where
 pair:PairOk n ((n-k)*lit) (s.costs,s.first)
 rl:s.runs.length=1025
 rb:∀ x∈s.runs,x<=64/\x<=n-k
theorem getD_le {l:List Nat} {B:Nat} (h:∀ x∈l,x<=B) (i:Nat):l.getD i 0<=B:=by
 rcases zZ i l.length with hk | hk
 ·rw [zD,zF hk];exact h _ (zG hk)
 ·rw [zD,List.getElem?_eq_none hk];exact Nat.zero_le _
theorem lOne_ok {n B cp at_:Nat} {D:List Nat} {m:Nat} {p:List Nat × List Tok} (h:PairOk n B p) (hm:m<=64) (hD:∀ x∈D,x<=1024):PairOk n B (lOne cp at_ D m p):=by
 unfold lOne
 split
 ·exact h
 ·rename_i h1
  split
  ·rename_i h2
   have h3:=getD_le h.cb at_
   have h4:=getD_le hD m
   refine ⟨by simp [h.cl],by simp [h.fl],mem_set_le h.cb (by omega),fun t ht => ?_⟩
   rcases List.mem_or_eq_of_mem_set ht with h5 | rfl
   ·exact h.fo t h5
   ·right
    rw [Tok.isCopy_iff]
    exact ⟨by simp only;omega,by simp only;omega,by simp only;omega,by simp only;omega,rfl⟩
  ·exact h
theorem lPick_ok {n B cp at_:Nat} {D:List Nat} (hD:∀ x∈D,x<=1024):∀ f m p,PairOk n B p->m+f<=65->PairOk n B (lPick cp at_ D f m p)
 | 0,_,_,h,_=>h
 | f+1,m,p,h,hm=>lPick_ok hD f (m+1) _ (lOne_ok h (by omega) hD) (by omega)
theorem lBeg_ok {l:List Int} {n lit k:Nat} {s:LSt} (h:s.Ok n lit (k+1)) (hk:k<n):PairOk n ((n-k)*lit) (lBeg l lit k s):=by
 have e:(n-k)*lit=(n-(k+1))*lit+lit:=by rw [show n-k=n-(k+1)+1 by omega,Nat.add_mul,Nat.one_mul]
 have h1:=getD_le h.pair.cb (k+1)
 rw [e]
 refine ⟨by simp [lBeg,h.pair.cl],by simp [lBeg,h.pair.fl],mem_set_le (fun x hx => ?_) (by simp only at h1;omega),fun t ht => ?_⟩
 ·have:=h.pair.cb x hx;omega
 ·rcases List.mem_or_eq_of_mem_set ht with h5 | rfl
  ·exact h.pair.fo t h5
  ·left
   rfl
theorem lStep_ok {l:List Int} {n lit cp k:Nat} {s:LSt} (h:s.Ok n lit (k+1)) (hk:k<n):(lStep l lit cp k s).Ok n lit k:=by
 have aa:RunsOk s.runs:=⟨h.rl,fun x hx=>(h.rb x hx).1⟩
 have hd:=distF_ok (l:=l) (at_:=k) aa
 have ab:=distF_in (l:=l) (at_:=k) (rs:=s.runs) (B:=n-(k+1)) (fun x hx=>(h.rb x hx).2)
 refine ⟨lPick_ok hd.d1024 65 0 _ (lBeg_ok h hk) (by omega),hd.rl,fun x hx=>⟨hd.r64 x hx,?_⟩⟩
 have:=ab.rb x hx
 omega
theorem lStart_ok (n lit:Nat):(lStart n).Ok n lit n :=
 ⟨⟨zV,zV,fun x hx=>by rw [List.eq_of_mem_replicate hx];exact Nat.zero_le _,fun t ht=>by rw [List.eq_of_mem_replicate ht];exact .inl rfl⟩,zV,fun x hx=>by rw [List.eq_of_mem_replicate hx];omega⟩
theorem lGo_ok {l:List Int} {n lit cp:Nat}:∀ k s,s.Ok n lit k->k<=n->(lGo l lit cp k s).Ok n lit 0
 | 0,_,h,_=>h
 | k+1,s,h,hk=>lGo_ok k _ (lStep_ok h (by omega)) (by omega)
theorem leastSt_ok (l:List Int) (lit cp:Nat):(leastSt l lit cp).Ok l.length lit 0:=lGo_ok _ _ (lStart_ok _ _) (zQ _)
theorem tokGo_ok {F:List Tok} (h:∀ t∈F,t.ok) {n:Nat} (hn:n<=F.length):∀ f i,∀ t∈tokGo F n f i,t.ok
 | 0,_,t,ht=>by simp [tokGo] at ht
 | f+1,i,t,ht=>by
  unfold tokGo at ht
  split at ht
  ·rename_i hi
   rcases zJ.1 ht with rfl | h1
   ·unfold tokAt
    rw [zD,zF (by omega)]
    exact h _ (zG _)
   ·exact tokGo_ok h hn f _ t h1
  ·simp at ht
theorem tokGo_len {F:List Tok} {n:Nat}:∀ f i,(tokGo F n f i).length<=f
 | 0,_=>by simp [tokGo]
 | f+1,i=>by
  unfold tokGo
  split
  ·have:=tokGo_len (F:=F) (n:=n) f (i+max (tokAt F i).len 1)
   simp only [zK]
   omega
  ·exact Nat.zero_le _
theorem leastF_ok (l:List Int) (lit cp:Nat):∀ t∈leastF l lit cp,t.ok :=
 tokGo_ok (leastSt_ok l lit cp).pair.fo (by rw [(leastSt_ok l lit cp).pair.fl];exact zQ _) _ _
theorem leastF_len (l:List Int) (lit cp:Nat):(leastF l lit cp).length<=l.length:=tokGo_len _ _
theorem rbitsAll_snoc (k:Nat) (l:List Int) (x:Int):rbitsAll k (l++[x])=rbitsAll k l++rbits k x:=by simp [rbitsAll]
theorem rput_ok (w:World) (b:Nat) (F bs:List Nat) (k:Nat) (l:List Int) (A:Option Addr) (cap:Nat) (h:IsWr w b F bs) (hk:k<=25) (hw:∀ x∈l,wideP x) (hc:Cells vi w A l)
  (hA:Apt A l F) (hlen:bs.length+65*l.length<274877906944) :
  Calls Tryz.prog 177 #[.pointer (some ⟨b,0,none⟩),.int .i64 k,.slice A l.length cap] w fun e w'=>e=.returned (.int .i64 0)/\∃ F',IsWr w' b F' (bs++rbitsAll k l)/\Grow F F' w w':=by
 have HW:=hid hw
 clear hw
 obtain ⟨n,hn⟩:=zX (l.length)
 rw [<-hn] at hlen ⊢
 have HN:=hid hn
 have HA:=hid hA
 clear hn hA
 go_enter Tryz.func177,Tryz.ntmps177
 go_wp2_with (go_at_call 228;refine (param_yes _ _ hk).mono ?_;rintro e w' ⟨rfl,rfl⟩)
 go_loopg [18] n (fun j i wr=>j<=n/\i=.int .i64 ((n-j:Nat):Int)/\w=wr)
 case atStart=>exact ⟨zQ _,by simp,rfl⟩
 case round =>
  obtain ⟨hj,rfl,rfl⟩:=hrel
  rcases gk with _ | j
  ·have t4:decide (((n-0:Nat):Int)<(n:Int))=false:=by simp
   go_wp2_with fail
   go_loopg [28] n (fun j i wr=>∃ F' ab,j<=n/\i=.int .i64 ((n-j:Nat):Int)/\IsWr wr b F' ab/\Hid (ab=bs++rbitsAll k (l.take (n-j)))/\ab.length<=bs.length+65*(n-j)/\Grow F F' w wr)
   case atStart=>exact ⟨F,bs,zQ _,by simp,h,hid (by simp [rbitsAll]),by omega,Grow.refl _ _⟩
   case round =>
    obtain ⟨F',ab,aD,rfl,hb,Hb,aA,aj⟩:=hrel
    rcases gk with _ | j
    ·go_wp2
     go_ret
     refine ⟨rfl,F',?_,aj⟩
     have e:l.take n=l:=by rw [HN.out,zN]
     rw [Hb.out,Nat.sub_zero,e] at hb
     exact hb
    ·obtain ⟨m,ah⟩:=zX (n-(j+1))
     rw [<-ah] at Hb aA ⊢
     have ar:m<n:=by omega
     have ag:n-j=m+1:=by omega
     have HM:=hid ag
     clear ah ag
     have ae:m<l.length:=by rw [<-HN.out];exact ar
     obtain ⟨g,o,rfl,aa⟩:=(hc.keep HA.out aj.chg).at_ ae
     have ai:=rbitsAll_snoc k (l.take m) l[m]
     rw [<-take_snoc' l ae] at ai
     obtain ⟨x,hx⟩:=zX (l[m])
     rw [<-hx] at aa ai
     have ad:wr.cell? ⟨g,o+m,none⟩=some (.int .i64 x):=aa
     have af:wideP x:=by rw [hx];exact HW.out _ (zG _)
     have HS:Hid (bs++rbitsAll k (l.take (m+1))=ab++rbits k x):=by
      refine hid ?_
      rw [ai,Hb.out,zH]
     have aw:=rbits_len k x
     have au:=rcost_le k x hk
     have hu:=rfold_lt af
     have av:=rfold_ok x wr af
     obtain ⟨u,ao⟩:=zX (rfold x)
     rw [<-ao] at hu av
     have hq:u / 2^k<=u:=Nat.div_le_self _ _
     have am:=Nat.div_add_mod u (2^k)
     have ac:=Nat.mod_lt u (Nat.two_pow_pos k)
     have aq:2^k<=33554432:=Nat.pow_le_pow_right (n:=2) (j:=25) (by decide) hk
     obtain ⟨q,ak⟩:=zX (u / 2^k)
     obtain ⟨r,an⟩:=zX (u%2^k)
     have e1:(u:Int) / 2^k=(q:Int):=by rw [ak];simp
     have ax:rbits k x=if q<32 then List.replicate q 0++1::bitsOf r k else List.replicate 32 0++1::bitsOf u 32:=by unfold rbits;rw [<-ao,<-ak,<-an]
     rw [<-ak] at hq am
     rw [<-an] at am ac
     have aC:(q:Int)*2^k=(u:Int)-r:=by
      have:((2^k*q+r:Nat):Int)=(u:Int):=by rw [am]
      rw [Int.natCast_add,Int.natCast_mul,Int.natCast_pow] at this
      rw [Int.mul_comm]
      simp at this
      omega
     have al:=hid ax
     have az:ab.length+65<274877906944:=by omega
     have ay:Hid ((ab++rbits k x).length<=bs.length+65*(m+1)):=hid (by rw [zC,aw];omega)
     have aB:r<=u:=by rw [an];exact Nat.mod_le _ _
     have ap:=hid ac
     clear ax am ao ak an aa hx ai ae aw au ac aq
     by_cases hs:q<32
     ·have t1:decide ((q:Int)<32)=true:=by simp;omega
      rw [if_pos hs] at al
      go_wp2_with (go_at_call 169;refine av.mono ?_;rintro e w' ⟨rfl,rfl⟩)
      refine (wunary_ok _ b F' ab q hb (by omega) (by omega)).mono ?_
      rintro e w1 ⟨rfl,F2,h2,g2⟩
      go_wp2_with fail
      rw [show (u:Int)-((u:Int)-r)=r by omega]
      refine (wput_ok _ b F2 _ r k h2 (by omega) ap.out (by simp;omega)).mono ?_
      rintro e w2 ⟨rfl,F3,h3,g3⟩
      go_wp2_with fail
      go_roundg j
      case measure=>omega
      case rel =>
       rw [HM.out]
       refine ⟨F3,ab++rbits k x,by omega,by go_num,?_,hid HS.out.symm,ay.out,(aj.trans g2).trans g3⟩
       rw [al.out]
       simpa using h3
     ·have t1:decide ((q:Int)<32)=false:=by simp;omega
      rw [if_neg hs] at al
      go_wp2_with (go_at_call 169;refine av.mono ?_;rintro e w' ⟨rfl,rfl⟩)
      refine (wunary_ok _ b F' ab 32 hb (by omega) (by omega)).mono ?_
      rintro e w1 ⟨rfl,F2,h2,g2⟩
      go_wp2_with fail
      refine (wput_ok _ b F2 _ u 32 h2 (by omega) (by omega) (by simp;omega)).mono ?_
      rintro e w2 ⟨rfl,F3,h3,g3⟩
      go_wp2_with fail
      go_roundg j
      case measure=>omega
      case rel =>
       rw [HM.out]
       refine ⟨F3,ab++rbits k x,by omega,by go_num,?_,hid HS.out.symm,ay.out,(aj.trans g2).trans g3⟩
       rw [al.out]
       simpa using h3
  ·obtain ⟨m,ah⟩:=zX (n-(j+1))
   rw [<-ah]
   have ar:m<n:=by omega
   have ag:n-j=m+1:=by omega
   have HM:=hid ag
   clear ah ag
   have ae:m<l.length:=by rw [<-HN.out];exact ar
   obtain ⟨g,o,rfl,aa⟩:=hc.at_ ae
   have af:wideP l[m]:=HW.out _ (zG _)
   obtain ⟨x,hx⟩:=zX (l[m])
   rw [<-hx] at aa af
   have ad:w.cell? ⟨g,o+m,none⟩=some (.int .i64 x):=aa
   clear aa hx ae
   go_wp2_with (go_at_call 215;refine (wide_yes _ _ af).mono ?_;rintro e w' ⟨rfl,rfl⟩)
   go_roundg j
   case measure=>omega
   case rel =>
    rw [HM.out]
    exact ⟨by omega,by go_num,rfl⟩
def lenOf (t:Tok):Int:=unfoldI (t.len-3)
def codeOf (W:Nat) (t:Tok):Int:=unfoldI (codeN t.dist W-1)
def copyLens (T:List Tok):List Int:=T.flatMap fun t=>if t.isLit then [] else [lenOf t]
def copyCodes (W:Nat) (T:List Tok):List Int:=T.flatMap fun t=>if t.isLit then [] else [codeOf W t]
def tokBits (k j W d:Nat) (t:Tok):List Nat:=if t.isLit then bitsOf 0 1++bitsOf t.lit.toNat d else bitsOf 1 1++rbits k (lenOf t)++rbits j (codeOf W t)
def matchBits (T:List Tok) (W d:Nat):List Nat :=
 bitsOf (rbest (copyLens T)) 5++bitsOf (rbest (copyCodes W T)) 5++T.flatMap (tokBits (rbest (copyLens T)) (rbest (copyCodes W T)) W d)
def TokOk (d:Nat) (t:Tok):Prop:=(t.isLit=true/\0<=t.lit/\t.lit<2^d)\/(t.isLit=false/\t.isCopy=true)
theorem TokOk.ok {d:Nat} {t:Tok} (h:TokOk d t):t.ok:=by
 rcases h with h | h
 ·exact .inl h.1
 ·exact .inr h.2
theorem unfoldI_wide {u:Nat} (h:u<=1073741823):wideP (unfoldI u):=by
 unfold wideP unfoldI
 split<;>omega
theorem lenOf_wide {t:Tok} (h:t.isCopy=true):wideP (lenOf t):=by
 have:=Tok.isCopy_iff.1 h
 exact unfoldI_wide (by omega)
theorem codeOf_wide {t:Tok} (W:Nat) (h:t.isCopy=true):wideP (codeOf W t):=by
 have h1:=Tok.isCopy_iff.1 h
 have h2:=(codeN_ok (d:=t.dist) (W:=W) (by omega)).1
 exact unfoldI_wide (by omega)
theorem copyLens_wide {d:Nat} {T:List Tok} (h:∀ t∈T,TokOk d t):∀ x∈copyLens T,wideP x:=fun x hx=>by
 obtain ⟨t,ht,hxt⟩:=List.mem_flatMap.1 hx
 rcases h t ht with h1 | h1
 ·rw [if_pos h1.1] at hxt;simp at hxt
 ·rw [if_neg (by simp [h1.1])] at hxt
  rw [zU.1 hxt]
  exact lenOf_wide h1.2
theorem copyCodes_wide {d W:Nat} {T:List Tok} (h:∀ t∈T,TokOk d t):∀ x∈copyCodes W T,wideP x:=fun x hx=>by
 obtain ⟨t,ht,hxt⟩:=List.mem_flatMap.1 hx
 rcases h t ht with h1 | h1
 ·rw [if_pos h1.1] at hxt;simp at hxt
 ·rw [if_neg (by simp [h1.1])] at hxt
  rw [zU.1 hxt]
  exact codeOf_wide W h1.2
theorem copyLens_len (T:List Tok):(copyLens T).length<=T.length:=by
 induction T with
 | nil=>exact zQ _
 | cons t T ih =>
  have e:copyLens (t::T)=(if t.isLit then [] else [lenOf t])++copyLens T:=rfl
  rw [e,zC]
  split<;>simp<;>omega
theorem copyCodes_len (W:Nat) (T:List Tok):(copyCodes W T).length=(copyLens T).length:=by
 induction T with
 | nil=>rfl
 | cons t T ih =>
  have e:copyLens (t::T)=(if t.isLit then [] else [lenOf t])++copyLens T:=rfl
  have e2:copyCodes W (t::T)=(if t.isLit then [] else [codeOf W t])++copyCodes W T:=rfl
  rw [e,e2,zC,zC,ih]
  split<;>rfl
theorem copyLens_snoc (T:List Tok) (t:Tok):copyLens (T++[t])=copyLens T++(if t.isLit then [] else [lenOf t]):=by simp [copyLens]
theorem copyCodes_snoc (W:Nat) (T:List Tok) (t:Tok):copyCodes W (T++[t])=copyCodes W T++(if t.isLit then [] else [codeOf W t]):=by simp [copyCodes]
theorem copyLens_at (T:List Tok) {i:Nat} {t:Tok} (h:T[i]?=some t) (hl:t.isLit=false) :
  (copyLens T)[(copyLens (T.take i)).length]?=some (lenOf t):=by
 have hi:i<T.length:=(List.getElem?_eq_some_iff.1 h).1
 have e:T=T.take i++t::T.drop (i+1):=by
  have h2:=(List.getElem?_eq_some_iff.1 h).2
  rw [<-h2,<-List.drop_eq_getElem_cons hi,List.take_append_drop]
 have e2:copyLens T=copyLens (T.take i)++(lenOf t::copyLens (T.drop (i+1))):=by
  have e3:∀ a b:List Tok,copyLens (a++b)=copyLens a++copyLens b:=fun a b=>by simp [copyLens]
  have e4:copyLens (t::T.drop (i+1))=(if t.isLit then [] else [lenOf t])++copyLens (T.drop (i+1)):=rfl
  rw [hl] at e4
  rw [show copyLens T=copyLens (T.take i++t::T.drop (i+1)) from congrArg copyLens e,e3,e4]
  rfl
 rw [e2,zS (zQ _),Nat.sub_self]
 rfl
theorem copyCodes_at (W:Nat) (T:List Tok) {i:Nat} {t:Tok} (h:T[i]?=some t) (hl:t.isLit=false) :
  (copyCodes W T)[(copyLens (T.take i)).length]?=some (codeOf W t):=by
 have hi:i<T.length:=(List.getElem?_eq_some_iff.1 h).1
 have e:T=T.take i++t::T.drop (i+1):=by
  have h2:=(List.getElem?_eq_some_iff.1 h).2
  rw [<-h2,<-List.drop_eq_getElem_cons hi,List.take_append_drop]
 have e2:copyCodes W T=copyCodes W (T.take i)++(codeOf W t::copyCodes W (T.drop (i+1))):=by
  have e3:∀ a b:List Tok,copyCodes W (a++b)=copyCodes W a++copyCodes W b:=fun a b=>by simp [copyCodes]
  have e4:copyCodes W (t::T.drop (i+1))=(if t.isLit then [] else [codeOf W t])++copyCodes W (T.drop (i+1)):=rfl
  rw [hl] at e4
  rw [show copyCodes W T=copyCodes W (T.take i++t::T.drop (i+1)) from congrArg (copyCodes W) e,e3,e4]
  rfl
 rw [e2,<-copyCodes_len W,zS (zQ _),Nat.sub_self]
 rfl
theorem tokBits_len {k j W d:Nat} (hk:k<=25) (hj:j<=25) (hd:d<=16) (t:Tok):(tokBits k j W d t).length<=131:=by
 unfold tokBits
 have h1:=rcost_le k (lenOf t) hk
 have h2:=rcost_le j (codeOf W t) hj
 split
 ·rw [zC,bitsOf_len,bitsOf_len];omega
 ·rw [zC,zC,bitsOf_len,rbits_len,rbits_len];omega
theorem flat_len_le {α:Type} (f:α->List Nat) (B:Nat) (h:∀ a,(f a).length<=B) (l:List α):(l.flatMap f).length<=B*l.length:=by
 induction l with
 | nil=>simp
 | cons a l ih =>
  rw [List.flatMap_cons,zC,zK,Nat.mul_add,Nat.mul_one]
  have:=h a
  omega
theorem matchBits_len (T:List Tok) (W d:Nat) (hd:d<=16):(matchBits T W d).length<=10+131*T.length:=by
 unfold matchBits
 have h1:=flat_len_le (tokBits (rbest (copyLens T)) (rbest (copyCodes W T)) W d) 131 (fun t=>tokBits_len (rbest_le _) (rbest_le _) hd t) T
 rw [zC,zC,bitsOf_len,bitsOf_len]
 omega
theorem mvalid_yes (d:Nat) (w:World) (h0:1<=d) (h1:d<=16):Calls Tryz.prog 225 #[.int .i64 d] w fun e w'=>e=.returned (.bool true)/\w=w':=by
 have t1:decide ((1:Int)<=(d:Int))=true:=zB (by omega)
 have t2:decide ((d:Int)<=16)=true:=zB (by omega)
 go_enter Tryz.func225,Tryz.ntmps225
 go_wp2
 go_ret
 exact ⟨rfl,rfl⟩
theorem isCtx_yes (c:Nat) (w:World) (h1:c<365):Calls Tryz.prog 230 #[.int .i64 c] w fun e w'=>e=.returned (.bool true)/\w=w':=by
 have t1:decide ((0:Int)<=(c:Int))=true:=zB (by omega)
 have t2:decide ((c:Int)<365)=true:=zB (by omega)
 go_enter Tryz.func230,Tryz.ntmps230
 go_wp2
 go_ret
 exact ⟨rfl,rfl⟩
theorem abs_ok (x:Int) (w:World) (h:midP x):Calls Tryz.prog 231 #[.int .i64 x] w fun e w'=>e=.returned (.int .i64 (absI x))/\w=w':=by
 obtain ⟨h1,h2⟩:=h
 by_cases hx:x<0
 ·have t1:decide (x<0)=true:=zB hx
  have hd:absI x=-x:=by unfold absI;rw [if_pos hx]
  have HD:=hid hd
  clear hd
  go_enter Tryz.func231,Tryz.ntmps231
  go_wp2
  go_ret
  rw [HD.out]
  exact ⟨rfl,rfl⟩
 ·have t1:decide (x<0)=false:=zA hx
  have hd:absI x=x:=by unfold absI;rw [if_neg hx]
  have HD:=hid hd
  clear hd
  go_enter Tryz.func231,Tryz.ntmps231
  go_wp2
  go_ret
  rw [HD.out]
  exact ⟨rfl,rfl⟩
theorem level_ok (g:Int) (d:Nat) (w:World) (h0:1<=d) (h1:d<=16) (hg0 : -2^d<g) (hg1:g<2^d):Calls Tryz.prog 284 #[.int .i64 g,.int .i64 d] w fun e w'=>e=.returned (.int .i64 (levelI g d))/\w=w':=by
 obtain ⟨al,ak⟩:=pow_d h0 h1
 have t1:decide (g<=(-2^d:Int))=false:=zA (by omega)
 have t2:decide ((2:Int)^d<=g)=false:=zA (by omega)
 have hv:=mvalid_yes d w h0 h1
 by_cases hz:g=0
 ·have t3:(g==0)=true:=by rw [beq_iff_eq];exact hz
  have hd:levelI g d=0:=by unfold levelI;rw [if_pos hz]
  have HD:=hid hd
  clear hd hz
  go_enter Tryz.func284,Tryz.ntmps284
  go_wp2_with (go_at_call 225;refine hv.mono ?_;rintro e w' ⟨rfl,rfl⟩)
  go_ret
  rw [HD.out]
  exact ⟨rfl,rfl⟩
 ·have t3:(g==0)=false:=by rw [beq_eq_false_iff_ne];exact hz
  have ha:=abs_ok g w (by unfold midP;omega)
  have ae:0<=absI g/\absI g<=65536:=by unfold absI;split<;>omega
  have hd:levelI g d=if g<0 then -steep (absI g*256 / 2^d) else steep (absI g*256 / 2^d):=by unfold levelI;rw [if_neg hz]
  obtain ⟨a,af⟩:=zX (absI g)
  rw [<-af] at ha ae hd
  obtain ⟨ai,aj⟩:=ae
  obtain ⟨u,hu⟩:=zX (a*256 / 2^d)
  have ao:0<=u:=by rw [hu];exact Int.ediv_nonneg (by omega) (by omega)
  rw [<-hu] at hd
  have am:a*256 / 2^d=u:=hu.symm
  have an:u<=a*256:=by rw [hu];exact Int.ediv_le_self _ (by omega)
  obtain ⟨st,ad⟩:=zX (steep u)
  have ah:st=if u<3 then 1 else if u<7 then 2 else if u<21 then 3 else 4:=by rw [ad];rfl
  rw [<-ad] at hd
  have HD:=hid hd
  have HS:=hid ah
  clear hd ad ah hu af
  have ag:∀ k:Int,st=k->-4<=k->k<=4->Hid (levelI g d=if g<0 then -k else k):=fun k hk _ _=>hid (by rw [HD.out,hk])
  have tn:∀ (h:g<0),decide (g<0)=true:=fun h=>zB h
  have tp:∀ (h:¬ g<0),decide (g<0)=false:=fun h=>zA h
  have ac:=hid tn
  have ab:=hid tp
  have aa:=hid ag
  clear tn tp ag HD
  by_cases u3:u<3
  ·have c1:decide (u<3)=true:=zB u3
   have hs:=HS.out
   rw [if_pos u3] at hs
   have HK:=aa.out 1 hs (by omega) (by omega)
   clear hs
   by_cases hn:g<0
   ·have t4:=ac.out hn
    rw [if_pos hn] at HK
    go_enter Tryz.func284,Tryz.ntmps284
    go_wp2_with (first | (go_at_call 225;refine hv.mono ?_;rintro e w' ⟨rfl,rfl⟩) | (go_at_call 231;refine ha.mono ?_;rintro e w' ⟨rfl,rfl⟩))
    go_ret
    rw [HK.out]
    exact ⟨rfl,rfl⟩
   ·have t4:=ab.out hn
    rw [if_neg hn] at HK
    go_enter Tryz.func284,Tryz.ntmps284
    go_wp2_with (first | (go_at_call 225;refine hv.mono ?_;rintro e w' ⟨rfl,rfl⟩) | (go_at_call 231;refine ha.mono ?_;rintro e w' ⟨rfl,rfl⟩))
    go_ret
    rw [HK.out]
    exact ⟨rfl,rfl⟩
  ·have c1:decide (u<3)=false:=zA u3
   by_cases u7:u<7
   ·have c2:decide (u<7)=true:=zB u7
    have hs:=HS.out
    rw [if_neg u3,if_pos u7] at hs
    have HK:=aa.out 2 hs (by omega) (by omega)
    clear hs
    by_cases hn:g<0
    ·have t4:=ac.out hn
     rw [if_pos hn] at HK
     go_enter Tryz.func284,Tryz.ntmps284
     go_wp2_with (first | (go_at_call 225;refine hv.mono ?_;rintro e w' ⟨rfl,rfl⟩) | (go_at_call 231;refine ha.mono ?_;rintro e w' ⟨rfl,rfl⟩))
     go_ret
     rw [HK.out]
     exact ⟨rfl,rfl⟩
    ·have t4:=ab.out hn
     rw [if_neg hn] at HK
     go_enter Tryz.func284,Tryz.ntmps284
     go_wp2_with (first | (go_at_call 225;refine hv.mono ?_;rintro e w' ⟨rfl,rfl⟩) | (go_at_call 231;refine ha.mono ?_;rintro e w' ⟨rfl,rfl⟩))
     go_ret
     rw [HK.out]
     exact ⟨rfl,rfl⟩
   ·have c2:decide (u<7)=false:=zA u7
    by_cases u21:u<21
    ·have c3:decide (u<21)=true:=zB u21
     have hs:=HS.out
     rw [if_neg u3,if_neg u7,if_pos u21] at hs
     have HK:=aa.out 3 hs (by omega) (by omega)
     clear hs
     by_cases hn:g<0
     ·have t4:=ac.out hn
      rw [if_pos hn] at HK
      go_enter Tryz.func284,Tryz.ntmps284
      go_wp2_with (first | (go_at_call 225;refine hv.mono ?_;rintro e w' ⟨rfl,rfl⟩) | (go_at_call 231;refine ha.mono ?_;rintro e w' ⟨rfl,rfl⟩))
      go_ret
      rw [HK.out]
      exact ⟨rfl,rfl⟩
     ·have t4:=ab.out hn
      rw [if_neg hn] at HK
      go_enter Tryz.func284,Tryz.ntmps284
      go_wp2_with (first | (go_at_call 225;refine hv.mono ?_;rintro e w' ⟨rfl,rfl⟩) | (go_at_call 231;refine ha.mono ?_;rintro e w' ⟨rfl,rfl⟩))
      go_ret
      rw [HK.out]
      exact ⟨rfl,rfl⟩
    ·have c3:decide (u<21)=false:=zA u21
     have hs:=HS.out
     rw [if_neg u3,if_neg u7,if_neg u21] at hs
     have HK:=aa.out 4 hs (by omega) (by omega)
     clear hs
     by_cases hn:g<0
     ·have t4:=ac.out hn
      rw [if_pos hn] at HK
      go_enter Tryz.func284,Tryz.ntmps284
      go_wp2_with (first | (go_at_call 225;refine hv.mono ?_;rintro e w' ⟨rfl,rfl⟩) | (go_at_call 231;refine ha.mono ?_;rintro e w' ⟨rfl,rfl⟩))
      go_ret
      rw [HK.out]
      exact ⟨rfl,rfl⟩
     ·have t4:=ab.out hn
      rw [if_neg hn] at HK
      go_enter Tryz.func284,Tryz.ntmps284
      go_wp2_with (first | (go_at_call 225;refine hv.mono ?_;rintro e w' ⟨rfl,rfl⟩) | (go_at_call 231;refine ha.mono ?_;rintro e w' ⟨rfl,rfl⟩))
      go_ret
      rw [HK.out]
      exact ⟨rfl,rfl⟩
theorem quiet_eq {P:Program} {f:FuncId} {args:Array Value} {w:World} {n:Nat} {v:Value}
  (h:Calls P f args (w.drewN n) fun e w'=>e=.returned v/\w.drewN n=w'):Calls P f args (w.drewN n) fun e w''=>e=.returned v/\∃ m,w''=w.drewN m :=
 h.mono fun _ _ ⟨he,hm⟩=>⟨he,n,hm.symm⟩
theorem levels_ok (g:Nbr) (d:Nat) (w:World) (h0:1<=d) (h1:d<=16) (hg:NbrOk d g) :
  Calls Tryz.prog 267 #[.int .i64 g.w,.int .i64 g.n,.int .i64 g.nw,.int .i64 g.ne,.int .i64 d] w fun e w'=>e=.returned (.agg #[.int .i64 (levelI (g.ne-g.n) d),.int .i64 (levelI (g.n-g.nw) d),.int .i64 (levelI (g.nw-g.w) d)])/\Chg [] w w':=by
 obtain ⟨ak,aj⟩:=pow_d h0 h1
 obtain ⟨a,b,c,e⟩:=g
 obtain ⟨⟨a1,a2⟩,⟨b1,b2⟩,⟨c1,c2⟩,⟨e1,e2⟩⟩:=hg
 simp only at a1 a2 b1 b2 c1 c2 e1 e2 ⊢
 have hv:=fun w=>mvalid_yes d w h0 h1
 have u1:decide (a<0)=false:=zA (by omega)
 have u2:decide ((2:Int)^d<=a)=false:=zA (by omega)
 have u3:decide (b<0)=false:=zA (by omega)
 have u4:decide ((2:Int)^d<=b)=false:=zA (by omega)
 have u5:decide (c<0)=false:=zA (by omega)
 have u6:decide ((2:Int)^d<=c)=false:=zA (by omega)
 have u7:decide (e<0)=false:=zA (by omega)
 have u8:decide ((2:Int)^d<=e)=false:=zA (by omega)
 have i0:∀ w,(Instr.index 31 (.agg #[.int .i64 a,.int .i64 b,.int .i64 c,.int .i64 e]) (.int .i64 0)).run Tryz.prog w=.ok (.int .i64 a) w:=fun _=>by kernel_rfl
 have i1:∀ w,(Instr.index 31 (.agg #[.int .i64 a,.int .i64 b,.int .i64 c,.int .i64 e]) (.int .i64 1)).run Tryz.prog w=.ok (.int .i64 b) w:=fun _=>by kernel_rfl
 have i2:∀ w,(Instr.index 31 (.agg #[.int .i64 a,.int .i64 b,.int .i64 c,.int .i64 e]) (.int .i64 2)).run Tryz.prog w=.ok (.int .i64 c) w:=fun _=>by kernel_rfl
 have i3:∀ w,(Instr.index 31 (.agg #[.int .i64 a,.int .i64 b,.int .i64 c,.int .i64 e]) (.int .i64 3)).run Tryz.prog w=.ok (.int .i64 e) w:=fun _=>by kernel_rfl
 go_enter Tryz.func267,Tryz.ntmps267
 go_wp2_with (go_at_call 225;refine (hv _).mono ?_;rintro e w' ⟨rfl,rfl⟩)
 have aa:=Blk.new w 298 #[.int .i64 0,.int .i64 0,.int .i64 0]
 have af:Chg [] w (w.alloc (.cells #[.int .i64 0,.int .i64 0,.int .i64 0] 298)):=(zR [] w).alloc _
 obtain ⟨B,hB⟩:=zX (w.heap.size)
 rw [<-hB] at aa ⊢
 generalize w.alloc (.cells #[.int .i64 0,.int .i64 0,.int .i64 0] 298)=w0 at *
 have HB:=hid hB
 clear hB
 go_loopg [22] 4 (fun j iv wr=>w0=wr/\((j=4/\iv=.int .i64 0)\/(j=3/\iv=.int .i64 1)\/(j=2/\iv=.int .i64 2)\/(j=1/\iv=.int .i64 3)\/(j=0/\iv=.int .i64 4)))
 case atStart=>exact ⟨rfl,.inl ⟨rfl,rfl⟩⟩
 case round =>
  obtain ⟨rfl,hrel⟩:=hrel
  rcases hrel with ⟨rfl,rfl⟩ | ⟨rfl,rfl⟩ | ⟨rfl,rfl⟩ | ⟨rfl,rfl⟩ | ⟨rfl,rfl⟩
  ·go_wp2
   go_roundg 3
   case measure=>omega
   case rel=>exact ⟨rfl,.inr (.inl ⟨rfl,rfl⟩)⟩
  ·go_wp2
   go_roundg 2
   case measure=>omega
   case rel=>exact ⟨rfl,.inr (.inr (.inl ⟨rfl,rfl⟩))⟩
  ·go_wp2
   go_roundg 1
   case measure=>omega
   case rel=>exact ⟨rfl,.inr (.inr (.inr (.inl ⟨rfl,rfl⟩)))⟩
  ·go_wp2
   go_roundg 0
   case measure=>omega
   case rel=>exact ⟨rfl,.inr (.inr (.inr (.inr ⟨rfl,rfl⟩)))⟩
  ·clear i0 i1 i2 i3 u1 u2 u3 u4 u5 u6 u7 u8
   have l0:=level_ok (e-b) d w0 h0 h1 (by omega) (by omega)
   have l1:=level_ok (b-c) d w0 h0 h1 (by omega) (by omega)
   have l2:=level_ok (c-a) d w0 h0 h1 (by omega) (by omega)
   obtain ⟨x0,ac⟩:=zX (levelI (e-b) d)
   obtain ⟨x1,ab⟩:=zX (levelI (b-c) d)
   obtain ⟨x2,ad⟩:=zX (levelI (c-a) d)
   rw [<-ac] at l0
   rw [<-ab] at l1
   rw [<-ad] at l2
   have ag:=hid ac
   have ae:=hid ab
   have ah:=hid ad
   clear ac ab ad
   have q0:=aa.cell 0
   have q1:=aa.cell 1
   have q2:=aa.cell 2
   have f0:=aa.frozen 0
   have f1:=aa.frozen 1
   have f2:=aa.frozen 2
   simp at q0 q1 q2
   go_wp2_with fail
   refine l0.mono ?_
   rintro e w' ⟨rfl,rfl⟩
   go_wp2_with fail
   refine l1.mono ?_
   rintro e w' ⟨rfl,rfl⟩
   go_wp2_with fail
   refine l2.mono ?_
   rintro e w' ⟨rfl,rfl⟩
   go_wp2_with fail
   have hF:=((aa.set_ 0 (.int .i64 x0)).set_ 1 (.int .i64 x1)).set_ 2 (.int .i64 x2)
   have ai:Chg [] w (((w0.setCell ⟨B,0,none⟩ (.int .i64 x0)).setCell ⟨B,1,none⟩ (.int .i64 x1)).setCell ⟨B,2,none⟩ (.int .i64 x2)):=((af.setCell (.inr (by have:=HB.out;simp;omega)) _).setCell (.inr (by have:=HB.out;simp;omega)) _).setCell (.inr (by have:=HB.out;simp;omega)) _
   generalize ((w0.setCell ⟨B,0,none⟩ (.int .i64 x0)).setCell ⟨B,1,none⟩ (.int .i64 x1)).setCell ⟨B,2,none⟩ (.int .i64 x2)=wF at *
   have g0:=hF.cell 0
   have g1:=hF.cell 1
   have g2:=hF.cell 2
   simp at g0 g1 g2
   exact bodyPost_ret (v:=.agg #[.int .i64 x0,.int .i64 x1,.int .i64 x2]) (by simp [results,Tryz.results267,go_sem,g0,g1,g2]) rfl ⟨by rw [ag.out,ae.out,ah.out],ai⟩
theorem context_ok (g:Nbr) (d:Nat) (w:World) (h0:1<=d) (h1:d<=16) (hg:NbrOk d g) :
  Calls Tryz.prog 226 #[.int .i64 g.w,.int .i64 g.n,.int .i64 g.nw,.int .i64 g.ne,.int .i64 d] w fun e w'=>e=.returned (.tuple #[.int .i64 (ctxN g d),.bool (turnB g d)])/\Chg [] w w':=by
 have hl:=levels_ok g d w h0 h1 hg
 have r0:=levelI_ok (g.ne-g.n) d
 have r1:=levelI_ok (g.n-g.nw) d
 have r2:=levelI_ok (g.nw-g.w) d
 have hc:ctxI g d=81*levelI (g.ne-g.n) d+9*levelI (g.n-g.nw) d+levelI (g.nw-g.w) d:=rfl
 have ht:turnB g d=decide (ctxI g d<0):=rfl
 have hn:((ctxN g d:Nat):Int)=absI (ctxI g d):=by
  unfold ctxN
  exact Int.toNat_of_nonneg (by unfold absI;split<;>omega)
 obtain ⟨x0,ab⟩:=zX (levelI (g.ne-g.n) d)
 obtain ⟨x1,aa⟩:=zX (levelI (g.n-g.nw) d)
 obtain ⟨x2,ac⟩:=zX (levelI (g.nw-g.w) d)
 rw [<-ab,<-aa,<-ac] at hl hc
 rw [<-ab] at r0
 rw [<-aa] at r1
 rw [<-ac] at r2
 obtain ⟨n,ad⟩:=zX (ctxI g d)
 rw [<-ad] at ht hn hc
 obtain ⟨aj,am⟩:=r0
 obtain ⟨ag,al⟩:=r1
 obtain ⟨ai,ak⟩:=r2
 have af:=fun w=>abs_ok n w (by unfold midP;omega)
 have HT:=hid ht
 have HN:=hid hn
 have ah:81*x0+9*x1+x2=n:=hc.symm
 clear ht hn ab aa ac ad hc
 go_enter Tryz.func226,Tryz.ntmps226
 go_wp2_with fail
 refine hl.mono ?_
 rintro e w1 ⟨rfl,ae⟩
 go_wp2_with (go_at_call 231;refine (af _).mono ?_;rintro e w' ⟨rfl,rfl⟩)
 go_ret2
 rw [HT.out,HN.out]
 exact ⟨rfl,ae.alloc _⟩
theorem class_ok (g:Nbr) (d:Nat) (w:World) (h0:1<=d) (h1:d<=16) (hg:NbrOk d g) :
  Calls Tryz.prog 214 #[.int .i64 g.w,.int .i64 g.n,.int .i64 g.nw,.int .i64 g.ne,.int .i64 d] w fun e w'=>e=.returned (.int .i64 (classI g d))/\Chg [] w w':=by
 have hl:=levels_ok g d w h0 h1 hg
 have r0:=levelI_ok (g.ne-g.n) d
 have r1:=levelI_ok (g.n-g.nw) d
 have r2:=levelI_ok (g.nw-g.w) d
 have hc:classI g d=absI (levelI (g.ne-g.n) d)+absI (levelI (g.n-g.nw) d)+absI (levelI (g.nw-g.w) d):=rfl
 obtain ⟨x0,ac⟩:=zX (levelI (g.ne-g.n) d)
 obtain ⟨x1,aa⟩:=zX (levelI (g.n-g.nw) d)
 obtain ⟨x2,ad⟩:=zX (levelI (g.nw-g.w) d)
 rw [<-ac,<-aa,<-ad] at hl hc
 rw [<-ac] at r0
 rw [<-aa] at r1
 rw [<-ad] at r2
 have ab:∀ x:Int,-4<=x/\x<=4->0<=absI x/\absI x<=4:=fun x hx=>by unfold absI;split<;>omega
 have b0:=ab x0 r0
 have b1:=ab x1 r1
 have b2:=ab x2 r2
 have a0:=fun w=>abs_ok x0 w (by unfold midP;omega)
 have a1:=fun w=>abs_ok x1 w (by unfold midP;omega)
 have a2:=fun w=>abs_ok x2 w (by unfold midP;omega)
 generalize absI x0=y0 at *
 generalize absI x1=y1 at *
 generalize absI x2=y2 at *
 obtain ⟨af,ag⟩:=b0
 obtain ⟨aj,ai⟩:=b1
 obtain ⟨ak,ah⟩:=b2
 have HC:=hid hc
 clear ac aa ad hc ab r0 r1 r2
 go_enter Tryz.func214,Tryz.ntmps214
 go_wp2_with fail
 refine hl.mono ?_
 rintro e w1 ⟨rfl,ae⟩
 go_wp2_with fail
 go_quiet ((first | (go_at_call 231;with_reducible exact quiet_eq (a0 _)) | (go_at_call 231;with_reducible exact quiet_eq (a1 _)) | (go_at_call 231;with_reducible exact quiet_eq (a2 _))))
 go_wp2
 go_ret
 rw [HC.out]
 exact ⟨rfl,(ae.alloc _).drewN _⟩
def mdZero (z:Array Value) (v:Int):Array Value:=z.setIfInBounds 0 (.int .i64 v)
theorem md_zeros:Tryz.zeroCells256=(List.replicate 1461 (Value.int .i64 0)).toArray:=by kernel_rfl
theorem md_zsize:(Tryz.zeroCells256).size=1461:=by rw [md_zeros,List.size_toArray,zV]
theorem mdZero_size {z:Array Value} (hz:z.size=1461) (v:Int):(mdZero z v).size=1461:=by
 unfold mdZero
 rw [Array.size_setIfInBounds,hz]
theorem mdZero_get0 {z:Array Value} (hz:z.size=1461) (v:Int):(mdZero z v)[0]?=some (.int .i64 v):=by
 unfold mdZero
 rw [Array.getElem?_setIfInBounds,if_pos rfl,if_pos (by omega)]
theorem mdZero_get {z:Array Value} (hz:z=(List.replicate 1461 (Value.int .i64 0)).toArray) (v:Int) (i:Nat) (h0:0<i) (h1:i<1461):(mdZero z v)[i]?=some (.int .i64 0):=by
 unfold mdZero
 rw [Array.getElem?_setIfInBounds,if_neg (by omega),hz,List.getElem?_toArray,List.getElem?_replicate,if_pos h1]
structure MdRep (cs:Array Value) (d:Nat) (m:List Stat):Prop where
 size:cs.size=1461
 len:m.length=365
 depth:cs[0]?=some (.int .i64 d)
 n:∀ i s,m[i]?=some s->cs[1+i*4]?=some (.int .i64 s.n)
 a:∀ i s,m[i]?=some s->cs[1+i*4+1]?=some (.int .i64 s.a)
 b:∀ i s,m[i]?=some s->cs[1+i*4+2]?=some (.int .i64 s.b)
 c:∀ i s,m[i]?=some s->cs[1+i*4+3]?=some (.int .i64 s.c)
theorem MdRep.set4 {cs:Array Value} {d:Nat} {m:List Stat} (h:MdRep cs d m) {i:Nat} (hi:i<365) (s:Stat) :
  MdRep ((((cs.setIfInBounds (1+i*4) (.int .i64 s.n)).setIfInBounds (1+i*4+1) (.int .i64 s.a)).setIfInBounds (1+i*4+2) (.int .i64 s.b)).setIfInBounds (1+i*4+3) (.int .i64 s.c)) d (m.set i s):=by
 have hs:=h.size
 have hl:=h.len
 refine ⟨by simp [hs],by simp [hl],?_,?_,?_,?_,?_⟩
 ·simp only [Array.getElem?_setIfInBounds]
  rw [if_neg (by omega),if_neg (by omega),if_neg (by omega),if_neg (by omega)]
  exact h.depth
 all_goals
  intro j t hj
  rw [List.getElem?_set] at hj
  simp only [Array.getElem?_setIfInBounds,Array.size_setIfInBounds,hs]
  by_cases hij:i=j
  ·subst hij
   rw [if_pos rfl,if_pos (by omega)] at hj
   injection hj with hj
   subst hj
   first
    | (rw [if_pos (by omega),if_pos (by omega)])
    | (rw [if_neg (by omega),if_pos (by omega),if_pos (by omega)])
    | (rw [if_neg (by omega),if_neg (by omega),if_pos (by omega),if_pos (by omega)])
    | (rw [if_neg (by omega),if_neg (by omega),if_neg (by omega),if_pos (by omega),if_pos (by omega)])
  ·rw [if_neg hij] at hj
   rw [if_neg (by omega),if_neg (by omega),if_neg (by omega),if_neg (by omega)]
   first | exact h.n j t hj | exact h.a j t hj | exact h.b j t hj | exact h.c j t hj
structure IsMd (w:World) (b d:Nat) (m:List Stat):Prop where
 ex:∃ cs,Blk w b 256 cs/\MdRep cs d m
theorem IsMd.chg {w w':World} {b d:Nat} {m:List Stat} {F:List Nat} (h:IsMd w b d m) (hc:Chg F w w') (hb:b∉F):IsMd w' b d m:=by
 obtain ⟨cs,h1,h2⟩:=h.ex
 exact ⟨cs,h1.chg hc hb,h2⟩
theorem IsMd.set4 {w:World} {b d:Nat} {m:List Stat} (h:IsMd w b d m) {i:Nat} (hi:i<365) (s:Stat) :
  IsMd ((((w.setCell ⟨b,1+i*4,none⟩ (.int .i64 s.n)).setCell ⟨b,1+i*4+1,none⟩ (.int .i64 s.a)).setCell ⟨b,1+i*4+2,none⟩ (.int .i64 s.b)).setCell ⟨b,1+i*4+3,none⟩ (.int .i64 s.c)) b d (m.set i s):=by
 obtain ⟨cs,h1,h2⟩:=h.ex
 exact ⟨_,(((h1.set_ _ _).set_ _ _).set_ _ _).set_ _ _,h2.set4 hi s⟩
theorem IsMd.lt {w:World} {b d:Nat} {m:List Stat} (h:IsMd w b d m):b<w.heap.size:=by
 obtain ⟨cs,h1,_⟩:=h.ex
 exact h1.lt
theorem IsMd.cells {w:World} {b d:Nat} {m:List Stat} (h:IsMd w b d m):w.cell? ⟨b,0,none⟩=some (.int .i64 d)/\(∀ i,w.frozen? ⟨b,i,none⟩=false) /\
  ∀ i s,m[i]?=some s->w.cell? ⟨b,1+i*4,none⟩=some (.int .i64 s.n)/\w.cell? ⟨b,1+i*4+1,none⟩=some (.int .i64 s.a)/\w.cell? ⟨b,1+i*4+2,none⟩=some (.int .i64 s.b)/\w.cell? ⟨b,1+i*4+3,none⟩=some (.int .i64 s.c):=by
 obtain ⟨cs,h1,h2⟩:=h.ex
 refine ⟨by rw [h1.cell];exact h2.depth,h1.frozen,fun i s hs=>⟨?_,?_,?_,?_⟩⟩
 ·rw [h1.cell];exact h2.n i s hs
 ·rw [h1.cell];exact h2.a i s hs
 ·rw [h1.cell];exact h2.b i s hs
 ·rw [h1.cell];exact h2.c i s hs
theorem mguess_ok (b d:Nat) (m:List Stat) (ctx:Nat) (p:Int) (t:Bool) (w:World) (h:IsMd w b d m) (hm:ModelOk m) (h0:1<=d) (h1:d<=16) (hc:ctx<365) (hp0:0<=p) (hp1:p<2^d) :
  Calls Tryz.prog 227 #[.pointer (some ⟨b,0,none⟩),.int .i64 ctx,.int .i64 p,.bool t] w fun e w'=>e=.returned (.int .i64 (guessM (statAt m ctx) p t d))/\w=w':=by
 obtain ⟨af,ae⟩:=pow_d h0 h1
 obtain ⟨hg,ac⟩:=statAt_mem hm hc
 obtain ⟨q0,_,aa⟩:=h.cells
 obtain ⟨_,_,_,qc⟩:=aa ctx _ hg
 have c0:=ac.c0
 have c1:=ac.c1
 have ab:guessM (statAt m ctx) p t d=min (max (p+(if t then -(statAt m ctx).c else (statAt m ctx).c)) 0) (2^d-1):=rfl
 obtain ⟨s,hs⟩:=zX ((statAt m ctx).c)
 rw [<-hs] at qc c0 c1 ab
 have HD:=hid ab
 have t1:decide (p<0)=false:=zA (by omega)
 have t2:decide ((2:Int)^d-1<p)=false:=zA (by omega)
 have ad:=isCtx_yes ctx w hc
 clear ab hs hg ac aa h
 cases t with
 | false =>
  go_enter Tryz.func227,Tryz.ntmps227
  go_wp2_with (go_at_call 230;refine ad.mono ?_;rintro e w' ⟨rfl,rfl⟩)
  all_goals
   go_ret
   rw [HD.out]
   exact ⟨congrArg (fun z=>Ending.returned (.int .i64 z)) (show _=min (max (p+s) 0) (2^d-1) by omega),rfl⟩
 | true =>
  go_enter Tryz.func227,Tryz.ntmps227
  go_wp2_with (go_at_call 230;refine ad.mono ?_;rintro e w' ⟨rfl,rfl⟩)
  all_goals
   go_ret
   rw [HD.out]
   exact ⟨congrArg (fun z=>Ending.returned (.int .i64 z)) (show _=min (max (p + -s) 0) (2^d-1) by omega),rfl⟩
theorem mk_ok (b d:Nat) (m:List Stat) (ctx:Nat) (w:World) (h:IsMd w b d m) (hm:ModelOk m) (hc:ctx<365) :
  Calls Tryz.prog 178 #[.pointer (some ⟨b,0,none⟩),.int .i64 ctx] w fun e w'=>e=.returned (.int .i64 (kOf (statAt m ctx)))/\∃ n,w'=w.drewN n:=by
 obtain ⟨hg,ab⟩:=statAt_mem hm hc
 obtain ⟨_,_,aa⟩:=h.cells
 obtain ⟨qn,qa,_,_⟩:=aa ctx _ hg
 have n0:=ab.n0
 have n1:=ab.n1
 have a0:=ab.a0
 have a1:=ab.a1
 obtain ⟨s,hs⟩:=zX (statAt m ctx)
 rw [<-hs] at qn qa n0 n1 a0 a1 ab ⊢
 have al:=isCtx_yes ctx w hc
 have ad:kOf s=kFrom s 16 0:=rfl
 obtain ⟨sn,ah⟩:=zX (s.n)
 obtain ⟨sa,aj⟩:=zX (s.a)
 rw [<-ah] at qn n0 n1 a1
 rw [<-aj] at qa a0 a1
 have HD:=hid ad
 have ae:=hid ah
 have ai:=hid aj
 have ak:=hid ab
 clear ad hs hg ab aa h ah aj hm
 go_enter Tryz.func178,Tryz.ntmps178
 go_wp2_with (go_at_call 230;refine al.mono ?_;rintro e w' ⟨rfl,rfl⟩)
 go_loopg [5] 16 (fun j v wr=>∃ (k n:Nat),v=.int .i64 k/\k+j=16/\Hid (kOf s=kFrom s j k)/\wr=w.drewN n)
 case atStart=>exact ⟨0,0,rfl,rfl,HD,rfl⟩
 case round =>
  obtain ⟨k,nd,rfl,aq,Hk,rfl⟩:=hrel
  have ap:=two_pow_pos' k
  by_cases hlt:sn*2^k<sa
  ·have af:k<15:=kFrom_lt ak.out (by rw [<-ae.out,<-ai.out];exact hlt)
   have an:(2:Int)^k<=32768:=by
    have:=Nat.pow_le_pow_right (n:=2) (by decide) (show k<=15 by omega)
    have e:(2:Int)^k<=2^15:=by exact_mod_cast this
    exact e
   have ao:0<=sn*2^k:=Int.mul_nonneg (by omega) (by omega)
   have am:sn*2^k<=64*32768:=Int.le_trans (Int.mul_le_mul_of_nonneg_right n1 (by omega)) (by omega)
   have hw:IntKind.i64.wrap (sn*2^k)=sn*2^k:=IntWalk.i64_in _ (by omega)
   have t1:decide (sn*2^k<sa)=true:=zB hlt
   obtain ⟨g,rfl⟩:∃ g,gk=g+1:=⟨gk-1,by omega⟩
   have ac:kOf s=kFrom s g (k+1):=by rw [Hk.out,kFrom_step (by rw [<-ae.out,<-ai.out];exact hlt)]
   have ag:=hid ac
   clear ac hlt
   go_wp2_with fail
   go_quiet (fail)
   go_wp2
   go_roundg g
   case measure=>omega
   case rel=>exact ⟨k+1,_,by go_num,by omega,ag,rfl⟩
  ·have ac:=kFrom_stop (s:=s) (k:=k) (by rw [<-ae.out,<-ai.out];exact hlt) gk
   rw [<-Hk.out] at ac
   have ag:=hid ac
   have af:k<=15:=by have:=kOf_le ak.out;omega
   have an:(2:Int)^k<=32768:=by
    have:=Nat.pow_le_pow_right (n:=2) (by decide) (show k<=15 by omega)
    have e:(2:Int)^k<=2^15:=by exact_mod_cast this
    exact e
   have ao:0<=sn*2^k:=Int.mul_nonneg (by omega) (by omega)
   have am:sn*2^k<=64*32768:=Int.le_trans (Int.mul_le_mul_of_nonneg_right n1 (by omega)) (by omega)
   have hw:IntKind.i64.wrap (sn*2^k)=sn*2^k:=IntWalk.i64_in _ (by omega)
   have t1:decide (sn*2^k<sa)=false:=zA hlt
   clear ac hlt
   go_wp2_with fail
   go_quiet (fail)
   go_wp2
   go_ret
   rw [ag.out]
   exact ⟨rfl,nd+nq,by rw [World.drewN_drewN]⟩
theorem mnew_step {wr:World} {B d k j nq:Nat} {va:Int} (hmd:IsMd wr B d (List.replicate k (newStat d)++List.replicate (j+1) ⟨0,0,0,0⟩)) (hk:k<365) (hva:va=startA d) :
  IsMd (((((wr.drewN nq).setCell ⟨B,1+k*4,none⟩ (.int .i64 1)).setCell ⟨B,1+k*4+1,none⟩ (.int .i64 va)).setCell ⟨B,1+k*4+2,none⟩ (.int .i64 0)).setCell ⟨B,1+k*4+3,none⟩ (.int .i64 0)) B d (List.replicate (k+1) (newStat d)++List.replicate j ⟨0,0,0,0⟩):=by
 have h1:=(hmd.chg ((zR [] wr).drewN nq) (by simp)).set4 hk (newStat d)
 have e:(List.replicate k (newStat d)++List.replicate (j+1) (⟨0,0,0,0⟩:Stat)).set k (newStat d)=List.replicate (k+1) (newStat d)++List.replicate j ⟨0,0,0,0⟩:=by
  rw [List.set_append_right _ _ (by simp),zV,Nat.sub_self,List.replicate_succ' (n:=k)]
  simp [List.replicate_succ]
 rw [e] at h1
 subst hva
 exact h1
theorem mnew_ok (d : Nat) (w : World) (h0 : 1 <= d) (h1 : d <= 16) :
    Calls Tryz.prog 175 #[.int .i64 d] w fun e w'=>∃ b,e=.returned (.tuple #[.pointer (some ⟨b,0,none⟩),.int .i64 0])/\IsMd w' b d (newModel d)/\Chg [] w w'/\w.heap.size<=b:=by
  obtain ⟨al,ak⟩:=pow_d h0 h1
  have hv:=mvalid_yes d w h0 h1
  have ae:=Blk.new w 256 (mdZero Tryz.zeroCells256 (d:Int))
  have af:Chg [] w (w.alloc (.cells (mdZero Tryz.zeroCells256 (d:Int)) 256)):=(zR [] w).alloc _
  have ab:IsMd (w.alloc (.cells (mdZero Tryz.zeroCells256 (d:Int)) 256)) w.heap.size d (List.replicate 365 ⟨0,0,0,0⟩):=by
    have hr:∀ i s,(List.replicate 365 (⟨0,0,0,0⟩:Stat))[i]?=some s->i<365/\s=⟨0,0,0,0⟩:=fun i s h=>by
      rw [List.getElem?_replicate] at h
      split at h
      · rename_i hi
        injection h with h
        exact ⟨hi,h.symm⟩
      · cases h
    refine ⟨⟨_,ae,mdZero_size md_zsize _,zV,mdZero_get0 md_zsize _,?_,?_,?_,?_⟩⟩
    all_goals
      intro i s h
      obtain ⟨hi,rfl⟩:=hr i s h
      exact mdZero_get md_zeros _ _ (by omega) (by omega)
  unfold mdZero at af ab
  go_enter Tryz.func175,Tryz.ntmps175
  go_wp2_with (go_at_call 225;refine hv.mono ?_;rintro e w' ⟨rfl,rfl⟩)
  obtain ⟨B,hB⟩:=zX (w.heap.size)
  rw [<-hB] at ab ⊢
  have HB:=hid hB
  obtain ⟨an,ad⟩:=zX (Tryz.zeroCells256.setIfInBounds 0 (Value.int .i64 d))
  rw [<-ad] at af ab ⊢
  clear hB ad ae hv
  have ai:Hid (startA d=max 2 ((2^d+32) / 64)):=hid rfl
  go_loopg [12] 365 (fun j iv wr=>∃ k:Nat,iv=.int .i64 k/\k+j=365/\IsMd wr B d (List.replicate k (newStat d)++List.replicate j ⟨0,0,0,0⟩)/\Chg [] w wr)
  case atStart=>exact ⟨0,rfl,rfl,by simpa using ab,af⟩
  case round =>
    obtain ⟨k,rfl,am,ag,ah⟩:=hrel
    clear ab af
    rcases gk with _ | j
    · obtain rfl:k=365:=by omega
      go_wp2
      go_ret2
      exact ⟨B,rfl,by simpa [newModel] using ag,ah,by rw [HB.out];exact zQ _⟩
    · have hk:k<365:=by omega
      have tk:decide ((k:Int)<365)=true:=zB (by omega)
      obtain ⟨_,ac,aa⟩:=ag.cells
      obtain ⟨q0,q1,q2,q3⟩:=aa k ⟨0,0,0,0⟩ (by rw [zS (by simp),zV,Nat.sub_self];rfl)
      have f0:=ac (1+k*4)
      have f1:=ac (1+k*4+1)
      have f2:=ac (1+k*4+2)
      have f3:=ac (1+k*4+3)
      clear ac aa
      go_wp2_with fail
      refine wp_region_quiet_tail 11 (by kernel_rfl) (by kernel_rfl) ?_
      simp only [List.take_succ_cons,List.take_zero,List.drop_succ_cons,List.drop_zero]
      repeat (go_big_quiet_step (fail))
      all_goals
        refine wpQuiet_nil ?_
        intro _ aj
        obtain ⟨nq,rfl⟩:=aj
        go_wp2_with fail
        all_goals
         go_roundg j
         case measure=>omega
         case rel =>
          refine ⟨k+1,by go_num,by omega,?_,(((((ah.drewN nq).setCell (.inr (by have:=HB.out;simp;omega)) _).setCell (.inr (by have:=HB.out;simp;omega)) _).setCell (.inr (by have:=HB.out;simp;omega)) _).setCell (.inr (by have:=HB.out;simp;omega)) _)⟩
          exact mnew_step ag hk (by rw [ai.out];omega)
theorem MdRep.set1 {cs:Array Value} {d:Nat} {m:List Stat} (h:MdRep cs d m) {i:Nat} (hi:i<365) {s:Stat} (hs:m[i]?=some s) (k:Nat) (v:Int) (s':Stat)
  (hk:(k=0/\s'=⟨v,s.a,s.b,s.c⟩)\/(k=1/\s'=⟨s.n,v,s.b,s.c⟩)\/(k=2/\s'=⟨s.n,s.a,v,s.c⟩)\/(k=3/\s'=⟨s.n,s.a,s.b,v⟩)) :
  MdRep (cs.setIfInBounds (1+i*4+k) (.int .i64 v)) d (m.set i s'):=by
 have aa:=h.size
 have hl:=h.len
 have h1:=h.n i s hs
 have h2:=h.a i s hs
 have h3:=h.b i s hs
 have h4:=h.c i s hs
 have ab:k<4:=by omega
 refine ⟨by simp [aa],by simp [hl],?_,?_,?_,?_,?_⟩
 ·rw [Array.getElem?_setIfInBounds,if_neg (by omega)]
  exact h.depth
 all_goals
  intro j t hj
  rw [List.getElem?_set] at hj
  rw [Array.getElem?_setIfInBounds]
  by_cases hij:i=j
  ·subst hij
   rw [if_pos rfl,if_pos (by omega)] at hj
   injection hj with hj
   subst hj
   rcases hk with ⟨rfl,rfl⟩ | ⟨rfl,rfl⟩ | ⟨rfl,rfl⟩ | ⟨rfl,rfl⟩
   all_goals first
    | (rw [if_pos (by omega),if_pos (by omega)])
    | (rw [if_neg (by omega)];first | exact h1 | exact h2 | exact h3 | exact h4)
  ·rw [if_neg hij] at hj
   rw [if_neg (by omega)]
   first | exact h.n j t hj | exact h.a j t hj | exact h.b j t hj | exact h.c j t hj
theorem IsMd.set1 {w:World} {b d:Nat} {m:List Stat} (h:IsMd w b d m) {i:Nat} (hi:i<365) {s:Stat} (hs:m[i]?=some s) (k:Nat) (v:Int) (s':Stat)
  (hk:(k=0/\s'=⟨v,s.a,s.b,s.c⟩)\/(k=1/\s'=⟨s.n,v,s.b,s.c⟩)\/(k=2/\s'=⟨s.n,s.a,v,s.c⟩)\/(k=3/\s'=⟨s.n,s.a,s.b,v⟩)) :
  IsMd (w.setCell ⟨b,1+i*4+k,none⟩ (.int .i64 v)) b d (m.set i s')/\(m.set i s')[i]?=some s':=by
 obtain ⟨cs,h1,h2⟩:=h.ex
 exact ⟨⟨_,h1.set_ _ _,h2.set1 hi hs k v s' hk⟩,by rw [List.getElem?_set_self (by rw [h2.len];exact hi)]⟩
theorem IsMd.toSet {w:World} {b d:Nat} {m:List Stat} {i:Nat} {s t:Stat} (h:IsMd w b d ((m.set i s).set i t)):IsMd w b d (m.set i t):=by rw [<-List.set_set (a:=s)];exact h
theorem IsMd.count {w:World} {b d:Nat} {m:List Stat} (h:IsMd w b d m) {i:Nat} (hi:i<365) {s:Stat} (hs:m[i]?=some s) (va vb vn:Int) :
  IsMd (((w.setCell ⟨b,1+i*4+1,none⟩ (.int .i64 va)).setCell ⟨b,1+i*4+2,none⟩ (.int .i64 vb)).setCell ⟨b,1+i*4,none⟩ (.int .i64 vn)) b d (m.set i ⟨vn,va,vb,s.c⟩)/\(m.set i ⟨vn,va,vb,s.c⟩)[i]?=some ⟨vn,va,vb,s.c⟩:=by
 obtain ⟨a1,e1⟩:=h.set1 hi hs 1 va ⟨s.n,va,s.b,s.c⟩ (.inr (.inl ⟨rfl,rfl⟩))
 obtain ⟨a2,e2⟩:=a1.set1 hi e1 2 vb ⟨s.n,va,vb,s.c⟩ (.inr (.inr (.inl ⟨rfl,rfl⟩)))
 obtain ⟨a3,e3⟩:=a2.set1 hi e2 0 vn ⟨vn,va,vb,s.c⟩ (.inl ⟨rfl,rfl⟩)
 rw [List.set_set,List.set_set] at e3
 exact ⟨a3.toSet.toSet,e3⟩
theorem IsMd.count64 {w:World} {b d:Nat} {m:List Stat} (h:IsMd w b d m) {i:Nat} (hi:i<365) {s:Stat} (hs:m[i]?=some s) (va vb wa wb wn vn:Int) :
  IsMd ((((((w.setCell ⟨b,1+i*4+1,none⟩ (.int .i64 va)).setCell ⟨b,1+i*4+2,none⟩ (.int .i64 vb)).setCell ⟨b,1+i*4+1,none⟩ (.int .i64 wa)).setCell ⟨b,1+i*4+2,none⟩ (.int .i64 wb)).setCell ⟨b,1+i*4,none⟩ (.int .i64 wn)).setCell ⟨b,1+i*4,none⟩ (.int .i64 vn)) b d (m.set i ⟨vn,wa,wb,s.c⟩)/\(m.set i ⟨vn,wa,wb,s.c⟩)[i]?=some ⟨vn,wa,wb,s.c⟩:=by
 obtain ⟨a1,e1⟩:=h.set1 hi hs 1 va ⟨s.n,va,s.b,s.c⟩ (.inr (.inl ⟨rfl,rfl⟩))
 obtain ⟨a2,e2⟩:=a1.set1 hi e1 2 vb ⟨s.n,va,vb,s.c⟩ (.inr (.inr (.inl ⟨rfl,rfl⟩)))
 obtain ⟨a3,e3⟩:=a2.set1 hi e2 1 wa ⟨s.n,wa,vb,s.c⟩ (.inr (.inl ⟨rfl,rfl⟩))
 obtain ⟨a4,e4⟩:=a3.set1 hi e3 2 wb ⟨s.n,wa,wb,s.c⟩ (.inr (.inr (.inl ⟨rfl,rfl⟩)))
 obtain ⟨a5,e5⟩:=a4.set1 hi e4 0 wn ⟨wn,wa,wb,s.c⟩ (.inl ⟨rfl,rfl⟩)
 obtain ⟨a6,e6⟩:=a5.set1 hi e5 0 vn ⟨vn,wa,wb,s.c⟩ (.inl ⟨rfl,rfl⟩)
 rw [List.set_set,List.set_set,List.set_set,List.set_set,List.set_set] at e6
 exact ⟨a6.toSet.toSet.toSet.toSet.toSet,e6⟩
theorem IsMd.even {w:World} {b d:Nat} {m:List Stat} {i:Nat} {s:Stat} (h:IsMd w b d (m.set i s)) (hi:i<365) (hs:(m.set i s)[i]?=some s) (vb vc:Int) :
  IsMd ((w.setCell ⟨b,1+i*4+2,none⟩ (.int .i64 vb)).setCell ⟨b,1+i*4+3,none⟩ (.int .i64 vc)) b d (m.set i ⟨s.n,s.a,vb,vc⟩):=by
 obtain ⟨a1,e1⟩:=h.set1 hi hs 2 vb ⟨s.n,s.a,vb,s.c⟩ (.inr (.inr (.inl ⟨rfl,rfl⟩)))
 obtain ⟨a2,e2⟩:=a1.set1 hi e1 3 vc ⟨s.n,s.a,vb,vc⟩ (.inr (.inr (.inr ⟨rfl,rfl⟩)))
 exact a2.toSet.toSet
theorem learn_ok (b d:Nat) (m:List Stat) (ctx:Nat) (e:Int) (w:World) (h:IsMd w b d m) (hm:ModelOk m) (h0:1<=d) (h1:d<=16) (hc:ctx<365) (he0 : -2^(d-1)<=e) (he1:e<2^(d-1)) :
  Calls Tryz.prog 179 #[.pointer (some ⟨b,0,none⟩),.int .i64 ctx,.int .i64 e] w fun x w'=>x=.returned (.tuple #[])/\IsMd w' b d (m.set ctx (learnS (statAt m ctx) e))/\Chg [b] w w':=by
 obtain ⟨aM,aK⟩:=pow_d h0 h1
 obtain ⟨hg,aG⟩:=statAt_mem hm hc
 obtain ⟨q0,aq,ak⟩:=h.cells
 obtain ⟨qn,qa,qb,qc⟩:=ak ctx _ hg
 have fn:=aq (1+ctx*4)
 have fa:=aq (1+ctx*4+1)
 have fb:=aq (1+ctx*4+2)
 have fc:=aq (1+ctx*4+3)
 have aF:=isCtx_yes ctx w hc
 have au:=two_pow_half h0
 have aL:=two_pow_pos' (d-1)
 have e1:(2:Int)^((d:Int)-1).toNat=2^(d-1):=by congr 1;omega
 obtain ⟨n0,n1,a0,a1,b0,b1,c0,c1⟩:=aG
 have ha:0<=absI e/\absI e<=32768:=by unfold absI;split<;>omega
 have az:=fun w=>abs_ok e w (by unfold midP;omega)
 obtain ⟨s,hs⟩:=zX (statAt m ctx)
 rw [<-hs] at qn qa qb qc n0 n1 a0 a1 b0 b1 c0 c1 hg ⊢
 have ag:=fun w' (ae:Chg [] w w') va vb vn=>(h.chg ae (by simp)).count hc hg va vb vn
 have ad:=fun w' (ae:Chg [] w w') va vb wa wb wn vn=>(h.chg ae (by simp)).count64 hc hg va vb wa wb wn vn
 obtain ⟨sn,sa,sb,sc⟩:=s
 simp only at qn qa qb qc n0 n1 a0 a1 b0 b1 c0 c1 ag ad
 have aJ:(2:Int)^(d-1)<=32768:=by omega
 have t1:decide (e<(-2^(d-1):Int))=false:=zA (by omega)
 have t2:decide ((2:Int)^(d-1)<=e)=false:=zA (by omega)
 have aA : -32768<=e:=by omega
 have aI:e<=32767:=by omega
 obtain ⟨u,hu⟩:=zX (absI e)
 rw [<-hu] at ha az
 obtain ⟨u0,u1⟩:=ha
 have HU:=hid hu
 have aH:=hid ag
 have aB:=hid ad
 have aE:Hid (∀ w,Chg [b] w w):=hid fun w=>zR _ _
 clear au hu ag ad hs hg aq ak h hm
 have ab:=countS_ok (s:=⟨sn,sa,sb,sc⟩) ⟨n0,n1,a0,a1,b0,b1,c0,c1⟩ aA (by omega)
 have av:=hid ab
 clear ab
 by_cases hn:sn=64
 ·subst hn
  have ax:countS ⟨64,sa,sb,sc⟩ e=⟨33,(sa+u) / 2,(sb+e) / 2,sc⟩:=by unfold countS;rw [if_pos rfl,HU.out]
  have am:=hid ax
  clear ax
  go_enter Tryz.func179,Tryz.ntmps179
  go_wp2_with fail
  refine aF.mono ?_
  rintro e w' ⟨rfl,rfl⟩
  go_wp2_with fail
  refine wp_region_quiet_tail 9 (by kernel_rfl) (by kernel_rfl) ?_
  simp only [List.take_succ_cons,List.take_zero,List.drop_succ_cons,List.drop_zero]
  repeat (go_big_quiet_step ((go_at_call 231;exact quiet_eq (az _))))
  refine wpQuiet_nil ?_
  intro _ ae
  obtain ⟨nq,rfl⟩:=ae
  go_wp2_with fail
  obtain ⟨ac,al⟩:=aB.out _ ((zR [] w).drewN nq) (sa+u) (sb+e) ((sa+u) / 2) ((sb+e) / 2) 32 33
  have ai:Chg [b] w (((((((w.drewN nq).setCell ⟨b,1+ctx*4+1,none⟩ (.int .i64 (sa+u))).setCell ⟨b,1+ctx*4+2,none⟩ (.int .i64 (sb+e))).setCell ⟨b,1+ctx*4+1,none⟩ (.int .i64 ((sa+u) / 2))).setCell ⟨b,1+ctx*4+2,none⟩ (.int .i64 ((sb+e) / 2))).setCell ⟨b,1+ctx*4,none⟩ (.int .i64 32)).setCell ⟨b,1+ctx*4,none⟩ (.int .i64 33)) :=
   (((((((aE.out w).drewN nq).setCell (by simp) _).setCell (by simp) _).setCell (by simp) _).setCell (by simp) _).setCell (by simp) _).setCell (by simp) _
  generalize ((((((w.drewN nq).setCell ⟨b,1+ctx*4+1,none⟩ (.int .i64 (sa+u))).setCell ⟨b,1+ctx*4+2,none⟩ (.int .i64 (sb+e))).setCell ⟨b,1+ctx*4+1,none⟩ (.int .i64 ((sa+u) / 2))).setCell ⟨b,1+ctx*4+2,none⟩ (.int .i64 ((sb+e) / 2))).setCell ⟨b,1+ctx*4,none⟩ (.int .i64 32)).setCell ⟨b,1+ctx*4,none⟩ (.int .i64 33)=w2 at *
  have ab:=av.out
  rw [am.out] at ab
  simp only at ab
  obtain ⟨n3,ay⟩:=zX ((33:Int))
  obtain ⟨a2,ap⟩:=zX ((sa+u) / 2)
  obtain ⟨b2,aw⟩:=zX ((sb+e) / 2)
  rw [<-ay,<-ap,<-aw] at ab ac al am
  obtain ⟨m0,m1,m2,m3,m4,m5,-⟩:=ab
  obtain ⟨_,ah,aa⟩:=ac.cells
  obtain ⟨rn,ra,rb,rc⟩:=aa ctx _ al
  simp only at rn ra rb rc
  have gb:=ah (1+ctx*4+2)
  have gc:=ah (1+ctx*4+3)
  have ao:=hid (fun w' (ae:Chg [] w2 w') vb vc=>(ac.chg ae (by simp)).even hc al vb vc)
  have ar:learnS ⟨64,sa,sb,sc⟩ e=evenS ⟨n3,a2,b2,sc⟩:=by unfold learnS;rw [am.out]
  have an:=hid ar
  have aC:=hid ac
  clear ar ah aa ay ap aw qn qa qb qc fn fa fb fc q0  a0 a1 b0 b1 ac al
  by_cases hA:b2<=-n3
  ·have u1:decide (b2<=-n3)=true:=zB hA
   have af:evenS ⟨n3,a2,b2,sc⟩=⟨n3,a2,max (b2+n3) (1-n3),max (sc-1) (-128)⟩:=by unfold evenS;rw [if_pos hA]
   have aj:=hid af
   clear af
   go_quiet (fail)
   go_wp2_with fail
   refine wp_region_quiet_tail 18 (by kernel_rfl) (by kernel_rfl) ?_
   simp only [List.take_succ_cons,List.take_zero,List.drop_succ_cons,List.drop_zero]
   repeat (any_goals (go_big_quiet_step (fail)))
   all_goals
    refine wpQuiet_nil ?_
    intro _ ae
    obtain ⟨aD,rfl⟩:=ae
    go_wp2_with fail
   all_goals
    go_end0
    refine ⟨rfl,?_,?_⟩
    ·rw [an.out,aj.out]
     first | rw [show max (b2+n3) (1-n3)=1-n3 by omega] | rw [show max (b2+n3) (1-n3)=b2+n3 by omega]
     first | rw [show max (sc-1) (-128)=-128 by omega] | rw [show max (sc-1) (-128)=sc-1 by omega]
     exact ao.out _ ((zR [] w2).drewN _) _ _
    ·exact ((ai.drewN _).setCell (by simp) _).setCell (by simp) _
  ·have u1:decide (b2<=-n3)=false:=zA hA
   by_cases hB:0<b2
   ·have u2:decide (0<b2)=true:=zB hB
    have af:evenS ⟨n3,a2,b2,sc⟩=⟨n3,a2,min (b2-n3) 0,min (sc+1) 127⟩:=by unfold evenS;rw [if_neg hA,if_pos hB]
    have aj:=hid af
    clear af
    go_quiet (fail)
    go_wp2_with fail
    refine wp_region_quiet_tail 13 (by kernel_rfl) (by kernel_rfl) ?_
    simp only [List.take_succ_cons,List.take_zero,List.drop_succ_cons,List.drop_zero]
    repeat (any_goals (go_big_quiet_step (fail)))
    all_goals
     refine wpQuiet_nil ?_
     intro _ ae
     obtain ⟨aD,rfl⟩:=ae
     go_wp2_with fail
    all_goals
     go_end0
     refine ⟨rfl,?_,?_⟩
     ·rw [an.out,aj.out]
      first | rw [show min (b2-n3) 0=0 by omega] | rw [show min (b2-n3) 0=b2-n3 by omega]
      first | rw [show min (sc+1) 127=127 by omega] | rw [show min (sc+1) 127=sc+1 by omega]
      exact ao.out _ ((zR [] w2).drewN _) _ _
     ·exact ((ai.drewN _).setCell (by simp) _).setCell (by simp) _
   ·have u2:decide (0<b2)=false:=zA hB
    have af:evenS ⟨n3,a2,b2,sc⟩=⟨n3,a2,b2,sc⟩:=by unfold evenS;rw [if_neg hA,if_neg hB]
    have aj:=hid af
    clear af
    go_quiet (fail)
    go_wp2_with fail
    go_end0
    refine ⟨rfl,?_,ai.drewN _⟩
    rw [an.out,aj.out]
    exact aC.out.chg ((zR [] w2).drewN _) (by simp)
 ·have t3:(sn==64)=false:=by rw [beq_eq_false_iff_ne];exact hn
  have ax:countS ⟨sn,sa,sb,sc⟩ e=⟨sn+1,sa+u,sb+e,sc⟩:=by unfold countS;rw [if_neg hn,HU.out]
  have am:=hid ax
  clear ax hn
  go_enter Tryz.func179,Tryz.ntmps179
  go_wp2_with fail
  refine aF.mono ?_
  rintro e w' ⟨rfl,rfl⟩
  go_wp2_with fail
  refine wp_region_quiet_tail 9 (by kernel_rfl) (by kernel_rfl) ?_
  simp only [List.take_succ_cons,List.take_zero,List.drop_succ_cons,List.drop_zero]
  repeat (go_big_quiet_step ((go_at_call 231;exact quiet_eq (az _))))
  refine wpQuiet_nil ?_
  intro _ ae
  obtain ⟨nq,rfl⟩:=ae
  go_wp2_with fail
  obtain ⟨ac,al⟩:=aH.out _ ((zR [] w).drewN nq) (sa+u) (sb+e) (sn+1)
  have ai:Chg [b] w ((((w.drewN nq).setCell ⟨b,1+ctx*4+1,none⟩ (.int .i64 (sa+u))).setCell ⟨b,1+ctx*4+2,none⟩ (.int .i64 (sb+e))).setCell ⟨b,1+ctx*4,none⟩ (.int .i64 (sn+1))) :=
   ((((aE.out w).drewN nq).setCell (by simp) _).setCell (by simp) _).setCell (by simp) _
  generalize (((w.drewN nq).setCell ⟨b,1+ctx*4+1,none⟩ (.int .i64 (sa+u))).setCell ⟨b,1+ctx*4+2,none⟩ (.int .i64 (sb+e))).setCell ⟨b,1+ctx*4,none⟩ (.int .i64 (sn+1))=w2 at *
  have ab:=av.out
  rw [am.out] at ab
  simp only at ab
  obtain ⟨n3,ay⟩:=zX (sn+1)
  obtain ⟨a2,ap⟩:=zX (sa+u)
  obtain ⟨b2,aw⟩:=zX (sb+e)
  rw [<-ay,<-ap,<-aw] at ab ac al am
  obtain ⟨m0,m1,m2,m3,m4,m5,-⟩:=ab
  obtain ⟨_,ah,aa⟩:=ac.cells
  obtain ⟨rn,ra,rb,rc⟩:=aa ctx _ al
  simp only at rn ra rb rc
  have gb:=ah (1+ctx*4+2)
  have gc:=ah (1+ctx*4+3)
  have ao:=hid (fun w' (ae:Chg [] w2 w') vb vc=>(ac.chg ae (by simp)).even hc al vb vc)
  have ar:learnS ⟨sn,sa,sb,sc⟩ e=evenS ⟨n3,a2,b2,sc⟩:=by unfold learnS;rw [am.out]
  have an:=hid ar
  have aC:=hid ac
  clear ar ah aa ay ap aw qn qa qb qc fn fa fb fc q0 n0 n1 a0 a1 b0 b1 ac al
  by_cases hA:b2<=-n3
  ·have u1:decide (b2<=-n3)=true:=zB hA
   have af:evenS ⟨n3,a2,b2,sc⟩=⟨n3,a2,max (b2+n3) (1-n3),max (sc-1) (-128)⟩:=by unfold evenS;rw [if_pos hA]
   have aj:=hid af
   clear af
   go_quiet (fail)
   go_wp2_with fail
   refine wp_region_quiet_tail 18 (by kernel_rfl) (by kernel_rfl) ?_
   simp only [List.take_succ_cons,List.take_zero,List.drop_succ_cons,List.drop_zero]
   repeat (any_goals (go_big_quiet_step (fail)))
   all_goals
    refine wpQuiet_nil ?_
    intro _ ae
    obtain ⟨aD,rfl⟩:=ae
    go_wp2_with fail
   all_goals
    go_end0
    refine ⟨rfl,?_,?_⟩
    ·rw [an.out,aj.out]
     first | rw [show max (b2+n3) (1-n3)=1-n3 by omega] | rw [show max (b2+n3) (1-n3)=b2+n3 by omega]
     first | rw [show max (sc-1) (-128)=-128 by omega] | rw [show max (sc-1) (-128)=sc-1 by omega]
     exact ao.out _ ((zR [] w2).drewN _) _ _
    ·exact ((ai.drewN _).setCell (by simp) _).setCell (by simp) _
  ·have u1:decide (b2<=-n3)=false:=zA hA
   by_cases hB:0<b2
   ·have u2:decide (0<b2)=true:=zB hB
    have af:evenS ⟨n3,a2,b2,sc⟩=⟨n3,a2,min (b2-n3) 0,min (sc+1) 127⟩:=by unfold evenS;rw [if_neg hA,if_pos hB]
    have aj:=hid af
    clear af
    go_quiet (fail)
    go_wp2_with fail
    refine wp_region_quiet_tail 13 (by kernel_rfl) (by kernel_rfl) ?_
    simp only [List.take_succ_cons,List.take_zero,List.drop_succ_cons,List.drop_zero]
    repeat (any_goals (go_big_quiet_step (fail)))
    all_goals
     refine wpQuiet_nil ?_
     intro _ ae
     obtain ⟨aD,rfl⟩:=ae
     go_wp2_with fail
    all_goals
     go_end0
     refine ⟨rfl,?_,?_⟩
     ·rw [an.out,aj.out]
      first | rw [show min (b2-n3) 0=0 by omega] | rw [show min (b2-n3) 0=b2-n3 by omega]
      first | rw [show min (sc+1) 127=127 by omega] | rw [show min (sc+1) 127=sc+1 by omega]
      exact ao.out _ ((zR [] w2).drewN _) _ _
     ·exact ((ai.drewN _).setCell (by simp) _).setCell (by simp) _
   ·have u2:decide (0<b2)=false:=zA hB
    have af:evenS ⟨n3,a2,b2,sc⟩=⟨n3,a2,b2,sc⟩:=by unfold evenS;rw [if_neg hA,if_neg hB]
    have aj:=hid af
    clear af
    go_quiet (fail)
    go_wp2_with fail
    go_end0
    refine ⟨rfl,?_,ai.drewN _⟩
    rw [an.out,aj.out]
    exact aC.out.chg ((zR [] w2).drewN _) (by simp)
theorem quiet_drew {P:Program} {f:FuncId} {args:Array Value} {w:World} {n:Nat} {v:Value}
  (h:Calls P f args (w.drewN n) fun e w'=>e=.returned v/\∃ m,w'=(w.drewN n).drewN m):Calls P f args (w.drewN n) fun e w''=>e=.returned v/\∃ m,w''=w.drewN m:=Calls.quiet_of h
theorem Grow.forget {a b c:World} {x:Nat} {F F':List Nat} (k:Chg [] a b) (h:Grow (x::F) (x::F') b c) (hx:a.heap.size<=x):Grow F F' a c :=
 ⟨⟨h.chg.os.trans k.os,h.chg.tape.trans k.tape,h.chg.output.trans k.output,Nat.le_trans k.size h.chg.size,fun y hy hn =>
   (h.chg.block y (Nat.lt_of_lt_of_le hy k.size) (by simp;exact ⟨by omega,hn⟩)).trans (k.block y hy (by simp))⟩,
  fun y hy=>by
   rcases h.new y (by simp [hy]) with h1 | h1
   ·rcases zJ.1 h1 with rfl | h1
    ·exact .inr hx
    ·exact .inl h1
   ·exact .inr (Nat.le_trans k.size h1)⟩
theorem look_ok' (b d:Nat) (m:List Stat) (l:List Int) (A:Option Addr) (cap W i:Nat) (w:World) (h:IsMd w b d m) (hm:ModelOk m) (h0:1<=d) (h1:d<=16) (hW0:1<=W) (hW1:W<=64) (hi:i<=l.length) (hiW:i<64*W) (hs:SmpOk d l) (hc:Cells vi w A l) (hll:l.length<=4096) :
  Calls Tryz.prog 176 #[.pointer (some ⟨b,0,none⟩),.slice A l.length cap,.int .i64 W,.int .i64 i] w fun e w'=>e=.returned (.tuple #[.int .i64 (ctxAt l W d i),.bool (turnAt l W d i),.int .i64 (predAt m l W d i)])/\Chg [] w w':=by
 obtain ⟨x,hx⟩:=zX (i%W)
 obtain ⟨y,hy⟩:=zX (i / W)
 have ao:x<W:=by rw [hx];exact Nat.mod_lt _ (by omega)
 have aj:y<64:=by rw [hy];exact Nat.div_lt_of_lt_mul (by rw [zY];exact hiW)
 have an:y*W+x=i:=by rw [hx,hy,zY];exact Nat.div_add_mod i W
 have e1:(i:Int)%(W:Int)=(x:Int):=by rw [hx];simp
 have e2:(i:Int) / (W:Int)=(y:Int):=by rw [hy];simp
 have aa:=fun w hc=>near_ok l A cap W x y w hW0 hW1 ao aj (by omega) hc (by omega)
 have af:=nbr_ok hs W x y
 have ae:=fun w=>context_ok (nbr l W x y) d w h0 h1 af
 have ac:=fun w=>one_ok 7 (nbr l W x y) d w (by omega) h0 h1 af
 have ai:=guessI_ok af 7
 have ag:=ctxN_lt (nbr l W x y) d
 have d1:ctxAt l W d i=ctxN (nbr l W x y) d:=by unfold ctxAt;rw [<-hx,<-hy]
 have d2:turnAt l W d i=turnB (nbr l W x y) d:=by unfold turnAt;rw [<-hx,<-hy]
 have d3:predAt m l W d i=guessM (statAt m (ctxN (nbr l W x y) d)) (guessI 7 (nbr l W x y) d) (turnB (nbr l W x y) d) d:=by unfold predAt ctxAt turnAt;rw [<-hx,<-hy]
 rw [d1,d2,d3]
 have ab:=fun w h=>mguess_ok b d m (ctxN (nbr l W x y) d) (guessI 7 (nbr l W x y) d) (turnB (nbr l W x y) d) w h hm h0 h1 ag ai.1 ai.2
 obtain ⟨n,hn⟩:=zX (l.length)
 rw [<-hn] at aa ⊢
 generalize nbr l W x y=g at *
 generalize ctxN g d=cx at *
 generalize turnB g d=tb at *
 generalize guessI 7 g d=gs at *
 generalize guessM (statAt m cx) gs tb d=gm at *
 obtain ⟨ga,gb,gc,ge⟩:=g
 simp only at aa ae ac
 have HN:=hid aa
 have ap:(1:Int)<=(W:Int):=by omega
 clear hx hy an aa af ai d1 d2 d3 hn hs hi hm
 go_enter Tryz.func176,Tryz.ntmps176
 go_wp2_with fail
 go_quiet ((go_at_call 212;exact quiet_drew (HN.out _ (hc.same ((zR [] w).drewN _)))))
 have am:=h.chg ((zR [] w).drewN nq) (by simp)
 obtain ⟨q0,_,_⟩:=am.cells
 go_wp2_with fail
 refine (ae _).mono ?_
 rintro e w1 ⟨rfl,ak⟩
 have ad:=am.chg ak (by simp)
 obtain ⟨q1,_,_⟩:=ad.cells
 go_wp2_with fail
 refine (ac _).mono ?_
 rintro e w2 ⟨rfl,al⟩
 have ah:=ad.chg al (by simp)
 go_wp2_with fail
 refine (ab _ ah).mono ?_
 rintro e w3 ⟨rfl,rfl⟩
 go_wp2_with fail
 go_ret3
 exact ⟨rfl,(((zR [] w).drewN nq).trans_same ak).trans_same al⟩
theorem mPlane_yes (l:List Int) (A:Option Addr) (cap W H d:Nat) (w:World) (hw0:1<=W) (hw1:W<=64) (hh0:1<=H) (hh1:H<=64) (h0:1<=d) (h1:d<=16) (hl:l.length=W*H) (hs:SmpOk d l) (hc:Cells vi w A l) :
  Calls Tryz.prog 174 #[.slice A l.length cap,.int .i64 W,.int .i64 H,.int .i64 d] w fun e w'=>e=.returned (.bool true)/\w=w':=by
 have t1:decide ((W:Int)<1)=false:=zA (by omega)
 have t2:decide ((64:Int)<(W:Int))=false:=zA (by omega)
 have t3:decide ((H:Int)<1)=false:=zA (by omega)
 have t4:decide ((64:Int)<(H:Int))=false:=zA (by omega)
 have t5:decide ((d:Int)<1)=false:=zA (by omega)
 have t6:decide ((16:Int)<(d:Int))=false:=zA (by omega)
 obtain ⟨aj,ai⟩:=pow_d h0 h1
 obtain ⟨m,hm⟩:=zX (l.length)
 rw [<-hm] at hl ⊢
 have ah:(W:Int)*(H:Int)=(m:Int):=by rw [hl];simp
 have t7:((m:Int) != (m:Int))=false:=by simp
 have an:m<=4096:=by rw [hl];exact zL hw1 hh1
 have HN:=hid hm
 have HS:=hid hs
 clear hm hl hs
 go_enter Tryz.func174,Tryz.ntmps174
 go_wp2_with (go_at_call 225;refine (mvalid_yes _ _ h0 h1).mono ?_;rintro e w' ⟨rfl,rfl⟩)
 go_loopg [38] m (fun j i wr=>j<=m/\i=.int .i64 ((m-j:Nat):Int)/\w=wr)
 case atStart=>exact ⟨zQ _,by simp,rfl⟩
 case round =>
  obtain ⟨hj,rfl,rfl⟩:=hrel
  rcases gk with _ | j
  ·have t8:decide (((m-0:Nat):Int)<(m:Int))=false:=by simp
   go_wp2
   go_ret
   exact ⟨rfl,rfl⟩
  ·obtain ⟨i,ad⟩:=zX (m-(j+1))
   rw [<-ad]
   have ag:i<m:=by omega
   have ac:m-j=i+1:=by omega
   have HI:=hid ac
   clear ad ac
   have af:i<l.length:=by rw [<-HN.out];exact ag
   obtain ⟨g,o,rfl,aa⟩:=hc.at_ af
   have hx:=HS.out l[i] (zG _)
   obtain ⟨x,ae⟩:=zX (l[i])
   rw [<-ae] at aa hx
   have ab:w.cell? ⟨g,o+i,none⟩=some (.int .i64 x):=aa
   obtain ⟨am,al⟩:=hx
   have t9:decide (x<0)=false:=zA (by omega)
   have ak:decide ((2:Int)^d<=x)=false:=zA (by omega)
   clear aa ae af
   go_wp2
   go_roundg j
   case measure=>omega
   case rel =>
    rw [HI.out]
    exact ⟨by omega,by go_num,rfl⟩
theorem errOf_mid (s g:Int) (t:Bool) {d:Nat} (h0:1<=d) (h1:d<=16):wideP (errOf s g t d):=by
 have:=errRange16 h1 (errOf_range s g t h0)
 unfold wideP
 omega
theorem rput1_ok (w:World) (b:Nat) (F bs:List Nat) (k:Nat) (x:Int) (h:IsWr w b F bs) (hk:k<=25) (hw:wideP x) (hlen:bs.length+65<274877906944) :
  Calls Tryz.prog 177 #[.pointer (some ⟨b,0,none⟩),.int .i64 k,.slice (some ⟨w.heap.size,0,none⟩) 1 1] (w.alloc (.cells #[.int .i64 x] 3)) fun e w'=>e=.returned (.int .i64 0)/\∃ F',IsWr w' b F' (bs++rbits k x)/\Grow F F' w w':=by
 have ch:Chg [] w (w.alloc (.cells #[.int .i64 x] 3)):=(zR [] w).alloc _
 have aa:Row (w.alloc (.cells #[.int .i64 x] 3)) 3 (.slice (some ⟨w.heap.size,0,none⟩) 1 1) w.heap.size ([x].map vi):=Row.made w 3 [.int .i64 x] (by simp [maxLen])
 have ab:=aa.toOwn.cells
 have ac:=aa.toOwn.apt (l':=[x]) (F':=F) (fun y hy=>by
  rw [zU.1 hy]
  intro hm
  have:=h.lt _ hm
  omega)
 refine (rput_ok _ b F bs k [x] _ 1 (h.same ch) hk (fun y hy=>by rw [zU.1 hy];exact hw) ab ac (by simpa using hlen)).mono ?_
 rintro e w' ⟨rfl,F',h',g'⟩
 refine ⟨rfl,F',?_,g'.pre ch⟩
 have e:rbitsAll k [x]=rbits k x:=by simp [rbitsAll]
 rw [<-e]
 exact h'
theorem mput_ok (w:World) (b:Nat) (F bs:List Nat) (l:List Int) (A:Option Addr) (cap W H d:Nat) (h:IsWr w b F bs) (hw0:1<=W) (hw1:W<=64) (hh0:1<=H) (hh1:H<=64) (h0:1<=d) (h1:d<=16) (hl:l.length=W*H) (hs:SmpOk d l) (hc:Cells vi w A l) (hA:Apt A l F) (hbs:bs.length<137438953472) :
  Calls Tryz.prog 137 #[.pointer (some ⟨b,0,none⟩),.slice A l.length cap,.int .i64 W,.int .i64 H,.int .i64 d] w fun e w'=>e=.returned (.int .i64 0)/\∃ F',IsWr w' b F' (bs++modelBits l W d (W*H))/\Grow F F' w w':=by
 have a4:l.length<=4096:=by rw [hl];exact zL hw1 hh1
 have aC:=mPlane_yes l A cap W H d w hw0 hw1 hh0 hh1 h0 h1 hl hs hc
 obtain ⟨ba,ay⟩:=pow_d h0 h1
 have aV:=fun i=>modelTo_ok l W h0 h1 ay i
 have a1:=fun i=>modelBits_len l W h0 h1 ay i
 have af:=fun i (hi:i<l.length) m (hm:ModelOk m) bm w (h:IsMd w bm d m) (hc:Cells vi w A l)=>look_ok' bm d m l A cap W i w h hm h0 h1 hw0 hw1 (by omega) (by rw [hl] at hi;have:=Nat.mul_le_mul_left W hh1;rw [zY 64 W];omega) hs hc a4
 have aW:∀ x∈F,x<w.heap.size:=h.lt
 obtain ⟨n,hn⟩:=zX (l.length)
 rw [<-hn] at aC af a4 hl ⊢
 rw [<-hl]
 have HL:=hid af
 have bh:=hid aV
 have bf:=hid a1
 have HS:=hid hs
 have HN:=hid hn
 have bd:=hid aW
 have HP:=hid ay
 have HA:=hid hA
 clear af aV a1 hs hn hl aW ay hA
 go_enter Tryz.func137,Tryz.ntmps137
 go_wp2_with fail
 refine aC.mono ?_
 rintro e w' ⟨rfl,rfl⟩
 go_wp2_with fail
 refine (mnew_ok d w h0 h1).mono ?_
 rintro e w1 ⟨bm,rfl,be,aE,aY⟩
 have aF:=h.same aE
 have aJ:bm∉F:=fun hm=>by have:=bd.out _ hm;omega
 have bg:=hc.same aE
 have bb:Hid (Apt A l (bm::F)):=hid fun h0 ad e hm=>by
  rcases zJ.1 hm with h9 | h9
  ·exact Apt.fresh hc (F:=[bm]) (by simpa using aY) h0 ad e (by rw [h9];simp)
  ·exact HA.out h0 ad e h9
 clear aC h hc
 go_wp2_with fail
 go_loopg [36] n (fun j iv wr=>∃ (i:Nat) (F' ai:List Nat),iv=.int .i64 i/\i+j=n/\IsWr wr b F' ai/\Hid (ai=bs++modelBits l W d i)/\ai.length<=bs.length+65*i/\IsMd wr bm d (modelTo l W d i)/\bm∉F'/\Grow (bm::F) (bm::F') w1 wr)
 case atStart=>exact ⟨0,F,bs,rfl,by simp,aF,hid (by simp [modelBits]),by omega,be,aJ,Grow.refl _ _⟩
 case round =>
  obtain ⟨i,F',ai,rfl,bo,a8,Hb,bn,am,ax,aG⟩:=hrel
  rcases gk with _ | j
  ·obtain rfl:i=n:=by omega
   go_wp2
   go_ret
   refine ⟨rfl,F',?_,Grow.forget aE aG aY⟩
   rw [<-Hb.out]
   exact a8
  ·have a5:i<n:=by omega
   have aD:Cells vi wr A l:=bg.keep bb.out aG.chg
   have aw:modelBits l W d (i+1)=modelBits l W d i++bitsAtM (modelTo l W d i) l W d i:=rfl
   have aA:modelTo l W d (i+1)=nextM (modelTo l W d i) l W d i:=rfl
   have ae:=bh.out i
   have aa:=bf.out (i+1)
   rw [aw,zC] at aa
   obtain ⟨m,hm⟩:=zX (modelTo l W d i)
   rw [<-hm] at am aw aA ae aa
   have aN:=ctxN_lt (nbr l W (i%W) (i / W)) d
   have aM:=HL.out i a5 m ae bm wr am aD
   have aS:i<l.length:=by rw [<-HN.out];exact a5
   obtain ⟨g,o,rfl,ah⟩:=aD.at_ aS
   have aX:l[i]=l.getD i 0:=by rw [zD,zF aS];rfl
   have hx:=HS.out l[i] (zG _)
   rw [aX] at ah hx
   have aI:wr.cell? ⟨g,o+i,none⟩=some (.int .i64 (l.getD i 0)):=ah
   clear ah
   have aR:=guessM_ok (statAt m (ctxAt l W d i)) (guessI 7 (nbr l W (i%W) (i / W)) d) (turnAt l W d i) (d:=d) ba
   have aU:predAt m l W d i=guessM (statAt m (ctxAt l W d i)) (guessI 7 (nbr l W (i%W) (i / W)) d) (turnAt l W d i) d:=rfl
   rw [<-aU] at aR
   have aB:=errOf_range (l.getD i 0) (predAt m l W d i) (turnAt l W d i) h0
   have aK:=errOf_mid (l.getD i 0) (predAt m l W d i) (turnAt l W d i) h0 h1
   have aL:errAt m l W d i=errOf (l.getD i 0) (predAt m l W d i) (turnAt l W d i) d:=rfl
   rw [<-aL] at aB aK
   have a7:bitsAtM m l W d i=rbits (kOf (statAt m (ctxAt l W d i))) (errAt m l W d i):=rfl
   have aZ:nextM m l W d i=m.set (ctxAt l W d i) (learnS (statAt m (ctxAt l W d i)) (errAt m l W d i)):=rfl
   rw [a7] at aw aa
   rw [aZ] at aA
   have ak:ctxAt l W d i<365:=aN
   have bp:=kOf_le (statAt_mem ae ak).2
   generalize ctxAt l W d i=cx at *
   generalize predAt m l W d i=pr at *
   generalize turnAt l W d i=tb at *
   generalize errAt m l W d i=er at *
   generalize l.getD i 0=x at *
   have aQ:=fun w h=>mk_ok bm d m cx w h ae ak
   generalize kOf (statAt m cx)=kk at *
   have ag:=fun w h=>learn_ok bm d m cx er w h ae h0 h1 ak aB.1 aB.2
   obtain ⟨bi,aP⟩:=hx
   obtain ⟨bl,a9⟩:=aR
   have bq:x<65536:=Int.lt_of_lt_of_le aP HP.out
   have br:pr<65536:=Int.lt_of_lt_of_le a9 HP.out
   clear aP a9
   have a6:=hid ag
   have a2:=hid aQ
   have aO:=hid aw
   have a0:=hid aA
   have a3:=hid aL
   have bj:=hid aa
   have bc:=hid hm
   clear ag aQ aw aA aL aa hm aU aN aX a7 aZ ae aD aB
   go_wp2_with fail
   refine aM.mono ?_
   rintro e w2 ⟨rfl,aH⟩
   clear aM
   have aq:=a8.same aH
   have ac:=am.chg aH (by simp)
   have ar:=aG.same aH
   cases tb with
   | false =>
    have az:=fold_ok (x-pr) d w2 h0 h1
    have e1:foldI (x-pr) d=er:=by rw [a3.out];rfl
    rw [e1] at az
    go_wp2_with fail
    refine az.mono ?_
    rintro e w' ⟨rfl,rfl⟩
    go_wp2_with fail
    refine (a2.out _ ac).mono ?_
    rintro e w3 ⟨rfl,n3,rfl⟩
    go_wp2_with fail
    refine (rput1_ok _ b F' ai kk er (aq.same ((zR [] w2).drewN n3)) (by omega) aK (by omega)).mono ?_
    rintro e w4 ⟨rfl,F2,ao,ab⟩
    have av:bm∉F2:=ab.out ac.lt ax
    have an:=(ac.chg ((zR [] w2).drewN n3) (by simp)).chg ab.chg ax
    have al:=(ar.drewN n3).trans (ab.cons bm)
    go_wp2_with fail
    refine (a6.out _ an).mono ?_
    rintro e w5 ⟨rfl,aj,ap⟩
    go_wp2_with fail
    go_roundg j
    case measure=>omega
    case rel =>
     refine ⟨i+1,F2,ai++rbits kk er,by go_num,by omega,ao.chg ap (fun y hy hm=>by rw [zU.1 hm] at hy;exact av hy),hid (by rw [aO.out,<-zH,<-Hb.out]),?_,?_,av,?_⟩
     ·rw [zC];have:=rbits_len kk er;have:=rcost_le kk er (by omega);omega
     ·rw [a0.out];exact aj
     ·exact al.trans ⟨ap.mono fun y hy _=>by rw [zU.1 hy];simp,fun y hy => .inl hy⟩
   | true =>
    have az:=fold_ok (x-pr) d w2 h0 h1
    have au:=fold_ok (-foldI (x-pr) d) d w2 h0 h1
    have aT:=foldI_range (x-pr) h0
    have e1:foldI (-foldI (x-pr) d) d=er:=by rw [a3.out];rfl
    rw [e1] at au
    have bk:=errRange16 h1 aT
    generalize foldI (x-pr) d=fo at *
    clear aT
    go_wp2_with fail
    refine az.mono ?_
    rintro e w' ⟨rfl,rfl⟩
    go_wp2_with fail
    refine au.mono ?_
    rintro e w' ⟨rfl,rfl⟩
    go_wp2_with fail
    refine (a2.out _ ac).mono ?_
    rintro e w3 ⟨rfl,n3,rfl⟩
    go_wp2_with fail
    refine (rput1_ok _ b F' ai kk er (aq.same ((zR [] w2).drewN n3)) (by omega) aK (by omega)).mono ?_
    rintro e w4 ⟨rfl,F2,ao,ab⟩
    have av:bm∉F2:=ab.out ac.lt ax
    have an:=(ac.chg ((zR [] w2).drewN n3) (by simp)).chg ab.chg ax
    have al:=(ar.drewN n3).trans (ab.cons bm)
    go_wp2_with fail
    refine (a6.out _ an).mono ?_
    rintro e w5 ⟨rfl,aj,ap⟩
    go_wp2_with fail
    go_roundg j
    case measure=>omega
    case rel =>
     refine ⟨i+1,F2,ai++rbits kk er,by go_num,by omega,ao.chg ap (fun y hy hm=>by rw [zU.1 hm] at hy;exact av hy),hid (by rw [aO.out,<-zH,<-Hb.out]),?_,?_,av,?_⟩
     ·rw [zC];have:=rbits_len kk er;have:=rcost_le kk er (by omega);omega
     ·rw [a0.out];exact aj
     ·exact al.trans ⟨ap.mono fun y hy _=>by rw [zU.1 hy];simp,fun y hy => .inl hy⟩
theorem bitAt_zeros {ds:List Nat} {p n:Nat} {bs:List Nat} (h:Ahead ds p (List.replicate n 0++1::bs)):(∀ i,i<n->bitAt ds (p+i)=0)/\bitAt ds (p+n)=1 :=
 ⟨fun i hi=>h.get (by rw [List.getElem?_append_left (by simpa using hi)];simp [hi]),h.get (by rw [zS (by simp)];simp)⟩
theorem ahead_one {ds:List Nat} {p n:Nat} {bs:List Nat} (h:Ahead ds p (List.replicate n 0++1::bs)):Ahead ds (p+n+1) bs:=by
 have h1:Ahead ds p ((List.replicate n 0++[1])++bs):=by simpa using h
 have:=h1.right
 rw [zC,zV,List.length_singleton,<-Nat.add_assoc] at this
 exact this
theorem rone_ok (w:World) (b:Nat) (F ds:List Nat) (p k:Nat) (x:Int) (h:IsRd w b F ds p) (hk:k<=25) (hx:wideP x) (ha:Ahead ds p (rbits k x)) :
  Calls Tryz.prog 250 #[.pointer (some ⟨b,0,none⟩),.int .i64 k] w fun e w'=>e=.returned (.tuple #[.int .i64 x,.int .i64 0])/\IsRd w' b F ds (p+(rbits k x).length)/\Chg [b] w w':=by
 have hu:=rfold_lt hx
 have ap:=unfoldI_rfold x
 have aw:=h.at_le
 obtain ⟨u,ai⟩:=zX (rfold x)
 have ab:rbits k x=if u / 2^k<32 then List.replicate (u / 2^k) 0++1::bitsOf (u%2^k) k else List.replicate 32 0++1::bitsOf u 32:=by unfold rbits;rw [<-ai]
 rw [<-ai] at hu ap
 have ah:=Nat.div_add_mod u (2^k)
 have ac:=Nat.mod_lt u (Nat.two_pow_pos k)
 have ao:2^k<=33554432:=Nat.pow_le_pow_right (n:=2) (j:=25) (by decide) hk
 obtain ⟨q,al⟩:=zX (u / 2^k)
 obtain ⟨r,au⟩:=zX (u%2^k)
 have e1:(u:Int) / 2^k=(q:Int):=by rw [al];simp
 rw [<-al] at ah ab
 rw [<-au] at ah ac ab
 have ax:(q:Int)*2^k=(u:Int)-r:=by
  have:((2^k*q+r:Nat):Int)=(u:Int):=by rw [ah]
  rw [Int.natCast_add,Int.natCast_mul,Int.natCast_pow] at this
  rw [Int.mul_comm]
  simp at this
  omega
 have ay:r<=u:=by rw [au];exact Nat.mod_le _ _
 have an:=hid ac
 have av:=hid ap
 clear ah al au ai ac ao ap
 by_cases hs:q<32
 ·rw [if_pos hs] at ab
  rw [ab] at ha ⊢
  obtain ⟨hz,h1⟩:=bitAt_zeros ha
  have ad:=ahead_one ha
  have hl:=ha.le aw
  simp only [zC,zV,zK,bitsOf_len] at hl
  have aa:(List.replicate q 0++1::bitsOf r k).length=q+1+k:=by simp [bitsOf_len];omega
  rw [aa]
  have t1:decide ((q:Int)<32)=true:=by simp;omega
  have aj:=hid hz
  have ar:=hid h1
  have aq:=hid ad
  clear hz h1 ad ha ab aa
  go_enter Tryz.func250,Tryz.ntmps250
  go_wp2_with fail
  refine (runary_ok w b F ds p q 32 h (by omega) (by omega) aj.out ar.out (by omega)).mono ?_
  rintro e w1 ⟨rfl,ag,ak⟩
  go_wp2_with (go_at_call 84;refine (err_ok _ b F ds _ ag).mono ?_;rintro e w' ⟨rfl,rfl⟩)
  refine (rget_ahead _ b F ds (p+q+1) k r ag (by omega) an.out aq.out).mono ?_
  rintro e w2 ⟨rfl,ae,am⟩
  go_wp2_with fail
  have af:=unfold_ok u w2 hu
  rw [av.out] at af
  refine af.mono ?_
  rintro e w3 ⟨rfl,rfl⟩
  go_wp2_with (go_at_call 84;refine (err_ok _ b F ds _ ae).mono ?_;rintro e w' ⟨rfl,rfl⟩)
  go_ret2
  exact ⟨rfl,by rw [show p+(q+1+k)=p+q+1+k by omega];exact ae,ak.trans_same am⟩
 ·rw [if_neg hs] at ab
  rw [ab] at ha ⊢
  obtain ⟨hz,h1⟩:=bitAt_zeros ha
  have ad:=ahead_one ha
  have hl:=ha.le aw
  simp only [zC,zV,zK,bitsOf_len] at hl
  have aa:(List.replicate 32 0++1::bitsOf u 32).length=32+1+32:=by simp [bitsOf_len]
  rw [aa]
  have t1:decide ((2147483648:Int)<=(u:Int))=false:=by simp;omega
  have t2:decide ((q:Int)<32)=false:=by simp;omega
  have aj:=hid hz
  have ar:=hid h1
  have aq:=hid ad
  clear hz h1 ad ha ab aa ax
  go_enter Tryz.func250,Tryz.ntmps250
  go_wp2_with fail
  refine (runary_ok w b F ds p 32 32 h (by omega) (by omega) aj.out ar.out (by omega)).mono ?_
  rintro e w1 ⟨rfl,ag,ak⟩
  go_wp2_with (go_at_call 84;refine (err_ok _ b F ds _ ag).mono ?_;rintro e w' ⟨rfl,rfl⟩)
  refine (rget_ahead _ b F ds (p+32+1) 32 u ag (by omega) (by omega) aq.out).mono ?_
  rintro e w2 ⟨rfl,ae,am⟩
  have af:=unfold_ok u w2 hu
  rw [av.out] at af
  go_wp2_with (first | (go_at_call 84;refine (err_ok _ b F ds _ ae).mono ?_;rintro e w' ⟨rfl,rfl⟩) | (go_at_call 182;refine af.mono ?_;rintro e w' ⟨rfl,rfl⟩))
  go_ret2
  exact ⟨rfl,ae,ak.trans_same am⟩
theorem rbitsAll_cons (k:Nat) (x:Int) (l:List Int):rbitsAll k (x::l)=rbits k x++rbitsAll k l:=by simp [rbitsAll]
theorem rbitsAll_split (k:Nat) (l:List Int) {m:Nat} (hm:m<l.length):rbitsAll k (l.drop m)=rbits k l[m]++rbitsAll k (l.drop (m+1)):=by
 rw [List.drop_eq_getElem_cons hm,rbitsAll_cons]
theorem Ahead.cast {ds:List Nat} {p q:Nat} {bs:List Nat} (h:Ahead ds p bs) (e:p=q):Ahead ds q bs:=e ▸ h
theorem IsRd.cast {w:World} {b:Nat} {F ds:List Nat} {p q:Nat} (h:IsRd w b F ds p) (e:p=q):IsRd w b F ds q:=e ▸ h
theorem rgets_ok (w:World) (b:Nat) (F ds:List Nat) (p k:Nat) (l:List Int) (h:IsRd w b F ds p) (hk:k<=25) (hw:∀ x∈l,wideP x) (hl:l.length<=4194304) (ha:Ahead ds p (rbitsAll k l)) :
  Calls Tryz.prog 201 #[.pointer (some ⟨b,0,none⟩),.int .i64 k,.int .i64 l.length] w fun e w'=>∃ v G,e=.returned (.tuple #[v,.int .i64 0])/\Own w' 3 v G (l.map vi)/\IsRd w' b F ds (p+(rbitsAll k l).length)/\Chg [b] w w'/\∀ x∈G,w.heap.size<=x:=by
 have HW:=hid hw
 have HA:=hid ha
 clear hw ha
 have aA:=h.lt b h.mem
 obtain ⟨n,hn⟩:=zX (l.length)
 rw [<-hn] at hl ⊢
 have HN:=hid hn
 clear hn
 have t1:decide ((n:Int)<0)=false:=by simp
 have t2:decide ((4194304:Int)<(n:Int))=false:=by simp;omega
 go_enter Tryz.func201,Tryz.ntmps201
 go_wp2_with (first | (go_at_call 228;refine (param_yes _ _ hk).mono ?_;rintro e w' ⟨rfl,rfl⟩) | (go_at_call 84;refine (err_ok _ b F ds _ h).mono ?_;rintro e w' ⟨rfl,rfl⟩))
 go_loopg [8,28] n (fun j v i wr=>∃ G p' out,j<=n/\i=.int .i64 ((n-j:Nat):Int)/\Own wr 3 v G (out.map vi)/\Hid (out=l.take (n-j))/\IsRd wr b F ds p'/\Hid (Ahead ds p' (rbitsAll k (l.drop (n-j))))/\Hid (p'+(rbitsAll k (l.drop (n-j))).length=p+(rbitsAll k l).length)/\Chg [b] w wr/\∀ x∈G,w.heap.size<=x)
 case atStart=>exact ⟨[],p,[],zQ _,by simp,Own.nil _ _,hid (by simp),h,by simpa using HA,hid (by simp),zR _ _,by simp⟩
 case round =>
  obtain ⟨G,p',out,hj,rfl,ho,Ho,ak,Ha,Hp,ai,hG⟩:=hrel
  obtain ⟨A,aC,rfl,az,aD,-⟩:=ho.open_map
  have HG:=hid hG
  clear hG
  rcases gk with _ | j
  ·have t4:decide (((n-0:Nat):Int)<(n:Int))=false:=by simp
   go_wp2
   go_ret2
   have e:l.take (n-0)=l:=by rw [HN.out,Nat.sub_zero,zN]
   have e2:l.drop (n-0)=[]:=by rw [HN.out,Nat.sub_zero,List.drop_length]
   rw [Ho.out,e] at ho
   have hp:=Hp.out
   rw [e2] at hp
   refine ⟨_,G,rfl,?_,ak.cast (by simpa [rbitsAll] using hp),ai,HG.out⟩
   rw [Ho.out,e]
   exact ho
  ·obtain ⟨m,am⟩:=zX (n-(j+1))
   rw [<-am] at Ha Hp Ho ⊢
   have aq:m<n:=by omega
   have al:n-j=m+1:=by omega
   have HM:=hid al
   clear am al
   have ah:m<l.length:=by rw [<-HN.out];exact aq
   have ab:=rbitsAll_split k l ah
   have ad:=take_snoc' l ah
   have aj:wideP l[m]:=HW.out _ (zG _)
   obtain ⟨x,hx⟩:=zX (l[m])
   rw [<-hx] at ab aj ad
   have ac:=Ha.out
   rw [ab] at ac
   have aa:=rone_ok wr b F ds p' k x ak hk aj ac.left
   have ar:=hid ac.right
   have aB:out.length<=4194304:=by rw [Ho.out,zI];omega
   have au:=hid ad
   have ap:=hid ab
   clear ab ad hx ac ah
   go_wp2_with fail
   refine aa.mono ?_
   rintro e w1 ⟨rfl,ax,ae⟩
   have af:∀ y∈G,y∉[b]:=fun y hy=>by have:=HG.out y hy;simp;omega
   have ao:=ho.chg ae af
   have HB:=hid af
   clear aa af
   go_wp2_with (at_builtin;refine wpList_append_o1 rfl rfl int_elem rfl rfl (ao.alloc _) (.int .i64 x) rfl ?c1 ?c2 ?c3 ?c4 ?_)
   case c1=>simp [go_sem]
   case c2=>rfl
   case c3=>rw [zE];omega
   case c4=>rw [zE];omega
   intro g2 ay w2 aw ag
   go_wp2_with fail
   go_roundg j
   case measure=>omega
   case rel =>
    rw [HM.out]
    have an:Chg [b] w w2:=(ai.trans_same (ae.alloc _)).trans ag.chg fun x hx => .inr (HG.out x hx)
    have av:∀ y∈F,y∉G:=fun y hy hyG=>by have:=HG.out y hyG;have:=h.lt y hy;omega
    refine ⟨[g2],_,out++[x],by omega,by go_num,?_,?_,(ax.same ((zR [] w1).alloc _)).chg ag.chg av,ar,?_,an,?_⟩
    ·have:=aw.toOwn
     simpa [vi] using this
    ·exact hid (by rw [Ho.out,au.out])
    ·refine hid ?_
     rw [<-Hp.out,ap.out,zC]
     omega
    ·intro y hy
     simp at hy
     subst hy
     rcases ag.new y (by simp) with h1 | h1
     ·exact HG.out y h1
     ·have:=ai.size
      have:=ae.size
      simp at h1
      omega
end Go.Proofs.YtklocammllljiaaGreatDoor
