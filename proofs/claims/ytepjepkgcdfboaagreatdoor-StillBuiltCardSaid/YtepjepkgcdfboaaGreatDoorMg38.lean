/- grids of the tile law: two equal grids. -/
import Derived.Test.YtepjepkgcdfboaaGreatDoorMg33
import Derived.ChangeKeysEq
set_option linter.unusedVariables false
set_option linter.unusedSimpArgs false
namespace Go.Proofs.YtepjepkgcdfboaaGreatDoor
open Go.RowKit
def a4e (l:List Sq) (i:Nat):Sq:=l.getD i ⟨0,0,0,0⟩
theorem c2v:∀ (l:List Sq) (i:Nat),i<l.length ->
  (l.flatMap a8g)[i*4]?=some (.int .i64 (a4e l i).x)/\(l.flatMap a8g)[i*4+1]?=some (.int .i64 (a4e l i).y)/\(l.flatMap a8g)[i*4+2]?=some (.int .i64 (a4e l i).w)/\(l.flatMap a8g)[i*4+3]?=some (.int .i64 (a4e l i).h)
 | [],i,h=>by simp at h
 | s::l,0,_=>by
  rw [List.flatMap_cons]
  exact ⟨rfl,rfl,rfl,rfl⟩
 | s::l,i+1,h=>by
  have hl:(a8g s).length=4:=rfl
  obtain ⟨a,b,c,d⟩:=c2v l i (by simpa using h)
  have e:a4e (s::l) (i+1)=a4e l i:=rfl
  rw [List.flatMap_cons,e]
  refine ⟨?_,?_,?_,?_⟩
  ·rw [zS (by omega),hl,show (i+1)*4-4=i*4 by omega];exact a
  ·rw [zS (by omega),hl,show (i+1)*4+1-4=i*4+1 by omega];exact b
  ·rw [zS (by omega),hl,show (i+1)*4+2-4=i*4+2 by omega];exact c
  ·rw [zS (by omega),hl,show (i+1)*4+3-4=i*4+3 by omega];exact d
theorem e5t {w:World} {A:Option Addr} {l:List Sq} (hc:a0d (fun v=>v) w A (l.flatMap a8g)) {i:Nat} (hi:i<l.length) :
  ∃ g o,A=some ⟨g,o,none⟩/\w.cell? ⟨g,o+i*4,none⟩=some (.int .i64 (a4e l i).x)/\w.cell? ⟨g,o+i*4+1,none⟩=some (.int .i64 (a4e l i).y)/\w.cell? ⟨g,o+i*4+2,none⟩=some (.int .i64 (a4e l i).w)/\w.cell? ⟨g,o+i*4+3,none⟩=some (.int .i64 (a4e l i).h):=by
 have hl:=f4h l
 obtain ⟨g,o,e,_,h⟩:=hc.ex (by omega)
 obtain ⟨a,b,c,d⟩:=c2v l i hi
 exact ⟨g,o,e,h _ _ a,by have:=h _ _ b;rwa [<-Nat.add_assoc] at this,by have:=h _ _ c;rwa [<-Nat.add_assoc] at this,by have:=h _ _ d;rwa [<-Nat.add_assoc] at this⟩
theorem e4q (l:List Int) (W x y:Nat) {w h k:Nat} (hk:k<h):((a9w l W x y w h).drop (k*w)).take w=(List.range w).map fun i=>l.getD ((y+k)*W+(x+i)) 0:=by
 have aa:=b1w l W x y w h
 have h2:k*w+w<=h*w:=by
  have:=Nat.mul_le_mul_right w (show k+1<=h by omega)
  rw [Nat.succ_mul] at this
  exact this
 apply List.ext_getElem?
 intro i
 rcases zZ i w with hi | hi
 ·rw [List.getElem?_take,if_pos hi,List.getElem?_drop,e4p l W x y hk hi,zW,List.getElem?_range hi]
  rfl
 ·rw [List.getElem?_eq_none (by rw [zI];omega),List.getElem?_eq_none (by simp;omega)]
theorem d3b {q l:List Int} {W H:Nat} {bs:List Sq} {sx sy sw sh k:Nat} (hq:q.length=l.length) (hl:l.length=W*H) (hx:sx+sw<=W) (hy:sy+sh<=H) (hk:k<sh) :
  splice ((b9a q l W (bs++[⟨sx,sy,sw,k⟩])).map vi) ((sy+k)*W+sx) ((((a9w q W sx sy sw sh).drop (k*sw)).take sw).map vi)=(b9a q l W (bs++[⟨sx,sy,sw,k+1⟩])).map vi:=by
 rw [e4q q W sx sy hk]
 have h1:=e8t (q:=q) (l:=l) (W:=W) (H:=H) (bs:=bs) (s:=⟨sx,sy,sw,k⟩) hq hl hx (by simp only;omega)
 simp only at h1
 rw [<-h1]
 simp [splice,List.map_take,List.map_drop]
theorem c8l {P:Program} {t e:TypeId} (ht:P.underlying t=some (.slice e)) (A:Option Addr) (n c hi:Nat) (h:hi<=n) (hnc:n<=c) (w:World) (hs:(sizeOf e).run P w=.ok 1 w) :
  (Instr.slice t (.slice A n c) none (some (.int .i64 hi)) none).run P w=.ok (.slice A hi c) w:=by
 have he:=c6u ht
 rw [run_slice_h (P:=P) (w:=w) t A n c (by rw [he];exact ht) .i64 (hi:Int) (by omega) (by omega),he,hs]
 simp [sliced]
 intro _
 cases A with
 | none=>rfl
 | some ad=>simp [Addr.add]
theorem d2w:∀ n,a0b 0 n=List.replicate n 0:=fun n=>by
 apply List.ext_getElem?
 intro i
 rcases zZ i n with hi | hi
 ·rw [b2r 0 n i hi,List.getElem?_replicate,if_pos hi]
  simp
 ·rw [List.getElem?_eq_none (by rw [a0a];exact hi),List.getElem?_eq_none (by rw [zV];exact hi)]
theorem f2z {ss:List Sq} {i:Nat} (h:i<ss.length):ss.take (i+1)=ss.take i++[a4e ss i]:=by
 rw [List.take_succ_eq_append_getElem h]
 unfold a4e
 rw [zD,zF h]
 rfl
theorem b5o {bs:List Nat} (h:∀ b∈bs,b<2):∀ b∈d7a bs,b<2:=fun b hb=>by
 unfold d7a at hb
 rcases zP.1 hb with h1 | h1
 ·exact h b h1
 ·rw [List.eq_of_mem_replicate h1];omega
theorem e1l {bs:List Nat} (h:∀ b∈bs,b<2):a0y (a1n (d7a bs)) bs.length (a0b 0 ((8-bs.length%8)%8)):=by
 have hp:=b5o h
 have e:d7a bs=bs++a0b 0 ((8-bs.length%8)%8)++[]:=by
  rw [d2w]
  unfold d7a
  rw [List.append_nil]
 rw [e] at hp ⊢
 exact b7v hp
theorem e1k (bs:List Nat):8*(a1n (d7a bs)).length-bs.length=(8-bs.length%8)%8:=by
 rw [a4p,b9m]
 omega
theorem c2r (w:World):(sizeOf 5).run Tryz.prog w=.ok 1 w:=by
 exact Tryz.sizeOf5 w
end Go.Proofs.YtepjepkgcdfboaaGreatDoor
