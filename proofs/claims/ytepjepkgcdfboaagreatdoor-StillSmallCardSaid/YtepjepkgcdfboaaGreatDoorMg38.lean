/- grids of the tile law: two equal grids. -/
import Derived.Test.YtepjepkgcdfboaaGreatDoorMg33
import Derived.ChangeKeysEq
set_option linter.unusedVariables false
set_option linter.unusedSimpArgs false
namespace Go.Proofs.YtepjepkgcdfboaaGreatDoor
open Go.RowKit
def sqAt (l:List Sq) (i:Nat):Sq:=l.getD i ⟨0,0,0,0⟩
theorem sq_flat_get:∀ (l:List Sq) (i:Nat),i<l.length ->
  (l.flatMap sqCells)[i*4]?=some (.int .i64 (sqAt l i).x)/\(l.flatMap sqCells)[i*4+1]?=some (.int .i64 (sqAt l i).y)/\(l.flatMap sqCells)[i*4+2]?=some (.int .i64 (sqAt l i).w)/\(l.flatMap sqCells)[i*4+3]?=some (.int .i64 (sqAt l i).h)
 | [],i,h=>by simp at h
 | s::l,0,_=>by
  rw [List.flatMap_cons]
  exact ⟨rfl,rfl,rfl,rfl⟩
 | s::l,i+1,h=>by
  have hl:(sqCells s).length=4:=rfl
  obtain ⟨a,b,c,d⟩:=sq_flat_get l i (by simpa using h)
  have e:sqAt (s::l) (i+1)=sqAt l i:=rfl
  rw [List.flatMap_cons,e]
  refine ⟨?_,?_,?_,?_⟩
  ·rw [zS (by omega),hl,show (i+1)*4-4=i*4 by omega];exact a
  ·rw [zS (by omega),hl,show (i+1)*4+1-4=i*4+1 by omega];exact b
  ·rw [zS (by omega),hl,show (i+1)*4+2-4=i*4+2 by omega];exact c
  ·rw [zS (by omega),hl,show (i+1)*4+3-4=i*4+3 by omega];exact d
theorem sq_cell {w:World} {A:Option Addr} {l:List Sq} (hc:Cells (fun v=>v) w A (l.flatMap sqCells)) {i:Nat} (hi:i<l.length) :
  ∃ g o,A=some ⟨g,o,none⟩/\w.cell? ⟨g,o+i*4,none⟩=some (.int .i64 (sqAt l i).x)/\w.cell? ⟨g,o+i*4+1,none⟩=some (.int .i64 (sqAt l i).y)/\w.cell? ⟨g,o+i*4+2,none⟩=some (.int .i64 (sqAt l i).w)/\w.cell? ⟨g,o+i*4+3,none⟩=some (.int .i64 (sqAt l i).h):=by
 have hl:=sq_len l
 obtain ⟨g,o,e,_,h⟩:=hc.ex (by omega)
 obtain ⟨a,b,c,d⟩:=sq_flat_get l i hi
 exact ⟨g,o,e,h _ _ a,by have:=h _ _ b;rwa [<-Nat.add_assoc] at this,by have:=h _ _ c;rwa [<-Nat.add_assoc] at this,by have:=h _ _ d;rwa [<-Nat.add_assoc] at this⟩
theorem partF_row (l:List Int) (W x y:Nat) {w h k:Nat} (hk:k<h):((partF l W x y w h).drop (k*w)).take w=(List.range w).map fun i=>l.getD ((y+k)*W+(x+i)) 0:=by
 have aa:=partF_len l W x y w h
 have h2:k*w+w<=h*w:=by
  have:=Nat.mul_le_mul_right w (show k+1<=h by omega)
  rw [Nat.succ_mul] at this
  exact this
 apply List.ext_getElem?
 intro i
 rcases zZ i w with hi | hi
 ·rw [List.getElem?_take,if_pos hi,List.getElem?_drop,partF_get l W x y hk hi,zW,List.getElem?_range hi]
  rfl
 ·rw [List.getElem?_eq_none (by rw [zI];omega),List.getElem?_eq_none (by simp;omega)]
theorem copy_row_eq {q l:List Int} {W H:Nat} {bs:List Sq} {sx sy sw sh k:Nat} (hq:q.length=l.length) (hl:l.length=W*H) (hx:sx+sw<=W) (hy:sy+sh<=H) (hk:k<sh) :
  splice ((mixF q l W (bs++[⟨sx,sy,sw,k⟩])).map vi) ((sy+k)*W+sx) ((((partF q W sx sy sw sh).drop (k*sw)).take sw).map vi)=(mixF q l W (bs++[⟨sx,sy,sw,k+1⟩])).map vi:=by
 rw [partF_row q W sx sy hk]
 have h1:=mixF_row (q:=q) (l:=l) (W:=W) (H:=H) (bs:=bs) (s:=⟨sx,sy,sw,k⟩) hq hl hx (by simp only;omega)
 simp only at h1
 rw [<-h1]
 simp [splice,List.map_take,List.map_drop]
theorem slice_to {P:Program} {t e:TypeId} (ht:P.underlying t=some (.slice e)) (A:Option Addr) (n c hi:Nat) (h:hi<=n) (hnc:n<=c) (w:World) (hs:(sizeOf e).run P w=.ok 1 w) :
  (Instr.slice t (.slice A n c) none (some (.int .i64 hi)) none).run P w=.ok (.slice A hi c) w:=by
 have he:=elem_of ht
 rw [run_slice_h (P:=P) (w:=w) t A n c (by rw [he];exact ht) .i64 (hi:Int) (by omega) (by omega),he,hs]
 simp [sliced]
 intro _
 cases A with
 | none=>rfl
 | some ad=>simp [Addr.add]
theorem bitsOf_zero:∀ n,bitsOf 0 n=List.replicate n 0:=fun n=>by
 apply List.ext_getElem?
 intro i
 rcases zZ i n with hi | hi
 ·rw [bitsOf_get 0 n i hi,List.getElem?_replicate,if_pos hi]
  simp
 ·rw [List.getElem?_eq_none (by rw [bitsOf_len];exact hi),List.getElem?_eq_none (by rw [zV];exact hi)]
theorem take_sq {ss:List Sq} {i:Nat} (h:i<ss.length):ss.take (i+1)=ss.take i++[sqAt ss i]:=by
 rw [List.take_succ_eq_append_getElem h]
 unfold sqAt
 rw [zD,zF h]
 rfl
theorem mem_padF {bs:List Nat} (h:∀ b∈bs,b<2):∀ b∈padF bs,b<2:=fun b hb=>by
 unfold padF at hb
 rcases zP.1 hb with h1 | h1
 ·exact h b h1
 ·rw [List.eq_of_mem_replicate h1];omega
theorem body_rest {bs:List Nat} (h:∀ b∈bs,b<2):Ahead (packed (padF bs)) bs.length (bitsOf 0 ((8-bs.length%8)%8)):=by
 have hp:=mem_padF h
 have e:padF bs=bs++bitsOf 0 ((8-bs.length%8)%8)++[]:=by
  rw [bitsOf_zero]
  unfold padF
  rw [List.append_nil]
 rw [e] at hp ⊢
 exact ahead_packed hp
theorem body_left (bs:List Nat):8*(packed (padF bs)).length-bs.length=(8-bs.length%8)%8:=by
 rw [packed_len,padF_len]
 omega
theorem size_u8 (w:World):(sizeOf 5).run Tryz.prog w=.ok 1 w:=by
 exact Tryz.sizeOf5 w
end Go.Proofs.YtepjepkgcdfboaaGreatDoor
