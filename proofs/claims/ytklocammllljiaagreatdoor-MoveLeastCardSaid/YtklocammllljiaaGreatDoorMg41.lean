/- grids of the tile law: two equal grids. -/
import Derived.Test.YtklocammllljiaaGreatDoorMg36
import Derived.ChangeKeysEq
set_option linter.unusedVariables false
set_option linter.unusedSimpArgs false
namespace Go.Proofs.YtklocammllljiaaGreatDoor
open Go.RowKit
def sqAt (l:List Sq) (i:Nat):Sq:=l.getD i ⟨0,0,0,0⟩
theorem sq_flat_get:∀ (l:List Sq) (i:Nat),i<l.length ->
  (l.flatMap sqCells)[i*4]?=some (.int .i64 (sqAt l i).x)/\(l.flatMap sqCells)[i*4+1]?=some (.int .i64 (sqAt l i).y)/\(l.flatMap sqCells)[i*4+2]?=some (.int .i64 (sqAt l i).w)/\(l.flatMap sqCells)[i*4+3]?=some (.int .i64 (sqAt l i).h)
 | [],i,h=>by simp at h
 | s::l,0,_=>by
  rw [List.flatMap_cons]
  exact ⟨rfl,rfl,rfl,rfl⟩
 | s::l,i+1,h=>by
  have hl:(sqCells s).length=4:=rfl
  obtain ⟨a,b,c,d⟩:=sq_flat_get l i (by simpa using h)
  have e:sqAt (s::l) (i+1)=sqAt l i:=rfl
  rw [List.flatMap_cons,e]
  refine ⟨?_,?_,?_,?_⟩
  ·rw [zS (by omega),hl,show (i+1)*4-4=i*4 by omega];exact a
  ·rw [zS (by omega),hl,show (i+1)*4+1-4=i*4+1 by omega];exact b
  ·rw [zS (by omega),hl,show (i+1)*4+2-4=i*4+2 by omega];exact c
  ·rw [zS (by omega),hl,show (i+1)*4+3-4=i*4+3 by omega];exact d
theorem sq_cell {w:World} {A:Option Addr} {l:List Sq} (hc:Cells (fun v=>v) w A (l.flatMap sqCells)) {i:Nat} (hi:i<l.length) :
  ∃ g o,A=some ⟨g,o,none⟩/\w.cell? ⟨g,o+i*4,none⟩=some (.int .i64 (sqAt l i).x)/\w.cell? ⟨g,o+i*4+1,none⟩=some (.int .i64 (sqAt l i).y)/\w.cell? ⟨g,o+i*4+2,none⟩=some (.int .i64 (sqAt l i).w)/\w.cell? ⟨g,o+i*4+3,none⟩=some (.int .i64 (sqAt l i).h):=by
 have hl:=sq_len l
 obtain ⟨g,o,e,_,h⟩:=hc.ex (by omega)
 obtain ⟨a,b,c,d⟩:=sq_flat_get l i hi
 exact ⟨g,o,e,h _ _ a,by have:=h _ _ b;rwa [<-Nat.add_assoc] at this,by have:=h _ _ c;rwa [<-Nat.add_assoc] at this,by have:=h _ _ d;rwa [<-Nat.add_assoc] at this⟩
end Go.Proofs.YtklocammllljiaaGreatDoor
