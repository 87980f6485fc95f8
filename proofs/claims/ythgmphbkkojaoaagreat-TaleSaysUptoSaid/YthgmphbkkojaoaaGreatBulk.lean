/-
  What the second form's bound gives: how long a list is.
-/
import Derived.Test.YthgmphbkkojaoaaGreatRows
import Derived.Test.YthgmphbkkojaoaaGreatRowAll
namespace Go.Proofs.YthgmphbkkojaoaaGreat
open Go.ChangeShapes Go.WideShapes Go.ChangeAt Go.RowKit Go.Deep
theorem bulk_part{H:Type}{d:DataW H}:∀{l:List (DataW H)},d∈l→Rows.uptoBulk d≤Rows.uptoBulkAll l
 | x::r,h=>by
  rcases List.mem_cons.1 h with rfl|h
  ·simp only[Rows.uptoBulkAll];omega
  ·have:=bulk_part h
   simp only[Rows.uptoBulkAll];omega
theorem bulk_one{H:Type}(d:DataW H):1≤Rows.uptoBulk d:=by
 cases d with
 | lit l=>cases l<;>simp[Rows.uptoBulk]
 | _=>simp[Rows.uptoBulk]
theorem bulk_len{H:Type}:∀(l:List (DataW H)),l.length≤Rows.uptoBulkAll l
 | []=>by simp
 | x::r=>by
  have h1:=bulk_one x
  have h2:=bulk_len r
  simp only[Rows.uptoBulkAll,List.length_cons]
  omega
theorem bulk_slice{H:Type}(elems spare:List (DataW H)):elems.length≤Rows.uptoBulk (.slice elems spare):=by
 have h1:=bulk_len elems
 simp only[Rows.uptoBulk]
 omega
theorem slice_bulk{H:Type}{enc:TypeId × Value→H}{W:World}{v:Value}{d:DataW H}{ps:List MemPlace}{T e:TypeId}(hT:Tryz.prog.underlying T=some (.slice e))(h:DataW.Trod enc Tryz.prog W 0 (fun _=>true) true T v d ps){a:Option Addr}{len cap:Nat}(hv:v=.slice a len cap):len≤Rows.uptoBulk d:=by
 subst hv
 obtain ⟨n,hn⟩:=h
 rcases open_slice hT hn with ⟨e1,_⟩|⟨a',len',cap',m,k,D,Pl,e1,_,hl,hm,hmm,e2,hi⟩
 ·simp[Value.cells] at e1
  omega
 ·simp[Value.cells] at e1
  simp only[Prod.mk.injEq] at e2
  obtain ⟨e2,_⟩:=e2
  rw[e2]
  refine Nat.le_trans ?_ (bulk_slice _ _)
  simp
  omega
end Go.Proofs.YthgmphbkkojaoaaGreat
