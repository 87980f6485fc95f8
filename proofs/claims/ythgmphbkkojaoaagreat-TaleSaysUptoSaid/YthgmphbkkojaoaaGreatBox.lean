/-
  A mesh in a box: what is read of it, whatever becomes of some blocks.
-/
import Derived.Test.YthgmphbkkojaoaaGreatWovens
import Derived.Test.YthgmphbkkojaoaaGreatPut
namespace Go.Proofs.YthgmphbkkojaoaaGreat
open Go.RowKit
def zJs(D:Nat→Prop)(w:World)(v1 v2:Value)(m:Me):Prop:=∀w',zAF D w w'→zAR w' v1 m.1∧zAT w' v2 m.2
theorem zJs.of{X D:Nat→Prop}{w:World}{base top0:Nat}{v1 v2:Value}{m:Me}(h:zE0 X w base top0 v1 v2 m)(hD:∀k,D k→(X k∧k<base)∨top0≤k):zJs D w v1 v2 m:=fun _ hw =>
 have h':=h.frame hw hD
 ⟨h'.vers,h'.peers⟩
theorem zJs.now{D:Nat→Prop}{w:World}{v1 v2:Value}{m:Me}(h:zJs D w v1 v2 m):zAR w v1 m.1∧zAT w v2 m.2:=h w (zAF.refl _ _)
theorem zJs.later{D:Nat→Prop}{w w':World}{v1 v2:Value}{m:Me}(h:zJs D w v1 v2 m)(hw:zAF D w w'):zJs D w' v1 v2 m:=fun w'' h'=>h w'' (hw.trans h')
theorem zJs.next{D D':Nat→Prop}{w w':World}{v1 v2:Value}{m:Me}(h:zJs D w v1 v2 m)(hw:zAF D w w')(hD:∀k,D' k→D k∨w.heap.size≤k):zJs D' w' v1 v2 m:=fun w'' h'=>h w'' (hw.next h' hD)
theorem zJs.stays{D:Nat→Prop}{w w':World}{v1 v2:Value}{m:Me}(h:zJs D w v1 v2 m)(hb:Below w.heap.size w w'):zJs D w' v1 v2 m:=h.later (zAF.old hb _)
theorem zNP{α:Type}{R:Rd α}{sz:Nat}{w:World}{T:TypeId}(rows:List (List Value)){cs:List Value}(hcs:cs=rows.flatten){l:List α}{n:Nat}(hn:n=w.heap.size)(hl:rows.length=l.length)(hm:l.length≤1000000)(hr:∀r∈rows,r.length=sz)
  (hR:∀(i:Nat) r x,rows[i]?=some r→l[i]?=some x→R (w.alloc (.cells cs.toArray T)) r x):zAZ sz R (w.alloc (.cells cs.toArray T)) (.slice (some ⟨n,0,none⟩) l.length l.length) l:=by
 refine ⟨_,_,rfl,Nat.le_refl _,⟨by omega,by omega,fun e=>by cases e⟩,fun i x hx=>?_⟩
 have hil:=(List.getElem?_eq_some_iff.1 hx).1
 have hri:rows[i]?=some rows[i]:=List.getElem?_eq_getElem (by omega)
 refine ⟨n,0,rfl,rows[i],hr _ (List.getElem_mem _),fun j c hc=>?_,hR i _ x hri hx⟩
 have:=zBp w cs T n hn (i*sz+j) c (by rw[hcs];exact zCw hr hri hc)
 rw[zA7] at this
 simpa using this
end Go.Proofs.YthgmphbkkojaoaaGreat
