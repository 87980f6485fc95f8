/-
  append of a slice to a row of slices: the row's block holds slices alone.
-/
import Derived.Test.YthgmphbkkojaoaaGreatOffBox
import Derived.Maps.AppendAt
namespace Go.Proofs.YthgmphbkkojaoaaGreat
open Go.RowKit
section
variable {P : Program}
theorem zFb{w:World}{B:Nat}{cs:Array Value}{e:TypeId}{fz:Nat × Nat}(h:w.heap[B]?=some (.cells cs e fz))(hs:∀c∈cs.toList,∃a n k,c=.slice a n k):zAm w B:=fun o c hc=>by
 unfold World.cell? at hc
 simp only[h] at hc
 exact hs c (by
  obtain ⟨h1,h2⟩:=Array.getElem?_eq_some_iff.1 hc
  rw[←h2]
  simp)
theorem zID{w:World}{B:Nat}{cs:Array Value}{e:TypeId}{fz:Nat × Nat}(h:w.heap[B]?=some (.cells cs e fz))(hs:zAm w B):∀c∈cs.toList,∃a n k,c=.slice a n k:=fun c hc=>by
 obtain ⟨i,hi,rfl⟩:=List.getElem_of_mem hc
 refine hs i _ ?_
 unfold World.cell?
 simp only[h]
 simp at hi
 simp[hi]
theorem zIg(k:Nat):∀c∈(Builtin.zeroCells #[.slice none 0 0] k).toList,∃a n m,c=Value.slice a n m:=by
 intro c hc
 unfold Builtin.zeroCells at hc
 simp at hc
 obtain ⟨i,hi,rfl⟩:=hc
 refine ⟨none,0,0,?_⟩
 rw[Nat.mod_one]
 rfl
theorem zWY{a b c:List Value}(ha:∀x∈a,∃p n m,x=Value.slice p n m)(hb:∀x∈b,∃p n m,x=Value.slice p n m)(hc:∀x∈c,∃p n m,x=Value.slice p n m):∀x∈a++b++c,∃p n m,x=Value.slice p n m:=by
 intro x hx
 rcases List.mem_append.1 hx with hx|hx
 ·rcases List.mem_append.1 hx with hx|hx
  ·exact ha x hx
  ·exact hb x hx
 ·exact hc x hx
theorem zP8{w w':World}{v v':Value}(base:Nat)(t ty e:TypeId)(i:TypeInfo)(bytes:Nat)(ht:P.underlying t=some (.slice e))(hi:P.info? e=some i)(hz:i.zero=some (.slice none 0 0))
  (hsize:i.size=1) (hby:i.bytes=bytes) (n:Nat) (xs:List Value) (hown:w.ownsRow base e 1 v n xs) (hbx:∀g,v.ownBlock=some g→zAm w g)
  (a:Addr) (c:Nat) (p:Option Addr) (l k:Nat) (hnews:w.cell? a=some (.slice p l k)) (h63:n+1≤maxLen) (hbytes:(n+1)*bytes≤140737488355328)
  (hr:(Builtin.append_ #[t,t] ty #[v,.slice (some a) 1 c]).run P w=.ok v' w'):∀g,v'.ownBlock=some g→zAm w' g:=by
 subst hby
 have hsmall:n+1≤9223372036854775807:=by simp only[maxLen] at h63;omega
 have hn1:∀j u,[Value.slice p l k][j]?=some u→w.cell? (a.add j)=some u:=by
  intro j u hj
  match j,hj with
  | 0,hj=>simp at hj;subst hj;simpa[Addr.add] using hnews
 have hsl:∀x∈[Value.slice p l k],∃p n m,x=Value.slice p n m:=fun x hx=>by simp at hx;exact ⟨_,_,_,hx⟩
 have hxs:∀x∈xs,∃p n m,x=Value.slice p n m:=by
  rcases hown.2 with ⟨_,h0⟩|⟨g,cap,cur,rfl,_,hg,_,_,_,htake⟩
  ·have h1:=hown.1
   rw[h0] at h1
   have:xs=[]:=List.eq_nil_of_length_eq_zero (by simpa using h1)
   subst this
   intro x hx
   cases hx
  ·intro x hx
   rw[←htake] at hx
   exact zID hg (hbx g rfl) x (List.mem_of_mem_take hx)
 rcases hown.2 with ⟨rfl,rfl⟩|⟨g,cap,cur,rfl,hbg,hg,hnc,hcm,hcs,htake⟩
 ·have h2:=run_append_nil (P:=P) w t ty e i _ ht hi hz a 1 c [.slice p l k] (by rw[hsize];rfl) hn1 (by omega) (by omega) (by have hb:=hbytes;simp only[Nat.zero_add] at hb;omega)
  rw[h2] at hr
  injection hr with e1 e2
  subst e1 e2
  intro g hg
  cases hg
  refine zFb (heap_alloc_new w.drew _) ?_
  simp only[Array.toList_append]
  intro x hx
  rcases List.mem_append.1 hx with hx|hx
  ·exact hsl x hx
  ·exact zIg _ x hx
 ·by_cases hroom:n+1≤cap
  ·have h2:=run_append_room (P:=P) w t ty e i ht hi g n cap cur hg a 1 c [.slice p l k] (by rw[hsize];rfl) hn1 (by intro u hu;simp at hu;subst hu;rfl) hroom (by rw[hsize,hcs];simp;omega)
   rw[h2] at hr
   injection hr with e1 e2
   subst e1 e2
   intro g' hg'
   cases hg'
   refine zFb (setRow_heap w g cur _ e _ hg) ?_
   have hc:=zID hg (hbx g rfl)
   exact zWY (fun x hx=>hc x (List.mem_of_mem_take hx)) hsl (fun x hx=>hc x (List.mem_of_mem_drop hx))
  ·have holds:∀j u,xs[j]?=some u→w.cell? ((⟨g,0,none⟩:Addr).add j)=some u:=hown.cells (g:=g) rfl
   have h2:=run_append_grow (P:=P) w t ty e i _ ht hi hz ⟨g,0,none⟩ n cap xs (by rw[hsize];exact hown.1) holds a 1 c [.slice p l k] (by rw[hsize];rfl) hn1 (by omega) (by omega) (growslice_fits (by omega) hbytes)
   rw[h2] at hr
   injection hr with e1 e2
   subst e1 e2
   intro g' hg'
   cases hg'
   refine zFb (heap_alloc_new w.drew _) ?_
   simp only[Array.toList_append]
   exact zWY hxs hsl (zIg _)
theorem zN9{α:Type}{R:Rd α}{w:World}{ops:Array Oper}{rest:List Oper}{o:Oper}{a:Act}{Q:Exit→Act→World→Prop}(hgd:o.guard=none)(s x:Operand)(t:TypeId)
  (ho:o.op=.call { callee:=.builtin .append,args:=#[s,x],argTypes:=#[t,t] }) (E:Nat→Prop) (e:TypeId) (ht:P.underlying t=some (.slice e)) (bytes:Nat)
  (hinfo:(P.info? e).map (fun i=>(i.zero,i.size,i.bytes))=some (some (.slice none 0 0),1,bytes)) (hby:bytes≤1000) (base:Nat) (v:Value) (l:List α) (hs:a.eval s=v) (hown:zAK 1 R E w e base v l) (hbx:∀g,v.ownBlock=some g→zAm w g)
  (ad:Addr) (c:Nat) (p:Option Addr) (m q:Nat) (y:α) (hx:a.eval x=.slice (some ad) 1 c) (hc:w.cell? ad=some (.slice p m q)) (hR:zA3 (fun k=>v.ownBlock=some k∨E k) R w [.slice p m q] y) (hl:l.length<2000000) (hbase:base≤w.heap.size)
  (h:∀v' w',zAK 1 R E w' e base v' (l++[y])→w.grownBy w' v.ownBlock→(v'.ownBlock=v.ownBlock∨v'.ownBlock=some w.heap.size)→(∀g,v'.ownBlock=some g→zAm w' g)→wpList P ops Q rest (a.put o.dst v') w'):wpList P ops Q (o::rest) a w:=by
 obtain ⟨i,hi0,hz0,hs0,hb0⟩:=info_parts hinfo
 obtain ⟨rows,h1,h2,h3,h4⟩:=hown.row
 have hbb:(l.length+1)*bytes≤140737488355328:=by
  have:(l.length+1)*bytes≤(l.length+1)*1000:=Nat.mul_le_mul_left _ hby
  omega
 have hcc:∀j u,[Value.slice p m q][j]?=some u→w.cell? (ad.add j)=some u:=by
  intro j u hj
  match j,hj with
  | 0,hj=>simp at hj;subst hj;simpa[Addr.add] using hc
 refine wpList_plain hgd fun K hK=>?_
 obtain ⟨v',w',hr,g1,g2,_,g4⟩:=run_append_own_at (P:=P) w base t o.type e i (.slice none 0 0) 1 bytes ht hi0 hz0 hs0 hb0 rfl (by decide) v l.length rows.flatten h1 ad 1 c [.slice p m q] rfl hcc (by intro u hu;simp at hu;subst hu;rfl) (by unfold maxLen;omega) hbb hbase
 have hb:=zP8 base t o.type e i bytes ht hi0 hz0 hs0 hb0 l.length rows.flatten h1 hbx ad c p m q hc (by unfold maxLen;omega) hbb hr
 unfold Oper.wp execOp
 simp only[ho,resolve,invoke,builtin,Sem.run_bind,Sem.run_pure,Result.andThen_ok,List.map_toArray,List.map_cons,List.map_nil,hs,hx,hr]
 refine hK _ _ (h v' w' ⟨by simp;omega,rows++[[.slice p m q]],by simpa using g1,by simp[h2],?_,?_⟩ g2 g4 hb)
 ·intro q hq
  rcases List.mem_append.1 hq with hq|hq
  ·exact h3 q hq
  ·simp at hq;subst hq;exact ⟨rfl,by intro c hc;simp at hc;subst hc;rfl⟩
 ·have hd:zAF (fun k=>v.ownBlock=some k∨E k) w w':=(zAF.of_grown g2).mono fun k _ hk=>Or.inl hk
  have hmv:∀k,k<w.heap.size→(v'.ownBlock=some k∨E k)→(v.ownBlock=some k∨E k):=by
   intro k hk hh
   rcases hh with hh|hh
   ·rcases g4 with g4|g4
    ·exact Or.inl (g4 ▸ hh)
    ·rw[g4] at hh;cases hh;omega
   ·exact Or.inr hh
  intro m q u hq hu
  by_cases hm:m<l.length
  ·rw[List.getElem?_append_left (by omega)] at hq hu
   exact (h4 m q u hq hu).move hd hmv
  ·rw[List.getElem?_append_right (by omega)] at hq hu
   have hq':=(List.getElem?_eq_some_iff.1 hu).1
   simp at hq'
   have:m=l.length:=by omega
   subst this
   simp at hu
   rw[h2] at hq
   simp at hq
   subst hq hu
   exact hR.move hd hmv
end
end Go.Proofs.YthgmphbkkojaoaaGreat
