/-
  A row of error numbers of the call's own: append to it; what is read of a mesh stays.
-/
import Derived.Test.YthgmphbkkojaoaaGreatQOffBox
import Derived.Maps.AppendAt
namespace Go.Proofs.YthgmphbkkojaoaaGreat
set_option linter.unusedSectionVars false
variable [Zn]
open Go.RowKit
def zFb(w:World)(B:Nat):Prop:=(∃cs fz,w.heap[B]?=some (.cells cs 30 fz))∧∀(o:Nat) (c:Value),w.cell? ⟨B,o,none⟩=some c→∃k z,c=.int k z
theorem zFb.keep{w w':World}{B:Nat}(h:zFb w B)(hh:w'.heap[B]?=w.heap[B]?):zFb w' B:=
 ⟨by obtain ⟨cs,fz,e⟩:=h.1;exact ⟨cs,fz,hh.trans e⟩,fun o c hc=>h.2 o c (by rw[←hc];exact (World.cell?_of_block (a:=⟨B,o,none⟩) hh).symm)⟩
theorem zFb.stays{w w':World}{B:Nat}(h:zFb w B)(hb:Below w.heap.size w w')(hB:B<w.heap.size):zFb w' B:=h.keep (hb.block B hB)
theorem zFb.off{w w':World}{B:Nat}(h:zFb w B){D:Nat→Prop}(hd:zAF D w w')(hB:B<w.heap.size)(hn:¬D B):zFb w' B:=h.keep (hd.2 B hB hn)
section
variable {w w' : World} {B : Nat}
theorem zAG.offErr{v:Value}{l:List Int}(h:zAG w v l)(hb:zFb w B)(hz:Zn.n≤B)(hd:zAF (fun j=>j=B) w w'):zAG w' v l:=
 h.framed (fun k hk hne e=>by
  obtain ⟨a,c,rfl,_,⟨_,_,_,hzk⟩,h3⟩:=h
  obtain ⟨y,n',c',e2,rfl⟩:=hk
  simp only[Value.slice.injEq] at e2
  obtain ⟨rfl,_⟩:=e2
  obtain ⟨b,off,z,e3,hc,_⟩:=h3 0 (List.length_pos_iff.2 hne)
  cases e3
  simp only at e
  subst e
  rcases hzk b off rfl hne with h1|h1
  ·omega
  ·obtain ⟨⟨cs,fz,hg⟩,_⟩:=hb
   exact h1 cs _ fz hg rfl) hd
theorem zAZ.offErr{α:Type}{R:Rd α}{sz:Nat}{v:Value}{l:List α}(h:zAZ sz R w v l)(hb:zFb w B)(hd:zAF (fun j=>j=B) w w')
  (hint:∀cs x,R w cs x→∃(j:Nat) (c:Value),cs[j]?=some c∧∀k z,c≠.int k z) (hR:∀cs x,R w cs x→R w' cs x):zAZ sz R w' v l:=by
 obtain ⟨a,c,rfl,h1,h2,h3⟩:=h.opened
 refine ⟨a,c,rfl,h1,h2,fun i x hx=>?_⟩
 obtain ⟨b,off,e,cs,hl,hc,hr⟩:=h3 i x hx
 have hbB:b≠B:=by
  obtain ⟨j,u,hj,hn⟩:=hint cs x hr
  intro e
  subst e
  obtain ⟨k,z,e2⟩:=hb.2 _ _ (hc j u hj)
  exact hn k z e2
 exact ⟨b,off,e,cs,hl,fun j u hj=>hd.cell (hc j u hj) hbB,hR cs x hr⟩
theorem zAR.offErr{v:Value}{l:List Ver}(h:zAR w v l)(hb:zFb w B)(hz:Zn.n≤B)(hd:zAF (fun j=>j=B) w w'):zAR w' v l:=
 zAZ.offErr h hb hd (by
  rintro cs x ⟨u,rfl,hu,_⟩
  obtain ⟨a,c,rfl,_⟩:=hu.opened
  exact ⟨0,_,rfl,fun _ _ e=>by cases e⟩) (by
  rintro cs x ⟨u,rfl,hu,hi⟩
  exact ⟨u,rfl,hu.offErr hb hz hd,hi⟩)
theorem zAl.offErr{v:Value}{l:List Kp}(h:zAl w v l)(hb:zFb w B)(hz:Zn.n≤B)(hd:zAF (fun j=>j=B) w w'):zAl w' v l:=
 zAZ.offErr h hb hd (by
  rintro cs x ⟨u,rfl,hu,_⟩
  obtain ⟨a,c,rfl,_⟩:=hu.opened
  exact ⟨2,_,rfl,fun _ _ e=>by cases e⟩) (by
  rintro cs x ⟨u,rfl,hu,hi⟩
  exact ⟨u,rfl,hu.offErr hb hz hd,hi⟩)
theorem zAT.offErr{v:Value}{l:List Pr}(h:zAT w v l)(hb:zFb w B)(hz:Zn.n≤B)(hd:zAF (fun j=>j=B) w w'):zAT w' v l:=
 zAZ.offErr h hb hd (by
  rintro cs x ⟨u,rfl,_⟩
  exact ⟨0,_,rfl,fun _ _ e=>by cases e⟩) (by
  rintro cs x ⟨u,rfl,hu,hi⟩
  exact ⟨u,rfl,zAl.offErr hu hb hz hd,hi⟩)
theorem zN9{v v1 v2:Value}{b:List Ver}{ps:List Pr}(h:zAR w v1 b∧zAT w v2 ps)(hm:∀g,v.ownBlock=some g→zFb w g∧Zn.n≤g)(hd:zAF (fun k=>v.ownBlock=some k) w w'):zAR w' v1 b∧zAT w' v2 ps:=by
 cases hq:v.ownBlock with
 | none =>
  have hd':zAF (fun _=>False) w w':=hd.mono fun k _ e=>by rw[hq] at e;cases e
  exact ⟨h.1.later zAz.stays hd',h.2.later zAj.stays hd'⟩
 | some g =>
  have hd':zAF (fun j=>j=g) w w':=hd.mono fun k _ e=>by rw[hq] at e;exact (Option.some.inj e).symm
  exact ⟨zAR.offErr h.1 (hm g hq).1 (hm g hq).2 hd',zAT.offErr h.2 (hm g hq).1 (hm g hq).2 hd'⟩
end
section
variable {P : Program}
theorem zIg{w:World}{B:Nat}{cs:Array Value}{fz:Nat × Nat}(h:w.heap[B]?=some (.cells cs 30 fz))(hs:∀c∈cs.toList,∃k z,c=.int k z):zFb w B:=⟨⟨cs,fz,h⟩,fun o c hc=>by
 unfold World.cell? at hc
 simp only[h] at hc
 exact hs c (by
  obtain ⟨h1,h2⟩:=Array.getElem?_eq_some_iff.1 hc
  rw[←h2]
  simp)⟩
theorem zJu{w:World}{B:Nat}{cs:Array Value}{e:TypeId}{fz:Nat × Nat}(h:w.heap[B]?=some (.cells cs e fz))(hs:zFb w B):∀c∈cs.toList,∃k z,c=.int k z:=fun c hc=>by
 obtain ⟨i,hi,rfl⟩:=List.getElem_of_mem hc
 refine hs.2 i _ ?_
 unfold World.cell?
 simp only[h]
 simp at hi
 simp[hi]
theorem zOB(k:Nat):∀c∈(Builtin.zeroCells #[.int .i64 0] k).toList,∃q z,c=Value.int q z:=by
 intro c hc
 unfold Builtin.zeroCells at hc
 simp at hc
 obtain ⟨i,hi,rfl⟩:=hc
 refine ⟨.i64,0,?_⟩
 rw[Nat.mod_one]
 rfl
theorem zRh{a b c:List Value}(ha:∀x∈a,∃k z,x=Value.int k z)(hb:∀x∈b,∃k z,x=Value.int k z)(hc:∀x∈c,∃k z,x=Value.int k z):∀x∈a++b++c,∃k z,x=Value.int k z:=by
 intro x hx
 rcases List.mem_append.1 hx with hx|hx
 ·rcases List.mem_append.1 hx with hx|hx
  ·exact ha x hx
  ·exact hb x hx
 ·exact hc x hx
theorem zP8{w w':World}{v v':Value}(base:Nat)(t ty:TypeId)(i:TypeInfo)(ht:P.underlying t=some (.slice 30))(hi:P.info? 30=some i)(hz:i.zero=some (.int .i64 0))
  (hsize:i.size=1) (hby:i.bytes=8) (n:Nat) (xs:List Value) (hown:w.ownsRow base 30 1 v n xs) (hbx:∀g,v.ownBlock=some g→zFb w g)
  (a:Addr) (c:Nat) (z:Int) (hnews:w.cell? a=some (.int .i64 z)) (h63:n+1≤maxLen) (hbytes:(n+1)*8≤140737488355328)
  (hr:(Builtin.append_ #[t,t] ty #[v,.slice (some a) 1 c]).run P w=.ok v' w'):∀g,v'.ownBlock=some g→zFb w' g:=by
 have hbytes:(n+1)*i.bytes≤140737488355328:=by rw[hby];exact hbytes
 have hsmall:n+1≤9223372036854775807:=by simp only[maxLen] at h63;omega
 have hn1:∀j u,[Value.int .i64 z][j]?=some u→w.cell? (a.add j)=some u:=by
  intro j u hj
  match j,hj with
  | 0,hj=>simp at hj;subst hj;simpa[Addr.add] using hnews
 have hsl:∀x∈[Value.int .i64 z],∃k z,x=Value.int k z:=fun x hx=>by simp at hx;exact ⟨_,_,hx⟩
 have hxs:∀x∈xs,∃k z,x=Value.int k z:=by
  rcases hown.2 with ⟨_,h0⟩|⟨g,cap,cur,rfl,_,hg,_,_,_,htake⟩
  ·have h1:=hown.1
   rw[h0] at h1
   have:xs=[]:=List.eq_nil_of_length_eq_zero (by simpa using h1)
   subst this
   intro x hx
   cases hx
  ·intro x hx
   rw[←htake] at hx
   exact zJu hg (hbx g rfl) x (List.mem_of_mem_take hx)
 rcases hown.2 with ⟨rfl,rfl⟩|⟨g,cap,cur,rfl,hbg,hg,hnc,hcm,hcs,htake⟩
 ·have h2:=run_append_nil (P:=P) w t ty 30 i _ ht hi hz a 1 c [.int .i64 z] (by rw[hsize];rfl) hn1 (by omega) (by omega) (by have hb:=hbytes;simp only[Nat.zero_add] at hb;omega)
  rw[h2] at hr
  injection hr with e1 e2
  subst e1 e2
  intro g hg
  cases hg
  refine zIg (heap_alloc_new w.drew _) ?_
  simp only[Array.toList_append]
  intro x hx
  rcases List.mem_append.1 hx with hx|hx
  ·exact hsl x hx
  ·exact zOB _ x hx
 ·by_cases hroom:n+1≤cap
  ·have h2:=run_append_room (P:=P) w t ty 30 i ht hi g n cap cur hg a 1 c [.int .i64 z] (by rw[hsize];rfl) hn1 (by intro u hu;simp at hu;subst hu;rfl) hroom (by rw[hsize,hcs];simp;omega)
   rw[h2] at hr
   injection hr with e1 e2
   subst e1 e2
   intro g' hg'
   cases hg'
   refine zIg (setRow_heap w g cur _ _ _ hg) ?_
   have hc:=zJu hg (hbx g rfl)
   exact zRh (fun x hx=>hc x (List.mem_of_mem_take hx)) hsl (fun x hx=>hc x (List.mem_of_mem_drop hx))
  ·have holds:∀j u,xs[j]?=some u→w.cell? ((⟨g,0,none⟩:Addr).add j)=some u:=hown.cells (g:=g) rfl
   have h2:=run_append_grow (P:=P) w t ty 30 i _ ht hi hz ⟨g,0,none⟩ n cap xs (by rw[hsize];exact hown.1) holds a 1 c [.int .i64 z] (by rw[hsize];rfl) hn1 (by omega) (by omega) (growslice_fits (by omega) hbytes)
   rw[h2] at hr
   injection hr with e1 e2
   subst e1 e2
   intro g' hg'
   cases hg'
   refine zIg (heap_alloc_new w.drew _) ?_
   simp only[Array.toList_append]
   exact zRh hxs hsl (zOB _)
theorem zID{w:World}{ops:Array Oper}{rest:List Oper}{o:Oper}{a:Act}{Q:Exit→Act→World→Prop}(hgd:o.guard=none)(s x:Operand)(t:TypeId)
  (ho:o.op=.call { callee:=.builtin .append,args:=#[s,x],argTypes:=#[t,t] }) (ht:P.underlying t=some (.slice 30))
  (hinfo:(P.info? 30).map (fun i=>(i.zero,i.size,i.bytes))=some (some (.int .i64 0),1,8)) (base:Nat) (v:Value) (l:List Int) (hs:a.eval s=v) (hown:zAJ w 30 base v l) (hbx:∀g,v.ownBlock=some g→zFb w g)
  (ad:Addr) (c:Nat) (z:Int) (hx:a.eval x=.slice (some ad) 1 c) (hz:w.cell? ad=some (.int .i64 z)) (hi:I64 z) (hl:l.length<2000000) (hbase:base≤w.heap.size)
  (h:∀v' w',zAJ w' 30 base v' (l++[z])→w.grownBy w' v.ownBlock→(v'.ownBlock=v.ownBlock∨v'.ownBlock=some w.heap.size)→(∀g,v'.ownBlock=some g→zFb w' g)→wpList P ops Q rest (a.put o.dst v') w'):wpList P ops Q (o::rest) a w:=by
 obtain ⟨i,hi0,hz0,hs0,hb0⟩:=info_parts hinfo
 have hcc:∀j u,[Value.int .i64 z][j]?=some u→w.cell? (ad.add j)=some u:=by
  intro j u hj
  match j,hj with
  | 0,hj=>simp at hj;subst hj;simpa[Addr.add] using hz
 refine wpList_plain hgd fun K hK=>?_
 obtain ⟨v',w',hr,g1,g2,_,g4⟩:=run_append_own_at (P:=P) w base t o.type 30 i (.int .i64 0) 1 8 ht hi0 hz0 hs0 hb0 rfl (by decide) v l.length (l.map (Value.int .i64)) hown.1 ad 1 c [.int .i64 z] rfl hcc (by intro u hu;simp at hu;subst hu;rfl) (by unfold maxLen;omega) (by omega) hbase
 have hb:=zP8 base t o.type i ht hi0 hz0 hs0 hb0 l.length (l.map (Value.int .i64)) hown.1 hbx ad c z hz (by unfold maxLen;omega) (by omega) hr
 unfold Oper.wp execOp
 simp only[ho,resolve,invoke,builtin,Sem.run_bind,Sem.run_pure,Result.andThen_ok,List.map_toArray,List.map_cons,List.map_nil,hs,hx,hr]
 refine hK _ _ (h v' w' ⟨by simpa using g1,?_,by simp;omega⟩ g2 g4 hb)
 intro y hy
 simp at hy
 rcases hy with hy|rfl
 ·exact hown.2.1 y hy
 ·exact hi
end
end Go.Proofs.YthgmphbkkojaoaaGreat
