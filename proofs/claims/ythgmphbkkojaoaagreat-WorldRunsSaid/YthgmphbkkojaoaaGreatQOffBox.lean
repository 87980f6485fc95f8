/-
  What is read is never in a box of two slices: there are no numbers in it.
-/
import Derived.Test.YthgmphbkkojaoaaGreatQPut
namespace Go.Proofs.YthgmphbkkojaoaaGreat
set_option linter.unusedSectionVars false
variable [Zn]
open Go.RowKit
def zAm(w:World)(B:Nat):Prop:=∀(o:Nat) (c:Value),w.cell? ⟨B,o,none⟩=some c→∃a n k,c=.slice a n k
theorem zAm.made(w:World)(a:Option Addr)(n c:Nat)(a':Option Addr)(n' c':Nat)(T:TypeId):zAm (w.alloc (.cells #[.slice a n c,.slice a' n' c'] T)) w.heap.size:=by
 intro o x h
 have e:(w.alloc (.cells #[.slice a n c,.slice a' n' c'] T)).cell? ⟨w.heap.size,o,none⟩=(#[.slice a n c,.slice a' n' c']:Array Value)[o]?:=by
  unfold World.cell? World.alloc
  simp
 rw[e] at h
 match o,h with
 | 0,h=>simp at h;exact ⟨_,_,_,h.symm⟩
 | 1,h=>simp at h;exact ⟨_,_,_,h.symm⟩
 | o+2,h=>simp at h
theorem zAm.stays{w w':World}{B:Nat}(h:zAm w B)(hb:Below w.heap.size w w')(hB:B<w.heap.size):zAm w' B:=fun o c hc =>
 h o c (by rw[←hc];exact (World.cell?_of_block (a:=⟨B,o,none⟩) (hb.block B hB)).symm)
theorem zAm.off{w w':World}{B:Nat}(h:zAm w B){D:Nat→Prop}(hd:zAF D w w')(hB:B<w.heap.size)(hn:¬D B):zAm w' B:=fun o c hc =>
 h o c (by rw[←hc];exact (World.cell?_of_block (a:=⟨B,o,none⟩) (hd.2 B hB hn)).symm)
theorem zAm.set{w:World}{B i:Nat}(h:zAm w B){u:Value}(hu:w.cell? ⟨B,i,none⟩=some u)(a:Option Addr)(n k:Nat):zAm (w.setCell ⟨B,i,none⟩ (.slice a n k)) B:=fun o c hc=>by
 by_cases ho:o=i
 ·subst ho
  rw[World.cell?_setCell_same _ _ _ hu] at hc
  exact ⟨_,_,_,(Option.some.inj hc).symm⟩
 ·rw[World.cell?_setCell_other _ _ _ _ (by intro e;simp only[Addr.mk.injEq] at e;exact ho e.2.1.symm)] at hc
  exact h o c hc
theorem zUt{w:World}{v:Value}{ls:List Sh}(h:zAN w v ls):zAZ 2 zBA w v ls:=by
 obtain ⟨a,c,rfl,h1,h2,h3⟩:=h
 refine ⟨a,c,rfl,h1,h2,fun i x hx=>?_⟩
 obtain ⟨b,off,u,s,rfl,g1,g2,g3,g4,g5⟩:=h3 i (List.getElem?_eq_some_iff.1 hx).1
 rw[hx] at g4
 cases g4
 refine ⟨b,off,rfl,[.int .i64 x.1,u],rfl,fun j c hj=>?_,u,rfl,g3,g5⟩
 match j,hj with
 | 0,hj=>simp at hj;subst hj;exact g1
 | 1,hj=>simp at hj;subst hj;exact g2
section
variable {w w' : World} {B : Nat}
theorem zAG.offBox{v:Value}{l:List Int}(h:zAG w v l)(hb:zAm w B)(hd:zAF (fun j=>j=B) w w'):zAG w' v l:=
 h.framed (fun k hk hne e=>by
  obtain ⟨a,c,rfl,_,_,h3⟩:=h
  obtain ⟨y,n',c',e2,rfl⟩:=hk
  simp only[Value.slice.injEq] at e2
  obtain ⟨rfl,_⟩:=e2
  have h0:0<l.length:=List.length_pos_iff.2 hne
  obtain ⟨b,off,z,e3,hc,_⟩:=h3 0 h0
  cases e3
  simp only at e
  subst e
  obtain ⟨_,_,_,e4⟩:=hb _ _ hc
  cases e4) hd
theorem zAZ.offBox{α:Type}{R:Rd α}{sz:Nat}{v:Value}{l:List α}(h:zAZ sz R w v l)(hb:zAm w B)(hd:zAF (fun j=>j=B) w w')
  (hint:∀cs x,R w cs x→∃(j:Nat) (c:Value),cs[j]?=some c∧∀a n k,c≠.slice a n k) (hR:∀cs x,R w cs x→R w' cs x):zAZ sz R w' v l:=by
 obtain ⟨a,c,rfl,h1,h2,h3⟩:=h.opened
 refine ⟨a,c,rfl,h1,h2,fun i x hx=>?_⟩
 obtain ⟨b,off,e,cs,hl,hc,hr⟩:=h3 i x hx
 have hbB:b≠B:=by
  obtain ⟨j,u,hj,hn⟩:=hint cs x hr
  intro e
  subst e
  obtain ⟨a,n,k,e2⟩:=hb _ _ (hc j u hj)
  exact hn a n k e2
 exact ⟨b,off,e,cs,hl,fun j u hj=>hd.cell (hc j u hj) hbB,hR cs x hr⟩
theorem zAR.offBox{v:Value}{l:List Ver}(h:zAR w v l)(hb:zAm w B)(hd:zAF (fun j=>j=B) w w'):zAR w' v l:=
 zAZ.offBox h hb hd (by
  rintro cs x ⟨u,rfl,_⟩
  exact ⟨1,_,rfl,fun _ _ _ e=>by cases e⟩) (by
  rintro cs x ⟨u,rfl,hu,hi⟩
  exact ⟨u,rfl,hu.offBox hb hd,hi⟩)
theorem zAN.offBox{v:Value}{l:List Sh}(h:zAN w v l)(hb:zAm w B)(hd:zAF (fun j=>j=B) w w'):zAN w' v l:=
 zA6 (zAZ.offBox (zUt h) hb hd (by
  rintro cs x ⟨u,rfl,_⟩
  exact ⟨0,_,rfl,fun _ _ _ e=>by cases e⟩) (by
  rintro cs x ⟨u,rfl,hu,hi⟩
  exact ⟨u,rfl,hu.offBox hb hd,hi⟩))
theorem zAl.offBox{v:Value}{l:List Kp}(h:zAl w v l)(hb:zAm w B)(hd:zAF (fun j=>j=B) w w'):zAl w' v l:=
 zAZ.offBox h hb hd (by
  rintro cs x ⟨u,rfl,_⟩
  exact ⟨0,_,rfl,fun _ _ _ e=>by cases e⟩) (by
  rintro cs x ⟨u,rfl,hu,hi⟩
  exact ⟨u,rfl,hu.offBox hb hd,hi⟩)
theorem zAT.offBox{v:Value}{l:List Pr}(h:zAT w v l)(hb:zAm w B)(hd:zAF (fun j=>j=B) w w'):zAT w' v l:=
 zAZ.offBox h hb hd (by
  rintro cs x ⟨u,rfl,_⟩
  exact ⟨1,_,rfl,fun _ _ _ e=>by cases e⟩) (by
  rintro cs x ⟨u,rfl,hu,hi⟩
  exact ⟨u,rfl,hu.offBox hb hd,hi⟩)
end
theorem zAn(w:World)(B i:Nat)(v:Value):zAF (fun j=>j=B) w (w.setCell ⟨B,i,none⟩ v):=
 (zAF.of_grown (zAC w ⟨B,i,none⟩ v)).mono fun j _ hj=>by cases hj;rfl
end Go.Proofs.YthgmphbkkojaoaaGreat
