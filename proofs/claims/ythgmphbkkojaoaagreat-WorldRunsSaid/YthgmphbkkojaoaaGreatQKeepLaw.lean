/-
  What a happening leaves as it was, in plain Lean.
-/
import Derived.Test.YthgmphbkkojaoaaGreatQDoMaths
namespace Go.Proofs.YthgmphbkkojaoaaGreat
set_option linter.unusedSectionVars false
variable [Zn]
def zWg(x:Hp):Prop:=2≤x.1∧x.1≤5
instance (x:Hp):Decidable (zWg x):=inferInstanceAs (Decidable (2≤x.1∧x.1≤5))
structure zWe (m:Me) (x:Hp) (y:Me):Prop where
 mesh:zAp y.1 y.2=0
 len:y.2.length=m.2.length
 le:m.1.length≤y.1.length
 book:y.1.take m.1.length=m.1
 more:m.1.length<y.1.length→x.1=1
 peer:∀(k:Nat) p,m.2[k]?=some p→((zWg x∧(k:Int)≠x.2.1)∨(¬zWg x∧p.1=false))→y.2[k]?=some p
theorem zIV{b:List Ver}{ps:List Pr}{x:Hp}{nn:Nat}{p p':Pr}(hm:zAp b ps=0)(h1:zWg x)(h2:x.2.1=(nn:Int))(_hp:ps[nn]?=some p)(hp':zBk b p'):zWe (b,ps) x (b,ps.set nn p'):=by
 obtain ⟨g1,g2,g3⟩:=zAU.1 hm
 refine ⟨zAU.2 ⟨g1,by simpa using g2,fun q hq=>?_⟩,by simp,Nat.le_refl _,List.take_length,fun h=>by simp at h,fun k q hq ho=>?_⟩
 ·rcases List.mem_or_eq_of_mem_set hq with hq|rfl
  ·exact g3 q hq
  ·exact hp'
 ·rcases ho with ⟨_,ho⟩|⟨ho,_⟩
  ·simp only
   rw[List.getElem?_set,if_neg (by omega)]
   exact hq
  ·exact absurd h1 ho
theorem zWj{b:List Ver}{p:Pr}(h:zBk b p)(t:Bool):zBk b (t,p.2):=⟨h.book,h.room,h.few,h.each,h.rise⟩
theorem zWh{b:List Ver}{p:Pr}(h:zBk b p)(q:Nat):zBk b (p.1,p.2.1,zEe q p.2.2):=by
 cases hq:p.2.2[q]? with
 | none=>unfold zEe;rw[hq];exact h
 | some y =>
  rw[zKp hq,zUV h.rise hq rfl]
  exact zQ3 h
theorem zWi{b:List Ver}{p:Pr}(h:zBk b p):zBk b (p.1,p.2.1,[]):=⟨h.book,h.room,by simpa using h.room.1,by simp,by simp⟩
theorem zWf{m:Me}{x:Hp}(h:doE m x=0):zA2 m=0:=by
 by_cases h0:zA2 m=0
 ·exact h0
 ·unfold doE at h
  rw[if_pos h0] at h
  exact absurd h h0
theorem zWk{b:List Ver}{ps:List Pr}{x:Hp}(h:doE (b,ps) x=0):zWe (b,ps) x (doC (b,ps) x):=by
 have hm:=zWf h
 have hpl:zAp b ps=0:=hm
 obtain ⟨g1,g2,g3⟩:=zAU.1 hpl
 by_cases k1:x.1=1
 ·have e1:zEK (b,ps) x.2.2.2.1 x.2.2.2.2.1 x.2.2.2.2.2.1 x.2.2.2.2.2.2=0:=by
   unfold doE at h
   simpa[hm,k1] using h
  have e2:doC (b,ps) x=zD5 (b,ps) x.2.2.2.1 x.2.2.2.2.1 x.2.2.2.2.2.1 x.2.2.2.2.2.2:=by
   unfold doC
   simp[hm,k1]
  obtain ⟨n',o',qs,cs,_,_,e3,hs⟩:=zVq e1
  rw[e2,e3]
  have hr:=hs.right
  refine ⟨?_,hs.put.len,by simp,by simp,fun _=>k1,fun k p hp ho=>?_⟩
  ·rename_i en eo
   rw[en,eo]
   exact hr
  ·have hkl:=(List.getElem?_eq_some_iff.1 hp).1
   have hl:=hs.put.len
   have hq:qs[k]?=some qs[k]:=List.getElem?_eq_getElem (by simp only at hl hkl;omega)
   rcases hs.put.each hp hq with e|⟨_,_,_,_,_,hc,_⟩
   ·simp only
    rw[hq,e]
   ·rcases ho with ⟨ho,_⟩|⟨_,ho⟩
    ·unfold zWg at ho;omega
    ·unfold zG1 at hc;simp[ho] at hc
 by_cases k6:x.1=6
 ·have e1:zBP (b,ps) x.2.1=0:=by
   unfold doE at h
   simpa[hm,k6] using h
  have e2:doC (b,ps) x=zBU (b,ps) x.2.1:=by
   unfold doC
   simp[hm,k6]
  have h0:zBI (b,ps) x.2.1=0:=by
   by_cases h0:zBI (b,ps) x.2.1=0
   ·exact h0
   ·unfold zBP at e1
    rw[if_pos h0] at e1
    exact absurd e1 h0
  obtain ⟨_,hn0,_⟩:=zCo (zBr h0)
  obtain ⟨nn,hnn⟩:=Int.eq_ofNat_of_zero_le hn0
  rw[hnn] at e1 e2
  obtain ⟨_,_,_,_,_,qs,_,_,_,_,_,e3,hq,_,hme⟩:=zIe e1
  rw[e2,e3]
  refine ⟨hq,hme.len,Nat.le_refl _,List.take_length,fun h=>by simp at h,fun k p hp ho=>?_⟩
  have hkl:=(List.getElem?_eq_some_iff.1 hp).1
  have hl:=hme.len
  have hq:qs[k]?=some qs[k]:=List.getElem?_eq_getElem (by simp only at hl hkl;omega)
  rcases ho with ⟨ho,_⟩|⟨_,ho⟩
  ·unfold zWg at ho;omega
  ·simp only
   rw[hq,(hme.each k p _ hp hq).2.2.2 ho]
 have e0:doE (b,ps) x=0:=h
 unfold doE at h
 rw[if_neg (by simpa using hm),if_neg k1,if_neg k6] at h
 unfold doC
 rw[if_neg (by simpa using hm),if_neg k1,if_neg k6,if_neg (by simpa using e0)]
 by_cases k7:x.1=7
 ·rw[if_pos k7]
  refine ⟨zAU.2 ⟨g1,by simpa using g2,fun q hq=>?_⟩,by simp,Nat.le_refl _,List.take_length,fun h=>by simp at h,fun k p hp ho=>?_⟩
  ·obtain ⟨p,hp,rfl⟩:=List.mem_map.1 hq
   unfold zBs
   split
   ·exact (g3 p hp).drop _ _
   ·exact g3 p hp
  ·rcases ho with ⟨ho,_⟩|⟨_,ho⟩
   ·unfold zWg at ho;omega
   ·simp only at hp ⊢
    rw[List.getElem?_map,hp]
    unfold zBs
    simp[ho]
 ·rw[if_neg k7] at h ⊢
  by_cases ko:x.1<2∨5<x.1
  ·rw[if_pos ko] at h;exact absurd h (by decide)
  rw[if_neg ko] at h
  by_cases hn:x.2.1<0∨((b,ps).2.length:Int)≤x.2.1
  ·rw[if_pos hn] at h;exact absurd h (by decide)
  have h1:zWg x:=by unfold zWg;omega
  simp only at hn
  obtain ⟨nn,hnn⟩:=Int.eq_ofNat_of_zero_le (show 0≤x.2.1 by omega)
  have hp:ps[nn]?=some ps[nn]:=List.getElem?_eq_getElem (show nn<ps.length by omega)
  have hpo:=g3 _ (List.getElem_mem (show nn<ps.length by omega))
  rw[hnn]
  simp only[zE8 hp]
  split
  ·exact zIV hpl h1 hnn hp (zWh hpo _)
  ·split
   ·exact zIV hpl h1 hnn hp (zWi hpo)
   ·exact zIV hpl h1 hnn hp (zWj hpo _)
end Go.Proofs.YthgmphbkkojaoaaGreat
