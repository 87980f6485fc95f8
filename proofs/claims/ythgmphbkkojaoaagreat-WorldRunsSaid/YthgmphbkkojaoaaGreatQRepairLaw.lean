/-
  The plain laws of a repair: behind it all shares are there, each once, none is bent.
-/
import Derived.Test.YthgmphbkkojaoaaGreatQLaws
import Derived.Test.YthgmphbkkojaoaaGreatQRepair
namespace Go.Proofs.YthgmphbkkojaoaaGreat
set_option linter.unusedSectionVars false
variable [Zn]
theorem zMX(v:Int)(l:List Kp):zA9 v (zAa v l)=none:=zJM (fun y hy=>by
 unfold zAa at hy
 simpa using (List.mem_filter.1 hy).2)
theorem zHA{all:List Sh}{s:Sh}:zCs all s=true↔all[s.1.toNat]?=some s:=by
 unfold zCs
 cases h:all[s.1.toNat]? with
 | none=>simp
 | some t =>
  obtain ⟨a,l⟩:=s
  obtain ⟨a',l'⟩:=t
  unfold zCm zBV
  simp only[Bool.and_eq_true,decide_eq_true_eq,Option.some.injEq,Prod.mk.injEq]
  exact ⟨fun ⟨h1,h2⟩=>⟨h1.symm,h2.symm⟩,fun ⟨h1,h2⟩=>⟨h1.symm,h2.symm⟩⟩
def zTg(v:Int)(p q:Pr):Prop:=q=p∨(p.1=true∧q=(p.1,p.2.1,zAa v p.2.2))
theorem zRo(v:Int)(all:List Sh)(p:Pr)(hv:List Int):zTg v p (zEt v all p hv).1∧(zEt v all p hv).2=hv++((zAk v (zEt v all p hv).1).map (·.1)).toList∧∀s,zAk v (zEt v all p hv).1=some s→zCs all s=true∧s.1∉hv:=by
 unfold zEt
 by_cases ht:p.1=true
 ·rw[if_pos ht]
  cases hk:zA9 v p.2.2 with
  | none =>
   have hp:zAk v p=none:=by unfold zAk;simp[hk]
   simp only
   refine ⟨Or.inl rfl,by rw[hp];simp,fun s hs=>?_⟩
   rw[hp] at hs;cases hs
  | some x =>
   simp only
   by_cases hb:x.2.1∈hv∨zCs all x.2=false
   ·rw[if_pos hb]
    have hp:zAk v (p.1,p.2.1,zAa v p.2.2)=none:=by unfold zAk;simp[zMX]
    simp only
    refine ⟨Or.inr ⟨ht,rfl⟩,by rw[hp];simp,fun s hs=>?_⟩
    rw[hp] at hs;cases hs
   ·rw[if_neg hb]
    simp only[not_or,Bool.not_eq_false] at hb
    have hp:zAk v p=some x.2:=zCY ht hk
    simp only
    refine ⟨Or.inl rfl,by rw[hp];simp,fun s hs=>?_⟩
    rw[hp] at hs
    cases hs
    exact ⟨hb.2,hb.1⟩
 ·rw[if_neg ht]
  have hp:zAk v p=none:=zHS (by simpa using ht)
  simp only
  refine ⟨Or.inl rfl,by rw[hp];simp,fun s hs=>?_⟩
  rw[hp] at hs;cases hs
theorem zHF(v:Int)(all:List Sh):∀(l:List Pr) (hv:List Int),hv.Nodup →
  (∀(i:Nat) p q,l[i]?=some p→(zCb v all l hv).1[i]?=some q→zTg v p q)∧(zCb v all l hv).2=hv++zBY v (zCb v all l hv).1∧(zCb v all l hv).2.Nodup∧(∀q∈(zCb v all l hv).1,∀s,zAk v q=some s→zCs all s=true)
 | [],hv,h=>by
  refine ⟨fun i p q hp=>by simp at hp,by simp[zCb,zBY],h,by simp[zCb]⟩
 | p::r,hv,h=>by
  obtain ⟨h1,h2,h3⟩:=zRo v all p hv
  have hn:(zEt v all p hv).2.Nodup:=by
   rw[h2]
   cases hp:zAk v (zEt v all p hv).1 with
   | none=>simpa using h
   | some s =>
    simp only[Option.map_some,Option.toList_some]
    rw[List.nodup_append]
    exact ⟨h,by simp,fun a ha b hb e=>(h3 s hp).2 (by simp at hb;rw[←hb,←e];exact ha)⟩
  obtain ⟨g1,g2,g3,g4⟩:=zHF v all r (zEt v all p hv).2 hn
  unfold zCb
  refine ⟨fun i a q ha hq=>?_,?_,g3,fun q hq s hs=>?_⟩
  ·match i,ha,hq with
   | 0,ha,hq=>simp at ha hq;subst ha hq;exact h1
   | i+1,ha,hq=>exact g1 i a q (by simpa using ha) (by simpa using hq)
  ·simp only
   rw[g2,h2]
   unfold zBY
   rw[List.filterMap_cons]
   cases hp:zAk v (zEt v all p hv).1<;>simp
  ·simp only[List.mem_cons] at hq
   rcases hq with rfl|hq
   ·exact (h3 s hs).1
   ·exact g4 q hq s hs
theorem zBk.drop{b:List Ver}{p:Pr}(h:zBk b p)(v:Int)(t:Bool):zBk b (t,p.2.1,zAa v p.2.2):=by
 have hl:(zAa v p.2.2).length≤p.2.2.length:=List.length_filter_le _ _
 have hf:=h.few
 exact ⟨h.book,h.room,by simp only;omega,fun x hx=>h.each x (List.mem_filter.1 hx).1,h.rise.filter _⟩
theorem zTg.ok{b:List Ver}{v:Int}{p q:Pr}(h:zTg v p q)(hp:zBk b p):zBk b q:=by
 rcases h with rfl|⟨_,rfl⟩
 ·exact hp
 ·exact hp.drop v p.1
theorem zNA{b:List Ver}{ps:List Pr}{v:Int}{all:List Sh}(h:zAp b ps=0):zAp b (zCb v all ps []).1=0:=by
 obtain ⟨h1,h2,h3⟩:=zAU.1 h
 refine zAU.2 ⟨h1,by rw[zDq];exact h2,fun q hq=>?_⟩
 obtain ⟨i,hi⟩:=List.getElem?_of_mem hq
 have hl:=(List.getElem?_eq_some_iff.1 hi).1
 rw[zDq] at hl
 exact ((zHF v all ps [] List.nodup_nil).1 i _ q (List.getElem?_eq_getElem hl) hi).ok (h3 _ (List.getElem_mem hl))
theorem zGV(n:Nat):(zHL n).Nodup:=(zFZ n).imp (fun h=>by omega)
theorem zKf{l r:List Int}(hl:l.Nodup)(hr:r.Nodup)(h:∀z,z∈l↔z∈r):l.length=r.length:=List.Perm.length_eq ((List.perm_ext_iff_of_nodup hl hr).2 h)
theorem zDa(v:Int)(ps:List Pr):zBY v ps=(ps.filterMap (zAk v)).map (·.1):=by
 unfold zBY
 rw[List.map_filterMap]
theorem zD9{v:Int}{ps:List Pr}{z:Int}:z∈zBY v ps↔∃p∈ps,∃s,zAk v p=some s∧s.1=z:=by
 unfold zBY
 rw[List.mem_filterMap]
 constructor
 ·rintro ⟨p,hp,h⟩
  cases hs:zAk v p with
  | none=>rw[hs] at h;cases h
  | some s=>rw[hs] at h;exact ⟨p,hp,s,hs,by simpa using h⟩
 ·rintro ⟨p,hp,s,hs,rfl⟩
  exact ⟨p,hp,by rw[hs];rfl⟩
structure zFJ (v:Int) (n o r:Nat) (D:List Int) (qs:List Pr):Prop where
 of:∀q∈qs,∀s,zAk v q=some s→∃j,j<o∧s=zAY n D r j
 once:(zBY v qs).Nodup
 full:∀j,j<o→(j:Int)∈zBY v qs
section
variable {v : Int} {n o r : Nat} {D : List Int} {qs : List Pr}
theorem zFJ.shares(h:zFJ v n o r D qs):zAS v qs=qs.filterMap (zAk v):=zGU (by rw[←zDa];exact h.once)
theorem zFJ.len(h:zFJ v n o r D qs):(zAS v qs).length=o:=by
 have e:(zAS v qs).length=(zBY v qs).length:=by rw[h.shares,zDa,List.length_map]
 rw[e,zKf h.once (zGV o) (fun z=>?_)]
 ·simp[zHL]
 ·rw[zIj]
  constructor
  ·intro hz
   obtain ⟨q,hq,s,hs,rfl⟩:=zD9.1 hz
   obtain ⟨j,hj,rfl⟩:=h.of q hq s hs
   simp only[zAY]
   omega
  ·rintro ⟨h1,h2⟩
   obtain ⟨j,rfl⟩:=Int.eq_ofNat_of_zero_le h1
   exact h.full j (by omega)
theorem zFJ.same(h:zFJ v n o r D qs):∀q∈qs,∀s,zAk v q=some s→zCs (zAV n D o r) s=true:=fun q hq s hs=>by
 obtain ⟨j,hj,rfl⟩:=h.of q hq s hs
 rw[zHA]
 simp only[zAY,Int.toNat_natCast]
 exact zBX n D r hj
theorem zFJ.none(h:zFJ v n o r D qs):zBm (zAV n D o r) (zBY v qs)=[]:=by
 unfold zBm
 rw[List.filter_eq_nil_iff]
 intro s hs
 obtain ⟨j,hj⟩:=List.getElem?_of_mem hs
 have hjo:=(List.getElem?_eq_some_iff.1 hj).1
 rw[zBK] at hjo
 rw[zBX _ _ _ hjo] at hj
 cases hj
 simp[zAY,h.full j hjo]
end
structure zUB (v:Int) (ps qs:List Pr):Prop where
 len:qs.length=ps.length
 each:∀(k:Nat) p q,ps[k]?=some p→qs[k]?=some q→q.1=p.1∧q.2.1=p.2.1∧zAa v q.2.2=zAa v p.2.2∧(p.1=false→q=p)
theorem zOZ(v:Int)(l:List Kp):zAa v (zAa v l)=zAa v l:=by unfold zAa;rw[List.filter_filter];simp
theorem zR1{b:List Ver}{v:Int}{n o r:Nat}{D:List Int}{ps qs:List Pr}{cs:List Int}(hput:Put b v (zBm (zAV n D o r) (zCb v (zAV n D o r) ps []).2) (zCb v (zAV n D o r) ps []).1 qs cs) :
  zFJ v n o r D qs∧zUB v ps qs:=by
 obtain ⟨h1,h2,h3,h4⟩:=zHF v (zAV n D o r) ps [] List.nodup_nil
 have hlen:=zDq v (zAV n D o r) ps []
 generalize (zCb v (zAV n D o r) ps []).1=rs at *
 generalize (zCb v (zAV n D o r) ps []).2=hv at *
 rw[List.nil_append] at h2
 have hmiss:∀(j:Nat) s,(zBm (zAV n D o r) hv)[j]?=some s→s.1∉hv∧∃i,i<o∧s=zAY n D r i:=by
  intro j s hs
  have hm:=List.mem_of_getElem? hs
  unfold zBm at hm
  obtain ⟨hm1,hm2⟩:=List.mem_filter.1 hm
  obtain ⟨i,hi⟩:=List.getElem?_of_mem hm1
  have hio:=(List.getElem?_eq_some_iff.1 hi).1
  rw[zBK] at hio
  rw[zBX _ _ _ hio] at hi
  cases hi
  exact ⟨by simpa using hm2,i,hio,rfl⟩
 have hmnd:((zBm (zAV n D o r) hv).map (·.1)).Nodup:=by
  refine List.Nodup.sublist (List.Sublist.map _ List.filter_sublist) ?_
  unfold zAV
  rw[List.map_map]
  have:((·.1) ∘ zAY n D r)=fun (j:Nat)=>(j:Int):=by funext j;rfl
  rw[this]
  exact zGV o
 have hpick:∀(k:Nat) q s,qs[k]?=some q→zAk v q=some s→(rs[k]?=some q∧s.1∈hv∧∃j,j<o∧s=zAY n D r j)∨∃j:Nat,cs[j]?=some (k:Int)∧(zBm (zAV n D o r) hv)[j]?=some s:=by
  intro k q s hq hs
  obtain ⟨p,hp⟩:=hput.get hq
  rcases hput.each hp hq with rfl|⟨j,t,g1,g2,g3,g4,rfl⟩
  ·left
   have hsame:=h4 q (List.mem_of_getElem? hp) s hs
   rw[zHA] at hsame
   have hlt:=(List.getElem?_eq_some_iff.1 hsame).1
   rw[zBK] at hlt
   rw[zBX _ _ _ hlt] at hsame
   refine ⟨hp,?_,s.1.toNat,hlt,(Option.some.inj hsame).symm⟩
   rw[h2]
   exact zD9.2 ⟨q,List.mem_of_getElem? hp,s,hs,rfl⟩
  ·right
   simp only[zG1,Bool.and_eq_true] at g4
   have:=zCY (p:=zET p (v,t)) (v:=v) (x:=(v,t)) g4.1 (zFw (k:=(v,t)) (zDV g3).2.1)
   rw[hs] at this
   cases this
   exact ⟨j,g1,g2⟩
 refine ⟨⟨fun q hq s hs=>?_,?_,fun j hj=>?_⟩,hput.len.trans hlen,fun k p q hp hq=>?_⟩
 ·obtain ⟨k,hk⟩:=List.getElem?_of_mem hq
  rcases hpick k q s hk hs with ⟨_,_,h⟩|⟨j,_,hj⟩
  ·exact h
  ·exact (hmiss j s hj).2
 ·rw[zDa]
  have hrs:(rs.filterMap (zAk v)).Pairwise (fun a b=>a.1≠b.1):=by
   have:=h3
   rw[h2,zDa,List.Nodup,List.pairwise_map] at this
   exact this
  rw[List.pairwise_filterMap] at hrs
  refine zEL (fun i j x y s t hij hx hy hs ht e=>?_)
  rcases hpick i x s hx hs with ⟨a1,a2,_⟩|⟨a,a1,a2⟩
  ·rcases hpick j y t hy ht with ⟨b1,b2,_⟩|⟨c,b1,b2⟩
   ·rcases Nat.lt_or_ge i j with h|h
    ·obtain ⟨hi',rfl⟩:=List.getElem?_eq_some_iff.1 a1
     obtain ⟨hj',rfl⟩:=List.getElem?_eq_some_iff.1 b1
     exact List.pairwise_iff_getElem.1 hrs i j hi' hj' h s hs t ht e
    ·obtain ⟨hi',rfl⟩:=List.getElem?_eq_some_iff.1 a1
     obtain ⟨hj',rfl⟩:=List.getElem?_eq_some_iff.1 b1
     exact List.pairwise_iff_getElem.1 hrs j i hj' hi' (by omega) t ht s hs e.symm
   ·exact (hmiss c t b2).1 (by rw[←e];exact a2)
  ·rcases hpick j y t hy ht with ⟨b1,b2,_⟩|⟨c,b1,b2⟩
   ·exact (hmiss a s a2).1 (by rw[e];exact b2)
   ·have hac:a≠c:=by
     intro h
     subst h
     rw[a1] at b1
     simp only[Option.some.injEq] at b1
     omega
    obtain ⟨ha',rfl⟩:=List.getElem?_eq_some_iff.1 a2
    obtain ⟨hc',rfl⟩:=List.getElem?_eq_some_iff.1 b2
    rw[List.Nodup,List.pairwise_map,List.pairwise_iff_getElem] at hmnd
    rcases Nat.lt_or_ge a c with h|h
    ·exact hmnd a c ha' hc' h e
    ·exact hmnd c a hc' ha' (by omega) e.symm
 ·by_cases hj2:(j:Int)∈hv
  ·have hj3:=hj2
   rw[h2] at hj3
   obtain ⟨p,hp,s,hs,e⟩:=zD9.1 hj3
   obtain ⟨i,hi⟩:=List.getElem?_of_mem hp
   have hil:=(List.getElem?_eq_some_iff.1 hi).1
   have hql:i<qs.length:=by have:=hput.len;omega
   have hq:qs[i]?=some qs[i]:=List.getElem?_eq_getElem hql
   rcases hput.each hi hq with e2|⟨_,_,_,_,g3,_,_⟩
   ·exact zD9.2 ⟨qs[i],List.getElem_mem hql,s,by rw[e2];exact hs,e⟩
   ·have:=(zDV g3).2.1
    obtain ⟨_,x,hx,h5,_⟩:=zEd hs
    exact absurd h5 (this x hx)
  ·have hm:zAY n D r j∈zBm (zAV n D o r) hv:=by
    unfold zBm
    exact List.mem_filter.2 ⟨List.mem_of_getElem? (zBX n D r hj),by simp[zAY,hj2]⟩
   obtain ⟨i,hi⟩:=List.getElem?_of_mem hm
   have hil:=(List.getElem?_eq_some_iff.1 hi).1
   have hmany:=hput.many
   have hc:cs[i]?=some cs[i]:=List.getElem?_eq_getElem (by omega)
   obtain ⟨k,p,e,hp,hcan⟩:=hput.who _ (List.getElem_mem (by omega:i<cs.length))
   rw[e] at hc
   obtain ⟨g1,g2⟩:=hput.got i k p _ hc hp hi
   simp only[zG1,Bool.and_eq_true] at hcan
   exact zD9.2 ⟨_,List.mem_of_getElem? g2,_,zCY hcan.1 (zFw (k:=(v,zAY n D r j)) (zDV g1).2.1),rfl⟩
 ·have hkl:=(List.getElem?_eq_some_iff.1 hp).1
  have hr:rs[k]?=some rs[k]:=List.getElem?_eq_getElem (by omega)
  have hrep:=h1 k p _ hp hr
  rcases hput.each hr hq with e|⟨j,t,g1,g2,g3,g4,e⟩
  ·rw[e]
   rcases hrep with e2|⟨ht,e2⟩
   ·rw[e2];exact ⟨rfl,rfl,rfl,fun _=>rfl⟩
   ·rw[e2];exact ⟨rfl,rfl,zOZ _ _,fun h=>by rw[h] at ht;cases ht⟩
  ·have hn:=(zDV g3).2.1
   have hd:zAa v (zET rs[k] (v,t)).2.2=rs[k].2.2:=zIy (x:=(v,t)) hn
   have hd2:zAa v rs[k].2.2=rs[k].2.2:=zJ9 hn
   simp only[zG1,Bool.and_eq_true] at g4
   rw[e,hd]
   rcases hrep with e2|⟨ht,e2⟩
   ·rw[e2] at hd2 g4 ⊢
    exact ⟨rfl,rfl,hd2.symm,fun h=>by rw[h] at g4;cases g4.1⟩
   ·rw[e2]
    exact ⟨rfl,rfl,rfl,fun h=>by rw[h] at ht;cases ht⟩
theorem zIe{b:List Ver}{ps:List Pr}{k:Nat}(h:zBP (b,ps) (k:Int)=0) :
  ∃(pr:List Int) (n o s:Nat) (D:List Int) (qs:List Pr),b[k]?=some (pr,(n:Int),(o:Int),(s:Int))∧zAe n o s D=0∧zBI (b,ps) (k:Int)=0∧zBa (b,ps) (k:Int)=D∧zAp b ps=0∧zBU (b,ps) (k:Int)=(b,qs)∧zAp b qs=0∧zFJ (k:Int) n o (zAM n s) D qs∧zUB (k:Int) ps qs:=by
 have h0:zBI (b,ps) (k:Int)=0:=by
  by_cases h0:zBI (b,ps) (k:Int)=0
  ·exact h0
  ·unfold zBP at h
   rw[if_pos h0] at h
   exact absurd h h0
 obtain ⟨hm,_,hk⟩:=zCo (zBr h0)
 have hk:k<b.length:=by simpa using hk
 have hx:b[k]?=some b[k]:=List.getElem?_eq_getElem hk
 have hpl:zAO b (k:Int)=b[k].2:=zCh hx
 have h1:zAe b[k].2.1 b[k].2.2.1 b[k].2.2.2 (zBa (b,ps) (k:Int))=0:=by
  by_cases h1:zAe b[k].2.1 b[k].2.2.1 b[k].2.2.2 (zBa (b,ps) (k:Int))=0
  ·exact h1
  ·unfold zBP at h
   rw[if_neg (by simpa using h0),hpl,if_pos h1] at h
   exact absurd h h1
 obtain ⟨e1,e2⟩:=zFv (m:=(b,ps)) (v:=(k:Int)) (x:=b[k]) h0 hpl h1 rfl
 rw[e1] at h
 obtain ⟨n,o,s,a1,a2,a3⟩:=zCq (zCJ h1).1
 rw[a1,a2,a3] at h1 h e2
 rw[zBw h1] at h e2
 obtain ⟨h5,qs,cs,h6,h7⟩:=zO3 h
 obtain ⟨h8,h9⟩:=zR1 h7
 refine ⟨b[k].1,n,o,s,_,qs,?_,h1,h0,rfl,hm,e2.trans h6,h7.right h5,h8,h9⟩
 rw[hx,←a1,←a2,←a3]
end Go.Proofs.YthgmphbkkojaoaaGreat
