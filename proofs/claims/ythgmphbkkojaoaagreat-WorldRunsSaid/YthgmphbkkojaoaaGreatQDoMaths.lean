/-
  From what a mesh reads as, to this proof's words. The plain laws of bent shares behind a save: who is bent is to blame, and nobody else; a repair goes through. What happens to a mesh, in plain Lean. Rows of happenings, rows of rows of numbers; what was saved, in plain Lean. From what happenings read as, to this proof's words. What is told when something is wrong is a small number. A script, in plain Lean. done, a closed fact: what its script comes to.
-/
import Derived.Test.YthgmphbkkojaoaaGreatQWovens
import Derived.Test.YthgmphbkkojaoaaGreatQRepairLaw
import Derived.Lib.SmallJoins
namespace Go.Proofs.YthgmphbkkojaoaaGreat
set_option linter.unusedSectionVars false
variable [Zn]
open Go.ChangeShapes Go.WideShapes Go.ChangeAt Go.RowKit Go.Deep
def zRN(w:World)(v:Value)(m:List Ver × List Pr):Prop:=∃vb u,v=.agg #[vb,u]∧zAR w vb m.1∧zAT w u m.2
def zWS:Rd (List Ver × List Pr):=fun w cs m=>∃vb u,cs=[vb,u]∧zAR w vb m.1∧zAT w u m.2
def zHs{α:Type}(sz:Nat)(R:Rd α)(w:World)(v:Value)(l:List α):Prop:=
 ∃a cap,v=.slice a l.length cap∧l.length≤cap∧(cap≤9223372036854775807∧(a=none→cap=0))∧∀(i:Nat) x,l[i]?=some x→∃b off,a=some ⟨b,off,none⟩∧zEB sz R w b (off+i*sz) x
theorem zHs.nil{α:Type}{sz:Nat}{R:Rd α}(w:World):zHs sz R w (.slice none 0 0) []:=⟨none,0,rfl,Nat.le_refl _,⟨by omega,fun _=>rfl⟩,fun i x h=>by simp at h⟩
theorem zHs.later{α:Type}{sz:Nat}{R:Rd α}{w w':World}{v:Value}{l:List α}(h:zHs sz R w v l)(hR:R.Stays)(hw:zAF (fun _=>False) w w'):zHs sz R w' v l:=by
 obtain ⟨a,c,e,h1,h2,h3⟩:=h
 refine ⟨a,c,e,h1,h2,fun i x hx=>?_⟩
 obtain ⟨b,off,e',g⟩:=h3 i x hx
 exact ⟨b,off,e',g.framed id (fun cs=>hR w cs x) hw⟩
def RB1:Rd Bool:=fun _ cs x=>cs=[.bool x]
theorem RB1.stays:RB1.Stays:=fun _ _ _ h _ _=>h
section
variable {H : Type} {enc : TypeId × Value → H} {W : World} {base : Nat} {v : Value} {d : DataW H} {ps : List MemPlace} [zRf W]
theorem zOA:Tryz.prog.cellsOf 25=1:=by kernel_rfl
theorem zOU:Tryz.prog.cellsOf 24=1:=by kernel_rfl
set_option maxRecDepth 100000 in
theorem zP0:zEN enc W 27 zWS:=by
 intro n cs x h hz
 obtain ⟨y0,y1,k,rfl,hl,h0,h1⟩:=trod_struct2 Tryz.underlying27 h
 rw[show Tryz.prog.cellsOf 27=2 by kernel_rfl] at hl
 simp only[zOU,zOA] at h0 h1
 match cs,hl with
 | [c0,c1],_ =>
  simp only[List.drop_zero,List.drop_succ_cons,List.take_succ_cons,List.take_zero] at h0 h1
  simp only[DataW.weights,Tryz.underlying27,List.map_cons,List.map_nil,DataW.weightsEach,List.mem_append] at hz
  obtain ⟨z0,v0,e0,i0⟩:=zKN k _ _ h0 (fun m hm=>hz m (by simp[hm]))
  obtain ⟨z1,v1,e1,i1⟩:=zIr k _ _ h1 (fun m hm=>hz m (by simp[hm]))
  simp only[List.cons.injEq,and_true] at e0 e1
  subst e0 e1
  exact ⟨(z0,z1),_,_,rfl,i0,i1⟩
set_option maxRecDepth 100000 in
theorem zQl(hv:Value.okWide Tryz.prog W .any base 27 v)(h:DataW.Trod enc Tryz.prog W 0 (fun _=>true) true 27 v d ps)(hz:∀n∈d.weights Tryz.prog 27,n≤reachBytes):∃m,zRN W v m:=by
 obtain ⟨cs,m,rfl,vb,u,h1,h2⟩:=zER Tryz.underlying27 zP0 hv h hz
 exact ⟨m,vb,u,by rw[zCZ h1],h2⟩
end
def zJZ(d:Int)(l:List Int):List Int:=l.set 0 ((l.getD 0 0+d) % 31)
def zFn(d:Int)(x:Kp):Kp:=(x.1,x.2.1,zJZ d x.2.2)
def zG4(v d:Int)(p:Pr):Pr:=(p.1,p.2.1,p.2.2.map fun x=>if x.1=v then zFn d x else x)
theorem zUV{v d:Int}{l:List Kp}{m:Nat}{x:Kp}(hp:l.Pairwise (fun x y=>x.1<y.1))(hx:l[m]?=some x)(hv:x.1=v):l.set m (zFn d x)=l.map fun x=>if x.1=v then zFn d x else x:=by
 apply List.ext_getElem?
 intro j
 rw[List.getElem?_set,List.getElem?_map]
 have hm:=(List.getElem?_eq_some_iff.1 hx).1
 by_cases hj:m=j
 ·subst hj
  rw[if_pos rfl,if_pos hm,hx,Option.map_some,if_pos hv]
 ·rw[if_neg hj]
  cases hy:l[j]? with
  | none=>rfl
  | some y =>
   have hne:y.1≠v:=by
    obtain ⟨h1,rfl⟩:=List.getElem?_eq_some_iff.1 hx
    obtain ⟨h2,rfl⟩:=List.getElem?_eq_some_iff.1 hy
    have:=List.pairwise_iff_getElem.1 hp
    rcases Nat.lt_or_ge m j with h|h
    ·have:=this m j h1 h2 h;omega
    ·have:=this j m h2 h1 (by omega);omega
   rw[Option.map_some,if_neg hne]
theorem zQg(d:Int)(l:List Int):(zJZ d l).length=l.length:=by simp[zJZ]
theorem zP6{d:Int}{l:List Int}(hv:∀z∈l,0≤z∧z<31):∀z∈zJZ d l,0≤z∧z<31:=by
 intro z hz
 unfold zJZ at hz
 rcases List.mem_or_eq_of_mem_set hz with h|rfl
 ·exact hv z h
 ·omega
theorem zQ3{b:List Ver}{v d:Int}{p:Pr}(h:zBk b p):zBk b (zG4 v d p):=by
 have hf:∀x:Kp,(if x.1=v then zFn d x else x).1=x.1:=fun x=>by split<;>rfl
 refine ⟨h.book,h.room,by unfold zG4;simpa using h.few,fun x hx=>?_,?_⟩
 ·unfold zG4 at hx
  obtain ⟨y,hy,rfl⟩:=List.mem_map.1 hx
  obtain ⟨h1,h2,h3⟩:=h.each y hy
  refine ⟨by rw[hf];exact h1,by rw[hf];exact h2,?_⟩
  split
  ·unfold zBt at h3 ⊢
   unfold zFn
   simp only
   unfold zDy at h3 ⊢
   split at h3
   ·rename_i h4;exact absurd h3 h4
   ·rename_i h4
    rw[if_neg h4]
    split at h3
    ·simp at h3
    ·rename_i h5
     rw[if_neg h5,zQg]
     split at h3
     ·simp at h3
     ·rename_i h6
      rw[if_neg h6]
      exact zM1 (zP6 ((zFj _).1 h3))
  ·exact h3
 ·unfold zG4
  simp only
  rw[List.pairwise_map]
  exact h.rise.imp (fun h=>by rw[hf,hf];exact h)
structure zDM (v d:Int) (want:List Int) (qs zs:List Pr):Prop where
 len:zs.length=qs.length
 each:∀(k:Nat) q,qs[k]?=some q→zs[k]?=some (if (k:Int)∈want then zG4 v d q else q)
theorem zDM.nil(v d:Int)(qs:List Pr):zDM v d [] qs qs:=⟨rfl,fun k q h=>by simpa using h⟩
theorem zDM.more{v d:Int}{want:List Int}{qs zs:List Pr}(h:zDM v d want qs zs){k:Nat}{q:Pr}(hq:qs[k]?=some q)(_hk:(k:Int)∉want):zDM v d (want++[(k:Int)]) qs (zs.set k (zG4 v d q)):=by
 have hkl:=(List.getElem?_eq_some_iff.1 hq).1
 refine ⟨by rw[List.length_set];exact h.len,fun j p hp=>?_⟩
 rw[List.getElem?_set]
 by_cases hj:k=j
 ·subst hj
  rw[hq] at hp
  cases hp
  rw[if_pos rfl,if_pos (by have:=h.len;omega),if_pos (by simp)]
 ·rw[if_neg hj,h.each j p hp]
  have:(j:Int)∈want++[(k:Int)]↔(j:Int)∈want:=by
   rw[List.mem_append,List.mem_singleton]
   exact ⟨fun h=>h.elim id (fun h=>by omega),Or.inl⟩
  by_cases hw:(j:Int)∈want
  ·rw[if_pos hw,if_pos (this.2 hw)]
  ·rw[if_neg hw,if_neg (fun h=>hw (this.1 h))]
section
variable {m : Me} {data pr : List Int} {n o : Nat} {qs : List Pr} {cs : List Int}
structure zQY (v:Int) (n o:Nat) (want:List Int) (qs:List Pr):Prop where
 each:∀c∈want,∃(k:Nat) (q:Pr) (x:Kp),c=(k:Int)∧qs[k]?=some q∧zA9 v q.2.2=some x
 once:want.Nodup
 few:2*want.length≤o - n
theorem zQY.nil(v:Int)(n o:Nat)(qs:List Pr):zQY v n o [] qs:=⟨by simp,List.nodup_nil,by simp⟩
variable {d : Int} {want : List Int} {zs : List Pr}
theorem zDM.get{v:Int}(hz:zDM v d want qs zs){k:Nat}{z:Pr}(h:zs[k]?=some z):∃q,qs[k]?=some q∧z=if (k:Int)∈want then zG4 v d q else q:=by
 have hl:=(List.getElem?_eq_some_iff.1 h).1
 have hq:qs[k]?=some (qs[k]'(by have:=hz.len;omega)):=List.getElem?_eq_getElem (by have:=hz.len;omega)
 refine ⟨_,hq,?_⟩
 have:=hz.each k _ hq
 rw[h] at this
 simpa using this
theorem zDM.place{b:List Ver}{v:Int}(hz:zDM v d want qs zs)(h:zAp b qs=0):zAp b zs=0:=by
 obtain ⟨h1,h2,h3⟩:=zAU.1 h
 refine zAU.2 ⟨h1,by rw[hz.len];exact h2,fun z hm=>?_⟩
 obtain ⟨k,hk⟩:=List.getElem?_of_mem hm
 obtain ⟨q,hq,rfl⟩:=hz.get hk
 have:=h3 q (List.mem_of_getElem? hq)
 split
 ·exact zQ3 this
 ·exact this
theorem zQY.more{v:Int}(h:zQY v n o want qs){k:Nat}{q:Pr}{x:Kp}(hq:qs[k]?=some q)(hx:zA9 v q.2.2=some x)(hk:(k:Int)∉want)(hl:want.length≠(o - n) / 2):zQY v n o (want++[(k:Int)]) qs:=by
 refine ⟨fun c hc=>?_,?_,?_⟩
 ·rcases List.mem_append.1 hc with hc|hc
  ·exact h.each c hc
  ·rw[List.mem_singleton] at hc
   exact ⟨k,q,x,hc,hq,hx⟩
 ·rw[List.nodup_append]
  refine ⟨h.once,by simp,fun a ha b hb e=>?_⟩
  rw[List.mem_singleton] at hb
  subst hb
  subst e
  exact hk ha
 ·have:=h.few
  simp only[List.length_append,List.length_cons,List.length_nil]
  omega
theorem zBF.step(h:zBF m data pr n o qs cs)(hw:zQY (m.1.length:Int) n o want qs)(hz:zDM (m.1.length:Int) d want qs zs){k:Nat}{z:Pr}(hk:zs[k]?=some z){mm:Nat}{y:Kp}(hy:z.2.2[mm]?=some y)(hv:y.1=(m.1.length:Int))(hkept:zA9 (m.1.length:Int) z.2.2=some y)(hn:(k:Int)∉want)(hl:want.length≠(o - n) / 2) :
  ∃v0,y.2.2[0]?=some v0∧0≤v0∧v0<31∧zQY (m.1.length:Int) n o (want++[(k:Int)]) qs∧zDM (m.1.length:Int) d (want++[(k:Int)]) qs (zs.set k (z.1,z.2.1,z.2.2.set mm (y.1,y.2.1,y.2.2.set 0 ((v0+d) % 31)))):=by
 have hb:=zAg (zCJ h.split).1
 obtain ⟨q,hq,e⟩:=hz.get hk
 rw[if_neg hn] at e
 subst e
 obtain ⟨j,hj,_,rfl,ht⟩:=h.kept hq hkept
 have h0:(zAY n data (zAM n data.length) j).2[0]?=some (zCL n data j 0):=zEl n data j (by
  have:zAM n data.length≠0:=by
   unfold zAM
   rcases (by omega:n=1∨n=2∨n=3∨n=4) with rfl|rfl|rfl|rfl<;>omega
  omega)
 have hbd:=zHE n data j 0
 refine ⟨_,h0,hbd.1,hbd.2,hw.more hq hkept hn hl,?_⟩
 have hmore:=hz.more hq hn
 have hrise:=((zAU.1 h.right).2.2 z (List.mem_of_getElem? hq)).rise
 have hbend:=zUV (d:=d) hrise hy hv
 have hbk:zFn d ((m.1.length:Int),zAY n data (zAM n data.length) j)=((m.1.length:Int),(zAY n data (zAM n data.length) j).1,(zAY n data (zAM n data.length) j).2.set 0 ((zCL n data j 0+d) % 31)):=by
  unfold zFn zJZ
  simp only
  rw[List.getD_eq_getElem?_getD,h0]
  rfl
 rw[hbk] at hbend
 rw[hbend]
 exact hmore
end
abbrev Hp:=Int × Int × Int × List Int × List Int × Int × Int
def zEe(q:Nat)(l:List Kp):List Kp:=match l[q]? with
 | none=>l
 | some y=>l.set q (zFn 1 y)
theorem zKp{l:List Kp}{q:Nat}{y:Kp}(h:l[q]?=some y):zEe q l=l.set q (zFn 1 y):=by unfold zEe;rw[h]
def zI0(l:List Kp)(k:Int):Int:=if k<0∨(l.length:Int)≤k then 4 else 0
theorem zLE{l:List Kp}{k:Int}(h:k<0∨(l.length:Int)≤k):zI0 l k=4:=if_pos h
theorem zO4{l:List Kp}{k:Int}(h:¬(k<0∨(l.length:Int)≤k)):zI0 l k=0:=if_neg h
def atP(n:Int)(ps:List Pr):Pr:=ps.getD n.toNat (false,0,[])
theorem zGd{n:Nat}{ps:List Pr}{p:Pr}(h:ps[n]?=some p):atP (n:Int) ps=p:=by unfold atP;rw[Int.toNat_natCast,List.getD_eq_getElem?_getD,h];rfl
def zTX(n:Int)(ps:List Pr)(f:Pr→Pr):List Pr:=ps.set n.toNat (f (atP n ps))
theorem zE8{n:Nat}{ps:List Pr}{p:Pr}(h:ps[n]?=some p)(f:Pr→Pr):zTX (n:Int) ps f=ps.set n (f p):=by unfold zTX;rw[zGd h,Int.toNat_natCast]
def zBv(m:Me)(n:Int):Int:=if n<0∨(m.1.length:Int)≤n then 4 else if n∈zCi m.1 then 0 else 6
def zBs(v:Int)(p:Pr):Pr:=if p.1 then (p.1,p.2.1,zAa v p.2.2) else p
def doE(m:Me)(x:Hp):Int:=
 if zA2 m≠0 then zA2 m
 else if x.1=1 then zEK m x.2.2.2.1 x.2.2.2.2.1 x.2.2.2.2.2.1 x.2.2.2.2.2.2
 else if x.1=6 then zBP m x.2.1
 else if x.1=7 then zBv m x.2.1
 else if x.1<2∨5<x.1 then 3
 else if x.2.1<0∨(m.2.length:Int)≤x.2.1 then 4
 else if x.1=5 then zI0 (atP x.2.1 m.2).2.2 x.2.2.1
 else if x.1=4 then 0
 else if (atP x.2.1 m.2).1=decide (x.1=3) then 6 else 0
def doC(m:Me)(x:Hp):Me:=
 if zA2 m≠0 then ([],[])
 else if x.1=1 then zD5 m x.2.2.2.1 x.2.2.2.2.1 x.2.2.2.2.2.1 x.2.2.2.2.2.2
 else if x.1=6 then zBU m x.2.1
 else if doE m x≠0 then ([],[])
 else if x.1=7 then (m.1,m.2.map (zBs x.2.1))
 else if x.1=5 then (m.1,zTX x.2.1 m.2 fun p=>(p.1,p.2.1,zEe x.2.2.1.toNat p.2.2))
 else if x.1=4 then (m.1,zTX x.2.1 m.2 fun p=>(p.1,p.2.1,[]))
 else (m.1,zTX x.2.1 m.2 fun p=>(decide (x.1=3),p.2))
theorem zFN{b:List Ver}{p:Pr}(h:zBk b p){x:Kp}(hx:x∈p.2.2):∃z,x.2.2[0]?=some z∧0≤z∧z<31:=by
 obtain ⟨_,_,h3⟩:=h.each x hx
 unfold zBt at h3
 obtain ⟨_,_,h4,h5⟩:=zEH h3
 have hp:zAx (zAO b x.1).1 (zAO b x.1).2.1 (zAO b x.1).2.2=0:=by
  unfold zDy at h3
  split at h3
  ·rename_i h6;exact absurd h3 h6
  ·rename_i h6;simpa using h6
 have hb:=zAg hp
 have hl:0<x.2.2.length:=by
  obtain ⟨n',o',s',e1,e2,e3⟩:=zCq hp
  rw[e1,e2,e3] at h4 hp hb
  rw[zEh hp] at h4
  have:zAM n' s'≠0:=by
   unfold zAM
   rcases (by omega:n'=1∨n'=2∨n'=3∨n'=4) with rfl|rfl|rfl|rfl<;>omega
  omega
 refine ⟨x.2.2[0],List.getElem?_eq_getElem hl,h5 _ (List.getElem_mem hl)⟩
open Go.RowKit
def zUH:Rd Hp:=fun w cs x=>∃vd vp,cs=[.int .i64 x.1,.int .i64 x.2.1,.int .i64 x.2.2.1,vd,vp,.int .i64 x.2.2.2.2.2.1,.int .i64 x.2.2.2.2.2.2]∧zAG w vd x.2.2.2.1∧zAG w vp x.2.2.2.2.1∧I64 x.1∧I64 x.2.1∧I64 x.2.2.1∧I64 x.2.2.2.2.2.1∧I64 x.2.2.2.2.2.2
theorem zUH.stays:zUH.Stays:=by
 rintro w cs x ⟨vd,vp,rfl,h1,h2,h⟩ w' hw
 exact ⟨vd,vp,rfl,h1.framed (fun _ _ _=>id) hw,h2.framed (fun _ _ _=>id) hw,h⟩
abbrev zGj(w:World)(v:Value)(l:List Hp):Prop:=zAZ 7 zUH w v l
theorem zR2{w:World}{a:Option Addr}{n cap:Nat}{l:List Hp}(h:zGj w (.slice a n cap) l){i:Nat}{x:Hp}(hx:l[i]?=some x) :
  ∃g off u c u' c',a=some ⟨g,off,none⟩∧w.cell? ⟨g,off+i*7,none⟩=some (.int .i64 x.1)∧w.cell? ⟨g,off+i*7+1,none⟩=some (.int .i64 x.2.1)∧w.cell? ⟨g,off+i*7+2,none⟩=some (.int .i64 x.2.2.1)∧w.cell? ⟨g,off+i*7+3,none⟩=some (.slice u x.2.2.2.1.length c)∧w.cell? ⟨g,off+i*7+4,none⟩=some (.slice u' x.2.2.2.2.1.length c')∧w.cell? ⟨g,off+i*7+5,none⟩=some (.int .i64 x.2.2.2.2.2.1)∧w.cell? ⟨g,off+i*7+6,none⟩=some (.int .i64 x.2.2.2.2.2.2) ∧
   zAG w (.slice u x.2.2.2.1.length c) x.2.2.2.1∧zAG w (.slice u' x.2.2.2.2.1.length c') x.2.2.2.2.1∧I64 x.1∧I64 x.2.1∧I64 x.2.2.1∧I64 x.2.2.2.2.2.1∧I64 x.2.2.2.2.2.2:=by
 obtain ⟨g,off,rfl,cs,hl,hc,vd,vp,rfl,hd,hp,h1,h2,h3,h4,h5⟩:=h.at hx
 obtain ⟨u,c,rfl,_⟩:=hd.opened
 obtain ⟨u',c',rfl,_⟩:=hp.opened
 exact ⟨g,off,u,c,u',c',rfl,hc 0 _ rfl,hc 1 _ rfl,hc 2 _ rfl,hc 3 _ rfl,hc 4 _ rfl,hc 5 _ rfl,hc 6 _ rfl,hd,hp,h1,h2,h3,h4,h5⟩
def zTx:Rd (List Int):=fun w cs x=>∃v,cs=[v]∧zAG w v x
theorem zTx.stays:zTx.Stays:=by
 rintro w cs x ⟨v,rfl,h⟩ w' hw
 exact ⟨v,rfl,h.framed (fun _ _ _=>id) hw⟩
section
variable {H : Type} {enc : TypeId × Value → H} {W : World} {base : Nat} {v : Value} {d : DataW H} {ps : List MemPlace} [zRf W]
theorem zLu{P:Program}{w:World}{base:Nat}{spare:Nat→Bool}{held:Bool}{t:TypeId}{f0 f1 f2 f3 f4 f5 f6:Field}{fuel:Nat}{cs:List Value}{x:DataW H × List MemPlace}(ht:P.underlying t=some (.struct #[f0,f1,f2,f3,f4,f5,f6]))(h:DataW.trod enc P w base spare held fuel t cs=some x) :
  ∃y0 y1 y2 y3 y4 y5 y6 n,x=(.agg [y0.1,y1.1,y2.1,y3.1,y4.1,y5.1,y6.1],y0.2++(y1.2++(y2.2++(y3.2++(y4.2++(y5.2++y6.2))))))∧cs.length=P.cellsOf t∧DataW.trod enc P w base spare held n f0.type ((cs.drop f0.offset).take (P.cellsOf f0.type))=some y0 ∧
   DataW.trod enc P w base spare held n f1.type ((cs.drop f1.offset).take (P.cellsOf f1.type))=some y1∧DataW.trod enc P w base spare held n f2.type ((cs.drop f2.offset).take (P.cellsOf f2.type))=some y2 ∧
   DataW.trod enc P w base spare held n f3.type ((cs.drop f3.offset).take (P.cellsOf f3.type))=some y3∧DataW.trod enc P w base spare held n f4.type ((cs.drop f4.offset).take (P.cellsOf f4.type))=some y4 ∧
   DataW.trod enc P w base spare held n f5.type ((cs.drop f5.offset).take (P.cellsOf f5.type))=some y5∧DataW.trod enc P w base spare held n f6.type ((cs.drop f6.offset).take (P.cellsOf f6.type))=some y6:=by
 obtain ⟨xs,n,_,rfl,hl,hlen,hf⟩:=DataW.trod_struct ht h
 match xs,hlen with
 | [y0,y1,y2,y3,y4,y5,y6],_=>exact ⟨y0,y1,y2,y3,y4,y5,y6,n,by simp,hl,by simpa using hf 0 f0 rfl,by simpa using hf 1 f1 rfl,by simpa using hf 2 f2 rfl,by simpa using hf 3 f3 rfl,by simpa using hf 4 f4 rfl,by simpa using hf 5 f5 rfl,by simpa using hf 6 f6 rfl⟩
theorem zNH:Tryz.prog.cellsOf 38=7:=by kernel_rfl
set_option maxRecDepth 100000 in
theorem zMb:zEN enc W 38 zUH:=by
 intro n cs x h hz
 obtain ⟨y0,y1,y2,y3,y4,y5,y6,k,rfl,hl,h0,h1,h2,h3,h4,h5,h6⟩:=zLu Tryz.underlying38 h
 rw[zNH] at hl
 simp only[zFk,zHa] at h0 h1 h2 h3 h4 h5 h6
 match cs,hl with
 | [c0,c1,c2,c3,c4,c5,c6],_ =>
  simp only[List.drop_zero,List.drop_succ_cons,List.take_succ_cons,List.take_zero] at h0 h1 h2 h3 h4 h5 h6
  simp only[DataW.weights,Tryz.underlying38,List.map_cons,List.map_nil,DataW.weightsEach,List.mem_append] at hz
  obtain ⟨z0,e0,i0⟩:=zCO Tryz.underlying3 k _ _ h0 (fun m hm=>hz m (by simp[hm]))
  obtain ⟨z1,e1,i1⟩:=zCO Tryz.underlying3 k _ _ h1 (fun m hm=>hz m (by simp[hm]))
  obtain ⟨z2,e2,i2⟩:=zCO Tryz.underlying3 k _ _ h2 (fun m hm=>hz m (by simp[hm]))
  obtain ⟨z3,v3,e3,i3⟩:=zFz k _ _ h3 (fun m hm=>hz m (by simp[hm]))
  obtain ⟨z4,v4,e4,i4⟩:=zFz k _ _ h4 (fun m hm=>hz m (by simp[hm]))
  obtain ⟨z5,e5,i5⟩:=zCO Tryz.underlying3 k _ _ h5 (fun m hm=>hz m (by simp[hm]))
  obtain ⟨z6,e6,i6⟩:=zCO Tryz.underlying3 k _ _ h6 (fun m hm=>hz m (by simp[hm]))
  simp only[List.cons.injEq,and_true] at e0 e1 e2 e3 e4 e5 e6
  subst e0 e1 e2 e3 e4 e5 e6
  exact ⟨(z0,z1,z2,z3,z4,z5,z6),_,_,rfl,i3,i4,i0,i1,i2,i5,i6⟩
set_option maxRecDepth 100000 in
theorem zVH(hv:Value.okWide Tryz.prog W .any base 28 v)(h:DataW.Trod enc Tryz.prog W 0 (fun _=>true) true 28 v d ps)(hz:∀n∈d.weights Tryz.prog 28,n≤reachBytes):∃l,zGj W v l:=
 zJ6 Tryz.underlying28 (zHN Tryz.underlying28 zNH (by omega) (by rw[show Tryz.prog.bytesOf 38=88 by kernel_rfl];omega) zMb) hv h hz
end
def Sm(z:Int):Prop:=0≤z∧z≤9
theorem Sm.i64{z:Int}(h:Sm z):I64 z:=⟨by unfold Sm at h;omega,by unfold Sm at h;omega⟩
theorem zAq{p:Prop}[Decidable p]{a b:Int}(ha:Sm a)(hb:Sm b):Sm (if p then a else b):=by split<;>assumption
theorem sm0:Sm 0:=⟨by decide,by decide⟩
theorem sm1:Sm 1:=⟨by decide,by decide⟩
theorem sm2:Sm 2:=⟨by decide,by decide⟩
theorem sm3:Sm 3:=⟨by decide,by decide⟩
theorem sm4:Sm 4:=⟨by decide,by decide⟩
theorem sm5:Sm 5:=⟨by decide,by decide⟩
theorem sm6:Sm 6:=⟨by decide,by decide⟩
theorem sm7:Sm 7:=⟨by decide,by decide⟩
theorem sm8:Sm 8:=⟨by decide,by decide⟩
theorem sm9:Sm 9:=⟨by decide,by decide⟩
theorem zIW(n o s:Int):Sm (zAx n o s):=zAq sm2 sm0
theorem zOR:∀l,Sm (zEn l)
 | []=>sm0
 | z::l=>by unfold zEn;exact zAq (zOR l) sm2
theorem zRx(n o s N:Int)(l:List Int):Sm (zDy n o s N l):=zAq (zIW _ _ _) (zAq sm4 (zAq sm3 (zOR l)))
theorem zMA(n o s:Int)(l:List Int):Sm (zAe n o s l):=zAq (zIW _ _ _) (zAq sm3 (zOR l))
theorem zOm(k:Int):∀l last,Sm (zCG k last l)
 | [],_=>sm0
 | p::r,last=>by unfold zCG;exact zAq sm4 (zAq sm5 (zOm k r p))
theorem zUq(k:Int)(v:Ver):Sm (zLV k v):=zAq (zOm _ _ _) (zIW _ _ _)
theorem zO7:∀(b:List Ver) (k:Nat),Sm (zDC k b)
 | [],_=>sm0
 | v::r,k=>by unfold zDC;exact zAq (zUq _ _) (zO7 r (k+1))
theorem zIY(b:List Ver):Sm (zAt b):=zAq sm1 (zO7 b 0)
theorem zMa(b:List Ver):∀l last,Sm (zBh b last l)
 | [],_=>sm0
 | x::r,last=>by unfold zBh;exact zAq sm4 (zAq sm5 (zAq (zRx _ _ _ _ _) (zMa b r x.1)))
theorem zLC(b:List Ver)(p:Pr):Sm (zBG b p):=zAq (zIY b) (zAq sm2 (zAq sm8 (zMa b _ _)))
theorem zL3(b:List Ver):∀l,Sm (zCM b l)
 | []=>sm0
 | p::r=>by unfold zCM;exact zAq (zLC b p) (zL3 b r)
theorem zL4(b:List Ver)(l:List Pr):Sm (zAp b l):=zAq (zIY b) (zAq sm1 (zL3 b l))
theorem zLp(m:Me):Sm (zA2 m):=zL4 _ _
theorem zTh(b:List Ver)(v:Ver):Sm (zBz b v):=zAq (zIY b) (zAq sm1 (zIY _))
theorem zS4(b:List Ver)(p:Pr)(k:Kp):Sm (zBN b p k):=zAq (zLC b p) (zAq sm8 (zAq sm5 (zLC b _)))
theorem zRs(b:List Ver)(v:Int)(ss:List Sh):∀cs i ps,Sm (zGR b v ss cs i ps).1
 | [],_,_=>sm0
 | c::cs,i,ps=>by
  unfold zGR
  split
  ·exact zS4 _ _ _
  ·exact zRs b v ss cs _ _
theorem zUP(b:List Ver)(l:List Pr)(v n:Int):Sm (zGh b l v n):=zAq (zL4 b l) (zAq sm2 (zAq sm7 sm0))
theorem zRv(m:Me)(v:Int)(ss:List Sh):Sm (zF8 m v ss):=zAq (zUP _ _ _ _) (zRs _ _ _ _ _ _)
theorem zTn(m:Me)(d p:List Int)(n o:Int):Sm (zEK m d p n o):=zAq (zLp m) (zAq (zMA _ _ _ _) (zAq (zTh _ _) (zRv _ _ _)))
theorem zRG(m:Me)(v:Int):Sm (zAh m v):=zAq (zLp m) (zAq sm4 sm0)
theorem zNO(n o s:Int):∀r seen,Sm (zAw n o s seen r)
 | [],_=>sm0
 | t::r,seen=>by unfold zAw;exact zAq (zRx _ _ _ _ _) (zAq sm5 (zNO n o s r _))
theorem zP3(n o s:Int)(l:List Sh):Sm (zAb n o s l):=zAq (zIW _ _ _) (zAq sm1 (zAq (zNO _ _ _ _ _) (zAq sm7 sm0)))
theorem zTM(n o s:Int)(l:List Sh):Sm (zCF n o s l):=zAq (zP3 _ _ _ _) (zAq sm9 sm0)
theorem zTy(m:Me)(v:Int):Sm (zBI m v):=zAq (zRG m v) (zTM _ _ _ _)
theorem zQH(m:Me)(v:Int):Sm (zBP m v):=zAq (zTy m v) (zAq (zMA _ _ _ _) (zRv _ _ _))
theorem zS9(l:List Kp)(k:Int):Sm (zI0 l k):=zAq sm4 sm0
theorem zQJ(m:Me)(n:Int):Sm (zBv m n):=zAq sm4 (zAq sm0 sm6)
theorem zVP(m:Me)(x:Hp):Sm (doE m x):=zAq (zLp m) (zAq (zTn _ _ _ _ _) (zAq (zQH _ _) (zAq (zQJ _ _) (zAq sm3 (zAq sm4 (zAq (zS9 _ _) (zAq sm0 (zAq sm6 sm0))))))))
def zFH(st:Me × List Int)(x:Hp):Me × List Int:=(if doE st.1 x=0 then doC st.1 x else st.1,st.2++[doE st.1 x])
def zHP(l:List Hp)(st:Me × List Int):Me × List Int:=l.foldl zFH st
theorem zST(st:Me × List Int){l:List Hp}{k:Nat}{x:Hp}(h:l[k]?=some x):zHP (l.take (k+1)) st=zFH (zHP (l.take k) st) x:=by
 unfold zHP
 rw[zAv h,List.foldl_append]
 rfl
def zSY(m:Me)(l:List Hp):Int:=if zA2 m≠0 then zA2 m else if 100<l.length then 1 else 0
def zQ6(m:Me)(l:List Hp):Me:=if zSY m l=0 then (zHP l (m,[])).1 else ([],[])
def zS5(m:Me)(l:List Hp):List Int:=if zSY m l=0 then (zHP l (m,[])).2 else []
def ofH(k n:Int):Hp:=(k,n,0,[],[],0,0)
def dnL:List Hp:=[(1,0,0,[1,2],[],1,2),ofH 2 0,ofH 2 0,ofH 6 0,ofH 3 0,ofH 5 2,(1,0,0,[3],[0],1,1),ofH 7 0,ofH 7 1,ofH 4 1]
def dnM:Me:=([([],1,2,2),([0],1,1,1)],[(true,2,[(0,0,[1,2])]),(true,2,[]),(true,2,[(0,0,[2,2])])])
def dnS:List Int:=[0,0,6,0,0,0,0,6,0,0]
theorem zSl:zQV [2,2,2]=0∧zFo [2,2,2]=([],zDz [2,2,2])∧zSY ([],zDz [2,2,2]) dnL=0∧zQ6 ([],zDz [2,2,2]) dnL=dnM∧zS5 ([],zDz [2,2,2]) dnL=dnS:=by decide +kernel
end Go.Proofs.YthgmphbkkojaoaaGreat
