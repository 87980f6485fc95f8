/-
  Rows of elements of several cells, over any program: as they are read; and as the call's own. What an element is read as: a word of its own ('Rd'). Rows of elements of several cells: appended to one another. Own rows of structs: a part of one written anew; copy of elements of more than one cell; append of noughts that makes it grow. From what an argument reads as, to this proof's words for how it lies in memory. From what slices of structs read as, to this proof's words for how they lie in memory.
-/
import Derived.Test.YthgmphbkkojaoaaGreatQBase
import Derived.Lib.AppendZerosOnto
import Derived.Test.YthgmphbkkojaoaaGreatRows
import Derived.ProofKit
import Derived.OpenShut
import Derived.SizedLaws
import Derived.Deep.Slices
import Derived.Deep.Strs
namespace Go.Proofs.YthgmphbkkojaoaaGreat
set_option linter.unusedSectionVars false
variable [Zn]
open Go.RowKit
def zAF(D:Nat→Prop)(w w':World):Prop:=w.heap.size≤w'.heap.size∧∀k,k<w.heap.size→¬D k→w'.heap[k]?=w.heap[k]?
theorem zAF.refl(D:Nat→Prop)(w:World):zAF D w w:=⟨Nat.le_refl _,fun _ _ _=>rfl⟩
theorem zAF.trans{D:Nat→Prop}{a b c:World}(h:zAF D a b)(g:zAF D b c):zAF D a c:=
 ⟨Nat.le_trans h.1 g.1,fun k hk hd=>(g.2 k (Nat.lt_of_lt_of_le hk h.1) hd).trans (h.2 k hk hd)⟩
theorem zAF.mono{D D':Nat→Prop}{w w':World}(h:zAF D w w')(hd:∀k,k<w.heap.size→D k→D' k):zAF D' w w':=
 ⟨h.1,fun k hk hn=>h.2 k hk (fun hh=>hn (hd k hk hh))⟩
theorem zAF.of_grown{w w':World}{row:Option Nat}(h:w.grownBy w' row):zAF (fun k=>row=some k) w w':=⟨h.size,fun k hk hn=>h.block k hk (fun e=>hn e.symm)⟩
theorem zAF.of_below{B:Nat}{w w':World}(h:Below B w w')(hs:w.heap.size≤w'.heap.size):zAF (fun k=>B≤k) w w':=⟨hs,fun k _ hn=>h.block k (by omega)⟩
theorem zAF.old{w w':World}(h:Below w.heap.size w w')(D:Nat→Prop):zAF D w w':=⟨h.size,fun k hk _=>h.block k hk⟩
theorem zAF.cell{D:Nat→Prop}{w w':World}(h:zAF D w w'){a:Addr}{v:Value}(hc:w.cell? a=some v)(hd:¬D a.block):w'.cell? a=some v:=by
 rw[World.cell?_of_block (h.2 a.block (zAH hc) hd),hc]
abbrev Rd(α:Type):=World→List Value→α→Prop
def zA3{α:Type}(D:Nat→Prop)(R:Rd α)(w:World)(cs:List Value)(x:α):Prop:=∀w',zAF D w w'→R w' cs x
def Rd.Stays{α:Type}(R:Rd α):Prop:=∀w cs x,R w cs x→zA3 (fun _=>False) R w cs x
section
variable {α : Type} {R : Rd α} {D D' : Nat → Prop} {w w' : World} {cs : List Value} {x : α}
theorem zA3.now(h:zA3 D R w cs x):R w cs x:=h w (zAF.refl _ _)
theorem zA3.step(h:zA3 D R w cs x)(hd:zAF D w w'):zA3 D R w' cs x:=fun w'' hd'=>h w'' (hd.trans hd')
theorem zA3.move(h:zA3 D R w cs x)(hd:zAF D w w')(hD:∀k,k<w.heap.size→D' k→D k):zA3 D' R w' cs x:=fun w'' hd' =>
 h w'' ⟨Nat.le_trans hd.1 hd'.1,fun k hk hn=>(hd'.2 k (Nat.lt_of_lt_of_le hk hd.1) (fun hh=>hn (hD k hk hh))).trans (hd.2 k hk hn)⟩
theorem zA3.mono(h:zA3 D R w cs x)(hD:∀k,k<w.heap.size→D' k→D k):zA3 D' R w cs x:=h.move (zAF.refl _ _) hD
end
theorem zDj.framed{D:Nat→Prop}{w:World}{a:Option Addr}{l:List Int}(h:zDj w a l)(hd:∀y,a=some y→l≠[]→¬D y.block){w':World}(hw:zAF D w w'):zDj w' a l:=by
 intro i hi
 obtain ⟨b,off,z,rfl,hc,hz⟩:=h i hi
 have hne:l≠[]:=by intro e;subst e;simp at hi
 exact ⟨b,off,z,rfl,hw.cell hc (hd ⟨b,off,none⟩ rfl hne),hz⟩
def Value.lies(v:Value)(k:Nat):Prop:=∃a n c,v=.slice (some a) n c∧a.block=k
theorem zAG.framed{D:Nat→Prop}{w:World}{v:Value}{l:List Int}(h:zAG w v l)(hd:∀k,Value.lies v k→l≠[]→¬D k){w':World}(hw:zAF D w w'):zAG w' v l:=by
 obtain ⟨a,c,rfl,h1,h2,h3⟩:=h
 exact ⟨a,c,rfl,h1,⟨h2.1,h2.2.1,h2.2.2.1,h2.2.2.2.move fun b off e hl=>hw.2 b (h3.lt _ e hl) (hd b ⟨⟨b,off,none⟩,_,_,by rw[e],rfl⟩ hl)⟩,h3.framed (fun y hy hl=>hd y.block ⟨y,_,_,by rw[hy],rfl⟩ hl) hw⟩
theorem zQ0.framed{D:Nat→Prop}{w:World}{v:Value}{l:List Int}(h:zQ0 w v l)(hd:∀k,Value.lies v k→l≠[]→¬D k){w':World}(hw:zAF D w w'):zQ0 w' v l:=by
 obtain ⟨a,c,rfl,h1,h2,h3⟩:=h
 exact ⟨a,c,rfl,h1,h2,h3.framed (fun y hy hl=>hd y.block ⟨y,_,_,by rw[hy],rfl⟩ hl) hw⟩
theorem zAG.block_lt{w:World}{v:Value}{l:List Int}(h:zAG w v l):∀k,Value.lies v k→l≠[]→k<w.heap.size:=by
 obtain ⟨a,c,rfl,_,_,h3⟩:=h
 rintro k ⟨y,n',c',e,rfl⟩ hl
 simp only[Value.slice.injEq] at e
 exact h3.lt y e.1 hl
theorem zAJ.lies{w:World}{e:TypeId}{base:Nat}{v:Value}{l:List Int}(h:zAJ w e base v l):∀k,Value.lies v k→base≤k∧k<w.heap.size:=by
 rintro k ⟨y,n',c',rfl,rfl⟩
 exact h.1.lt y.block rfl
def zEB{α:Type}(sz:Nat)(R:Rd α)(w:World)(b o:Nat)(x:α):Prop:=∃cs,cs.length=sz∧(∀j c,cs[j]?=some c→w.cell? ⟨b,o+j,none⟩=some c)∧R w cs x
def zAZ{α:Type}(sz:Nat)(R:Rd α)(w:World)(v:Value)(l:List α):Prop:=
 ∃a cap,v=.slice a l.length cap∧l.length≤cap∧(l.length≤17592186044416∧cap≤9223372036854775807∧(a=none→cap=0))∧∀(i:Nat) x,l[i]?=some x→∃b off,a=some ⟨b,off,none⟩∧zEB sz R w b (off+i*sz) x
section
variable {α : Type} {R : Rd α} {sz : Nat}
theorem zAZ.opened{w:World}{v:Value}{l:List α}(h:zAZ sz R w v l) :
  ∃a cap,v=.slice a l.length cap∧l.length≤cap∧(l.length≤17592186044416∧cap≤9223372036854775807∧(a=none→cap=0))∧∀(i:Nat) x,l[i]?=some x→∃b off,a=some ⟨b,off,none⟩∧zEB sz R w b (off+i*sz) x:=h
theorem zAZ.nil(w:World):zAZ sz R w (.slice none 0 0) []:=⟨none,0,rfl,Nat.le_refl _,⟨by simp,by omega,fun _=>rfl⟩,fun i x h=>by simp at h⟩
theorem zEB.framed{D:Nat→Prop}{w w':World}{b o:Nat}{x:α}(h:zEB sz R w b o x)(hb:¬D b)(hR:∀cs,R w cs x→zA3 D R w cs x)(hw:zAF D w w'):zEB sz R w' b o x:=by
 obtain ⟨cs,h1,h2,h3⟩:=h
 exact ⟨cs,h1,fun j c hj=>hw.cell (h2 j c hj) hb,hR cs h3 w' hw⟩
theorem zAZ.framed{D:Nat→Prop}{w w':World}{v:Value}{l:List α}(h:zAZ sz R w v l)(hb:∀k,Value.lies v k→¬D k)(hR:∀cs x,x∈l→R w cs x→zA3 D R w cs x)(hw:zAF D w w'):zAZ sz R w' v l:=by
 obtain ⟨a,c,rfl,h1,h2,h3⟩:=h
 refine ⟨a,c,rfl,h1,h2,fun i x hx=>?_⟩
 obtain ⟨b,off,rfl,he⟩:=h3 i x hx
 exact ⟨b,off,rfl,he.framed (hb b ⟨_,_,_,rfl,rfl⟩) (fun cs=>hR cs x (List.mem_of_getElem? hx)) hw⟩
theorem zAZ.later{w w':World}{v:Value}{l:List α}(h:zAZ sz R w v l)(hR:R.Stays)(hw:zAF (fun _=>False) w w'):zAZ sz R w' v l:=
 h.framed (fun _ _=>id) (fun cs x _ hr=>hR w cs x hr) hw
theorem zAZ.stays{w w':World}{v:Value}{l:List α}(h:zAZ sz R w v l)(hR:R.Stays)(hb:Below w.heap.size w w'):zAZ sz R w' v l:=h.later hR (zAF.old hb _)
theorem zAZ.at{w:World}{a:Option Addr}{n cap:Nat}{l:List α}(h:zAZ sz R w (.slice a n cap) l){i:Nat}{x:α}(hx:l[i]?=some x):∃b off,a=some ⟨b,off,none⟩∧zEB sz R w b (off+i*sz) x:=by
 obtain ⟨a',c,e,_,_,h3⟩:=h
 simp only[Value.slice.injEq] at e
 obtain ⟨rfl,_,_⟩:=e
 exact h3 i x hx
theorem zAZ.take{w:World}{a:Option Addr}{L cap:Nat}{l:List α}(h:zAZ sz R w (.slice a L cap) l)(n:Nat)(hn:n≤l.length):zAZ sz R w (.slice a n cap) (l.take n):=by
 obtain ⟨a',c,e,h1,⟨h2,h3,h4⟩,h5⟩:=h
 simp only[Value.slice.injEq] at e
 obtain ⟨rfl,rfl,rfl⟩:=e
 have hl:(l.take n).length=n:=by simp;omega
 refine ⟨a,cap,by rw[hl],by omega,⟨by omega,by omega,h4⟩,fun i x hx=>h5 i x ?_⟩
 rw[List.getElem?_take] at hx
 split at hx
 ·exact hx
 ·cases hx
theorem zAZ.from{w:World}{b off L cap:Nat}{l:List α}(h:zAZ sz R w (.slice (some ⟨b,off,none⟩) L cap) l)(n:Nat)(hn:n≤l.length):zAZ sz R w (.slice (some ⟨b,off+n*sz,none⟩) (L - n) (cap - n)) (l.drop n):=by
 obtain ⟨a',c,e,h1,⟨h2,h3,h4⟩,h5⟩:=h
 simp only[Value.slice.injEq] at e
 obtain ⟨rfl,rfl,rfl⟩:=e
 have hl:(l.drop n).length=l.length - n:=by simp
 refine ⟨some ⟨b,off+n*sz,none⟩,cap - n,by rw[hl],by omega,⟨by omega,by omega,fun e=>by cases e⟩,fun i x hx=>?_⟩
 rw[List.getElem?_drop] at hx
 obtain ⟨b',off',e,he⟩:=h5 (n+i) x hx
 cases e
 refine ⟨b,_,rfl,?_⟩
 rw[Nat.add_mul,←Nat.add_assoc] at he
 exact he
end
structure zAK {α:Type} (sz:Nat) (R:Rd α) (E:Nat→Prop) (w:World) (e:TypeId) (base:Nat) (v:Value) (l:List α):Prop where
 top:l.length≤2000000
 row:∃rows:List (List Value),w.ownsRow base e sz v l.length rows.flatten∧rows.length=l.length∧(∀r∈rows,r.length=sz∧∀c∈r,c.oneCell'=true) ∧
  ∀(i:Nat) r x,rows[i]?=some r→l[i]?=some x→zA3 (fun k=>v.ownBlock=some k∨E k) R w r x
theorem zA7(g k:Nat):(⟨g,0,none⟩:Addr).add k=⟨g,k,none⟩:=by unfold Addr.add;split<;>simp_all
theorem zCw{sz:Nat}:∀{rows:List (List Value)} {i j:Nat} {r:List Value} {c:Value},(∀r∈rows,r.length=sz)→rows[i]?=some r→r[j]?=some c→rows.flatten[i*sz+j]?=some c
 | [],i,j,r,c,_,h,_=>by simp at h
 | q::rows,0,j,r,c,hs,h,hj=>by
  simp at h
  subst h
  have:=(List.getElem?_eq_some_iff.1 hj).1
  rw[List.flatten_cons,Nat.zero_mul,Nat.zero_add,List.getElem?_append_left this]
  exact hj
 | q::rows,i+1,j,r,c,hs,h,hj=>by
  have hq:=hs q (by simp)
  have ih:=zCw (rows:=rows) (fun r hr=>hs r (List.mem_cons_of_mem _ hr)) (by simpa using h) hj
  rw[List.flatten_cons,List.getElem?_append_right (by rw[hq,Nat.add_mul];omega),hq,show (i+1)*sz+j - sz=i*sz+j by rw[Nat.add_mul];omega]
  exact ih
theorem zBW{sz:Nat}:∀{rows:List (List Value)},(∀r∈rows,r.length=sz)→rows.flatten.length=rows.length*sz
 | [],_=>by simp
 | q::rows,hs=>by
  rw[List.flatten_cons,List.length_append,hs q (by simp),zBW (fun r hr=>hs r (by simp[hr])),List.length_cons,Nat.add_mul]
  omega
theorem zJW{sz:Nat}:∀{rows:List (List Value)} {i j:Nat} {r:List Value} {c:Value},(∀r∈rows,r.length=sz)→rows[i]?=some r→j<sz→(rows.set i (r.set j c)).flatten=rows.flatten.set (i*sz+j) c
 | [],i,j,r,c,_,h,_=>by simp at h
 | q::rows,0,j,r,c,hs,h,hj=>by
  simp at h
  subst h
  have hq:=hs q (by simp)
  rw[List.set_cons_zero,List.flatten_cons,List.flatten_cons,Nat.zero_mul,Nat.zero_add,List.set_append_left _ _ (by omega)]
 | q::rows,i+1,j,r,c,hs,h,hj=>by
  have hq:=hs q (by simp)
  have ih:=zJW (rows:=rows) (c:=c) (fun r hr=>hs r (List.mem_cons_of_mem _ hr)) (by simpa using h) hj
  rw[List.set_cons_succ,List.flatten_cons,List.flatten_cons,ih,List.set_append_right _ _ (by rw[hq,Nat.add_mul];omega),hq,show (i+1)*sz+j - sz=i*sz+j by rw[Nat.add_mul];omega]
theorem zEP{sz:Nat}:∀{rows:List (List Value)} (n:Nat),(∀r∈rows,r.length=sz)→(rows.take n).flatten=rows.flatten.take (n*sz)
 | [],n,_=>by simp
 | q::rows,0,_=>by simp
 | q::rows,n+1,hs=>by
  have hq:=hs q (by simp)
  rw[List.take_succ_cons,List.flatten_cons,List.flatten_cons,zEP n (fun r hr=>hs r (by simp[hr])),List.take_append,hq,List.take_of_length_le (l:=q) (by rw[hq,Nat.add_mul];omega)]
  rw[show (n+1)*sz - sz=n*sz by rw[Nat.add_mul];omega]
section
variable {α : Type} {R : Rd α} {sz : Nat} {E E' : Nat → Prop} {w w' : World} {e : TypeId} {base : Nat} {v : Value} {l : List α}
theorem zAK.nil(w:World)(e:TypeId)(base:Nat):zAK sz R E w e base (.slice none 0 0) []:=⟨by simp,[],World.ownsRow_nil _ _ _ _,rfl,by simp,fun i r x h=>by simp at h⟩
theorem zAK.lt(h:zAK sz R E w e base v l):∀k,v.ownBlock=some k→base≤k∧k<w.heap.size:=by
 obtain ⟨rows,h1,_⟩:=h.row
 exact h1.lt
theorem zAK.shape(h:zAK sz R E w e base v l):(v=.slice none 0 0∧l=[])∨∃g cap cur,v=.slice (some ⟨g,0,none⟩) l.length cap∧base≤g∧g<w.heap.size∧l.length≤cap∧cap≤9223372036854775807∧w.heap[g]?=some (.cells cur e (0,0))∧cur.size=cap*sz:=by
 obtain ⟨rows,h1,_⟩:=h.row
 rcases h1.2 with ⟨rfl,hn⟩|⟨g,cap,cur,rfl,hb,hg,hnc,hcm,hcs,_⟩
 ·exact Or.inl ⟨rfl,List.eq_nil_of_length_eq_zero hn⟩
 ·exact Or.inr ⟨g,cap,cur,rfl,hb,(Array.getElem?_eq_some_iff.1 hg).1,hnc,hcm,hg,hcs⟩
theorem zAK.isRow(h:zAK sz R E w e base v l):zAZ sz R w v l:=by
 obtain ⟨rows,h1,h2,h3,h4⟩:=h.row
 have ht:=h.top
 rcases h.shape with ⟨rfl,rfl⟩|⟨g,cap,cur,rfl,hb,hg,hnc,hcm,hcur,hcs⟩
 ·exact zAZ.nil w
 ·refine ⟨_,cap,rfl,hnc,⟨by omega,hcm,fun e=>by cases e⟩,fun i x hx=>⟨g,0,rfl,?_⟩⟩
  have hi:i<rows.length:=by rw[h2];exact (List.getElem?_eq_some_iff.1 hx).1
  have hr:rows[i]?=some rows[i]:=List.getElem?_eq_getElem hi
  refine ⟨rows[i],(h3 _ (List.getElem_mem hi)).1,fun j c hj=>?_,(h4 i _ x hr hx).now⟩
  have hf:=zCw (fun r hr=>(h3 r hr).1) hr hj
  have:=h1.cells (g:=g) rfl _ _ hf
  rw[zA7] at this
  rw[Nat.zero_add]
  exact this
theorem zAK.mono(h:zAK sz R E w e base v l){b:Nat}(hb:b≤base):zAK sz R E w e b v l:=by
 obtain ⟨rows,⟨h1,h1'⟩,h2⟩:=h.row
 refine ⟨h.top,rows,⟨h1,?_⟩,h2⟩
 rcases h1' with h1'|⟨g,cap,cur,h4,h5,h6⟩
 ·exact .inl h1'
 ·exact .inr ⟨g,cap,cur,h4,Nat.le_trans hb h5,h6⟩
theorem zAK.weaken(h:zAK sz R E w e base v l)(hE:∀k,k<w.heap.size→E' k→E k∨v.ownBlock=some k):zAK sz R E' w e base v l:=by
 obtain ⟨rows,h1,h2,h3,h4⟩:=h.row
 refine ⟨h.top,rows,h1,h2,h3,fun i r x hr hx=>(h4 i r x hr hx).mono fun k hk hd=>?_⟩
 rcases hd with hd|hd
 ·exact Or.inl hd
 ·rcases hE k hk hd with hd|hd
  ·exact Or.inr hd
  ·exact Or.inl hd
theorem zAK.later(h:zAK sz R E w e base v l)(hw:zAF E w w')(hv:∀k,v.ownBlock=some k→¬E k):zAK sz R E w' e base v l:=by
 obtain ⟨rows,⟨h1,h1'⟩,h2,h3,h4⟩:=h.row
 refine ⟨h.top,rows,⟨h1,?_⟩,h2,h3,fun i r x hr hx=>(h4 i r x hr hx).step (hw.mono fun k _ hk=>Or.inr hk)⟩
 rcases h1' with h1'|⟨g,cap,cur,h5,h6,h7,h8⟩
 ·exact .inl h1'
 ·exact .inr ⟨g,cap,cur,h5,h6,(hw.2 g (Array.getElem?_eq_some_iff.1 h7).1 (hv g (by rw[h5];rfl))).trans h7,h8⟩
theorem zAK.kept(h:zAK sz R E w e base v l){row:Option Nat}(hg:w.grownBy w' row)(hrow:∀k,row=some k→E k)(hv:v.ownBlock=none∨v.ownBlock≠row):zAK sz R E w' e base v l:=by
 obtain ⟨rows,h1,h2,h3,h4⟩:=h.row
 exact ⟨h.top,rows,h1.kept hg hv,h2,h3,fun i r x hr hx=>(h4 i r x hr hx).step ((zAF.of_grown hg).mono fun k _ hk=>Or.inr (hrow k hk))⟩
theorem zAK.stays(h:zAK sz R E w e base v l)(hb:Below w.heap.size w w'):zAK sz R E w' e base v l:=
 h.kept (zAi hb) (fun k hk=>by cases hk) (by cases v.ownBlock<;>simp)
theorem zAK.get(h:zAK sz R E w e base v l){i:Nat}{x:α}(hx:l[i]?=some x):∃r g,v.ownBlock=some g∧r.length=sz∧(∀c∈r,c.oneCell'=true)∧(∀j c,r[j]?=some c→w.cell? ⟨g,i*sz+j,none⟩=some c)∧zA3 (fun k=>v.ownBlock=some k∨E k) R w r x:=by
 obtain ⟨rows,h1,h2,h3,h4⟩:=h.row
 have hi:i<rows.length:=by rw[h2];exact (List.getElem?_eq_some_iff.1 hx).1
 have hr:rows[i]?=some rows[i]:=List.getElem?_eq_getElem hi
 rcases h.shape with ⟨rfl,rfl⟩|⟨g,cap,cur,rfl,_⟩
 ·simp at hx
 ·refine ⟨rows[i],g,rfl,(h3 _ (List.getElem_mem hi)).1,(h3 _ (List.getElem_mem hi)).2,fun j c hj=>?_,h4 i _ x hr hx⟩
  have:=h1.cells (g:=g) rfl _ _ (zCw (fun r hr=>(h3 r hr).1) hr hj)
  rw[zA7] at this
  exact this
theorem zAK.free(h:zAK sz R E w e base v l){g:Nat}(hg:v.ownBlock=some g)(i:Nat):w.frozen? ⟨g,i,none⟩=false:=by
 rcases h.shape with ⟨rfl,rfl⟩|⟨g',cap,cur,rfl,_,_,_,_,hc,_⟩
 ·simp[Value.ownBlock] at hg
 ·simp only[Value.ownBlock,Option.some.injEq] at hg
  subst hg
  simp[World.frozen?,hc]
theorem zAK.set(h:zAK sz R E w e base v l){i j:Nat}{x x':α}{g:Nat}{r:List Value}{c:Value}(hx:l[i]?=some x)(hg:v.ownBlock=some g)(hr:r.length=sz)(hrc:∀j c,r[j]?=some c→w.cell? ⟨g,i*sz+j,none⟩=some c)(hj:j<sz)(hc:c.oneCell'=true)
  (hR:zA3 (fun k=>v.ownBlock=some k∨E k) R w (r.set j c) x'):zAK sz R E (w.setCell ⟨g,i*sz+j,none⟩ c) e base v (l.set i x'):=by
 obtain ⟨rows,h1,h2,h3,h4⟩:=h.row
 have hi:i<rows.length:=by rw[h2];exact (List.getElem?_eq_some_iff.1 hx).1
 have hri:rows[i]?=some rows[i]:=List.getElem?_eq_getElem hi
 have hlr:rows[i].length=sz:=(h3 _ (List.getElem_mem hi)).1
 have hrr:r=rows[i]:=by
  apply List.ext_getElem?
  intro m
  by_cases hm:m<sz
  ·have e1:r[m]?=some r[m]:=List.getElem?_eq_getElem (by omega)
   have e2:rows[i][m]?=some rows[i][m]:=List.getElem?_eq_getElem (by omega)
   have a1:=hrc m _ e1
   have a2:=h1.cells hg _ _ (zCw (fun r hr=>(h3 r hr).1) hri e2)
   rw[zA7,a1] at a2
   rw[e1,e2,a2]
  ·rw[List.getElem?_eq_none (by omega),List.getElem?_eq_none (by omega)]
 subst hrr
 have hdirty:zAF (fun k=>v.ownBlock=some k∨E k) w (w.setCell ⟨g,i*sz+j,none⟩ c):=(zAF.of_grown (zAC w ⟨g,i*sz+j,none⟩ c)).mono fun k _ hk=>by cases hk;exact Or.inl hg
 refine ⟨by simpa using h.top,rows.set i (rows[i].set j c),?_,by simpa using h2,?_,?_⟩
 ·have hs:=zJW (c:=c) (fun r hr=>(h3 r hr).1) hri hj
  rw[hs]
  refine ⟨by simpa using h1.1,?_⟩
  rcases h1.2 with ⟨rfl,_⟩|⟨g',cap,cur,rfl,hb,hgc,hnc,hcm,hcs,htk⟩
  ·simp[Value.ownBlock] at hg
  ·simp only[Value.ownBlock,Option.some.injEq] at hg
   subst hg
   refine .inr ⟨g',cap,_,by rw[List.length_set],hb,heap_setCell_same w g' (i*sz+j) cur e c hgc,by simpa using hnc,hcm,by simpa using hcs,?_⟩
   rw[←htk]
   simp only[List.length_set,Array.toList_setIfInBounds]
   rw[List.take_set]
 ·intro q hq
  rcases List.mem_or_eq_of_mem_set hq with hq|rfl
  ·exact h3 q hq
  ·refine ⟨by simpa using hlr,fun c' hc'=>?_⟩
   rcases List.mem_or_eq_of_mem_set hc' with hc'|rfl
   ·exact (h3 _ (List.getElem_mem hi)).2 c' hc'
   ·exact hc
 ·intro m q y hq hy
  rw[List.getElem?_set] at hq hy
  by_cases hm:i=m
  ·subst hm
   rw[if_pos rfl,if_pos hi] at hq
   rw[if_pos rfl,if_pos (by rw[←h2];exact hi)] at hy
   cases hq
   cases hy
   exact hR.step hdirty
  ·rw[if_neg hm] at hq hy
   exact (h4 m q y hq hy).step hdirty
theorem zAK.take(h:zAK sz R E w e base v l)(n:Nat)(hn:n≤l.length){a:Option Addr}{L cap:Nat}(hv:v=.slice a L cap):zAK sz R E w e base (.slice a n cap) (l.take n):=by
 obtain ⟨rows,h1,h2,h3,h4⟩:=h.row
 have ht:=h.top
 have hl:(l.take n).length=n:=by simp;omega
 subst hv
 refine ⟨by omega,rows.take n,?_,by simp;omega,fun r hr=>h3 r (List.mem_of_mem_take hr),?_⟩
 ·rw[zEP n (fun r hr=>(h3 r hr).1),hl]
  refine ⟨?_,?_⟩
  ·rw[List.length_take,h1.1]
   exact Nat.min_eq_left (Nat.mul_le_mul_right _ hn)
  ·rcases h1.2 with ⟨h5,h6⟩|⟨g,cap',cur,h5,h6,h7,h8,h9,h10,h11⟩
   ·simp only[Value.slice.injEq] at h5
    obtain ⟨rfl,rfl,rfl⟩:=h5
    have:n=0:=by omega
    subst this
    exact .inl ⟨rfl,rfl⟩
   ·simp only[Value.slice.injEq] at h5
    obtain ⟨rfl,rfl,rfl⟩:=h5
    refine .inr ⟨g,cap,cur,rfl,h6,h7,by omega,h9,h10,?_⟩
    rw[←h11,List.take_take,Nat.min_eq_left (Nat.mul_le_mul_right _ hn)]
 ·intro i r x hr hx
  rw[List.getElem?_take] at hr hx
  split at hr
  ·rename_i hi
   rw[if_pos hi] at hx
   refine (h4 i r x hr hx).mono fun k _ hk=>?_
   rcases hk with hk|hk
   ·left
    cases a with
    | none=>cases hk
    | some a=>exact hk
   ·exact Or.inr hk
  ·cases hr
theorem zGv{B:Nat}{W:World}(h:Below B W w)(ho:zAK sz R E w e B v l)(hg:w.grownBy w' v.ownBlock)(hB:B≤w.heap.size):Below B W w':=h.grown hg hB fun k hk=>(ho.lt k hk).1
theorem zAD.row{g:Nat}{W:World}(h:zAD g W w)(ho:zAK sz R E w e g v l)(hg:w.grownBy w' v.ownBlock):zAD g W w':=h.grown hg fun k hk=>(ho.lt k hk).1
end
section
open Go.Maps
variable {P : Program} {k e t : TypeId}
end
section
variable {P : Program} {α : Type} {R : Rd α}
theorem zAd{w:World}{ops:Array Oper}{rest:List Oper}{o:Oper}{a:Act}{Q:Exit→Act→World→Prop}(hgd:o.guard=none)(s x:Operand)(t:TypeId)
  (ho:o.op=.call { callee:=.builtin .append,args:=#[s,x],argTypes:=#[t,t] }) (sz:Nat) (E:Nat→Prop) (e:TypeId) (ht:P.underlying t=some (.slice e)) (z:Value) (bytes:Nat)
  (hinfo:(P.info? e).map (fun i=>(i.zero,i.size,i.bytes))=some (some z,sz,bytes)) (hzs:z.cells.size=sz) (hsz:0<sz) (hby:bytes≤1000) (base:Nat) (v:Value) (l:List α) (hs:a.eval s=v) (hown:zAK sz R E w e base v l)
  (ad:Addr) (c:Nat) (r:List Value) (y:α) (hx:a.eval x=.slice (some ad) 1 c) (hr:r.length=sz) (hr1:∀u∈r,u.oneCell'=true) (hc:∀j u,r[j]?=some u→w.cell? (ad.add j)=some u) (hR:zA3 (fun k=>v.ownBlock=some k∨E k) R w r y) (hl:l.length<2000000) (hbase:base≤w.heap.size)
  (h:∀v' w',zAK sz R E w' e base v' (l++[y])→w.grownBy w' v.ownBlock→(v'.ownBlock=v.ownBlock∨v'.ownBlock=some w.heap.size)→wpList P ops Q rest (a.put o.dst v') w'):wpList P ops Q (o::rest) a w:=by
 obtain ⟨i,hi0,hz0,hs0,hb0⟩:=info_parts hinfo
 obtain ⟨rows,h1,h2,h3,h4⟩:=hown.row
 have hbb:(l.length+1)*bytes≤140737488355328:=by
  have:(l.length+1)*bytes≤(l.length+1)*1000:=Nat.mul_le_mul_left _ hby
  omega
 refine wpList_append_own_at w hgd s x t ho base e i z sz bytes ht hi0 hz0 hs0 hb0 hzs hsz v l.length rows.flatten hs h1 ad 1 c r hx (by omega) hc hr1 (by unfold maxLen;omega) hbb hbase ?_
 intro v' w' g1 g2 _ g4
 refine h v' w' ⟨by simp;omega,rows++[r],by simpa using g1,by simp[h2],?_,?_⟩ g2 g4
 ·intro q hq
  rcases List.mem_append.1 hq with hq|hq
  ·exact h3 q hq
  ·simp at hq;subst hq;exact ⟨hr,hr1⟩
 ·have hd:zAF (fun k=>v.ownBlock=some k∨E k) w w':=(zAF.of_grown g2).mono fun k _ hk=>Or.inl hk
  have hmv:∀k,k<w.heap.size→(v'.ownBlock=some k∨E k)→(v.ownBlock=some k∨E k):=by
   intro k hk hh
   rcases hh with hh|hh
   ·rcases g4 with g4|g4
    ·exact Or.inl (g4 ▸ hh)
    ·rw[g4] at hh;cases hh;omega
   ·exact Or.inr hh
  intro m q u hq hu
  by_cases hm:m<l.length
  ·rw[List.getElem?_append_left (by omega)] at hq hu
   exact (h4 m q u hq hu).move hd hmv
  ·rw[List.getElem?_append_right (by omega)] at hq hu
   have hq':=(List.getElem?_eq_some_iff.1 hu).1
   simp at hq'
   have:m=l.length:=by omega
   subst this
   simp at hu
   rw[h2] at hq
   simp at hq
   subst hq hu
   exact hR.move hd hmv
end
def Rd.One{α:Type}(R:Rd α):Prop:=∀w cs x,R w cs x→∀c∈cs,c.oneCell'=true
theorem Rd.Stays.framed{α:Type}{R:Rd α}(hR:R.Stays){D:Nat→Prop}{w0 w:World}{cs:List Value}{x:α}(h:R w0 cs x)(hw:zAF (fun _=>False) w0 w)(hD:∀k,D k→w0.heap.size≤k):zA3 D R w cs x:=
 fun w' hw'=>hR w0 cs x h w' ⟨Nat.le_trans hw.1 hw'.1,fun k hk _=>(hw'.2 k (Nat.lt_of_lt_of_le hk hw.1) (fun hd=>by have:=hD k hd;omega)).trans (hw.2 k hk id)⟩
theorem zKD{sz:Nat}(hsz:0<sz):∀{rows:List (List Value)} {j:Nat} {u:Value},(∀r∈rows,r.length=sz)→rows.flatten[j]?=some u→∃i q r,j=i*sz+q∧rows[i]?=some r∧r[q]?=some u
 | [],j,u,_,h=>by simp at h
 | r::rows,j,u,hs,h=>by
  have hr:=hs r (by simp)
  rw[List.flatten_cons] at h
  by_cases hj:j<sz
  ·rw[List.getElem?_append_left (by omega)] at h
   exact ⟨0,j,r,by omega,rfl,h⟩
  ·rw[List.getElem?_append_right (by omega),hr] at h
   obtain ⟨i,q,r',e,h1,h2⟩:=zKD hsz (fun r hr=>hs r (List.mem_cons_of_mem _ hr)) h
   exact ⟨i+1,q,r',by rw[Nat.add_mul];omega,by simpa using h1,h2⟩
theorem zEI(b o k:Nat):(⟨b,o,none⟩:Addr).add k=⟨b,o+k,none⟩:=by unfold Addr.add;split<;>simp_all
theorem zAI(w:World)(g o:Nat)(v:Value){p:Addr}(h:p.block≠g):(w.setCell ⟨g,o,none⟩ v).cell? p=w.cell? p:=World.cell?_of_block (Below.heap_setCell w ⟨g,o,none⟩ v p.block h)
theorem zA1(w:World)(g o:Nat)(v:Value){p:Addr}(h:p.block≠g):(w.setCell ⟨g,o,none⟩ v).frozen? p=w.frozen? p:=World.frozen?_of_block (Below.heap_setCell w ⟨g,o,none⟩ v p.block h)
theorem zAW{w w':World}{row:Option Nat}(hg:w.grownBy w' row){a:Addr}{v:Value}(hc:w.cell? a=some v)(hf:w.frozen? a=false)(hne:some a.block≠row):w'.frozen? a=false:=
 (World.frozen?_of_block (hg.block a.block (zAH hc) hne)).trans hf
theorem zAE{w w':World}(hb:Below w.heap.size w w'){a:Addr}{v:Value}(hc:w.cell? a=some v)(hf:w.frozen? a=false):w'.frozen? a=false:=(hb.frozen (p:=a) (zAH hc)).trans hf
theorem zAA{w w':World}(hb:Below w.heap.size w w'){a:Addr}{v:Value}(hc:w.cell? a=some v):w'.cell? a=some v:=(hb.cell (p:=a) (zAH hc)).trans hc
theorem zA0{w:World}{a:Addr}{v:Value}(hc:w.cell? a=some v)(o:Obj):(w.alloc o).cell? a=some v:=zAA (zAB w o) hc
theorem zCf{w:World}{a:Addr}{v:Value}(hc:w.cell? a=some v)(hf:w.frozen? a=false)(o:Obj):(w.alloc o).frozen? a=false:=zAE (zAB w o) hc hf
section
variable {α : Type} {R : Rd α} {sz : Nat}
theorem zAZ.rows(hsz:0<sz){w:World}{ad:Addr}{n c:Nat}{l:List α}(h:zAZ sz R w (.slice (some ad) n c) l) :
  ∃rows:List (List Value),rows.length=l.length∧(∀r∈rows,r.length=sz)∧(∀(i:Nat) r x,rows[i]?=some r→l[i]?=some x→R w r x)∧∀j u,rows.flatten[j]?=some u→w.cell? (ad.add j)=some u:=by
 have hex:∀i:Nat,∃cs:List Value,cs.length=sz∧∀x,l[i]?=some x→(∀j u,cs[j]?=some u→w.cell? (ad.add (i*sz+j))=some u)∧R w cs x:=by
  intro i
  by_cases hi:i<l.length
  ·obtain ⟨b,off,e,cs,h1,h2,h3⟩:=h.at (List.getElem?_eq_getElem hi)
   cases e
   refine ⟨cs,h1,fun x hx=>?_⟩
   rw[List.getElem?_eq_getElem hi] at hx
   cases hx
   refine ⟨fun j u hj=>?_,h3⟩
   rw[zEI,←Nat.add_assoc]
   exact h2 j u hj
  ·exact ⟨List.replicate sz undef,by simp,fun x hx=>by rw[List.getElem?_eq_none (by omega)] at hx;cases hx⟩
 refine ⟨(List.range l.length).map fun i=>Classical.choose (hex i),by simp,?_,?_,?_⟩
 ·intro r hr
  obtain ⟨i,_,rfl⟩:=List.mem_map.1 hr
  exact (Classical.choose_spec (hex i)).1
 ·intro i r x hr hx
  have hi:=(List.getElem?_eq_some_iff.1 hx).1
  rw[List.getElem?_map,List.getElem?_range hi] at hr
  cases hr
  exact ((Classical.choose_spec (hex i)).2 x hx).2
 ·intro j u hj
  obtain ⟨i,q,r,rfl,hr,hq⟩:=zKD hsz (by
   intro r hr
   obtain ⟨i,_,rfl⟩:=List.mem_map.1 hr
   exact (Classical.choose_spec (hex i)).1) hj
  have hi:i<l.length:=by
   have:=(List.getElem?_eq_some_iff.1 hr).1
   simpa using this
  rw[List.getElem?_map,List.getElem?_range hi] at hr
  cases hr
  exact ((Classical.choose_spec (hex i)).2 l[i] (List.getElem?_eq_getElem hi)).1 q u hq
end
section
variable {P : Program} {α : Type} {R : Rd α}
theorem zCR{ops:Array Oper}{o:Oper}{a:Act}{w:World}{K:Act→World→Prop}{Q:Exit→Act→World→Prop}{F:Prop}
  (hgd:o.guard=none) (s x:Operand) (t:TypeId)
  (ho:o.op=.call { callee:=.builtin .append,args:=#[s,x],argTypes:=#[t,t] }) (sz:Nat) (E:Nat→Prop) (e:TypeId) (ht:P.underlying t=some (.slice e)) (z:Value) (bytes:Nat)
  (hinfo:(P.info? e).map (fun i=>(i.zero,i.size,i.bytes))=some (some z,sz,bytes)) (hzs:z.cells.size=sz) (hsz:0<sz) (hby:bytes≤1000) (base:Nat) (v:Value) (l:List α) (hs:a.eval s=v) (hown:zAK sz R E w e base v l)
  (ad:Addr) (c:Nat) (r:List Value) (y:α) (hx:a.eval x=.slice (some ad) 1 c) (hr:r.length=sz) (hr1:∀u∈r,u.oneCell'=true) (hc:∀j u,r[j]?=some u→w.cell? (ad.add j)=some u) (hR:zA3 (fun k=>v.ownBlock=some k∨E k) R w r y) (hl:l.length<2000000) (hbase:base≤w.heap.size)
  (h:∀v' w',zAK sz R E w' e base v' (l++[y])→w.grownBy w' v.ownBlock→(v'.ownBlock=v.ownBlock∨v'.ownBlock=some w.heap.size)→K (a.put o.dst v') w') :
  if Region.wanted o (yielded ops a.tmps)=true then Oper.wp P o a w K Q else F:=by
 have hw:Region.wanted o (yielded ops a.tmps)=true:=by simp[Region.wanted,hgd]
 rw[if_pos hw]
 obtain ⟨i,hi0,hz0,hs0,hb0⟩:=info_parts hinfo
 obtain ⟨rows,h1,h2,h3,h4⟩:=hown.row
 have hbb:(l.length+1)*bytes≤140737488355328:=by
  have:(l.length+1)*bytes≤(l.length+1)*1000:=Nat.mul_le_mul_left _ hby
  omega
 obtain ⟨v',w',hrun,g1,g2,_,g4⟩:=run_append_own_at (P:=P) w base t o.type e i z sz bytes ht hi0 hz0 hs0 hb0 hzs hsz v l.length rows.flatten h1 ad 1 c r (by omega) hc hr1 (by unfold maxLen;omega) hbb hbase
 unfold Oper.wp
 simp[execOp,ho,resolve,invoke,builtin,hs,hx,hrun,Result.andThen]
 refine h v' w' ⟨by simp;omega,rows++[r],by simpa using g1,by simp[h2],?_,?_⟩ g2 g4
 ·intro q hq
  rcases List.mem_append.1 hq with hq|hq
  ·exact h3 q hq
  ·simp at hq;subst hq;exact ⟨hr,hr1⟩
 ·have hd:zAF (fun k=>v.ownBlock=some k∨E k) w w':=(zAF.of_grown g2).mono fun k _ hk=>Or.inl hk
  have hmv:∀k,k<w.heap.size→(v'.ownBlock=some k∨E k)→(v.ownBlock=some k∨E k):=by
   intro k hk hh
   rcases hh with hh|hh
   ·rcases g4 with g4|g4
    ·exact Or.inl (g4 ▸ hh)
    ·rw[g4] at hh;cases hh;omega
   ·exact Or.inr hh
  intro m q u hq hu
  by_cases hm:m<l.length
  ·rw[List.getElem?_append_left (by omega)] at hq hu
   exact (h4 m q u hq hu).move hd hmv
  ·rw[List.getElem?_append_right (by omega)] at hq hu
   have hq':=(List.getElem?_eq_some_iff.1 hu).1
   simp at hq'
   have:m=l.length:=by omega
   subst this
   simp at hu
   rw[h2] at hq
   simp at hq
   subst hq hu
   exact hR.move hd hmv
theorem zCE{w:World}{ops:Array Oper}{rest:List Oper}{o:Oper}{a:Act}{Q:Exit→Act→World→Prop}(hgd:o.guard=none)(s x:Operand)(t:TypeId)
  (ho:o.op=.call { callee:=.builtin .append,args:=#[s,x],argTypes:=#[t,t] }) (sz:Nat) (E:Nat→Prop) (e:TypeId) (ht:P.underlying t=some (.slice e)) (z:Value) (bytes:Nat)
  (hinfo:(P.info? e).map (fun i=>(i.zero,i.size,i.bytes))=some (some z,sz,bytes)) (hzs:z.cells.size=sz) (hsz:0<sz) (hby:bytes≤1000) (base:Nat) (v:Value) (l:List α) (hs:a.eval s=v) (hown:zAK sz R E w e base v l)
  (w0:World) (hw0:zAF (fun _=>False) w0 w) (r:List α) (sv:Value) (hx:a.eval x=sv) (hr:zAZ sz R w0 sv r) (hRS:R.Stays) (hR1:R.One) (hD:∀k,v.ownBlock=some k∨E k→w0.heap.size≤k) (hl:l.length+r.length≤2000000) (hbase:base≤w.heap.size)
  (h:∀v' w',zAK sz R E w' e base v' (l++r)→w.grownBy w' v.ownBlock→(v'.ownBlock=v.ownBlock∨v'.ownBlock=some w.heap.size)→wpList P ops Q rest (a.put o.dst v') w'):wpList P ops Q (o::rest) a w:=by
 obtain ⟨i,hi0,hz0,hs0,hb0⟩:=info_parts hinfo
 obtain ⟨rows,h1,h2,h3,h4⟩:=hown.row
 have hr':=hr
 obtain ⟨ar,cr,rfl,hcr,hmr,hri⟩:=hr'
 cases ar with
 | none =>
  have hr0:r=[]:=by
   cases r with
   | nil=>rfl
   | cons y r=>obtain ⟨b,off,e1,_⟩:=hri 0 y rfl;cases e1
  subst hr0
  have hc0:cr=0:=hmr.2.2 rfl
  subst hc0
  refine wpList_append_own_none hgd s x t ho base e i sz ht hi0 v l.length rows.flatten hs h1 hx ?_
  exact h v w (by simpa using hown) ⟨rfl,rfl,rfl,Nat.le_refl _,fun _ _ _=>rfl⟩ (Or.inl rfl)
 | some ad =>
  obtain ⟨rs,g1,g2,g3,g4⟩:=hr.rows hsz
  have hbb:(l.length+r.length)*bytes≤140737488355328:=by
   have:(l.length+r.length)*bytes≤(l.length+r.length)*1000:=Nat.mul_le_mul_left _ hby
   omega
  have hone:∀q∈rs,q.length=sz∧∀c∈q,c.oneCell'=true:=by
   intro q hq
   refine ⟨g2 q hq,?_⟩
   obtain ⟨m,hm⟩:=List.getElem?_of_mem hq
   have hml:m<r.length:=by rw[←g1];exact (List.getElem?_eq_some_iff.1 hm).1
   exact hR1 w0 q _ (g3 m q _ hm (List.getElem?_eq_getElem hml))
  refine wpList_append_own_at w hgd s x t ho base e i z sz bytes ht hi0 hz0 hs0 hb0 hzs hsz v l.length rows.flatten hs h1 ad r.length cr rs.flatten hx ?_ ?_ ?_ (by unfold maxLen;omega) hbb hbase ?_
  ·rw[zBW g2,g1]
  ·intro j u hj
   exact hw0.cell (g4 j u hj) id
  ·intro u hu
   obtain ⟨q,hq,hu⟩:=List.mem_flatten.1 hu
   exact (hone q hq).2 u hu
  ·intro v' w' k1 k2 _ k4
   refine h v' w' ⟨by simp;omega,rows++rs,by simpa using k1,by simp[h2,g1],?_,?_⟩ k2 k4
   ·intro q hq
    rcases List.mem_append.1 hq with hq|hq
    ·exact h3 q hq
    ·exact hone q hq
   ·have hd:zAF (fun k=>v.ownBlock=some k∨E k) w w':=(zAF.of_grown k2).mono fun k _ hk=>Or.inl hk
    have hmv:∀k,k<w.heap.size→(v'.ownBlock=some k∨E k)→(v.ownBlock=some k∨E k):=by
     intro k hk hh
     rcases hh with hh|hh
     ·rcases k4 with k4|k4
      ·exact Or.inl (k4 ▸ hh)
      ·rw[k4] at hh;cases hh;omega
     ·exact Or.inr hh
    intro m q u hq hu
    by_cases hm:m<l.length
    ·rw[List.getElem?_append_left (by omega)] at hq hu
     exact (h4 m q u hq hu).move hd hmv
    ·rw[List.getElem?_append_right (by omega)] at hq hu
     rw[h2] at hq
     exact (hRS.framed (g3 _ q u hq hu) hw0 hD).move hd hmv
theorem zAK.drew{sz:Nat}{E:Nat→Prop}{w:World}{e:TypeId}{base:Nat}{v:Value}{l:List α}(h:zAK sz R E w e base v l):zAK sz R E w.drew e base v l:=⟨h.top,h.row⟩
theorem zAZ.drew{sz:Nat}{w:World}{v:Value}{l:List α}(h:zAZ sz R w v l)(hR:R.Stays):zAZ sz R w.drew v l:=h.later hR ⟨Nat.le_refl _,fun _ _ _=>rfl⟩
theorem zAK.made{sz:Nat}{E:Nat→Prop}(w:World)(e:TypeId):zAK sz R E (w.alloc (.cells #[] e)) e w.heap.size (.slice (some ⟨w.heap.size,0,none⟩) 0 0) []:=
 ⟨by simp,[],by simpa using World.ownsRow_made w #[] 0 (Nat.le_refl _) (by unfold maxLen;omega) (by simp),rfl,by simp,fun i r x h=>by simp at h⟩
end
def zJz{α:Type}(R:Rd α)(C:List Value→Prop):Rd (α × Bool):=fun w cs y=>R w cs y.1∧(y.2=true→C cs)
def zD4{α:Type}(l:List α)(k:Nat):List (α × Bool):=(l.take k).map (fun x=>(x,true))++(l.drop k).map (fun x=>(x,false))
section
variable {α β : Type} {R : Rd α} {R' : Rd β} {sz : Nat} {E E' : Nat → Prop} {w : World} {e : TypeId} {base : Nat} {v : Value} {l : List α}
theorem zPg(l:List α):zD4 l 0=l.map (fun x=>(x,false)):=by simp[zD4]
theorem zMO(l:List α):zD4 l l.length=l.map (fun x=>(x,true)):=by simp[zD4]
theorem zQ7(l:List α)(k:Nat):(zD4 l k).map Prod.fst=l:=by simp[zD4,Function.comp_def]
theorem zMU{l:List α}{k:Nat}{x:α}(h:l[k]?=some x):(zD4 l k)[k]?=some (x,false):=by
 have hk:=(List.getElem?_eq_some_iff.1 h).1
 have hl:((l.take k).map fun x=>(x,true)).length=k:=by simp;omega
 unfold zD4
 rw[List.getElem?_append_right (by omega),hl]
 simp[h]
theorem zKJ{l:List α}{k:Nat}{x:α}(h:l[k]?=some x):(zD4 l k).set k (x,true)=zD4 l (k+1):=by
 have hk:=(List.getElem?_eq_some_iff.1 h).1
 have hl:((l.take k).map fun x=>(x,true)).length=k:=by simp;omega
 unfold zD4
 rw[List.set_append_right _ _ (by omega),hl,Nat.sub_self,zAv h,zAr h]
 simp
theorem zAK.conv(h:zAK sz R E w e base v l)(f:α→β)(hc:∀cs x,x∈l→zA3 (fun k=>v.ownBlock=some k∨E k) R w cs x→zA3 (fun k=>v.ownBlock=some k∨E' k) R' w cs (f x)):zAK sz R' E' w e base v (l.map f):=by
 obtain ⟨rows,h1,h2,h3,h4⟩:=h.row
 refine ⟨by simpa using h.top,rows,by simpa using h1,by simpa using h2,h3,fun i r y hr hy=>?_⟩
 rw[List.getElem?_map,Option.map_eq_some_iff] at hy
 obtain ⟨x,hx,rfl⟩:=hy
 exact hc r x (List.mem_of_getElem? hx) (h4 i r x hr hx)
theorem zAK.flag{C:List Value→Prop}(h:zAK sz R E w e base v l):zAK sz (zJz R C) E w e base v (zD4 l 0):=by
 rw[zPg]
 exact h.conv _ fun cs x _ hf w' hw'=>⟨hf w' hw',fun hh=>by cases hh⟩
theorem zAK.unflag{C:List Value→Prop}{k:Nat}(h:zAK sz (zJz R C) E w e base v (zD4 l k)):zAK sz R E w e base v l:=by
 have:=h.conv (R':=R) (E':=E) Prod.fst fun cs x _ hf w' hw'=>(hf w' hw').1
 rwa [zQ7] at this
end
theorem zAQ(g:Nat):∀(vs:List Value) (o:Nat) (w:World),w.grownBy (w.setCells g o vs) (some g)
 | [],_,w=>World.grownBy.refl w _
 | v::vs,o,w=>(zAC w ⟨g,o,none⟩ v).trans (zAQ g vs (o+1) _)
theorem zE4{sz:Nat}:∀{rows:List (List Value)} (n:Nat),(∀r∈rows,r.length=sz)→(rows.drop n).flatten=rows.flatten.drop (n*sz)
 | [],n,_=>by simp
 | q::rows,0,_=>by simp
 | q::rows,n+1,hs=>by
  have hq:=hs q (by simp)
  rw[List.drop_succ_cons,List.flatten_cons,zE4 n (fun r hr=>hs r (by simp[hr])),List.drop_append,hq,List.drop_of_length_le (l:=q) (by rw[hq,Nat.add_mul];omega),List.nil_append]
  rw[show (n+1)*sz - sz=n*sz by rw[Nat.add_mul];omega]
section
variable {α : Type} {R : Rd α} {sz : Nat} {E : Nat → Prop} {w w' : World} {e : TypeId} {base : Nat} {v : Value} {l : List α}
theorem zAK.part{g L cap:Nat}(h:zAK sz R E w e base (.slice (some ⟨g,0,none⟩) L cap) l)(k:Nat):∃rs:List (List Value),rs.length=(l.drop k).length∧(∀r∈rs,r.length=sz∧∀c∈r,c.oneCell'=true) ∧
  (∀(i:Nat) (r:List Value) (x:α),rs[i]?=some r→(l.drop k)[i]?=some x→zA3 (fun j=>some g=some j∨E j) R w r x)∧rs.flatten.length=(l.length - k)*sz∧(∀j u,rs.flatten[j]?=some u→w.cell? ⟨g,k*sz+j,none⟩=some u):=by
 obtain ⟨rows,h1,h2,h3,h4⟩:=h.row
 have hsz:∀r∈rows,r.length=sz:=fun r hr=>(h3 r hr).1
 refine ⟨rows.drop k,by simp[h2],fun r hr=>h3 r (List.mem_of_mem_drop hr),fun i r x hr hx=>?_,?_,fun j u hj=>?_⟩
 ·rw[List.getElem?_drop] at hr hx
  exact h4 (k+i) r x hr hx
 ·rw[zBW (fun r hr=>hsz r (List.mem_of_mem_drop hr)),List.length_drop,h2]
 ·rw[zE4 _ hsz,List.getElem?_drop] at hj
  have:=h1.cells (g:=g) rfl _ _ hj
  rwa [zA7] at this
theorem zAK.spare{g L cap:Nat}(h:zAK sz R E w e base (.slice (some ⟨g,0,none⟩) L cap) l){j:Nat}(hj:j<cap*sz):(w.cell? ⟨g,j,none⟩).isSome=true∧w.frozen? ⟨g,j,none⟩=false:=by
 rcases h.shape with ⟨h5,_⟩|⟨g',cap',cur,h5,_,_,_,_,hg,hs⟩
 ·cases h5
 ·simp only[Value.slice.injEq,Option.some.injEq,Addr.mk.injEq] at h5
  obtain ⟨⟨rfl,_,_⟩,_,rfl⟩:=h5
  constructor
  ·rw[World.cell?,hg]
   simp
   omega
  ·simp[World.frozen?,hg]
theorem zAK.splice{g L cap:Nat}(h:zAK sz R E w e base (.slice (some ⟨g,0,none⟩) L cap) l){k:Nat}(hk:k≤l.length){rs:List (List Value)}{xs:List α}(hlen:rs.length=xs.length)(hr:∀r∈rs,r.length=sz∧∀c∈r,c.oneCell'=true)
  (hR:∀(i:Nat) (r:List Value) (x:α),rs[i]?=some r→xs[i]?=some x→zA3 (fun j=>some g=some j∨E j) R w r x) (hcap:k+xs.length≤cap) (htop:k+xs.length≤2000000) {n:Nat} (hn:n=(l.take k++xs++l.drop (k+xs.length)).length) :
  zAK sz R E (w.setCells g (k*sz) rs.flatten) e base (.slice (some ⟨g,0,none⟩) n cap) (l.take k++xs++l.drop (k+xs.length)):=by
 obtain ⟨rows,h1,h2,h3,h4⟩:=h.row
 have hsz:∀r∈rows,r.length=sz:=fun r hr=>(h3 r hr).1
 have ht:=h.top
 have hnl:n=k+xs.length+(l.length - (k+xs.length)):=by rw[hn];simp;omega
 have hdirty:zAF (fun j=>(Value.slice (some ⟨g,0,none⟩) L cap).ownBlock=some j∨E j) w (w.setCells g (k*sz) rs.flatten):=
  (zAF.of_grown (zAQ g rs.flatten (k*sz) w)).mono fun j _ hj=>by cases hj;exact Or.inl rfl
 have hrl:rs.flatten.length=xs.length*sz:=by rw[zBW (fun r hr'=>(hr r hr').1),hlen]
 have hfll:rows.flatten.length=l.length*sz:=by rw[zBW hsz,h2]
 refine ⟨by rw[←hn];omega,rows.take k++rs++rows.drop (k+xs.length),?_,?_,fun r hr'=>?_,?_⟩
 ·rw[←hn]
  have hfl:(rows.take k++rs++rows.drop (k+xs.length)).flatten=rows.flatten.take (k*sz)++rs.flatten++rows.flatten.drop ((k+xs.length)*sz):=by
   rw[List.flatten_append,List.flatten_append,zEP k hsz,zE4 _ hsz]
  have hK:k*sz≤l.length*sz:=Nat.mul_le_mul_right _ hk
  have hKM:(k+xs.length)*sz=k*sz+xs.length*sz:=Nat.add_mul _ _ _
  have hN:n*sz=k*sz+xs.length*sz+(l.length*sz - (k*sz+xs.length*sz)):=by rw[hnl,Nat.add_mul,Nat.sub_mul,hKM]
  have htl:(rows.flatten.take (k*sz)).length=k*sz:=by rw[List.length_take,hfll,Nat.min_eq_left hK]
  refine ⟨?_,?_⟩
  ·rw[hfl,List.length_append,List.length_append,htl,hrl,List.length_drop,hfll,hN,hKM]
  ·rcases h1.2 with ⟨h5,_⟩|⟨g',cap',cur,h5,h6,h7,h8,h9,h10,h11⟩
   ·cases h5
   ·simp only[Value.slice.injEq,Option.some.injEq,Addr.mk.injEq] at h5
    obtain ⟨⟨rfl,_,_⟩,_,rfl⟩:=h5
    have hcap2:(k+xs.length)*sz≤cap*sz:=Nat.mul_le_mul_right _ hcap
    have hcap3:l.length*sz≤cap*sz:=Nat.mul_le_mul_right _ h8
    obtain ⟨cur1,c1,c2,c3⟩:=zC1 g e rs.flatten (k*sz) w cur h7 (by rw[hrl,h10];omega)
    refine .inr ⟨g,cap,cur1,rfl,h6,c1,by omega,h9,by rw[c2,h10],?_⟩
    rw[hfl]
    generalize k*sz=K at *
    generalize xs.length*sz=M at *
    generalize l.length*sz=NN at *
    generalize n*sz=T at *
    apply List.ext_getElem?
    intro j
    rw[List.getElem?_take]
    by_cases hj:j<T
    ·rw[if_pos hj,Array.getElem?_toList,c3]
     have hcur:j<NN→cur[j]?=rows.flatten[j]?:=fun hjn=>by
      rw[←h11,List.getElem?_take,if_pos hjn,Array.getElem?_toList]
     by_cases hjk:j<K
     ·rw[if_neg (by omega),List.append_assoc,List.getElem?_append_left (by omega),List.getElem?_take,if_pos hjk,hcur (by omega)]
     ·by_cases hjm:j<K+M
      ·rw[if_pos (by omega),List.append_assoc,List.getElem?_append_right (by omega),htl,List.getElem?_append_left (by omega)]
      ·rw[if_neg (by omega),List.getElem?_append_right (by rw[List.length_append];omega),List.length_append,htl,hrl,List.getElem?_drop,hcur (by omega),hKM]
       congr 1
       omega
    ·rw[if_neg hj,List.getElem?_eq_none (by
      rw[List.length_append,List.length_append,List.length_drop]
      omega)]
 ·simp[h2,hlen]
 ·simp only[List.mem_append] at hr'
  rcases hr' with (hr'|hr')|hr'
  ·exact h3 r (List.mem_of_mem_take hr')
  ·exact hr r hr'
  ·exact h3 r (List.mem_of_mem_drop hr')
 ·intro m q x hq hx
  have hrk:(rows.take k).length=k:=by rw[List.length_take];omega
  have hlk:(l.take k).length=k:=by rw[List.length_take];omega
  by_cases h5:m<k
  ·rw[List.append_assoc,List.getElem?_append_left (by omega),List.getElem?_take,if_pos h5] at hq hx
   exact (h4 m q x hq hx).step hdirty
  ·by_cases h6:m<k+xs.length
   ·rw[List.append_assoc,List.getElem?_append_right (by omega),List.getElem?_append_left (by omega)] at hq hx
    rw[hrk] at hq
    rw[hlk] at hx
    exact (hR (m - k) q x hq hx).step hdirty
   ·rw[List.getElem?_append_right (by rw[List.length_append];omega),List.length_append,List.getElem?_drop] at hq hx
    rw[hrk,hlen] at hq
    rw[hlk] at hx
    exact (h4 _ q x hq hx).step hdirty
theorem zAK.setElem{g L cap:Nat}(h:zAK sz R E w e base (.slice (some ⟨g,0,none⟩) L cap) l){k:Nat}(hk:k<l.length){r:List Value}{x:α}(hr:r.length=sz)(h1:∀c∈r,c.oneCell'=true)(hR:zA3 (fun j=>some g=some j∨E j) R w r x) :
  zAK sz R E (w.setCells g (k*sz) r) e base (.slice (some ⟨g,0,none⟩) L cap) (l.set k x):=by
 have ht:=h.top
 have hcap:l.length≤cap∧L=l.length:=by
  rcases h.shape with ⟨h5,_⟩|⟨g',cap',cur,h5,_,_,h8,_⟩
  ·cases h5
  ·simp only[Value.slice.injEq,Option.some.injEq,Addr.mk.injEq] at h5
   obtain ⟨_,rfl,rfl⟩:=h5
   exact ⟨h8,rfl⟩
 have hs:=h.splice (k:=k) (by omega) (rs:=[r]) (xs:=[x]) rfl (fun q hq=>by simp at hq;subst hq;exact ⟨hr,h1⟩) (fun i q y hq hy=>by
  match i,hq,hy with
  | 0,hq,hy=>simp at hq hy;subst hq hy;exact hR
  | i+1,hq,hy=>simp at hq) (by simp;omega) (by simp;omega) (n:=L) (by simp;omega)
 have e1:l.take k++[x]++l.drop (k + [x].length)=l.set k x:=by
  rw[List.set_eq_take_append_cons_drop,if_pos hk]
  simp
 have e2:[r].flatten=r:=by simp
 rw[e1,e2] at hs
 exact hs
end
section
variable {P : Program}
theorem zC4(w:World)(dT sT ty elem:TypeId)(i:TypeInfo)(b o dLen dCap:Nat)(a:Addr)(sLen sCap:Nat)(cs:List Value)
  (hu:P.underlying dT=some (.slice elem)) (hs:P.info? elem=some i) (hn:cs.length=Nat.min sLen dLen*i.size)
  (hsrc:∀j v,cs[j]?=some v→w.cell? (a.add j)=some v) (hc:∀j,j<cs.length→(w.cell? ⟨b,o+j,none⟩).isSome=true∧w.frozen? ⟨b,o+j,none⟩=false) (h1:∀v∈cs,v.oneCell'=true) :
  (Builtin.copy_ #[dT,sT] ty #[.slice (some ⟨b,o,none⟩) dLen dCap,.slice (some a) sLen sCap]).run P w=.ok (goInt (Nat.min sLen dLen)) (w.setCells b o cs):=by
 have hl:=run_loadCells_list (P:=P) w a cs hsrc
 have hst:=run_storeCells_cells (P:=P) b o cs 0 w (by simpa using fun j hj=>(hc j hj).1) (by simpa using fun j hj=>(hc j hj).2) h1
 simp[Builtin.copy_,run_underlying hu,Builtin.lenOf,Builtin.firstCells,sizeOf,typeInfo,hs,←hn,hl,hst]
variable {α : Type} {R : Rd α}
theorem zHK{w:World}{ops:Array Oper}{rest:List Oper}{o:Oper}{a:Act}{Q:Exit→Act→World→Prop}(hgd:o.guard=none)(s x:Operand)(t tn:TypeId)
  (ho:o.op=.call { callee:=.builtin .append,args:=#[s,x],argTypes:=#[t,tn] }) (sz:Nat) (E:Nat→Prop) (e:TypeId) (ht:P.underlying t=some (.slice e)) (htn:P.underlying tn=some (.int .i64)) (z:Value) (bytes:Nat)
  (hinfo:(P.info? e).map (fun i=>(i.zero,i.size,i.bytes))=some (some z,sz,bytes)) (hzs:z.cells.size=sz) (hsz:0<sz) (hby:bytes≤1000) (base g n cap k:Nat) (l:List α) (hs:a.eval s=.slice (some ⟨g,0,none⟩) n cap) (hown:zAK sz R E w e base (.slice (some ⟨g,0,none⟩) n cap) l)
  (hx:a.eval x=.int .i64 (k:Int)) (hk:0<k) (hg:cap<n+k) (hl:n+k≤1000000) (hbase:base≤w.heap.size)
  (h:∀cap' w',zAK sz R E w' e base (.slice (some ⟨w.heap.size,0,none⟩) n cap') l→n+k≤cap'→w.grownBy w' none→w.heap.size<w'.heap.size→wpList P ops Q rest (a.put o.dst (.slice (some ⟨w.heap.size,0,none⟩) (n+k) cap')) w'):wpList P ops Q (o::rest) a w:=by
 obtain ⟨i,hi0,hz0,hs0,hb0⟩:=info_parts hinfo
 obtain ⟨rows,h1,h2,h3,h4⟩:=hown.row
 have hsz':∀r∈rows,r.length=sz:=fun r hr=>(h3 r hr).1
 have hfl:rows.flatten.length=l.length*sz:=by rw[zBW hsz',h2]
 have hnl:n=l.length∧l.length≤cap:=by
  rcases hown.shape with ⟨h5,_⟩|⟨g',cap',cur,h5,_,_,h8,_⟩
  ·cases h5
  ·simp only[Value.slice.injEq,Option.some.injEq,Addr.mk.injEq] at h5
   obtain ⟨_,rfl,rfl⟩:=h5
   exact ⟨rfl,h8⟩
 obtain ⟨rfl,hlc⟩:=hnl
 have hcap:Builtin.nextslicecap (l.length+k) cap*i.bytes≤281474976710656:=growslice_fits hg (by
  have:(l.length+k)*i.bytes≤(l.length+k)*1000:=Nat.mul_le_mul_left _ (by omega)
  omega)
 have hold:(Builtin.firstCells i.size l.length (.slice (some ⟨g,0,none⟩) l.length cap)).run P w.drew=.ok rows.flatten.toArray w.drew:=by
  refine run_firstCells_some (P:=P) w.drew i.size l.length ⟨g,0,none⟩ l.length cap rows.flatten (by rw[hfl,hs0]) (fun j u hj=>?_)
  exact h1.cells (g:=g) rfl _ _ hj
 have hbk:k*i.bytes≤281474976710656:=by
  have:k*i.bytes≤k*1000:=Nat.mul_le_mul_left _ (by omega)
  omega
 have hrun:=Lib.run_append_grow_zeros (P:=P) w t tn o.type e i z .i64 .i64 ht htn hi0 hz0 (some ⟨g,0,none⟩) l.length cap rows.flatten hold k hk (by omega) hg (by omega) hbk hcap
 refine wpList_plain hgd fun K hK=>?_
 unfold Oper.wp
 simp[execOp,ho,resolve,invoke,builtin,hs,hx,hrun,Result.andThen]
 refine hK _ _ (h _ _ ?_ (grownCap_ge w (l.length+k) cap e) ⟨rfl,rfl,rfl,by simp,fun j hj _=>heap_alloc_old w.drew _ hj⟩ (by simp))
 have hge:=grownCap_ge w (l.length+k) cap e
 have hcm:grownCap w (l.length+k) cap e≤maxLen:=grownCap_le_maxLen w (l.length+k) cap e (by unfold maxLen;omega)
 refine ⟨hown.top,rows,⟨by rw[hfl],.inr ⟨w.heap.size,_,_,rfl,hbase,heap_alloc_new w.drew _,by omega,hcm,?_,?_⟩⟩,h2,h3,fun m r x hr hx=>?_⟩
 ·simp only[Array.size_append,List.size_toArray,size_zeroCells,hzs,hfl,←Nat.add_mul]
  congr 1
  omega
 ·simp only[Array.toList_append]
  rw[←hfl]
  exact List.take_left
 ·refine (h4 m r x hr hx).move (⟨by simp,fun j hj _=>heap_alloc_old w.drew _ hj⟩) (fun j hj hh=>?_)
  rcases hh with hh|hh
  ·simp only[Value.ownBlock,Option.some.injEq] at hh
   omega
  ·exact Or.inr hh
end
open Go.ChangeShapes Go.WideShapes Go.ChangeAt Go.RowKit
section
variable {H : Type} {enc : TypeId × Value → H} {W : World} {base : Nat} {v : Value} {d : DataW H} {ps : List MemPlace} [zRf W]
theorem zJR{n:Int}(h:(Lit.int .i64 n).wf=true):I64 n:=by
 have hmin:IntKind.i64.min = -9223372036854775808:=rfl
 have hmax:IntKind.i64.max=9223372036854775807:=rfl
 simp only[Lit.wf,Bool.and_eq_true,decide_eq_true_eq] at h
 unfold I64
 omega
theorem zJn{w:World}{a:Addr}{v:Value}(h:w.cell? a=some v):a.spot=none:=World.cell?_spot h
set_option maxRecDepth 100000 in
theorem zSC{n:Nat}{cs:List Value}{x:DataW H × List MemPlace}(h:DataW.trod enc Tryz.prog W 0 (fun _=>true) true n 36 cs=some x)(hz:∀m∈x.1.weights Tryz.prog 36,m≤reachBytes) :
  ∃v l,cs=[v]∧zAG W v l:=by
 rcases open_ints Tryz.underlying36 Tryz.underlying3 (by kernel_rfl) h with ⟨rfl,_⟩|⟨a,len,cap,zs,rfl,_,hl,hm,hzl,rfl,hc,hwf⟩
 ·exact ⟨_,[],rfl,zAG.nil W⟩
 ·simp only[if_true] at hzl
  have hlen:(zs.take len).length=len:=by simp;omega
  have hreach:=hz ((len+(cap - len))*Tryz.prog.bytesOf 3) (by simp[DataW.weights,Tryz.underlying36,lits,hzl,show min len cap=len by omega])
  rw[show Tryz.prog.bytesOf 3=8 by kernel_rfl] at hreach
  unfold reachBytes at hreach
  unfold maxLen at hm
  suffices hI:zDj W (some a) (zs.take len) from ⟨_,zs.take len,rfl,some a,cap,by rw[hlen],by omega,⟨by omega,by omega,(fun e=>by cases e),Zok.early hI⟩,hI⟩
  intro i hi
  have hi':i<zs.length:=by omega
  have hc0:=hc i hi'
  have hs:=zJn (hc 0 (by omega))
  have hs0:a.spot=none:=by simpa[Addr.add] using hs
  refine ⟨a.block,a.off,zs[i],?_,?_,?_,?_⟩
  ·cases a;simp at hs0;subst hs0;rfl
  ·have e:a.add i=⟨a.block,a.off+i,none⟩:=by cases a;simp at hs0;subst hs0;unfold Addr.add;split<;>simp_all
   rw[e] at hc0
   rw[hc0]
   simp[hi']
  ·rw[List.getElem?_take,if_pos (by omega)];simp[hi']
  ·exact zJR (hwf _ (List.getElem_mem hi'))
end
open Go.ChangeShapes Go.WideShapes Go.ChangeAt Go.RowKit Go.Deep
section
variable {H : Type}
def zEN(enc:TypeId × Value→H)(W:World)(T:TypeId){α:Type}(R:Rd α):Prop:=
 ∀n cs (x:DataW H × List MemPlace),DataW.trod enc Tryz.prog W 0 (fun _=>true) true n T cs=some x→(∀m∈x.1.weights Tryz.prog T,m≤reachBytes)→∃y,R W cs y
def zWc:Rd Int:=fun _ cs y=>cs=[.int .i64 y]∧I64 y
def zVW:Rd Bool:=fun _ cs y=>cs=[.bool y]
def zLG:Rd (List Int):=fun w cs l=>∃v,cs=[v]∧zAG w v l
variable {enc : TypeId × Value → H} {W : World} [zRf W]
set_option maxRecDepth 100000 in
theorem zCO{T:TypeId}(hT:Tryz.prog.underlying T=some (.int .i64)):zEN enc W T zWc:=by
 intro n cs x h _
 obtain ⟨y,rfl,rfl,hw⟩:=DataW.trod_int hT h
 exact ⟨y,rfl,zJR hw⟩
set_option maxRecDepth 100000 in
theorem zKV{T:TypeId}(hT:Tryz.prog.underlying T=some .bool):zEN enc W T zVW:=by
 intro n cs x h _
 obtain ⟨y,rfl,rfl⟩:=DataW.trod_bool hT h
 exact ⟨y,rfl⟩
set_option maxRecDepth 100000 in
theorem zFz:zEN enc W 36 zLG:=by
 intro n cs x h hz
 obtain ⟨v,l,rfl,hl⟩:=zSC h hz
 exact ⟨l,v,rfl,hl⟩
theorem zEU{P:Program}{e:TypeId}{d:DataW H}{m:Nat}:∀{l:List (DataW H)},d∈l→m∈d.weights P e→m∈DataW.weightsAll P e l
 | [],h,_=>by simp at h
 | c::l,h,hm=>by
  simp only[DataW.weightsAll,List.mem_append]
  rcases List.mem_cons.1 h with rfl|h
  ·exact Or.inl hm
  ·exact Or.inr (zEU h hm)
theorem zIS(b o k:Nat):(⟨b,o,none⟩:Addr).add k=⟨b,o+k,none⟩:=by unfold Addr.add;split<;>simp_all
set_option maxRecDepth 100000 in
theorem zHN{T e:TypeId}{α:Type}{R:Rd α}{sz:Nat}(hT:Tryz.prog.underlying T=some (.slice e))(hC:Tryz.prog.cellsOf e=sz)(hsz:0<sz)(hB:8≤Tryz.prog.bytesOf e)(hR:zEN enc W e R) :
  zEN enc W T (fun w cs l=>∃v,cs=[v]∧zAZ sz R w v l):=by
 intro n cs x h hz
 rcases open_slice hT h with ⟨rfl,_⟩|⟨a,len,cap,m,k,D,Pl,rfl,_,hl,hm,hmm,rfl,hi⟩
 ·exact ⟨[],_,rfl,zAZ.nil W⟩
 ·simp only[if_true] at hmm
  subst hmm
  have hlen:((List.range len).map D).length+((List.range (m - len)).map fun j=>D (len+j)).length=m:=by simp;omega
  have hreach:=hz (m*Tryz.prog.bytesOf e) (by simp only[DataW.weights,hT,hlen,List.mem_cons,true_or])
  have hm8:m*8≤m*Tryz.prog.bytesOf e:=Nat.mul_le_mul_left _ hB
  unfold reachBytes at hreach
  unfold maxLen at hm
  have hall:∀i,i<len→∃cs' y,W.cells? 0 (a.add (i*sz)) sz=some cs'∧R W cs' y:=by
   intro i hi'
   obtain ⟨cs',h1,h2⟩:=hi i (by omega)
   rw[hC] at h1
   obtain ⟨y,hy⟩:=hR k cs' _ h2 (fun q hq=>hz q (by
    simp only[DataW.weights,hT,List.mem_cons,List.mem_append]
    exact Or.inr (Or.inl (zEU (List.mem_map.2 ⟨i,List.mem_range.2 hi',rfl⟩) hq))))
   exact ⟨cs',y,h1,hy⟩
  by_cases h0:len=0
  ·subst h0
   exact ⟨[],_,rfl,some a,m,rfl,by simp,⟨by simp,by omega,fun e=>by cases e⟩,fun i x hx=>by simp at hx⟩
  ·have hpos:0<len:=by omega
   have hne:Nonempty α:=⟨(Classical.choose (Classical.choose_spec (hall 0 hpos)))⟩
   have hex:∃f:Nat→α,∀i,i<len→∃cs',W.cells? 0 (a.add (i*sz)) sz=some cs'∧R W cs' (f i):=by
    refine ⟨fun i=>if hi':i<len then Classical.choose (Classical.choose_spec (hall i hi')) else Classical.choice hne,fun i hi'=>?_⟩
    simp only[dif_pos hi']
    exact ⟨_,Classical.choose_spec (Classical.choose_spec (hall i hi'))⟩
   obtain ⟨f,hf⟩:=hex
   have hspot:a.spot=none:=by
    obtain ⟨cs',h1,_⟩:=hf 0 hpos
    obtain ⟨_,hcl,hat⟩:=World.cells?_some h1
    have h2:=hat 0 hsz
    rw[List.getElem?_eq_getElem (by omega)] at h2
    have:=zJn h2
    simpa[Addr.add] using this
   refine ⟨(List.range len).map f,_,rfl,some a,m,by simp,by simp;omega,⟨by simp;omega,by omega,fun e=>by cases e⟩,fun i x hx=>?_⟩
   rw[List.getElem?_map,Option.map_eq_some_iff] at hx
   obtain ⟨j,hj,rfl⟩:=hx
   have hil:i<len:=by
    have:=(List.getElem?_eq_some_iff.1 hj).1
    simpa using this
   have:j=i:=by rw[List.getElem?_range hil] at hj;exact (Option.some.inj hj).symm
   subst this
   obtain ⟨cs',h1,h2⟩:=hf j hil
   obtain ⟨_,hcl,hat⟩:=World.cells?_some h1
   refine ⟨a.block,a.off,?_,cs',hcl,fun q c hq=>?_,h2⟩
   ·cases a;simp at hspot;subst hspot;rfl
   ·have hql:=(List.getElem?_eq_some_iff.1 hq).1
    have:=hat q (by omega)
    rw[hq] at this
    have e:(a.add (j*sz)).add q=⟨a.block,a.off+j*sz+q,none⟩:=by
     cases a;simp at hspot;subst hspot
     rw[zIS,zIS]
    rw[e] at this
    exact this
abbrev zVu:=Int × Int × Int
def zWQ:Rd zVu:=fun _ cs p=>cs=[.int .i64 p.1,.int .i64 p.2.1,.int .i64 p.2.2]∧I64 p.1∧I64 p.2.1∧I64 p.2.2
def zBA:Rd Sh:=fun w cs s=>∃v,cs=[.int .i64 s.1,v]∧zAG w v s.2∧I64 s.1
theorem zFk:Tryz.prog.cellsOf 3=1:=by kernel_rfl
theorem zHa:Tryz.prog.cellsOf 36=1:=by kernel_rfl
theorem zJ2:Tryz.prog.cellsOf 49=3:=by kernel_rfl
theorem zJa:Tryz.prog.cellsOf 64=2:=by kernel_rfl
set_option maxRecDepth 100000 in
theorem zKw:zEN enc W 49 zWQ:=by
 intro n cs x h hz
 obtain ⟨y0,y1,y2,k,rfl,hl,h0,h1,h2⟩:=trod_struct3 Tryz.underlying49 h
 rw[zJ2] at hl
 simp only[zFk] at h0 h1 h2
 match cs,hl with
 | [c0,c1,c2],_ =>
  simp only[List.drop_zero,List.drop_succ_cons,List.take_succ_cons,List.take_zero] at h0 h1 h2
  simp only[DataW.weights,Tryz.underlying49,List.map_cons,List.map_nil,DataW.weightsEach,List.mem_append] at hz
  obtain ⟨z0,e0,i0⟩:=zCO Tryz.underlying3 k _ _ h0 (fun m hm=>hz m (by simp[hm]))
  obtain ⟨z1,e1,i1⟩:=zCO Tryz.underlying3 k _ _ h1 (fun m hm=>hz m (by simp[hm]))
  obtain ⟨z2,e2,i2⟩:=zCO Tryz.underlying3 k _ _ h2 (fun m hm=>hz m (by simp[hm]))
  simp only[List.cons.injEq,and_true] at e0 e1 e2
  subst e0 e1 e2
  exact ⟨(z0,z1,z2),rfl,i0,i1,i2⟩
set_option maxRecDepth 100000 in
theorem zJF:zEN enc W 64 zBA:=by
 intro n cs x h hz
 obtain ⟨y0,y1,k,rfl,hl,h0,h1⟩:=trod_struct2 Tryz.underlying64 h
 rw[zJa] at hl
 simp only[zFk,zHa] at h0 h1
 match cs,hl with
 | [c0,c1],_ =>
  simp only[List.drop_zero,List.drop_succ_cons,List.take_succ_cons,List.take_zero] at h0 h1
  simp only[DataW.weights,Tryz.underlying64,List.map_cons,List.map_nil,DataW.weightsEach,List.mem_append] at hz
  obtain ⟨z0,e0,i0⟩:=zCO Tryz.underlying3 k _ _ h0 (fun m hm=>hz m (by simp[hm]))
  obtain ⟨z1,v1,e1,i1⟩:=zFz k _ _ h1 (fun m hm=>hz m (by simp[hm]))
  simp only[List.cons.injEq,and_true] at e0 e1
  subst e0 e1
  exact ⟨(z0,z1),_,rfl,i1,i0⟩
theorem zBA.stays:zBA.Stays:=by
 rintro w cs s ⟨v,rfl,h,i⟩ w' hw
 exact ⟨v,rfl,h.framed (fun _ _ _=>id) hw,i⟩
set_option maxRecDepth 100000 in
theorem zA6{w:World}{v:Value}{ls:List Sh}(h:zAZ 2 zBA w v ls):zAN w v ls:=by
 obtain ⟨a,c,rfl,h1,h2,h3⟩:=h
 refine ⟨a,c,rfl,h1,h2,fun i hi=>?_⟩
 obtain ⟨b,off,rfl,cs,hl,hc,u,rfl,hu,hn⟩:=h3 i ls[i] (List.getElem?_eq_getElem hi)
 exact ⟨b,off,u,ls[i],rfl,hc 0 _ rfl,hc 1 _ rfl,hu,List.getElem?_eq_getElem hi,hn⟩
variable {base : Nat} {v : Value} {d : DataW H} {ps : List MemPlace}
set_option maxRecDepth 100000 in
theorem zER{T:TypeId}{fs:Array Field}{α:Type}{R:Rd α}(hs:Tryz.prog.underlying T=some (.struct fs))(hR:zEN enc W T R)(hv:Value.okWide Tryz.prog W .any base T v)(h:DataW.Trod enc Tryz.prog W 0 (fun _=>true) true T v d ps)(hz:∀n∈d.weights Tryz.prog T,n≤reachBytes) :
  ∃cs y,v=.agg cs∧R W cs.toList y:=by
 obtain ⟨cs,rfl,_⟩:=okWide_struct hs hv
 obtain ⟨n,hn⟩:=h
 obtain ⟨y,hy⟩:=hR n _ _ hn hz
 exact ⟨cs,y,rfl,by simpa[Value.cells] using hy⟩
set_option maxRecDepth 100000 in
theorem zJ6{T e:TypeId}{α:Type}{R:Rd α}{sz:Nat}(hT:Tryz.prog.underlying T=some (.slice e))(hR:zEN enc W T (fun w cs l=>∃v,cs=[v]∧zAZ sz R w v l))(hv:Value.okWide Tryz.prog W .any base T v)(h:DataW.Trod enc Tryz.prog W 0 (fun _=>true) true T v d ps)(hz:∀n∈d.weights Tryz.prog T,n≤reachBytes) :
  ∃l,zAZ sz R W v l:=by
 obtain ⟨a,len,cap,rfl⟩:=okWide_slice hT hv
 obtain ⟨n,hn⟩:=h
 obtain ⟨l,u,e,hl⟩:=hR n _ _ hn hz
 simp[Value.cells] at e
 subst e
 exact ⟨l,hl⟩
theorem zCZ{cs:Array Value}{l:List Value}(h:cs.toList=l):cs=l.toArray:=by rw[←h]
end
end Go.Proofs.YthgmphbkkojaoaaGreat
