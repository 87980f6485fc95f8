/-
  Words for how lists lie in memory, and laws for a set that a call makes: over any program. The plain arithmetic: what the functions of package field answer, and that it is arithmetic modulo 31. The walks of package slices at lists of ints. The walks of a number's checks, and of the law's 'at'. More laws over any program: appends inside a region that draws its order. More laws over any program: copy into an own row; slices of shares. Words for lists of shares: as they are read; and as the call's own, each share's numbers in a row of their own. Rows of shares whose numbers lie elsewhere: the cells, a stretch of them written anew. Two lists held against each other, one by one. slices.IndexFunc and ContainsFunc at ints, with whatever closure that asks. Worlds from which numbers were drawn. Sorting by putting in one after the other, in plain lists.
-/
import Derived.WalkKit
import Derived.WalkSpells
import Derived.WalkLawsBesides
import Derived.Lib.Hide
import Derived.Maps.OwnOps
import Derived.Maps.OwnSet
import Derived.Maps.Views
import Derived.Laws.AppendOwnNone
import Derived.Below
import Derived.Test.YthgmphbkkojaoaaGreatRows
import Derived.Deep.QuietTactic
import Derived.BigQuiet
import Derived.Lib.SliceRun
import Derived.Deep.RegionLaw
import Derived.Laws.CopyOwn
import Derived.Shelf.Abstract
import Derived.Deep.DeepCutAuto
import Derived.Deep.RegionHeld3
set_option maxHeartbeats 400000
namespace Go.Proofs.YthgmphbkkojaoaaGreat
set_option linter.unusedSectionVars false
open Go.RowKit
theorem zAL{a b:Int}(h:a=b):Ending.returned (.int .i64 a)=.returned (.int .i64 b):=by rw[h]
theorem zAX{a b:Bool}(h:a=b):Ending.returned (.bool a)=.returned (.bool b):=by rw[h]
theorem zS1{a b c d:Int}(h:a=b)(g:c=d):Ending.returned (.tuple #[.int .i64 a,.int .i64 c])=.returned (.tuple #[.int .i64 b,.int .i64 d]):=by rw[h,g]
theorem zAr{α:Type}{l:List α}{k:Nat}{z:α}(h:l[k]?=some z):l.drop k=z::l.drop (k+1):=by
 obtain ⟨hk,rfl⟩:=List.getElem?_eq_some_iff.1 h
 exact List.drop_eq_getElem_cons hk
theorem zAv{α:Type}{l:List α}{k:Nat}{z:α}(h:l[k]?=some z):l.take (k+1)=l.take k++[z]:=by
 obtain ⟨hk,rfl⟩:=List.getElem?_eq_some_iff.1 h
 exact List.take_succ_eq_append_getElem hk
theorem zIG{w:World}{a:Addr}{v:Value}(h:w.cell? a=some v):w.setCell a v=w:=by
 have hm:(w.setCell a v).heap=w.heap:=by
  apply Array.ext_getElem?
  intro i
  unfold World.setCell
  dsimp only
  rw[Array.getElem?_modify]
  split
  ·rename_i hi
   subst hi
   cases hb:w.heap[a.block]? with
   | none=>simp[World.cell?,hb] at h
   | some o =>
    cases o with
    | cells cs t z =>
     simp only[World.cell?,hb] at h
     cases hs:a.spot with
     | some s=>simp
     | none =>
      simp only[Option.map_some,Option.isSome_none,Bool.false_eq_true,if_false,Option.some.injEq]
      congr 1
      apply Array.ext_getElem?
      intro j
      rw[Array.getElem?_setIfInBounds]
      split
      ·rename_i hj
       subst hj
       simp[hs] at h
       split
       ·exact h.symm
       ·rename_i hn
        rw[Array.getElem?_eq_none (by omega)] at h
        cases h
      ·rfl
    | _=>simp
  ·rfl
 show ({ w with heap:=(w.setCell a v).heap }:World)=w
 rw[hm]
def I64(n:Int):Prop:=-9223372036854775808≤n∧n≤9223372036854775807
def zEa(x:Int)(l:List Int):Bool:=decide (x∈l)
def zBV(x y:List Int):Bool:=decide (x=y)
def zDj(w:World)(a:Option Addr)(l:List Int):Prop:=
 ∀i,i<l.length→∃b off z,a=some ⟨b,off,none⟩∧w.cell? ⟨b,off+i,none⟩=some (.int .i64 z)∧l[i]?=some z∧I64 z
def zQ0(w:World)(v:Value)(l:List Int):Prop:=
 ∃a cap,v=.slice a l.length cap∧l.length≤cap∧(l.length≤17592186044416∧cap≤9223372036854775807∧(a=none→cap=0))∧zDj w a l
class Zn where
 n:Nat
class zRf [Zn] (w:World):Prop where
 le:w.heap.size≤Zn.n
variable [Zn]
theorem Zh{p:Prop}(h:p):Hid p:=Lib.hid h
def Zok(w:World)(a:Option Addr)(l:List Int):Prop:=∀b off,a=some ⟨b,off,none⟩→l≠[]→b<Zn.n∨∀cs e fz,w.heap[b]?=some (.cells cs e fz)→e≠30
theorem Zok.move{w w':World}{a:Option Addr}{l:List Int}(h:Zok w a l)(hh:∀b off,a=some ⟨b,off,none⟩→l≠[]→w'.heap[b]?=w.heap[b]?):Zok w' a l:=fun b off e hl =>
 (h b off e hl).imp id fun g cs ty fz hc=>g cs ty fz ((hh b off e hl).symm.trans hc)
theorem Zok.nil{w:World}{a:Option Addr}:Zok w a []:=fun _ _ _ h=>absurd rfl h
theorem Zok.none{w:World}{l:List Int}:Zok w none l:=fun _ _ e=>by cases e
theorem Zok.early{w:World}[hz:zRf w]{a:Option Addr}{l:List Int}(h:zDj w a l):Zok w a l:=fun b off e hl=>by
 obtain ⟨b',off',z,e',hc,_⟩:=h 0 (List.length_pos_iff.2 hl)
 rw[e] at e'
 cases e'
 refine Or.inl (Nat.lt_of_lt_of_le ?_ hz.le)
 rcases Nat.lt_or_ge b w.heap.size with h'|h'
 ·exact h'
 ·simp[World.cell?,Array.getElem?_eq_none h'] at hc
def zAG(w:World)(v:Value)(l:List Int):Prop:=
 ∃a cap,v=.slice a l.length cap∧l.length≤cap∧(l.length≤17592186044416∧cap≤9223372036854775807∧(a=none→cap=0)∧Zok w a l)∧zDj w a l
theorem zAG.opened{w:World}{v:Value}{l:List Int}(h:zAG w v l) :
  ∃a cap,v=.slice a l.length cap∧l.length≤cap∧(l.length≤17592186044416∧cap≤9223372036854775807∧(a=none→cap=0)∧Zok w a l)∧zDj w a l:=h
theorem zQ0.opened{w:World}{v:Value}{l:List Int}(h:zQ0 w v l) :
  ∃a cap,v=.slice a l.length cap∧l.length≤cap∧(l.length≤17592186044416∧cap≤9223372036854775807∧(a=none→cap=0))∧zDj w a l:=h
theorem zAG.isErrs{w:World}{v:Value}{l:List Int}(h:zAG w v l):zQ0 w v l:=by
 obtain ⟨a,cap,h1,h2,⟨h3,h4,h5,_⟩,h6⟩:=h
 exact ⟨a,cap,h1,h2,⟨h3,h4,h5⟩,h6⟩
theorem zAH{w:World}{a:Addr}{v:Value}(h:w.cell? a=some v):a.block<w.heap.size:=by
 rcases Nat.lt_or_ge a.block w.heap.size with h'|h'
 ·exact h'
 ·simp[World.cell?,Array.getElem?_eq_none h'] at h
theorem zDj.below{B:Nat}{w w':World}{a:Option Addr}{l:List Int}(h:zDj w a l)(hb:Below B w w')(hB:∀x,a=some x→l≠[]→x.block<B):zDj w' a l:=by
 intro i hi
 obtain ⟨b,off,z,rfl,hc,hz⟩:=h i hi
 have hne:l≠[]:=by intro e;subst e;simp at hi
 exact ⟨b,off,z,rfl,(hb.cell (p:=⟨b,off+i,none⟩) (hB ⟨b,off,none⟩ rfl hne)).trans hc,hz⟩
theorem zDj.lt{w:World}{a:Option Addr}{l:List Int}(h:zDj w a l):∀x,a=some x→l≠[]→x.block<w.heap.size:=by
 intro x hx hne
 have hl:0<l.length:=List.length_pos_iff.2 hne
 obtain ⟨b,off,z,rfl,hc,_⟩:=h 0 hl
 cases hx
 exact zAH hc
theorem zDj.stays{w w':World}{a:Option Addr}{l:List Int}(h:zDj w a l)(hb:Below w.heap.size w w'):zDj w' a l:=h.below hb h.lt
theorem zAG.stays{w w':World}{v:Value}{l:List Int}(h:zAG w v l)(hb:Below w.heap.size w w'):zAG w' v l:=by
 obtain ⟨a,cap,h1,h2,⟨h3,h5,h6,h7⟩,h4⟩:=h
 exact ⟨a,cap,h1,h2,⟨h3,h5,h6,h7.move fun b off e hl=>hb.block b (h4.lt _ e hl)⟩,h4.stays hb⟩
theorem zQ0.stays{w w':World}{v:Value}{l:List Int}(h:zQ0 w v l)(hb:Below w.heap.size w w'):zQ0 w' v l:=by
 obtain ⟨a,cap,h1,h2,h3,h4⟩:=h
 exact ⟨a,cap,h1,h2,h3,h4.stays hb⟩
theorem zAG.nil(w:World):zAG w (.slice none 0 0) []:=⟨none,0,rfl,Nat.le_refl _,⟨by simp,by omega,fun _=>rfl,Zok.nil⟩,fun i hi=>by simp at hi⟩
theorem zAG.fresh(w:World)(T:TypeId)(l:List Int)(hl:l.length≤17592186044416)(hb:∀x∈l,I64 x)(n:Nat)(hn:n=w.heap.size)(hT:T≠30:=by decide) :
  zAG (w.alloc (.cells (l.map (Value.int .i64)).toArray T)) (.slice (some ⟨n,0,none⟩) l.length l.length) l:=by
 subst hn
 refine ⟨_,_,rfl,Nat.le_refl _,⟨hl,by omega,(fun e=>by cases e),fun b off e _=>Or.inr fun cs ty fz hc=>by cases e;unfold World.alloc at hc;simp at hc;rw[←hc.2.1];exact hT⟩,fun i hi=>⟨_,_,l[i],rfl,?_,by simp[hi],hb _ (List.getElem_mem hi)⟩⟩
 unfold World.cell? World.alloc
 simp[hi]
theorem zQ0.nil(w:World):zQ0 w (.slice none 0 0) []:=(zAG.nil w).isErrs
theorem zQ0.fresh(w:World)(T:TypeId)(l:List Int)(hl:l.length≤17592186044416)(hb:∀x∈l,I64 x)(n:Nat)(hn:n=w.heap.size) :
  zQ0 (w.alloc (.cells (l.map (Value.int .i64)).toArray T)) (.slice (some ⟨n,0,none⟩) l.length l.length) l:=by
 subst hn
 refine ⟨_,_,rfl,Nat.le_refl _,⟨hl,by omega,fun e=>by cases e⟩,fun i hi=>⟨_,_,l[i],rfl,?_,by simp[hi],hb _ (List.getElem_mem hi)⟩⟩
 unfold World.cell? World.alloc
 simp[hi]
theorem zDB(l:List Int)(h:l.all (fun x=>decide (0≤x)&&decide (x≤1000))=true):∀x∈l,I64 x:=by
 intro x hx
 have:=List.all_eq_true.1 h x hx
 simp at this
 unfold I64
 omega
theorem zAB(w:World)(o:Obj):Below w.heap.size w (w.alloc o):=(Below.refl _ _).alloc (Nat.le_refl _) o
def zAJ(w:World)(e:TypeId)(base:Nat)(v:Value)(l:List Int):Prop:=
 w.ownsRow base e 1 v l.length (l.map (Value.int .i64))∧(∀x∈l,I64 x)∧l.length≤17592186044416
theorem zAJ.nil(w:World)(e:TypeId)(base:Nat):zAJ w e base (.slice none 0 0) []:=⟨World.ownsRow_nil _ _ _ _,by simp,by simp⟩
theorem zAJ.isErrs{w:World}{e:TypeId}{base:Nat}{v:Value}{l:List Int}(h:zAJ w e base v l):zQ0 w v l:=by
 obtain ⟨h,hb,hl⟩:=h
 rcases h.2 with ⟨rfl,hn⟩|⟨g,cap,cur,rfl,_,_,hnc,hcm,_⟩
 ·have:l=[]:=List.eq_nil_of_length_eq_zero hn
  subst this
  exact (zAG.nil w).isErrs
 ·refine ⟨_,cap,rfl,hnc,⟨hl,hcm,fun e=>by cases e⟩,fun i hi=>⟨g,0,l[i],rfl,?_,by simp[hi],hb _ (List.getElem_mem hi)⟩⟩
  rw[World.ownsRow.cellAt h (0+i) (by omega)]
  simp[hi]
theorem zAJ.isInts{w:World}{e:TypeId}{base:Nat}{v:Value}{l:List Int}(h:zAJ w e base v l)(hT:e≠30:=by decide):zAG w v l:=by
 obtain ⟨h,hb,hl⟩:=h
 rcases h.2 with ⟨rfl,hn⟩|⟨g,cap,cur,rfl,_,hcur,hnc,hcm,_⟩
 ·have:l=[]:=List.eq_nil_of_length_eq_zero hn
  subst this
  exact zAG.nil w
 ·refine ⟨_,cap,rfl,hnc,⟨hl,hcm,(fun e=>by cases e),fun b off e1 _=>Or.inr fun cs ty fz hc=>by cases e1;rw[hcur] at hc;simp at hc;rw[←hc.2.1];exact hT⟩,fun i hi=>⟨g,0,l[i],rfl,?_,by simp[hi],hb _ (List.getElem_mem hi)⟩⟩
  rw[World.ownsRow.cellAt h (0+i) (by omega)]
  simp[hi]
theorem zAJ.kept{w w':World}{e:TypeId}{base:Nat}{v:Value}{l:List Int}{row:Option Nat}(h:zAJ w e base v l)(hg:w.grownBy w' row)(hne:v.ownBlock=none∨v.ownBlock≠row):zAJ w' e base v l:=
 ⟨h.1.kept hg hne,h.2⟩
theorem zAi{w w':World}(h:Below w.heap.size w w'):w.grownBy w' none:=⟨h.os,h.tape,h.output,h.size,fun k hk _=>h.block k hk⟩
theorem zAJ.stays{w w':World}{e:TypeId}{base:Nat}{v:Value}{l:List Int}(h:zAJ w e base v l)(hb:Below w.heap.size w w'):zAJ w' e base v l:=
 h.kept (zAi hb) (by cases v.ownBlock<;>simp)
theorem zAJ.mono{w:World}{e:TypeId}{base base':Nat}{v:Value}{l:List Int}(h:zAJ w e base v l)(hb:base'≤base):zAJ w e base' v l:=by
 obtain ⟨⟨h1,h2⟩,h3⟩:=h
 refine ⟨⟨h1,?_⟩,h3⟩
 rcases h2 with h2|⟨g,cap,cur,h4,h5,h6⟩
 ·exact .inl h2
 ·exact .inr ⟨g,cap,cur,h4,Nat.le_trans hb h5,h6⟩
theorem zQy{B:Nat}{W w w':World}{e:TypeId}{v:Value}{l:List Int}(h:Below B W w)(ho:zAJ w e B v l)(hg:w.grownBy w' v.ownBlock)(hB:B≤w.heap.size):Below B W w':=
 h.grown hg hB fun k hk=>(ho.1.lt k hk).1
section
variable {P : Program}
theorem zFG{w:World}{ops:Array Oper}{rest:List Oper}{o:Oper}{a:Act}{Q:Exit→Act→World→Prop}(hg:o.guard=none)(l c:Operand)(t:TypeId)(hop:o.op=Op.makeSlice t l c)(e:TypeId)
  (ht:P.underlying t=some (.slice e)) (hinfo:(P.info? e).map (fun i=>(i.zero,i.size,i.bytes))=some (some (.int .i64 0),1,8)) (base:Nat) (L:Int) (n:Nat) (hl:a.eval l=.int .i64 L) (hc:a.eval c=.int .i64 L) (hL:L=(n:Int))
  (hn:n≤17592186044416) (hb:base≤w.heap.size)
  (hK:∀w',zAJ w' e base (.slice (some ⟨w.heap.size,0,none⟩) n n) (List.replicate n 0)→w.grownBy w' none→wpList P ops Q rest (a.put o.dst (.slice (some ⟨w.heap.size,0,none⟩) n n)) w') :
  wpList P ops Q (o::rest) a w:=by
 obtain ⟨i,hi0,hz0,hs0,hb0⟩:=info_parts hinfo
 refine wpList_make_full w hg l c t hop base e i (.int .i64 0) 1 ht hi0 hz0 hs0 .i64 .i64 L L n hl hc hL hL (by rw[hb0];omega) (by unfold maxLen;omega) hb ?_
 intro w' h1 h2
 refine hK w' ⟨?_,by intro x hx;rw[List.eq_of_mem_replicate hx];exact ⟨by omega,by omega⟩,by simpa using hn⟩ h2
 simp only[List.length_replicate,List.map_replicate]
 have e1:(madeCells (Value.int .i64 0).cells (n*1)).toList=List.replicate n (.int .i64 0):=by rw[Nat.mul_one];exact toList_madeCells_one _ _
 rw[←e1]
 exact h1
theorem zAC(w:World)(a:Addr)(v:Value):w.grownBy (w.setCell a v) (some a.block):=
 ⟨rfl,rfl,rfl,by simp,fun j _ hne=>Below.heap_setCell _ _ _ _ (by intro e;exact hne (by rw[e]))⟩
theorem zAc{w:World}{ops:Array Oper}{rest:List Oper}{o:Oper}{a:Act}{Q:Exit→Act→World→Prop}(hgd:o.guard=none)(s x:Operand)(t:TypeId)
  (ho:o.op=.call { callee:=.builtin .append,args:=#[s,x],argTypes:=#[t,t] }) (e:TypeId) (ht:P.underlying t=some (.slice e))
  (hinfo:(P.info? e).map (fun i=>(i.zero,i.size,i.bytes))=some (some (.int .i64 0),1,8)) (base:Nat) (v:Value) (l:List Int) (hs:a.eval s=v) (hown:zAJ w e base v l)
  (ad:Addr) (c:Nat) (z:Int) (hx:a.eval x=.slice (some ad) 1 c) (hz:w.cell? ad=some (.int .i64 z)) (hi:I64 z) (hl:l.length<17592186044416) (hbase:base≤w.heap.size)
  (h:∀v' w',zAJ w' e base v' (l++[z])→w.grownBy w' v.ownBlock→wpList P ops Q rest (a.put o.dst v') w'):wpList P ops Q (o::rest) a w:=by
 obtain ⟨i,hi0,hz0,hs0,hb0⟩:=info_parts hinfo
 refine wpList_append_own w hgd s x t ho base e i (.int .i64 0) 1 8 ht hi0 hz0 hs0 hb0 rfl (by decide) v l.length (l.map (Value.int .i64)) hs hown.1 ad 1 c [.int .i64 z] hx rfl ?_ ?_ (by unfold maxLen;omega) (by omega) hbase ?_
 ·intro j u hj
  match j,hj with
  | 0,hj=>simp at hj;subst hj;simpa[Addr.add] using hz
 ·intro u hu;simp at hu;subst hu;rfl
 ·intro v' w' h1 h2 _
  refine h v' w' ⟨by simpa using h1,?_,by simp;omega⟩ h2
  intro y hy
  simp at hy
  rcases hy with hy|rfl
  ·exact hown.2.1 y hy
  ·exact hi
theorem zGw{w:World}{ops:Array Oper}{rest:List Oper}{o:Oper}{a:Act}{Q:Exit→Act→World→Prop}(hgd:o.guard=none)(s x:Operand)(t:TypeId)
  (ho:o.op=.call { callee:=.builtin .append,args:=#[s,x],argTypes:=#[t,t] }) (e:TypeId) (ht:P.underlying t=some (.slice e))
  (hinfo:(P.info? e).map (fun i=>(i.zero,i.size,i.bytes))=some (some (.int .i64 0),1,8)) (base:Nat) (v:Value) (l:List Int) (hs:a.eval s=v) (hown:zAJ w e base v l)
  (r:List Int) (sv:Value) (hx:a.eval x=sv) (hr:zAG w sv r) (hl:l.length+r.length≤17592186044416) (hbase:base≤w.heap.size)
  (h:∀v' w',zAJ w' e base v' (l++r)→w.grownBy w' v.ownBlock→wpList P ops Q rest (a.put o.dst v') w'):wpList P ops Q (o::rest) a w:=by
 obtain ⟨i,hi0,hz0,hs0,hb0⟩:=info_parts hinfo
 obtain ⟨ar,cr,rfl,hcr,hmr,hr⟩:=hr
 cases ar with
 | none =>
  have hr0:r=[]:=by
   cases r with
   | nil=>rfl
   | cons y r=>obtain ⟨b,off,z,e1,_⟩:=hr 0 (by simp);cases e1
  subst hr0
  have hc0:cr=0:=hmr.2.2.1 rfl
  subst hc0
  refine wpList_append_own_none hgd s x t ho base e i 1 ht hi0 v l.length (l.map (Value.int .i64)) hs hown.1 hx ?_
  exact h v w (by simpa using hown) ⟨rfl,rfl,rfl,Nat.le_refl _,fun _ _ _=>rfl⟩
 | some ad =>
  refine wpList_append_own w hgd s x t ho base e i (.int .i64 0) 1 8 ht hi0 hz0 hs0 hb0 rfl (by decide) v l.length (l.map (Value.int .i64)) hs hown.1 ad r.length cr (r.map (Value.int .i64)) hx (by simp) ?_ ?_ (by unfold maxLen;omega) (by omega) hbase ?_
  ·intro j u hj
   have hjl:j<r.length:=by
    rcases Nat.lt_or_ge j r.length with h'|h'
    ·exact h'
    ·simp[List.getElem?_eq_none h'] at hj
   obtain ⟨b,off,z,e1,hc,hz,_⟩:=hr j hjl
   cases e1
   simp[hz] at hj
   subst hj
   have:(⟨b,off,none⟩:Addr).add j=⟨b,off+j,none⟩:=by unfold Addr.add;split<;>simp_all
   rw[this];exact hc
  ·intro u hu
   obtain ⟨y,_,rfl⟩:=List.mem_map.1 hu
   rfl
  ·intro v' w' h1 h2 _
   refine h v' w' ⟨by simpa using h1,?_,by simp;omega⟩ h2
   intro y hy
   simp at hy
   rcases hy with hy|hy
   ·exact hown.2.1 y hy
   ·obtain ⟨j,hj,rfl⟩:=List.getElem_of_mem hy
    obtain ⟨b,off,z,e1,hc,hz,hi⟩:=hr j hj
    simp[hj] at hz
    rw[hz];exact hi
end
theorem zAJ.shape{w:World}{e:TypeId}{base:Nat}{v:Value}{l:List Int}(h:zAJ w e base v l)(hl:1≤l.length) :
  ∃g cap,v=.slice (some ⟨g,0,none⟩) l.length cap∧base≤g∧g<w.heap.size∧l.length≤cap∧cap≤9223372036854775807:=by
 rcases h.1.2 with ⟨rfl,hn⟩|⟨g,cap,cur,rfl,hb,hg,hnc,hcm,_⟩
 ·omega
 ·exact ⟨g,cap,rfl,hb,(Array.getElem?_eq_some_iff.1 hg).1,hnc,hcm⟩
theorem zAJ.cell{w:World}{e:TypeId}{base g n cap:Nat}{l:List Int}(h:zAJ w e base (.slice (some ⟨g,0,none⟩) n cap) l)(i:Nat)(hi:i<l.length):w.cell? ⟨g,i,none⟩=some (.int .i64 (l.getD i 0)):=by
 have hn:n=l.length:=by
  rcases h.1.2 with ⟨h',_⟩|⟨g',cap',cur,h',_⟩
  ·simp at h'
  ·simp at h';exact h'.2.1
 subst hn
 rw[World.ownsRow.cellAt h.1 i (by omega)]
 simp[hi]
theorem zAJ.free{w:World}{e:TypeId}{base g n cap:Nat}{l:List Int}(h:zAJ w e base (.slice (some ⟨g,0,none⟩) n cap) l)(i:Nat):w.frozen? ⟨g,i,none⟩=false:=by
 have hn:n=l.length:=by
  rcases h.1.2 with ⟨h',_⟩|⟨g',cap',cur,h',_⟩
  ·simp at h'
  ·simp at h';exact h'.2.1
 subst hn
 exact World.ownsRow.frozenAt h.1 i
theorem zAJ.stored{w:World}{e:TypeId}{base g n cap:Nat}{l:List Int}(h:zAJ w e base (.slice (some ⟨g,0,none⟩) n cap) l)(i:Nat)(z:Int)(hz:I64 z) :
  zAJ (w.setCell ⟨g,i,none⟩ (.int .i64 z)) e base (.slice (some ⟨g,0,none⟩) n cap) (l.set i z):=by
 have hn:n=l.length:=by
  rcases h.1.2 with ⟨h',_⟩|⟨g',cap',cur,h',_⟩
  ·simp at h'
  ·simp at h';exact h'.2.1
 subst hn
 have hs:=(World.ownsRow.stored h.1 i (.int .i64 z)).1
 refine ⟨by simpa[List.map_set] using hs,?_,by simpa using h.2.2⟩
 intro y hy
 rcases List.mem_or_eq_of_mem_set hy with h'|rfl
 ·exact h.2.1 y h'
 ·exact hz
def zAD(g:Nat)(W w:World):Prop:=Below g W w∧g≤w.heap.size
theorem zAD.refl(W:World):zAD W.heap.size W W:=⟨Below.refl _ _,Nat.le_refl _⟩
theorem zAD.below{g:Nat}{W w:World}(h:zAD g W w):Below g W w:=h.1
theorem zAD.step{g:Nat}{W w w':World}(h:zAD g W w)(hb:Below w.heap.size w w'):zAD g W w':=⟨h.1.trans (hb.mono h.2),Nat.le_trans h.2 hb.size⟩
theorem zAD.drew{g:Nat}{W w:World}(h:zAD g W w):zAD g W w.drew:=⟨h.1.drew,h.2⟩
theorem zAD.alloc{g:Nat}{W w:World}(h:zAD g W w)(o:Obj):zAD g W (w.alloc o):=h.step (zAB w o)
theorem zAD.grown{g:Nat}{W w w':World}{row:Option Nat}(h:zAD g W w)(hg:w.grownBy w' row)(hr:∀k,row=some k→g≤k):zAD g W w':=⟨h.1.grown hg h.2 hr,Nat.le_trans h.2 hg.size⟩
theorem zAD.own{g:Nat}{W w w':World}{e:TypeId}{v:Value}{l:List Int}(h:zAD g W w)(ho:zAJ w e g v l)(hg:w.grownBy w' v.ownBlock):zAD g W w':=h.grown hg fun k hk=>(ho.1.lt k hk).1
theorem zAD.setCell{g:Nat}{W w:World}(h:zAD g W w){a:Addr}(ha:g≤a.block)(v:Value):zAD g W (w.setCell a v):=⟨h.1.setCell ha v,by simpa using h.2⟩
section
open Go.Maps
variable {P : Program} {k e t : TypeId}
def zAo(P:Program)(k e:TypeId)(w:World)(b:Nat)(l:List Int):Prop:=
 w.ownsMap (H:=Unit) P k (plainElem P e) b l.length (setOf (.lit (.bool true)) (l.map fun x=>.int .i64 x))
theorem zAo.made(w:World):zAo P k e (w.alloc (.map #[] 0)) w.heap.size []:=World.ownsMap_made w P k _
theorem zAo.lt{w:World}{b:Nat}{l:List Int}(h:zAo P k e w b l):b<w.heap.size:=World.ownsMap.lt h
theorem zAo.block{w w':World}{b:Nat}{l:List Int}(h:zAo P k e w b l)(hb:w'.heap[b]?=w.heap[b]?):zAo P k e w' b l:=by
 obtain ⟨es,clock,h1,h2,h3,h4⟩:=h
 exact ⟨es,clock,hb.trans h1,h2,h3,h4⟩
theorem zAo.below{w w':World}{b:Nat}{l:List Int}(h:zAo P k e w b l)(hb:Below w.heap.size w w'):zAo P k e w' b l:=h.block (hb.block b h.lt)
theorem zK1(x:Int):WideAt.IsKeyLit (.int .i64 x):=by simp[WideAt.IsKeyLit]
theorem zGc(l:List Int):∀y∈l.map (fun x=>Lit.int .i64 x),WideAt.IsKeyLit y:=by
 intro y hy
 obtain ⟨z,_,rfl⟩:=List.mem_map.1 hy
 exact zK1 z
theorem zNl(u z:DataW Unit)(x:Int)(l:List Int) :
  (setOf u (l.map fun x=>.int .i64 x)).atKey (.int .i64 x) z=if x∈l then u else z:=by
 suffices h:∀r:List Int,(setOf u (r.reverse.map fun x=>Lit.int .i64 x)).atKey (.int .i64 x) z=if x∈r then u else z by
  have:=h l.reverse
  simpa using this
 intro r
 induction r with
 | nil=>simp[setOf,DataW.atKey]
 | cons y r ih =>
  rw[List.reverse_cons,List.map_append,List.map_singleton,setOf_snoc]
  by_cases hxy:x=y
  ·subst hxy
   rw[atKey_put_same (tidy_setOf u _ (zGc _)).isMap (zK1 x)]
   simp
  ·rw[atKey_put_other (by intro hh;cases hh;exact hxy rfl),ih]
   simp[hxy]
theorem I64.wf{x:Int}(h:I64 x):(Lit.int .i64 x).wf=true:=WalkArith.wf_i64 h
theorem zAo.lookup{w:World}{b:Nat}{l:List Int}(h:zAo P k e w b l)(hk:P.underlying k=some (.int .i64))(he:P.underlying e=some .bool)(ht:P.underlying t=some (.map k e))
  (hz:(zeroValue e).run P w=.ok (.bool false) w) (x:Int) (hx:I64 x) :
  (Instr.lookup t (.map (some b)) (.int .i64 x) false).run P w=.ok (.bool (decide (x∈l))) w:=by
 have hkey:keyOf P k (.int .i64 x)=some (.int .i64 x):=by simp[keyOf,mapKey,hk,hx.wf]
 obtain ⟨v,ps,hrun,hv⟩:=World.ownsMap.lookup h (int_keyed hk) ht hz (plainElem_bool he false) hkey
 rw[hrun]
 rw[zNl] at hv
 have:v=.bool (decide (x∈l)):=by
  by_cases hx:x∈l
  ·rw[if_pos hx] at hv
   cases v<;>simp[plainElem,he] at hv
   simp[hx,hv]
  ·rw[if_neg hx] at hv
   cases v<;>simp[plainElem,he] at hv
   simp[hx,hv]
 rw[this]
theorem zCg(w:World){ops:Array Oper}{rest:List Oper}{o:Oper}{a:Act}{Q:Exit→Act→World→Prop}
  (hg:o.guard=none) (m x:Operand) (t:TypeId) (hop:o.op=Op.lookup t m x false)
  (hk:P.underlying k=some (.int .i64)) (he:P.underlying e=some .bool) (ht:P.underlying t=some (.map k e)) (hz:(zeroValue e).run P w=.ok (.bool false) w) (b:Nat) (l:List Int)
  (hm:a.eval m=.map (some b)) (hown:zAo P k e w b l) (key:Int) (hx:a.eval x=.int .i64 key) (hi:I64 key) (c:Bool) (hc:decide (key∈l)=c)
  (hK:wpList P ops Q rest (a.put o.dst (.bool c)) w) :
  wpList P ops Q (o::rest) a w:=by
 refine wpList_plain hg fun K' hK'=>?_
 have hrun:=hown.lookup hk he ht hz key hi
 rw[hc] at hrun
 unfold Oper.wp
 simp[execOp,hop,hm,hx,hrun,Result.andThen]
 exact hK' _ _ hK
theorem zB7(w:World){ops:Array Oper}{rest:List Oper}{o:Oper}{a:Act}{Q:Exit→Act→World→Prop}
  (hg:o.guard=none) (m x v:Operand) (t:TypeId) (hop:o.op=Op.mapUpdate t m x v)
  (hk:P.underlying k=some (.int .i64)) (he:P.underlying e=some .bool) (ht:P.underlying t=some (.map k e)) (b:Nat) (l:List Int)
  (hm:a.eval m=.map (some b)) (hown:zAo P k e w b l) (hn:l.length<1000000000000000) (key:Int) (hx:a.eval x=.int .i64 key) (hv:a.eval v=.bool true) (hi:I64 key)
  (hK:∀w',zAo P k e w' b (l++[key])→w.grownBy w' (some b)→wpList P ops Q rest (a.put o.dst undef) w') :
  wpList P ops Q (o::rest) a w:=by
 have hkey:keyOf P k (.int .i64 key)=some (.int .i64 key):=by simp[keyOf,mapKey,hk,hi.wf]
 refine wpList_mapUpdate_own w hg m x v t hop k e (int_keyed hk) ht (plainElem P e) b l.length _ hm hown (by unfold maxLen;omega) (.int .i64 key) (.bool true) (.int .i64 key) hx hv hkey (.lit (.bool true)) [] (plainElem_bool he true) ?_
 intro w' h1 h2
 refine hK w' ?_ h2
 unfold zAo
 rw[List.map_append,List.map_singleton,setOf_snoc,List.length_append]
 exact h1
end
theorem zRK{a b:Int}(h0:0≤a)(h1:a<31)(h2:0≤b)(h3:b<31):0≤a*b∧a*b≤900:=by
 have e1:a*b≤30*b:=Int.mul_le_mul_of_nonneg_right (by omega) h2
 exact ⟨Int.mul_nonneg h0 h2,by omega⟩
def zTU(b:Int):Nat→Int→Int
 | 0,a=>a
 | n+1,a=>zTU b n (a*b % 31)
def zJp(a b:Int):Int:=zTU b 29 a
theorem zRg(b:Int)(n:Nat):∀a,zTU b (n+1) a=zTU b n a*b % 31:=by
 induction n with
 | zero=>intro a;rfl
 | succ n ih=>intro a;exact ih _
theorem zSN{b:Int}(n:Nat):∀a,0≤a→a<31→0≤zTU b n a∧zTU b n a<31:=by
 induction n with
 | zero=>intro a h0 h1;exact ⟨h0,h1⟩
 | succ n ih=>intro a _ _;exact ih _ (by omega) (by omega)
def inB(n a b:Int):Bool:=decide (a≤n∧n≤b)
def zP1(a:Int):Bool:=inB a 0 30
theorem zKH{a:Int}(h0:0≤a)(h1:a<31):zP1 a=true:=by simp[zP1,inB];omega
theorem zIq{a:Int}(h:a<0∨31≤a):zP1 a=false:=by simp[zP1,inB];omega
def zEv(a b:Int):Nat→Nat→Int
 | _,0=>0
 | k,n+1=>if ((k:Int)*b % 31 == a)=true then (k:Int) else zEv a b (k+1) n
def zSZ(a b:Int):Int:=zEv a b 0 31
theorem zUr:∀a b:Fin 31,(b.val≠0→zJp a.val b.val=zSZ a.val b.val∧zJp a.val b.val*b.val % 31=a.val):=by decide +kernel
theorem zJC{a b:Int}(h0:0≤a)(h1:a<31)(h2:0<b)(h3:b<31):zJp a b=zSZ a b∧zJp a b*b % 31=a:=by
 have h:=zUr ⟨a.toNat,by omega⟩ ⟨b.toNat,by omega⟩ (by simp;omega)
 simpa[Int.toNat_of_nonneg h0,Int.toNat_of_nonneg (Int.le_of_lt h2)] using h
theorem zGT{a b:Int}(h0:0≤a)(h1:a<31):0≤zJp a b∧zJp a b<31:=zSN 29 a h0 h1
def zI2(a:Int):Bool:=decide (0≤a∧a<31)
theorem zCW{a:Int}:zI2 a=true↔0≤a∧a<31:=by simp[zI2]
theorem zDn{a:Int}:zI2 a=false↔a<0∨31≤a:=by simp[zI2];omega
def zDb:List Int→List Int→List Int→Int
 | a::x,b::y,seen=>if zI2 a&&zI2 b then (if a∈seen then 5 else zDb x y (seen++[a])) else 2
 | _,_,_=>0
def zOD(x y:List Int):Int:=
 if x.length≠y.length then 3 else if x.length=0∨8<x.length then 1 else zDb x y []
def zQW(a b:Int):Int:=if b=0 then 0 else zJp a b
def zWX(b:Int):Int:=if b=0 then 2 else 0
theorem zNc{a:Int}(b:Int)(h0:0≤a)(h1:a<31):0≤zQW a b∧zQW a b<31:=by
 unfold zQW;split
 ·omega
 ·exact zGT h0 h1
def zBR(i:Nat)(a p:Int):List Int→Nat→Int→Int
 | [],_,t=>t
 | b::l,j,t=>zBR i a p l (j+1) (if j=i then t else zQW (t*(p+31 - b) % 31) ((a+31 - b) % 31))
def zEC(full:List Int)(p:Int):List Int→List Int→Nat→Int→Int
 | a::x,y::ys,i,s=>zEC full p x ys (i+1) ((s+zBR i a p full 0 y) % 31)
 | _,_,_,s=>s
def atV(x y:List Int)(p:Int):Int:=zEC x p x y 0 0
theorem zL5(full:List Int)(p:Int):∀(x y:List Int) (i:Nat) (s:Int),0≤s→s<31→0≤zEC full p x y i s∧zEC full p x y i s<31
 | [],_,_,s,h0,h1=>by simp[zEC,h0,h1]
 | _::_,[],_,s,h0,h1=>by simp[zEC,h0,h1]
 | a::x,y::ys,i,s,h0,h1=>by
  unfold zEC
  exact zL5 full p x ys (i+1) _ (by omega) (by omega)
theorem zEk(x y:List Int)(p:Int):0≤atV x y p∧atV x y p<31:=zL5 _ _ _ _ _ _ (by omega) (by omega)
structure zC8 (x y:List Int):Prop where
 len:x.length=y.length
 pos:1≤x.length
 top:x.length≤8
 numx:∀a∈x,0≤a∧a<31
 numy:∀a∈y,0≤a∧a<31
 nodup:x.Nodup
theorem zKy:∀(x y seen:List Int),x.length=y.length→(zDb x y seen=0↔(∀a∈x,0≤a∧a<31)∧(∀a∈y,0≤a∧a<31)∧x.Nodup∧∀a∈x,a∉seen)
 | [],[],seen,_=>by simp[zDb]
 | [],_::_,_,h=>by simp at h
 | _::_,[],_,h=>by simp at h
 | a::x,b::y,seen,h=>by
  have ih:=zKy x y (seen++[a]) (by simpa using h)
  unfold zDb
  by_cases ha:zI2 a=true
  ·by_cases hb:zI2 b=true
   ·rw[ha,hb]
    have ha':=zCW.1 ha
    have hb':=zCW.1 hb
    by_cases hs:a∈seen
    ·simp[hs]
    ·simp only[Bool.and_self,if_true,hs,if_false,ih]
     simp only[List.mem_cons,List.mem_append,List.nodup_cons,forall_eq_or_imp,not_or]
     constructor
     ·rintro ⟨h1,h2,h3,h4⟩
      exact ⟨⟨ha',h1⟩,⟨hb',h2⟩,⟨fun hm=>(h4 a hm).2.1 rfl,h3⟩,hs,fun c hc=>(h4 c hc).1⟩
     ·rintro ⟨⟨_,h1⟩,⟨_,h2⟩,⟨h3,h4⟩,_,h5⟩
      exact ⟨h1,h2,h4,fun c hc=>⟨h5 c hc,fun e=>h3 (e ▸ hc),by simp⟩⟩
   ·simp only[Bool.not_eq_true] at hb
    rw[ha,hb]
    have hb':=zDn.1 hb
    simp only[Bool.and_false,Bool.false_eq_true,if_false]
    constructor
    ·intro h;simp at h
    ·rintro ⟨_,h2,_⟩
     have:=h2 b (by simp)
     omega
  ·simp only[Bool.not_eq_true] at ha
   rw[ha]
   have ha':=zDn.1 ha
   simp only[Bool.false_and,Bool.false_eq_true,if_false]
   constructor
   ·intro h;simp at h
   ·rintro ⟨h1,_⟩
    have:=h1 a (by simp)
    omega
theorem zNq{x y:List Int}:zOD x y=0↔zC8 x y:=by
 unfold zOD
 by_cases h1:x.length=y.length
 ·rw[if_neg (by simpa using h1)]
  by_cases h2:x.length=0∨8<x.length
  ·rw[if_pos h2]
   constructor
   ·intro h;simp at h
   ·rintro ⟨_,h3,h4,_⟩;omega
  ·rw[if_neg h2,zKy x y [] h1]
   constructor
   ·rintro ⟨a,b,c,_⟩;exact ⟨h1,by omega,by omega,a,b,c⟩
   ·rintro ⟨_,_,_,a,b,c⟩;exact ⟨a,b,c,by simp⟩
 ·rw[if_pos h1]
  constructor
  ·intro h;simp at h
  ·rintro ⟨h,_⟩;exact absurd h h1
def zCk(a b:Int):Int:=(a+31 - b) % 31
theorem zHM(a b:Int):0≤zCk a b∧zCk a b<31:=by unfold zCk;omega
theorem zKS(a b:Int):∀(n k:Nat),k+n≤31→0≤zEv a b k n∧zEv a b k n<31
 | 0,k,_=>by simp[zEv]
 | n+1,k,h=>by
  unfold zEv
  split
  ·omega
  ·exact zKS a b n (k+1) (by omega)
theorem zOb(a b:Int):0≤zSZ a b∧zSZ a b<31:=zKS a b 31 0 (by omega)
def zQj(x:List Int)(k:Nat):Nat→List Int→List Int
 | 0,c=>c
 | m+1,c=>zQj x k m (c.set (k+m) (zSZ (zCk (c.getD (k+m) 0) (c.getD (k+m - 1) 0)) (zCk (x.getD (k+m) 0) (x.getD m 0))))
def zHh(x:List Int):Nat→Nat→List Int→List Int
 | 0,_,c=>c
 | r+1,k,c=>zHh x r (k+1) (zQj x k (x.length - k) c)
def zGu(x c:List Int)(p:Int):Nat→Int→Int
 | 0,v=>v
 | m+1,v=>zGu x c p m ((v*zCk p (x.getD m 0)+c.getD m 0) % 31)
def zUn(x y:List Int)(p:Int):Int:=zGu x (zHh x (x.length - 1) 1 y) p x.length 0
theorem zK9(x:List Int)(k:Nat):∀(m:Nat) (c:List Int),(zQj x k m c).length=c.length
 | 0,_=>rfl
 | m+1,c=>by unfold zQj;rw[zK9 x k m];simp
def zCD(c:List Int):Prop:=∀a∈c,0≤a∧a<31
theorem zCD.set{c:List Int}(h:zCD c)(i:Nat){z:Int}(h0:0≤z)(h1:z<31):zCD (c.set i z):=by
 intro a ha
 rcases List.mem_or_eq_of_mem_set ha with h'|rfl
 ·exact h a h'
 ·exact ⟨h0,h1⟩
theorem zCD.getD{c:List Int}(h:zCD c)(i:Nat):0≤c.getD i 0∧c.getD i 0<31:=by
 rw[List.getD_eq_getElem?_getD]
 cases hc:c[i]? with
 | none=>simp
 | some z=>exact h z (List.mem_of_getElem? hc)
theorem zCD.ddIn{x:List Int}{k:Nat}:∀(m:Nat) {c:List Int},zCD c→zCD (zQj x k m c)
 | 0,_,h=>h
 | m+1,c,h=>by
  have hq:=zOb (zCk (c.getD (k+m) 0) (c.getD (k+m - 1) 0)) (zCk (x.getD (k+m) 0) (x.getD m 0))
  exact zCD.ddIn m (h.set _ hq.1 hq.2)
theorem zCD.ddOut{x:List Int}:∀(r k:Nat) {c:List Int},zCD c→zCD (zHh x r k c)
 | 0,_,_,h=>h
 | r+1,k,_,h=>zCD.ddOut r (k+1) (zCD.ddIn _ h)
theorem I64.len{n:Nat}(h:n≤17592186044416):I64 (n:Int):=⟨by omega,by omega⟩
theorem zB8(vx vy:Value)(x y:List Int)(w:World)(hx:zAG w vx x)(hy:zAG w vy y) :
  Calls Tryz.prog 19 #[vx,vy] w fun e w'=>e=.returned (.bool (zBV x y))∧Below w.heap.size w w':=by
 obtain ⟨ax,cx,rfl,hcx,hmx,hx⟩:=hx.opened
 obtain ⟨ay,cy,rfl,hcy,hmy,hy⟩:=hy.opened
 by_cases hl:x.length=y.length
 ·have hl1:((x.length:Int) != (y.length:Int))=false:=by simp[hl]
  have hl2:y.length≤x.length:=by omega
  have hl3:x.length≤y.length:=by omega
  have HL:=Zh hl
  clear hl
  go_enter Tryz.func19,Tryz.ntmps19
  go_wp2
  go_loopw[13] (fun i wr=>∃k:Nat,k≤x.length∧i=.int .i64 k∧Below w.heap.size w wr∧x.take k=y.take k) (fun i _=>x.length - (intOf i).toNat)
  case atStart=>exact ⟨0,by omega,rfl,Below.refl _ _,by simp⟩
  case round =>
   rename_i wr
   obtain ⟨k,hk,rfl,hb,hq⟩:=hrel
   have HQ:=Zh hq
   clear hq
   by_cases hlt:k<x.length
   ·obtain ⟨b1,o1,z1,rfl,hc1,hz1,hi1⟩:=(hx.stays hb) k hlt
    obtain ⟨b2,o2,z2,rfl,hc2,hz2,hi2⟩:=(hy.stays hb) k (by omega)
    have HZ1:=Zh hz1
    have HZ2:=Zh hz2
    clear hz1 hz2
    by_cases he:z1=z2
    ·subst he
     have hne:(z1 != z1)=false:=by simp
     go_wp2
     go_quiet (fail)
     go_wp2
     go_roundw
     case rel=>exact ⟨k+1,by omega,by go_num,below_drewN hb _,by rw[zAv HZ1.out,zAv HZ2.out,HQ.out]⟩
     case measure=>simp[intOf];omega
    ·have hne:(z1 != z2)=true:=by simpa using he
     have HN:=Zh he
     clear he
     go_wp2
     go_quiet (fail)
     go_wp2
     go_ret
     refine ⟨zAX ?_,below_drewN hb _⟩
     symm
     rw[zBV,decide_eq_false_iff_not]
     intro e
     subst e
     rw[HZ1.out] at HZ2
     exact HN.out (Option.some.inj HZ2)
   ·obtain rfl:k=x.length:=by omega
    go_wp2
    go_ret
    refine ⟨zAX ?_,hb⟩
    have h:=HQ.out
    rw[HL.out] at h
    rw[←HL.out,List.take_length,HL.out,List.take_length] at h
    simp[zBV,h]
 ·have hl1:((x.length:Int) != (y.length:Int))=true:=by simp;omega
  have H:=Zh (show zBV x y=false by rw[zBV,decide_eq_false_iff_not];intro e;exact hl (by rw[e]))
  clear hl
  go_enter Tryz.func19,Tryz.ntmps19
  go_wp2
  go_ret
  exact ⟨zAX H.out.symm,Below.refl _ _⟩
def zD6(x:Int):List Int→Nat→Int
 | [],_ => -1
 | y::l,k=>if x=y then (k:Int) else zD6 x l (k+1)
theorem zGI(x:Int):∀(l:List Int) (k:Nat),0≤zD6 x l k↔x∈l
 | [],k=>by simp[zD6]
 | y::l,k=>by
  by_cases h:x=y
  ·simp[zD6,h]
  ·simp[zD6,h,zGI x l (k+1)]
theorem zQF(vx:Value)(x:List Int)(z:Int)(w:World)(hx:zAG w vx x) :
  Calls Tryz.prog 63 #[vx,.int .i64 z] w fun e w'=>e=.returned (.int .i64 (zD6 z x 0))∧w=w':=by
 obtain ⟨ax,cx,rfl,hcx,hmx,hx⟩:=hx.opened
 obtain ⟨hm1,hm2,hm3⟩:=hmx
 have HM:=Zh hm3
 clear hm3
 go_enter Tryz.func63,Tryz.ntmps63
 go_wp2
 go_loop [8] (fun i=>∃k:Nat,k≤x.length∧i=.int .i64 k∧zD6 z (x.drop k) k=zD6 z x 0) (fun i=>x.length - (intOf i).toNat)
 case atStart=>exact ⟨0,by omega,rfl,rfl⟩
 case round =>
  obtain ⟨k,hk,rfl,hq⟩:=hrel
  have HQ:=Zh hq
  clear hq
  by_cases hlt:k<x.length
  ·obtain ⟨b1,o1,z1,rfl,hc1,hz1,hi1⟩:=hx k hlt
   have HZ1:=Zh hz1
   clear hz1
   by_cases he:z=z1
   ·have hne:(z == z1)=true:=by simpa using he
    have HE:=Zh he
    clear he
    go_wp2
    go_ret
    refine ⟨zAL ?_,rfl⟩
    rw[←HQ.out,zAr HZ1.out]
    simp[zD6,HE.out]
   ·have hne:(z == z1)=false:=by simpa using he
    have HE:=Zh he
    clear he
    go_wp2
    go_round
    case rel =>
     refine ⟨k+1,by omega,by go_num,?_⟩
     rw[←HQ.out,zAr HZ1.out]
     simp[zD6,HE.out]
    case measure=>simp[intOf];omega
  ·obtain rfl:k=x.length:=by omega
   go_wp2
   go_ret
   refine ⟨zAL ?_,rfl⟩
   rw[←HQ.out]
   simp[zD6]
theorem zBc(vx:Value)(x:List Int)(z:Int)(w:World)(hx:zAG w vx x) :
  Calls Tryz.prog 33 #[vx,.int .i64 z] w fun e w'=>e=.returned (.bool (zEa z x))∧w=w':=by
 have H:=Zh (zGI z x 0)
 go_enter Tryz.func33,Tryz.ntmps33
 go_wp2_with fail
 refine (zQF _ x _ _ hx).mono ?_
 rintro e w' ⟨rfl,rfl⟩
 go_wp2_with fail
 go_ret
 refine ⟨zAX ?_,rfl⟩
 simp[zEa,H.out]
theorem zBD:(Tryz.prog.info? 3).map (fun i=>(i.zero,i.size,i.bytes))=some (some (.int .i64 0),1,8):=by kernel_rfl
theorem zD0(vx:Value)(x:List Int)(w:World)(hx:zAG w vx x) :
  Calls Tryz.prog 39 #[vx] w fun e w'=>(∃v,e=.returned v∧zAJ w' 3 w.heap.size v x)∧Below w.heap.size w w':=by
 have hq:∀(w:World) (a:Option Addr) (n c n' c':Nat),(binOp .eql 36 (.slice a n c) (.slice none n' c')).run Tryz.prog w=.ok (.bool a.isNone) w:=fun w a n c n' c'=>Lib.run_eql_slice_nil w _ _ a n c n' c' Tryz.underlying36
 have hx0:=hx
 obtain ⟨ax,cx,rfl,hcx,hmx,hx⟩:=hx.opened
 obtain ⟨hm1,hm2,hm3⟩:=hmx
 cases ax with
 | none =>
  have hc0:=hm3.1 rfl
  have hl0:x=[]:=by
   cases x with
   | nil=>rfl
   | cons y r=>obtain ⟨b,off,z,e1,_⟩:=hx 0 (by simp);cases e1
  subst hc0 hl0
  go_enter Tryz.func39,Tryz.ntmps39
  go_wp2
  go_ret
  exact ⟨⟨_,rfl,zAJ.nil _ _ _⟩,Below.refl _ _⟩
 | some ad =>
  have H3:=Zh hm3
  clear hm3
  have hown:zAJ (w.alloc (.cells #[] 3)) 3 w.heap.size (.slice (some ⟨w.heap.size,0,none⟩) 0 0) []:=⟨World.ownsRow_made w #[] 0 (Nat.le_refl _) (by unfold maxLen;omega) rfl,by simp,by simp⟩
  have hx1:=hx0.stays (zAB w (.cells #[] 3))
  go_enter Tryz.func39,Tryz.ntmps39
  go_wp2_with (at_builtin;refine zGw rfl _ _ 36 rfl 3 Tryz.underlying36 zBD w.heap.size _ [] rfl hown x _ rfl hx1 (by simpa using hm1) (by simp) ?_;intro v' w1 hown1 hg1)
  go_ret
  exact ⟨⟨_,rfl,hown1⟩,zQy (zAB _ _) hown hg1 (by simp)⟩
theorem zB5{n a b:Int}(h0:a≤n)(h1:n≤b):inB n a b=true:=by simp[inB,h0,h1]
theorem zHJ{n a b:Int}(h:n<a∨b<n):inB n a b=false:=by simp[inB];omega
theorem zCa(a:Int)(w:World)(h0:0≤a)(h1:a<31) :
  Calls Tryz.prog 91 #[.int .i64 a] w fun e w'=>e=.returned (.int .i64 0)∧w=w':=by
 go_enter Tryz.func91,Tryz.ntmps91
 go_wp2
 go_ret
 exact ⟨rfl,rfl⟩
theorem zE2(a:Int)(w:World)(h:a<0∨31≤a) :
  Calls Tryz.prog 91 #[.int .i64 a] w fun e w'=>e=.returned (.int .i64 2)∧w=w':=by
 rcases h with h|h
 ·go_enter Tryz.func91,Tryz.ntmps91
  go_wp2
  go_ret
  exact ⟨rfl,rfl⟩
 ·go_enter Tryz.func91,Tryz.ntmps91
  go_wp2
  all_goals go_ret
  all_goals exact ⟨rfl,rfl⟩
theorem zCS(n a b:Int)(w:World) :
  Calls Tryz.prog 37 #[.int .i64 n,.int .i64 a,.int .i64 b] w fun e w'=>e=.returned (.bool (inB n a b))∧w=w':=by
 by_cases h1:a≤n
 ·by_cases h2:n≤b
  ·have H:inB n a b=true:=by simp[inB,h1,h2]
   have H:=Zh H
   go_enter Tryz.func37,Tryz.ntmps37
   go_wp2
   go_ret
   exact ⟨zAX H.out.symm,rfl⟩
  ·have H:inB n a b=false:=by simp[inB];omega
   have K:=Zh H
   clear H
   have h3:decide (n≤b)=false:=by simp;omega
   go_enter Tryz.func37,Tryz.ntmps37
   go_wp2
   go_ret
   exact ⟨zAX K.out.symm,rfl⟩
 ·have H:inB n a b=false:=by simp[inB];omega
  have K:=Zh H
  clear H
  have h3:decide (a≤n)=false:=by simp;omega
  go_enter Tryz.func37,Tryz.ntmps37
  go_wp2
  go_ret
  exact ⟨zAX K.out.symm,rfl⟩
theorem zFm(a:Int)(w:World) :
  Calls Tryz.prog 82 #[.int .i64 a] w fun e w'=>e=.returned (.bool (zP1 a))∧w=w':=by
 go_enter Tryz.func82,Tryz.ntmps82
 go_wp2_with fail
 refine (zCS _ _ _ _).mono ?_
 rintro e w' ⟨rfl,rfl⟩
 go_wp2_with fail
 go_ret
 exact ⟨rfl,rfl⟩
def zDw(a b:Value):Prop:=∀i j,a.ownBlock=some i→b.ownBlock=some j→i≠j
theorem zDw.nil_l(c n:Nat)(b:Value):zDw (.slice none c n) b:=fun i j h=>by simp[Value.ownBlock] at h
theorem zDw.symm{a b:Value}(h:zDw a b):zDw b a:=fun i j hi hj e=>h j i hj hi e.symm
theorem zDw.ne{a b:Value}(h:zDw a b):b.ownBlock=none∨b.ownBlock≠a.ownBlock:=by
 cases hb:b.ownBlock with
 | none=>exact Or.inl rfl
 | some j=>exact Or.inr fun e=>h j j e.symm hb rfl
theorem zDw.grown{a a' b:Value}{n:Nat}(h:zDw a b)(ha:a'.ownBlock=a.ownBlock∨a'.ownBlock=some n)(hb:∀j,b.ownBlock=some j→j<n):zDw a' b:=by
 intro i j hi hj
 rcases ha with ha|ha
 ·exact h i j (by rw[←ha];exact hi) hj
 ·rw[ha] at hi
  cases hi
  have:=hb j hj
  omega
theorem zAG.drew{w:World}{v:Value}{l:List Int}(h:zAG w v l):zAG w.drew v l:=h
theorem zAG.take{w:World}{a:Option Addr}{n cap:Nat}{l:List Int}(h:zAG w (.slice a n cap) l)(k:Nat)(hk:k≤l.length):zAG w (.slice a k cap) (l.take k):=by
 obtain ⟨a',cap',e,h1,⟨h2,h3,h4⟩,h5⟩:=h
 simp only[Value.slice.injEq] at e
 obtain ⟨rfl,rfl,rfl⟩:=e
 have hl:(l.take k).length=k:=by simp;omega
 refine ⟨a,cap,by rw[hl],by omega,⟨by omega,h3,h4.1,fun b off e1 hne=>h4.2 b off e1 (fun e2=>by subst e2;simp at hne)⟩,fun i hi=>?_⟩
 obtain ⟨b,off,z,e1,hc,hz,hi'⟩:=h5 i (by omega)
 exact ⟨b,off,z,e1,hc,by rw[List.getElem?_take,if_pos (by omega)];exact hz,hi'⟩
section
variable {P : Program}
theorem zIv{ops:Array Oper}{o:Oper}{a:Act}{w:World}{K:Act→World→Prop}{Q:Exit→Act→World→Prop}{E:Prop}
  (hgd:o.guard=none) (s x:Operand) (t:TypeId)
  (ho:o.op=.call { callee:=.builtin .append,args:=#[s,x],argTypes:=#[t,t] }) (e:TypeId) (ht:P.underlying t=some (.slice e))
  (hinfo:(P.info? e).map (fun i=>(i.zero,i.size,i.bytes))=some (some (.int .i64 0),1,8)) (base:Nat) (v:Value) (l:List Int) (hs:a.eval s=v) (hown:zAJ w e base v l)
  (ad:Addr) (c:Nat) (z:Int) (hx:a.eval x=.slice (some ad) 1 c) (hz:w.cell? ad=some (.int .i64 z)) (hi:I64 z) (hl:l.length<17592186044416) (hbase:base≤w.heap.size)
  (h:∀v' w',zAJ w' e base v' (l++[z])→w.grownBy w' v.ownBlock→K (a.put o.dst v') w') :
  if Region.wanted o (yielded ops a.tmps)=true then Oper.wp P o a w K Q else E:=by
 have hw:Region.wanted o (yielded ops a.tmps)=true:=by simp[Region.wanted,hgd]
 rw[if_pos hw]
 obtain ⟨i,hi0,hz0,hs0,hb0⟩:=info_parts hinfo
 obtain ⟨v',w',hrun,h1,h2,_⟩:=run_append_own (P:=P) w base t o.type e i (.int .i64 0) 1 8 ht hi0 hz0 hs0 hb0 rfl (by decide) v l.length (l.map (Value.int .i64)) hown.1 ad 1 c [.int .i64 z] rfl (by
  intro j u hj
  match j,hj with
  | 0,hj=>simp at hj;subst hj;simpa[Addr.add] using hz) (by intro u hu;simp at hu;subst hu;rfl) (by unfold maxLen;omega) (by omega) hbase
 unfold Oper.wp
 simp[execOp,ho,resolve,invoke,builtin,hs,hx,hrun,Result.andThen]
 refine h v' w' ⟨by simpa using h1,?_,by simp;omega⟩ h2
 intro y hy
 simp at hy
 rcases hy with hy|rfl
 ·exact hown.2.1 y hy
 ·exact hi
theorem zBC{w:World}{ops:Array Oper}{rest:List Oper}{o:Oper}{a:Act}{Q:Exit→Act→World→Prop}(hgd:o.guard=none)(s x:Operand)(t:TypeId)
  (ho:o.op=.call { callee:=.builtin .append,args:=#[s,x],argTypes:=#[t,t] }) (e:TypeId) (ht:P.underlying t=some (.slice e))
  (hinfo:(P.info? e).map (fun i=>(i.zero,i.size,i.bytes))=some (some (.int .i64 0),1,8)) (base:Nat) (v:Value) (l:List Int) (hs:a.eval s=v) (hown:zAJ w e base v l)
  (ad:Addr) (c:Nat) (z:Int) (hx:a.eval x=.slice (some ad) 1 c) (hz:w.cell? ad=some (.int .i64 z)) (hi:I64 z) (hl:l.length<17592186044416) (hbase:base≤w.heap.size)
  (h:∀v' w',zAJ w' e base v' (l++[z])→w.grownBy w' v.ownBlock→(v'.ownBlock=v.ownBlock∨v'.ownBlock=some w.heap.size)→wpList P ops Q rest (a.put o.dst v') w'):wpList P ops Q (o::rest) a w:=by
 obtain ⟨i,hi0,hz0,hs0,hb0⟩:=info_parts hinfo
 refine wpList_append_own_at w hgd s x t ho base e i (.int .i64 0) 1 8 ht hi0 hz0 hs0 hb0 rfl (by decide) v l.length (l.map (Value.int .i64)) hs hown.1 ad 1 c [.int .i64 z] hx rfl ?_ ?_ (by unfold maxLen;omega) (by omega) hbase ?_
 ·intro j u hj
  match j,hj with
  | 0,hj=>simp at hj;subst hj;simpa[Addr.add] using hz
 ·intro u hu;simp at hu;subst hu;rfl
 ·intro v' w' h1 h2 _ h4
  refine h v' w' ⟨by simpa using h1,?_,by simp;omega⟩ h2 h4
  intro y hy
  simp at hy
  rcases hy with hy|rfl
  ·exact hown.2.1 y hy
  ·exact hi
end
theorem zAG.from{w:World}{b off n cap:Nat}{l:List Int}(h:zAG w (.slice (some ⟨b,off,none⟩) n cap) l)(k:Nat)(hk:k≤l.length):zAG w (.slice (some ⟨b,off+k,none⟩) (n - k) (cap - k)) (l.drop k):=by
 obtain ⟨a',cap',e,h1,⟨h2,h3,h4⟩,h5⟩:=h
 simp only[Value.slice.injEq] at e
 obtain ⟨rfl,rfl,rfl⟩:=e
 have hl:(l.drop k).length=l.length - k:=by simp
 refine ⟨some ⟨b,off+k,none⟩,cap - k,by rw[hl],by omega,⟨by omega,by omega,(fun e=>by cases e),fun b2 off2 e1 hne=>by cases e1;exact h4.2 _ _ rfl (fun e2=>by subst e2;simp at hne)⟩,fun i hi=>?_⟩
 obtain ⟨b',off',z,e1,hc,hz,hi'⟩:=h5 (k+i) (by omega)
 cases e1
 exact ⟨b,off+k,z,rfl,by rw[Nat.add_assoc];exact hc,by rw[List.getElem?_drop];exact hz,hi'⟩
section
variable {P : Program}
theorem zIL{w:World}{ops:Array Oper}{rest:List Oper}{o:Oper}{a:Act}{Q:Exit→Act→World→Prop}(hgd:o.guard=none)(d s:Operand)(t:TypeId)
  (ho:o.op=.call { callee:=.builtin .copy,args:=#[d,s],argTypes:=#[t,t] }) (e:TypeId) (ht:P.underlying t=some (.slice e)) (hinfo:(P.info? e).map (fun i=>(i.zero,i.size,i.bytes))=some (some (.int .i64 0),1,8))
  (base g n cap:Nat) (l:List Int) (hd:a.eval d=.slice (some ⟨g,0,none⟩) n cap) (hown:zAJ w e base (.slice (some ⟨g,0,none⟩) n cap) l) (r:List Int) (sv:Value) (hs:a.eval s=sv) (hr:zAG w sv r)
  (h:∀w' c,zAJ w' e base (.slice (some ⟨g,0,none⟩) n cap) (r.take l.length++l.drop r.length)→w.grownBy w' (some g)→wpList P ops Q rest (a.put o.dst c) w'):wpList P ops Q (o::rest) a w:=by
 have hsz:(P.info? e).map (·.size)=some 1:=by
  obtain ⟨i,hi0,_,hs0,_⟩:=info_parts hinfo
  simp[hi0,hs0]
 obtain ⟨ar,cr,rfl,_,_,hr⟩:=hr
 obtain ⟨⟨hl1,hl2⟩,hb,hl⟩:=hown
 rcases hl2 with ⟨e1,_⟩|⟨g',cap',cur,e1,hbg,hg,hnc,hcm,hcs,htake⟩
 ·simp at e1
 ·simp only[Value.slice.injEq,Option.some.injEq,Addr.mk.injEq,and_true] at e1
  obtain ⟨rfl,rfl,rfl⟩:=e1
  by_cases h0:Nat.min r.length l.length=0
  ·refine wpList_copy_nothing hgd d s t t ho e ht hsz (some ⟨g,0,none⟩) ar l.length cap r.length cr hd hs h0 ?_
   have he:r.take l.length++l.drop r.length=l:=by
    rcases (Nat.min_eq_zero_iff.1 h0:r.length=0∨l.length=0) with h1|h1
    ·rw[List.eq_nil_of_length_eq_zero h1];simp
    ·rw[List.eq_nil_of_length_eq_zero h1];simp
   refine h w _ ?_ ⟨rfl,rfl,rfl,Nat.le_refl _,fun _ _ _=>rfl⟩
   rw[he]
   exact ⟨⟨hl1,.inr ⟨g,cap,cur,rfl,hbg,hg,hnc,hcm,hcs,htake⟩⟩,hb,hl⟩
  ·have hrl:0<r.length:=by have:Nat.min r.length l.length≤r.length:=Nat.min_le_left _ _;omega
   obtain ⟨b,off,z,rfl,_⟩:=hr 0 hrl
   have hcl:((r.take l.length).map (Value.int .i64)).length=Nat.min r.length l.length:=by simp[Nat.min_comm]
   refine wpList_copy_own hgd d s t t ho e ht hsz g 0 l.length cap ⟨b,off,none⟩ r.length cr hd hs cur e hg ((r.take l.length).map (Value.int .i64)) hcl ?_ ?_ ?_ ?_
   ·intro j v hj
    rw[List.getElem?_map] at hj
    have hjl:j<(r.take l.length).length:=by
     rcases Nat.lt_or_ge j (r.take l.length).length with h'|h'
     ·exact h'
     ·simp[List.getElem?_eq_none h'] at hj
    simp only[List.length_take] at hjl
    obtain ⟨b',off',z',e2,hc',hz',_⟩:=hr j (by omega)
    cases e2
    rw[List.getElem?_take,if_pos (by omega),hz'] at hj
    simp at hj
    subst hj
    have:(⟨b,off,none⟩:Addr).add j=⟨b,off+j,none⟩:=by unfold Addr.add;split<;>simp_all
    rw[this];exact hc'
   ·rw[hcl,hcs]
    have:Nat.min r.length l.length≤l.length:=Nat.min_le_right _ _
    omega
   ·intro u hu
    obtain ⟨y,_,rfl⟩:=List.mem_map.1 hu
    rfl
   ·have hL:(r.take l.length++l.drop r.length).length=l.length:=by simp;omega
    refine h _ _ ⟨?_,?_,by rw[hL];exact hl⟩ ⟨rfl,rfl,rfl,by simp,fun k hk hne=>setRow_other w g k _ (fun e=>hne (by rw[e]))⟩
    rw[hL]
    refine ⟨by rw[List.length_map,hL,Nat.mul_one],.inr ⟨g,cap,_,rfl,hbg,setRow_heap w g cur _ e (0,0) hg,hnc,hcm,?_,?_⟩⟩
    ·simp;omega
    ·have hm:(cur.toList.take (l.length*1))=l.map (Value.int .i64):=htake
     rw[Nat.mul_one] at hm
     rw[List.map_append,List.map_take,List.map_drop,←hm]
     simp only[List.take_zero,List.nil_append,Nat.zero_add,List.length_map,List.length_take,Nat.mul_one]
     rw[List.take_append,List.drop_take,List.length_take,List.length_map,List.take_take,show min l.length l.length=l.length by omega]
     congr 1
     rw[show l.length - min l.length r.length=l.length - r.length by omega]
     by_cases hrr:r.length≤l.length
     ·rw[show min l.length r.length=r.length by omega]
     ·rw[show l.length - r.length=0 by omega]
      simp
    ·intro y hy
     simp at hy
     rcases hy with hy|hy
     ·obtain ⟨j,hj,rfl⟩:=List.getElem_of_mem (List.mem_of_mem_take hy)
      obtain ⟨_,_,z',_,_,hz',hi⟩:=hr j hj
      simp[hj] at hz'
      rw[hz'];exact hi
     ·exact hb y (List.mem_of_mem_drop hy)
end
abbrev Sh:=Int × List Int
def zG3(w:World)(a:Option Addr)(ls:List Sh):Prop:=
 ∀i,i<ls.length→∃b off v s,a=some ⟨b,off,none⟩∧w.cell? ⟨b,off+i*2,none⟩=some (.int .i64 s.1)∧w.cell? ⟨b,off+i*2+1,none⟩=some v∧zAG w v s.2∧ls[i]?=some s∧I64 s.1
def zAN(w:World)(v:Value)(ls:List Sh):Prop:=
 ∃a cap,v=.slice a ls.length cap∧ls.length≤cap∧(ls.length≤17592186044416∧cap≤9223372036854775807∧(a=none→cap=0))∧zG3 w a ls
theorem zAN.opened{w:World}{v:Value}{ls:List Sh}(h:zAN w v ls) :
  ∃a cap,v=.slice a ls.length cap∧ls.length≤cap∧(ls.length≤17592186044416∧cap≤9223372036854775807∧(a=none→cap=0))∧zG3 w a ls:=h
theorem zG3.stays{w w':World}{a:Option Addr}{ls:List Sh}(h:zG3 w a ls)(hb:Below w.heap.size w w'):zG3 w' a ls:=by
 intro i hi
 obtain ⟨b,off,v,s,rfl,h1,h2,h3,h4,h5⟩:=h i hi
 have hl:=zAH h1
 exact ⟨b,off,v,s,rfl,(hb.cell (p:=⟨b,off+i*2,none⟩) hl).trans h1,(hb.cell (p:=⟨b,off+i*2+1,none⟩) hl).trans h2,h3.stays hb,h4,h5⟩
theorem zAN.stays{w w':World}{v:Value}{ls:List Sh}(h:zAN w v ls)(hb:Below w.heap.size w w'):zAN w' v ls:=by
 obtain ⟨a,cap,h1,h2,h3,h4⟩:=h
 exact ⟨a,cap,h1,h2,h3,h4.stays hb⟩
theorem zAN.nil(w:World):zAN w (.slice none 0 0) []:=⟨none,0,rfl,Nat.le_refl _,⟨by simp,by omega,fun _=>rfl⟩,fun i hi=>by simp at hi⟩
structure zB6 (w:World) (ei e:TypeId) (base g n:Nat) (ls:List Sh) (f:Nat→Value):Prop where
 len:ls.length=n
 top:n≤1000000
 low:base≤g
 row:∃cur,w.heap[g]?=some (.cells cur e (0,0))∧cur.size=n*2∧∀k s,ls[k]?=some s→cur[k*2]?=some (.int .i64 s.1)∧cur[k*2+1]?=some (f k)∧I64 s.1
 own:∀k s,ls[k]?=some s→zAJ w ei base (f k) s.2
 apart:∀j k,j<n→k<n→j≠k→zDw (f j) (f k)
 off:∀k,k<n→(f k).ownBlock≠some g
section
variable {w w' : World} {ei e : TypeId} {base g n : Nat} {ls : List Sh} {f : Nat → Value}
theorem zB6.lt(h:zB6 w ei e base g n ls f):g<w.heap.size:=by
 obtain ⟨cur,hg,_⟩:=h.row
 exact (Array.getElem?_eq_some_iff.1 hg).1
theorem zB6.at(h:zB6 w ei e base g n ls f){k:Nat}(hk:k<n):∃s,ls[k]?=some s:=⟨_,List.getElem?_eq_getElem (by rw[h.len];exact hk)⟩
theorem zB6.flt(h:zB6 w ei e base g n ls f){k j:Nat}(hk:k<n)(hj:(f k).ownBlock=some j):base≤j∧j<w.heap.size:=by
 obtain ⟨s,hs⟩:=h.at hk
 exact (h.own k s hs).1.lt j hj
theorem zB6.cellN(h:zB6 w ei e base g n ls f){k:Nat}{s:Sh}(hs:ls[k]?=some s):w.cell? ⟨g,k*2,none⟩=some (.int .i64 s.1):=by
 obtain ⟨cur,hg,_,hc⟩:=h.row
 simpa[World.cell?,hg] using (hc k s hs).1
theorem zB6.cellV(h:zB6 w ei e base g n ls f){k:Nat}{s:Sh}(hs:ls[k]?=some s):w.cell? ⟨g,k*2+1,none⟩=some (f k):=by
 obtain ⟨cur,hg,_,hc⟩:=h.row
 simpa[World.cell?,hg] using (hc k s hs).2.1
theorem zB6.free(h:zB6 w ei e base g n ls f)(i:Nat):w.frozen? ⟨g,i,none⟩=false:=by
 obtain ⟨cur,hg,_⟩:=h.row
 simp[World.frozen?,hg]
theorem zB6.kept(h:zB6 w ei e base g n ls f){row:Option Nat}(hg:w.grownBy w' row)(hne:row≠some g)(hf:∀k,k<n→(f k).ownBlock=none∨(f k).ownBlock≠row):zB6 w' ei e base g n ls f:=by
 obtain ⟨cur,hc,hs,hcs⟩:=h.row
 refine ⟨h.len,h.top,h.low,⟨cur,(hg.block g h.lt (fun e=>hne e.symm)).trans hc,hs,hcs⟩,fun k s hs=>(h.own k s hs).kept hg (hf k ?_),h.apart,h.off⟩
 rw[←h.len]
 exact (List.getElem?_eq_some_iff.1 hs).1
theorem zB6.stays(h:zB6 w ei e base g n ls f)(hb:Below w.heap.size w w'):zB6 w' ei e base g n ls f:=
 h.kept (zAi hb) (by simp) (fun k _=>by cases (f k).ownBlock<;>simp)
theorem zB6.mono(h:zB6 w ei e base g n ls f){b:Nat}(hb:b≤base):zB6 w ei e b g n ls f:=
 ⟨h.len,h.top,Nat.le_trans hb h.low,h.row,fun k s hs=>(h.own k s hs).mono hb,h.apart,h.off⟩
theorem zB6.isShares(h:zB6 w ei e base g n ls f)(hT:ei≠30:=by decide):zAN w (.slice (some ⟨g,0,none⟩) n n) ls:=by
 have hl:=h.len
 have ht:=h.top
 refine ⟨some ⟨g,0,none⟩,n,by rw[hl],by omega,⟨by omega,by omega,fun e=>by cases e⟩,fun i hi=>?_⟩
 obtain ⟨s,hs⟩:=h.at (k:=i) (by omega)
 obtain ⟨cur,hg,_,hc⟩:=h.row
 refine ⟨g,0,f i,s,rfl,?_,?_,(h.own i s hs).isInts hT,hs,(hc i s hs).2.2⟩
 ·simpa using h.cellN hs
 ·simpa using h.cellV hs
theorem zB6.same(h:zB6 w ei e base g n ls f){k:Nat}(hk:k<n)(hg:w.grownBy w' (f k).ownBlock):w'.heap[g]?=w.heap[g]?:=
 hg.block g h.lt (fun e=>h.off k hk e.symm)
theorem zB6.put(h:zB6 w ei e base g n ls f){k:Nat}(hk:k<n){v':Value}{l':List Int}{N:Int}(hN:I64 N){top:Nat}(htop:w.heap.size≤top)(hg:w.grownBy w' (f k).ownBlock)
  (ho:zAJ w' ei base v' l') (hat:v'.ownBlock=(f k).ownBlock∨v'.ownBlock=some top) :
  zB6 ((w'.setCell ⟨g,k*2,none⟩ (.int .i64 N)).setCell ⟨g,k*2+1,none⟩ v') ei e base g n (ls.set k (N,l')) (fun j=>if j=k then v' else f j):=by
 have hgl:=h.lt
 have hvg:v'.ownBlock≠some g:=by
  intro e
  rcases hat with hat|hat
  ·exact h.off k hk (hat ▸ e)
  ·rw[hat] at e;cases e;omega
 have hgk:w'.heap[g]?=w.heap[g]?:=hg.block g hgl (fun e=>h.off k hk e.symm)
 have hl:=h.len
 obtain ⟨cur,hc,hs,hcs⟩:=h.row
 have hw3:((w'.setCell ⟨g,k*2,none⟩ (.int .i64 N)).setCell ⟨g,k*2+1,none⟩ v').heap[g]?=some (.cells ((cur.setIfInBounds (k*2) (.int .i64 N)).setIfInBounds (k*2+1) v') e (0,0)):=by
  have e1:w'.heap[g]?=some (.cells cur e (0,0)):=hgk.trans hc
  have e2:=heap_setCell_same w' g (k*2) cur e (.int .i64 N) e1
  exact heap_setCell_same _ g (k*2+1) _ e v' e2
 have hgrow:w'.grownBy ((w'.setCell ⟨g,k*2,none⟩ (.int .i64 N)).setCell ⟨g,k*2+1,none⟩ v') (some g):=
  (zAC w' ⟨g,k*2,none⟩ (.int .i64 N)).trans (zAC _ ⟨g,k*2+1,none⟩ v')
 refine ⟨by simpa using hl,h.top,h.low,⟨_,hw3,by simpa using hs,?_⟩,?_,?_,?_⟩
 ·intro j s hj
  rw[List.getElem?_set] at hj
  by_cases hjk:k=j
  ·subst hjk
   rw[if_pos rfl,if_pos (by omega)] at hj
   cases hj
   refine ⟨?_,?_,hN⟩
   ·rw[Array.getElem?_setIfInBounds,if_neg (by omega),Array.getElem?_setIfInBounds,if_pos rfl,if_pos (by omega)]
   ·rw[Array.getElem?_setIfInBounds,if_pos rfl,if_pos (by simp;omega),if_pos rfl]
  ·rw[if_neg hjk] at hj
   obtain ⟨h1,h2,h3⟩:=hcs j s hj
   refine ⟨?_,?_,h3⟩
   ·rw[Array.getElem?_setIfInBounds,if_neg (by omega),Array.getElem?_setIfInBounds,if_neg (by omega)];exact h1
   ·rw[Array.getElem?_setIfInBounds,if_neg (by omega),Array.getElem?_setIfInBounds,if_neg (by omega),if_neg (fun e=>hjk e.symm)];exact h2
 ·intro j s hj
  rw[List.getElem?_set] at hj
  by_cases hjk:k=j
  ·subst hjk
   rw[if_pos rfl,if_pos (by omega)] at hj
   cases hj
   rw[if_pos rfl]
   exact ho.kept hgrow (Or.inr hvg)
  ·rw[if_neg hjk] at hj
   rw[if_neg (fun e=>hjk e.symm)]
   have hjn:j<n:=by rw[←hl];exact (List.getElem?_eq_some_iff.1 hj).1
   exact ((h.own j s hj).kept hg (h.apart k j hk hjn hjk).ne).kept hgrow (by
    cases hfj:(f j).ownBlock with
    | none=>exact Or.inl rfl
    | some b=>exact Or.inr fun e=>h.off j hjn (hfj.trans e))
 ·intro i j hi hj hij
  by_cases hik:i=k
  ·subst hik
   rw[if_pos rfl,if_neg (fun e=>hij e.symm)]
   exact zDw.grown (h.apart i j hi hj hij) hat (fun b hb=>Nat.lt_of_lt_of_le (h.flt hj hb).2 htop)
  ·rw[if_neg hik]
   by_cases hjk:j=k
   ·subst hjk
    rw[if_pos rfl]
    exact (zDw.grown (h.apart j i hj hi (fun e=>hij e.symm)) hat (fun b hb=>Nat.lt_of_lt_of_le (h.flt hi hb).2 htop)).symm
   ·rw[if_neg hjk]
    exact h.apart i j hi hj hij
 ·intro j hj
  by_cases hjk:j=k
  ·rw[if_pos hjk];exact hvg
  ·rw[if_neg hjk];exact h.off j hj
end
section
variable {P : Program}
theorem zHI{w:World}{ops:Array Oper}{rest:List Oper}{o:Oper}{a:Act}{Q:Exit→Act→World→Prop}(hg:o.guard=none)(l c:Operand)(t:TypeId)(hop:o.op=Op.makeSlice t l c)(ei e:TypeId)
  (ht:P.underlying t=some (.slice e)) (hinfo:(P.info? e).map (fun i=>(i.zero,i.size,i.bytes))=some (some (.agg #[.int .i64 0,.slice none 0 0]),2,32)) (base:Nat) (L:Int) (n:Nat) (hl:a.eval l=.int .i64 L) (hc:a.eval c=.int .i64 L) (hL:L=(n:Int))
  (hn:n≤1000000) (hb:base≤w.heap.size)
  (hK:∀w',zB6 w' ei e base w.heap.size n (List.replicate n (0,[])) (fun _=>.slice none 0 0)→w.grownBy w' none→wpList P ops Q rest (a.put o.dst (.slice (some ⟨w.heap.size,0,none⟩) n n)) w') :
  wpList P ops Q (o::rest) a w:=by
 obtain ⟨i,hi0,hz0,hs0,hb0⟩:=info_parts hinfo
 refine wpList_make_full w hg l c t hop base e i _ 2 ht hi0 hz0 hs0 .i64 .i64 L L n hl hc hL hL (by rw[hb0];omega) (by unfold maxLen;omega) hb ?_
 intro w' h1 h2
 refine hK w' ?_ h2
 rcases h1.2 with ⟨e1,_⟩|⟨g,cap,cur,e1,hbg,hgg,_,_,hcs,htk⟩
 ·simp at e1
 ·simp only[Value.slice.injEq,Option.some.injEq,Addr.mk.injEq,and_true] at e1
  obtain ⟨rfl,_,rfl⟩:=e1
  have hcur:∀j,j<n*2→cur[j]?=(madeCells (Value.agg #[.int .i64 0,.slice none 0 0]).cells (n*2))[j]?:=by
   intro j hj
   have:=congrArg (fun l=>l[j]?) htk
   simp only[List.getElem?_take,if_pos hj] at this
   simpa using this
  refine ⟨by simp,hn,hb,⟨cur,hgg,hcs,?_⟩,?_,?_,?_⟩
  ·intro k s hs
   have hk:k<n:=by have:=(List.getElem?_eq_some_iff.1 hs).1;simpa using this
   rw[List.getElem?_replicate,if_pos hk] at hs
   cases hs
   refine ⟨?_,?_,⟨by omega,by omega⟩⟩
   ·rw[hcur _ (by omega)]
    simp[madeCells,Value.cells,show k*2<n*2 by omega]
   ·rw[hcur _ (by omega)]
    simp[madeCells,Value.cells,show k*2+1<n*2 by omega]
  ·intro k s hs
   have hk:k<n:=by have:=(List.getElem?_eq_some_iff.1 hs).1;simpa using this
   rw[List.getElem?_replicate,if_pos hk] at hs
   cases hs
   exact zAJ.nil _ _ _
  ·intro j k _ _ _
   exact zDw.nil_l _ _ _
  ·intro k _ h
   simp[Value.ownBlock] at h
end
theorem zC1(g:Nat)(e:TypeId):∀(vs:List Value) (o:Nat) (w:World) (cur:Array Value),w.heap[g]?=some (.cells cur e (0,0))→o+vs.length≤cur.size →
  ∃cur',(w.setCells g o vs).heap[g]?=some (.cells cur' e (0,0))∧cur'.size=cur.size∧∀j,cur'[j]?=if o≤j∧j<o+vs.length then vs[j - o]? else cur[j]?
 | [],o,w,cur,h,_=>⟨cur,h,rfl,fun j=>by rw[if_neg (by simp)]⟩
 | v::vs,o,w,cur,h,hl=>by
  simp only[List.length_cons] at hl
  have h2:=heap_setCell_same w g o cur e v h
  obtain ⟨cur',h3,h4,h5⟩:=zC1 g e vs (o+1) _ _ h2 (by simp;omega)
  refine ⟨cur',h3,by simpa using h4,fun j=>?_⟩
  rw[h5]
  by_cases hj:o=j
  ·subst hj
   rw[if_neg (by omega),if_pos (by simp),Array.getElem?_setIfInBounds,if_pos rfl,if_pos (by omega)]
   simp
  ·by_cases hj2:o+1≤j∧j<o+1+vs.length
   ·rw[if_pos hj2,if_pos (by simp;omega),show j - o=(j - (o+1))+1 by omega]
    simp
   ·rw[if_neg hj2,if_neg (by simp;omega),Array.getElem?_setIfInBounds,if_neg hj]
def zJQ(ps:List (Int × Value)):List Value:=ps.flatMap fun p=>[.int .i64 p.1,p.2]
def zOH(w:World)(e:TypeId)(base:Nat)(v:Value)(ps:List (Int × Value)):Prop:=
 w.ownsRow base e 2 v ps.length (zJQ ps)∧(∀p∈ps,I64 p.1∧∃a n c,p.2=.slice a n c)∧ps.length≤1000000
theorem zOH.nil(w:World)(e:TypeId)(base:Nat):zOH w e base (.slice none 0 0) []:=⟨World.ownsRow_nil _ _ _ _,by simp,by simp⟩
theorem zOH.kept{w w':World}{e:TypeId}{base:Nat}{v:Value}{ps:List (Int × Value)}{row:Option Nat}(h:zOH w e base v ps)(hg:w.grownBy w' row)(hne:v.ownBlock=none∨v.ownBlock≠row):zOH w' e base v ps:=
 ⟨h.1.kept hg hne,h.2⟩
section
variable {P : Program}
end
def zEp{α β:Type}(p:α→β→Bool):List α→List β→Bool
 | [],[]=>true
 | a::l,b::r=>p a b&&zEp p l r
 | _,_=>false
theorem zGz{α β:Type}(p:α→β→Bool):∀{l:List α} {r:List β},l.length≠r.length→zEp p l r=false
 | [],[],h=>absurd rfl h
 | [],_::_,_=>rfl
 | _::_,[],_=>rfl
 | a::l,b::r,h=>by simp[zEp,zGz p (l:=l) (r:=r) (by simpa using h)]
theorem zIU{α:Type}{p:α→α→Bool}(h:∀x y,p x y=true↔x=y):∀{l r:List α},zEp p l r=true↔l=r
 | [],[]=>by simp[zEp]
 | [],_::_=>by simp[zEp]
 | _::_,[]=>by simp[zEp]
 | a::l,b::r=>by simp[zEp,h,zIU h (l:=l) (r:=r)]
def zAP{α:Type}(p:α→Bool):List α→Nat→Int
 | [],_ => -1
 | y::l,k=>if p y then (k:Int) else zAP p l (k+1)
theorem zDA{α:Type}(p:α→Bool):∀(l:List α) (k:Nat),decide (0≤zAP p l k)=l.any p
 | [],k=>by simp[zAP]
 | y::l,k=>by
  by_cases h:p y=true
  ·simp[zAP,h]
  ·simp only[Bool.not_eq_true] at h
   simp[zAP,h,zDA p l (k+1)]
theorem zBL{g:Nat}{W w:World}(h:zAD g W w):∀n,zAD g W (w.drewN n)
 | 0=>h
 | n+1=>(zBL h n).drew
def zLr{α:Type}(lt:α→α→Bool)(x:α):List α→List α
 | []=>[x]
 | y::r=>if lt x y=true then y::zLr lt x r else x::y::r
def zNW{α:Type}(lt:α→α→Bool)(l:List α):List α:=l.foldl (fun acc x=>zLr lt x acc) []
def zSz{α:Type}(lt:α→α→Bool)(l:List α):List α:=(zNW lt l).reverse
section
variable {α : Type} {lt : α → α → Bool}
theorem zRU{l:List α}{i:Nat}{x:α}(h:l[i]?=some x):zNW lt (l.take (i+1))=zLr lt x (zNW lt (l.take i)):=by
 unfold zNW
 rw[zAv h,List.foldl_append]
 rfl
theorem zFQ(x:α):∀r:List α,(zLr lt x r).Perm (x::r)
 | []=>List.Perm.refl _
 | y::r=>by
  unfold zLr
  split
  ·exact (List.Perm.cons y (zFQ x r)).trans (List.Perm.swap x y r)
  ·exact List.Perm.refl _
theorem zKA:∀(l acc:List α),(l.foldl (fun acc x=>zLr lt x acc) acc).Perm (l++acc)
 | [],acc=>List.Perm.refl _
 | x::l,acc=>by
  rw[List.foldl_cons]
  refine (zKA l _).trans ?_
  refine (List.Perm.append_left l (zFQ x acc)).trans ?_
  exact List.perm_middle
theorem zIn(l:List α):(zNW lt l).Perm l:=by simpa[zNW] using zKA (lt:=lt) l []
theorem zMl(l:List α):(zSz lt l).Perm l:=(List.reverse_perm _).trans (zIn l)
theorem zTb(l:List α):(zNW lt l).length=l.length:=(zIn l).length_eq
theorem zSm(l:List α):(zSz lt l).length=l.length:=(zMl l).length_eq
theorem zRm(l:List α):(zNW lt (l.take 1)).reverse++l.drop 1=l:=by
 cases l with
 | nil=>rfl
 | cons x r=>simp[zNW,zLr]
theorem zQ8{x:α}{A:List α}(h:A=[]∨∃A' y,A=A'++[y]∧lt x y=false):(zLr lt x A.reverse).reverse=A++[x]:=by
 rcases h with rfl|⟨A',y,rfl,hy⟩
 ·rfl
 ·rw[List.reverse_append,List.reverse_singleton,List.singleton_append]
  unfold zLr
  rw[if_neg (by rw[hy];decide)]
  simp
theorem zUh{x y:α}{A':List α}(h:lt x y=true):(zLr lt x (A'++[y]).reverse).reverse=(zLr lt x A'.reverse).reverse++[y]:=by
 rw[List.reverse_append,List.reverse_singleton,List.singleton_append]
 conv=>lhs;unfold zLr
 rw[if_pos h]
 simp
end
end Go.Proofs.YthgmphbkkojaoaaGreat
