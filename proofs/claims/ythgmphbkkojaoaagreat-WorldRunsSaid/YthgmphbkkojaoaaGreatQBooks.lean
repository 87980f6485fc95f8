/-
  Books in plain lists: what is wrong with one, what is behind a version, its heads, what two versions have in common. The plain laws of what versions have in common, and of books that grow. The walks of a book's check, and the reference's. The walk of the reference's check of a book. The walk of the closed facts' family. From what a book and a version read as, to this proof's words.
-/
import Derived.Test.YthgmphbkkojaoaaGreatQCurves
import Derived.Test.YthgmphbkkojaoaaGreatQRowAll
set_option maxHeartbeats 2000000
namespace Go.Proofs.YthgmphbkkojaoaaGreat
set_option linter.unusedSectionVars false
variable [Zn]
abbrev Ver:=List Int × Int × Int × Int
def zCG(k:Int):Int→List Int→Int
 | _,[]=>0
 | last,p::r=>if p<0∨k≤p then 4 else if p≤last then 5 else zCG k p r
def zLV(k:Int)(v:Ver):Int:=if zCG k (-1) v.1≠0 then zCG k (-1) v.1 else zAx v.2.1 v.2.2.1 v.2.2.2
def zDC:Nat→List Ver→Int
 | _,[]=>0
 | k,v::r=>if zLV k v≠0 then zLV k v else zDC (k+1) r
def zAt(b:List Ver):Int:=if 12<(b.length:Int) then 1 else zDC 0 b
theorem zPH(k:Int):∀(l:List Int) (last:Int),-1≤last→(zCG k last l=0↔(∀p∈l,last<p∧0≤p∧p<k)∧l.Pairwise (· < ·))
 | [],last,_=>by simp[zCG]
 | p::r,last,h=>by
  unfold zCG
  by_cases h1:p<0∨k≤p
  ·rw[if_pos h1]
   constructor
   ·intro e;simp at e
   ·rintro ⟨h2,_⟩
    have:=h2 p (by simp)
    omega
  ·rw[if_neg h1]
   by_cases h2:p≤last
   ·rw[if_pos h2]
    constructor
    ·intro e;simp at e
    ·rintro ⟨h3,_⟩
     have:=h3 p (by simp)
     omega
   ·rw[if_neg h2,zPH k r p (by omega),List.pairwise_cons]
    constructor
    ·rintro ⟨h3,h4⟩
     refine ⟨?_,fun q hq=>(h3 q hq).1,h4⟩
     intro q hq
     rcases List.mem_cons.1 hq with rfl|hq
     ·omega
     ·have:=h3 q hq;omega
    ·rintro ⟨h3,h4,h5⟩
     refine ⟨fun q hq=>?_,h5⟩
     have a:=h3 q (by simp[hq])
     have b:=h4 q hq
     omega
structure zBJ (b:List Ver):Prop where
 top:b.length≤12
 par:∀(k:Nat) v,b[k]?=some v→(∀p∈v.1,0≤p∧p<(k:Int))∧v.1.Pairwise (· < ·)
 plan:∀(k:Nat) v,b[k]?=some v→zAx v.2.1 v.2.2.1 v.2.2.2=0
theorem zNn{k:Int}{v:Ver}:zLV k v=0↔((∀p∈v.1,0≤p∧p<k)∧v.1.Pairwise (· < ·))∧zAx v.2.1 v.2.2.1 v.2.2.2=0:=by
 have h:=zPH k v.1 (-1) (by omega)
 unfold zLV
 split
 ·rename_i h1
  constructor
  ·intro e;exact absurd e h1
  ·rintro ⟨⟨h2,h3⟩,_⟩
   exact absurd (h.2 ⟨fun p hp=>by have:=h2 p hp;omega,h3⟩) h1
 ·rename_i h1
  have h1:zCG k (-1) v.1=0:=Classical.byContradiction h1
  have h2:=h.1 h1
  constructor
  ·intro e;exact ⟨⟨fun p hp=>(h2.1 p hp).2,h2.2⟩,e⟩
  ·rintro ⟨_,e⟩;exact e
theorem zPF:∀(vs:List Ver) (k:Nat),zDC k vs=0↔∀(i:Nat) v,vs[i]?=some v→zLV ((k+i:Nat):Int) v=0
 | [],k=>by simp[zDC]
 | v::r,k=>by
  unfold zDC
  by_cases h:zLV k v=0
  ·rw[if_neg (by simpa using h),zPF r (k+1)]
   constructor
   ·intro hh i u hu
    match i,hu with
    | 0,hu=>simp at hu;subst hu;simpa using h
    | i+1,hu =>
     have:=hh i u (by simpa using hu)
     rw[show k+(i+1)=k+1+i by omega]
     exact this
   ·intro hh i u hu
    have:=hh (i+1) u (by simpa using hu)
    rw[show k+(i+1)=k+1+i by omega] at this
    exact this
  ·rw[if_pos h]
   constructor
   ·intro e;exact absurd e h
   ·intro hh
    have:=hh 0 v (by simp)
    simp at this
    exact absurd this h
theorem zBj{b:List Ver}:zAt b=0↔zBJ b:=by
 unfold zAt
 by_cases h:12<(b.length:Int)
 ·rw[if_pos h]
  constructor
  ·intro e;simp at e
  ·intro hb;have:=hb.top;omega
 ·rw[if_neg h,zPF]
  constructor
  ·intro hh
   refine ⟨by omega,fun k v hv=>?_,fun k v hv=>?_⟩
   ·have:=zNn.1 (hh k v hv)
    simpa using this.1
   ·exact (zNn.1 (hh k v hv)).2
  ·intro hb i v hv
   exact zNn.2 ⟨by simpa using hb.par i v hv,hb.plan i v hv⟩
def pars(b:List Ver)(k:Nat):List Int:=((b[k]?).map (·.1)).getD []
def zIb(b:List Ver):Nat→Int→Int→Bool
 | 0,k,old=>decide (k=old)
 | f+1,k,old=>decide (k=old)||(pars b k.toNat).any (fun p=>zIb b f p old)
def zA8(b:List Ver)(k old:Int):Bool:=zIb b 12 k old
section
variable {b : List Ver}
theorem zBJ.pars(h:zBJ b)(k:Nat):(∀p∈pars b k,0≤p∧p<(k:Int))∧(Go.Proofs.YthgmphbkkojaoaaGreat.pars b k).Pairwise (· < ·):=by
 unfold Go.Proofs.YthgmphbkkojaoaaGreat.pars
 cases hv:b[k]? with
 | none=>simp
 | some v=>simpa using h.par k v hv
theorem zHp(h:zBJ b)(old:Int):∀(f g:Nat) (k:Int),0≤k→k≤f→k≤g→zIb b f k old=zIb b g k old
 | 0,0,_,_,_,_=>rfl
 | 0,g+1,k,h0,h1,_=>by
  have:k=0:=by omega
  subst this
  have hp:pars b 0=[]:=by
   cases hl:pars b 0 with
   | nil=>rfl
   | cons p r =>
    have:=(h.pars 0).1 p (by rw[hl];simp)
    omega
  simp[zIb,hp]
 | f+1,0,k,h0,_,h1=>by
  have:k=0:=by omega
  subst this
  have hp:pars b 0=[]:=by
   cases hl:pars b 0 with
   | nil=>rfl
   | cons p r =>
    have:=(h.pars 0).1 p (by rw[hl];simp)
    omega
  simp[zIb,hp]
 | f+1,g+1,k,h0,h1,h2=>by
  unfold zIb
  congr 1
  have hp:=(h.pars k.toNat).1
  generalize pars b k.toNat=l at hp
  induction l with
  | nil=>rfl
  | cons p r ih =>
   have hp0:=hp p (by simp)
   simp only[List.any_cons]
   rw[ih (fun q hq=>hp q (by simp[hq])),zHp h old f g p hp0.1 (by omega) (by omega)]
theorem zKO(h:zBJ b){k:Int}(h0:0≤k)(h1:k≤12)(old:Int):zA8 b k old=(decide (k=old)||(pars b k.toNat).any (fun p=>zA8 b p old)):=by
 unfold zA8
 rw[zHp h old 12 13 k h0 (by omega) (by omega)]
 rfl
theorem zD8(h:zBJ b){k:Int}(h0:0≤k)(h1:k≤12){old:Int}:zA8 b k old=true↔k=old∨∃p∈pars b k.toNat,zA8 b p old=true:=by
 rw[zKO h h0 h1]
 simp
theorem zDY(b:List Ver)(k:Int):zA8 b k k=true:=by simp[zA8,zIb]
theorem zQb(h:zBJ b):∀(n:Nat) {k old:Int},k≤n→0≤k→k≤12→zA8 b k old=true→0≤old∧old≤k
 | n,k,old,hn,h0,h1,hf=>by
  rcases (zD8 h h0 h1).1 hf with rfl|⟨p,hp,hf⟩
  ·omega
  ·have hb:=(h.pars k.toNat).1 p hp
   match n with
   | 0=>omega
   | n+1 =>
    have:=zQb h n (k:=p) (by omega) (by omega) (by omega) hf
    omega
theorem zCA(h:zBJ b){k old:Int}(h0:0≤k)(h1:k≤12)(hf:zA8 b k old=true):0≤old∧old≤k:=zQb h k.toNat (by omega) h0 h1 hf
theorem zH4(h:zBJ b){m o:Int}(hm:zA8 b m o=true):∀(n:Nat) {k:Int},k≤n→0≤k→k≤12→zA8 b k m=true→zA8 b k o=true
 | n,k,hn,h0,h1,hf=>by
  rcases (zD8 h h0 h1).1 hf with rfl|⟨p,hp,hf⟩
  ·exact hm
  ·have hb:=(h.pars k.toNat).1 p hp
   match n with
   | 0=>omega
   | n+1=>exact (zD8 h h0 h1).2 (Or.inr ⟨p,hp,zH4 h hm n (by omega) (by omega) (by omega) hf⟩)
theorem zKG(h:zBJ b){k m o:Int}(h0:0≤k)(h1:k≤12)(hk:zA8 b k m=true)(hm:zA8 b m o=true):zA8 b k o=true:=zH4 h hm k.toNat (by omega) h0 h1 hk
theorem zTt(h:zBJ b){k m o:Int}(h0:0≤k)(h1:k≤12)(hk:zA8 b k m=true)(ho:o∈pars b m.toNat):zA8 b k o=true:=by
 have hb:=zCA h h0 h1 hk
 exact zKG h h0 h1 hk ((zD8 h hb.1 (by omega)).2 (Or.inr ⟨o,ho,zDY _ _⟩))
theorem zJh(h:zBJ b){o:Int}:∀(n:Nat) {k:Int},k≤n→0≤k→k≤12→zA8 b k o=true→k≠o→∃m,zA8 b k m=true∧o∈pars b m.toNat
 | n,k,hn,h0,h1,hf,hne=>by
  rcases (zD8 h h0 h1).1 hf with rfl|⟨p,hp,hf⟩
  ·exact absurd rfl hne
  ·have hb:=(h.pars k.toNat).1 p hp
   by_cases hpo:p=o
   ·subst hpo
    exact ⟨k,zDY _ _,hp⟩
   ·match n with
    | 0=>omega
    | n+1 =>
     obtain ⟨m,hm,ho⟩:=zJh h n (k:=p) (by omega) (by omega) (by omega) hf hpo
     exact ⟨m,(zD8 h h0 h1).2 (Or.inr ⟨p,hp,hm⟩),ho⟩
theorem zK6(h:zBJ b){k o:Int}(h0:0≤k)(h1:k≤12):zA8 b k o=true↔o=k∨∃m,0≤m∧o<m∧m≤k∧zA8 b k m=true∧o∈pars b m.toNat:=by
 constructor
 ·intro hf
  by_cases e:o=k
  ·exact Or.inl e
  ·obtain ⟨m,hm,ho⟩:=zJh h k.toNat (by omega) h0 h1 hf (fun e'=>e e'.symm)
   have hb:=zCA h h0 h1 hm
   have hp:=(h.pars m.toNat).1 o ho
   exact Or.inr ⟨m,hb.1,by omega,hb.2,hm,ho⟩
 ·rintro (rfl|⟨m,_,_,_,hm,ho⟩)
  ·exact zDY _ _
  ·exact zTt h h0 h1 hm ho
theorem zFW(n:Nat):((List.range n).map fun (j:Nat)=>(j:Int)).Pairwise (· < ·):=
 List.pairwise_map.2 (List.Pairwise.imp (fun hab=>by omega) List.pairwise_lt_range)
def zCi(b:List Ver):List Int:=((List.range b.length).map fun (j:Nat)=>(j:Int)).filter fun k => !(b.any fun v=>zEa k v.1)
end
def zIM(b:List Ver)(k i:Int)(l:List Int):Prop:=∀z,z∈l↔z=k∨∃m,i<m∧m≤k∧zA8 b k m=true∧z∈pars b m.toNat
theorem zIM.from{b:List Ver}(h:zBJ b){k i:Int}{l:List Int}(hk:zIM b k i l)(h0:0≤k)(h1:k≤12):decide (i∈l)=zA8 b k i:=by
 rw[Bool.eq_iff_iff,decide_eq_true_eq,hk i,zK6 h h0 h1]
 constructor
 ·rintro (e|⟨m,a,c,d,f⟩)
  ·exact Or.inl e
  ·exact Or.inr ⟨m,by have:=zCA h h0 h1 d;omega,a,c,d,f⟩
 ·rintro (e|⟨m,_,a,c,d,f⟩)
  ·exact Or.inl e
  ·exact Or.inr ⟨m,a,c,d,f⟩
def zBz(b:List Ver)(v:Ver):Int:=if zAt b≠0 then zAt b else if (b.length:Int)=12 then 1 else zAt (b++[v])
def zFC(b:List Ver)(v:Ver):List Ver:=if zBz b v=0 then b++[v] else []
theorem zLa{b:List Ver}{v:Ver}(h:zBz b v=0):zFC b v=b++[v]:=by unfold zFC;rw[if_pos h]
theorem zLM{b:List Ver}{v:Ver}(h:zBz b v≠0):zFC b v=[]:=by unfold zFC;rw[if_neg h]
theorem zMm(b:List Ver)(v:Ver):zBz b v=if zAt b≠0 then zAt b else zAt (b++[v]):=by
 unfold zBz
 split
 ·rfl
 ·split
  ·rename_i h
   unfold zAt
   rw[if_pos (by simp;omega)]
  ·rfl
section
variable {b : List Ver}
end
open Go.RowKit
def zAz:Rd Ver:=fun w cs x=>∃v,cs=[v,.int .i64 x.2.1,.int .i64 x.2.2.1,.int .i64 x.2.2.2]∧zAG w v x.1∧I64 x.2.1∧I64 x.2.2.1∧I64 x.2.2.2
theorem zAz.stays:zAz.Stays:=by
 rintro w cs x ⟨v,rfl,h,i⟩ w' hw
 exact ⟨v,rfl,h.framed (fun _ _ _=>id) hw,i⟩
abbrev zAR(w:World)(v:Value)(b:List Ver):Prop:=zAZ 4 zAz w v b
theorem zB1{w:World}{a:Option Addr}{n cap:Nat}{b:List Ver}(h:zAR w (.slice a n cap) b){i:Nat}{x:Ver}(hx:b[i]?=some x) :
  ∃g off u c,a=some ⟨g,off,none⟩∧w.cell? ⟨g,off+i*4,none⟩=some (.slice u x.1.length c)∧w.cell? ⟨g,off+i*4+1,none⟩=some (.int .i64 x.2.1)∧w.cell? ⟨g,off+i*4+2,none⟩=some (.int .i64 x.2.2.1)∧w.cell? ⟨g,off+i*4+3,none⟩=some (.int .i64 x.2.2.2)∧zAG w (.slice u x.1.length c) x.1∧I64 x.2.1∧I64 x.2.2.1∧I64 x.2.2.2:=by
 obtain ⟨g,off,rfl,cs,hl,hc,v,rfl,hv,h1,h2,h3⟩:=h.at hx
 obtain ⟨u,c,rfl,_⟩:=hv.opened
 exact ⟨g,off,u,c,rfl,hc 0 _ rfl,hc 1 _ rfl,hc 2 _ rfl,hc 3 _ rfl,hv,h1,h2,h3⟩
def zVG(l:List Int)(j:Nat)(last:Int):Prop:=(j=0∧last = -1)∨(0<j∧l[j - 1]?=some last)
theorem zVG.step{l:List Int}{j:Nat}{z:Int}(h:l[j]?=some z):zVG l (j+1) z:=Or.inr ⟨by omega,by simpa using h⟩
theorem zNh(v:Value)(l:List Int)(k:Int)(w:World)(hv:zAG w v l) :
  Calls Tryz.prog 100 #[v,.int .i64 k] w fun e w'=>e=.returned (.int .i64 (zCG k (-1) l))∧w=w':=by
 obtain ⟨a,c,rfl,hc,⟨hm,hcm,_⟩,hi⟩:=hv.opened
 clear hv
 go_enter Tryz.func100,Tryz.ntmps100
 go_wp2
 go_loop [9] (fun i=>∃j:Nat,∃last:Int,j≤l.length∧i=.int .i64 j∧zVG l j last∧zCG k last (l.drop j)=zCG k (-1) l) (fun i=>l.length - (intOf i).toNat)
 case atStart=>exact ⟨0,-1,by omega,rfl,Or.inl ⟨rfl,rfl⟩,rfl⟩
 case round =>
  obtain ⟨j,last,hj,rfl,hla,hq⟩:=hrel
  have HQ:=Zh hq
  have HL:=Zh hla
  clear hq hla
  by_cases hlt:j<l.length
  ·obtain ⟨b1,o1,z1,rfl,hc1,hz1,hi1⟩:=hi j hlt
   have HZ:=Zh (zAr hz1)
   have HG:=Zh hz1
   clear hz1
   by_cases h1:z1<0∨k≤z1
   ·have HR:=Zh (show zCG k (-1) l=4 by rw[←HQ.out,HZ.out];unfold zCG;rw[if_pos h1])
    rcases h1 with h1|h1
    ·go_wp2
     go_ret
     exact ⟨zAL HR.out.symm,rfl⟩
    ·by_cases h0:z1<0
     ·go_wp2
      go_ret
      exact ⟨zAL HR.out.symm,rfl⟩
     ·go_wp2
      go_ret
      exact ⟨zAL HR.out.symm,rfl⟩
   ·have h0:0≤z1:=by omega
    have h2:z1<k:=by omega
    rcases HL.out with ⟨rfl,rfl⟩|⟨hp,hg⟩
    ·have HR:=Zh (show zCG k z1 (l.drop (0+1))=zCG k (-1) l by rw[←HQ.out,HZ.out];simp only[zCG];rw[if_neg h1,if_neg (by omega)])
     have hc0:w.cell? ⟨b1,o1,none⟩=some (.int .i64 z1):=hc1
     clear h1 hc1
     go_wp2
     go_round
     case rel=>exact ⟨1,z1,by omega,by go_num,zVG.step HG.out,HR.out⟩
     case measure=>simp[intOf];omega
    ·obtain ⟨b2,o2,z2,e2,hc2,hz2,hi2⟩:=hi (j - 1) (by omega)
     cases e2
     have e3:z2=last:=by rw[hz2] at hg;exact Option.some.inj hg
     subst e3
     clear hz2 hg HL
     have hj1:(0:Int)<(j:Int):=by omega
     have hc3:w.cell? ⟨b1,o1+(j - 1),none⟩=some (.int .i64 z2):=hc2
     by_cases h3:z1≤z2
     ·have HR:=Zh (show zCG k (-1) l=5 by rw[←HQ.out,HZ.out];simp only[zCG];rw[if_neg h1,if_pos h3])
      clear h1
      go_wp2
      go_ret
      exact ⟨zAL HR.out.symm,rfl⟩
     ·have HR:=Zh (show zCG k z1 (l.drop (j+1))=zCG k (-1) l by rw[←HQ.out,HZ.out];simp only[zCG];rw[if_neg h1,if_neg h3])
      clear h1
      go_wp2
      go_round
      case rel=>exact ⟨j+1,z1,by omega,by go_num,zVG.step HG.out,HR.out⟩
      case measure=>simp[intOf];omega
  ·obtain rfl:l.length=j:=by omega
   go_wp2
   go_ret
   refine ⟨zAL ?_,rfl⟩
   rw[←HQ.out,List.drop_length]
   rfl
set_option maxRecDepth 100000 in
theorem zBQ(v:Value)(b:List Ver)(W:World)(hv:zAR W v b) :
  Calls Tryz.prog 76 #[.agg #[v]] W fun e w'=>e=.returned (.int .i64 (zAt b))∧Below W.heap.size W w':=by
 obtain ⟨a,c,rfl,hc,⟨hm,hcm,_⟩,_⟩:=hv.opened
 have S0:=(zAD.refl W).alloc (.cells #[.slice a b.length c] 24)
 have hv0:=hv.stays zAz.stays (zAB _ (.cells #[.slice a b.length c] 24))
 have c0:(W.alloc (.cells #[.slice a b.length c] 24)).cell? ⟨W.heap.size,0,none⟩=some (.slice a b.length c):=by go_simp
 clear hv
 by_cases h12:12<b.length
 ·have H:=Zh (show zAt b=1 by unfold zAt;rw[if_pos (by omega)])
  clear c0
  go_enter Tryz.func76,Tryz.ntmps76
  go_wp2_with fail
  go_ret
  exact ⟨zAL H.out.symm,S0.below⟩
 ·have H:=Zh (show zAt b=zDC 0 b by unfold zAt;rw[if_neg (by omega)])
  have h12':b.length≤12:=by omega
  clear c0 h12
  go_enter Tryz.func76,Tryz.ntmps76
  go_wp2_with fail
  go_loopw[14] (fun i wr=>∃k:Nat,k≤b.length∧i=.int .i64 k∧zAD W.heap.size W wr∧zAR wr (.slice a b.length c) b∧zDC k (b.drop k)=zDC 0 b) (fun i _=>b.length - (intOf i).toNat)
  case atStart=>exact ⟨0,by omega,rfl,S0,hv0,rfl⟩
  case round =>
   obtain ⟨k,hk,rfl,hS,hvr,hq⟩:=hrel
   have HQ:=Zh hq
   clear hq
   by_cases hlt:k<b.length
   ·obtain ⟨g,off,u,cu,rfl,k0,k1,k2,k3,hp,i1,i2,i3⟩:=zB1 hvr (List.getElem?_eq_getElem hlt)
    have HD:=Zh (List.drop_eq_getElem_cons hlt)
    generalize b[k]=x at *
    have B1:=zAB wr (.cells #[.slice u x.1.length cu,.int .i64 x.2.1,.int .i64 x.2.2.1,.int .i64 x.2.2.2] 51)
    have S1:=hS.alloc (.cells #[.slice u x.1.length cu,.int .i64 x.2.1,.int .i64 x.2.2.1,.int .i64 x.2.2.2] 51)
    have hp1:=hp.stays B1
    have hv1:=hvr.stays zAz.stays B1
    go_wp2_with fail
    refine (zNh _ x.1 _ _ hp1).mono ?_
    rintro e w' ⟨rfl,rfl⟩
    by_cases hpz:zCG k (-1) x.1=0
    ·have HP:=Zh hpz
     rw[hpz]
     clear hpz
     go_wp2_with fail
     refine (zAu _ _ _ _).mono ?_
     rintro e w2 ⟨rfl,hb2⟩
     have S2:=S1.step hb2
     have hv2:=hv1.stays zAz.stays hb2
     by_cases hpl:zAx x.2.1 x.2.2.1 x.2.2.2=0
     ·have HV:=Zh (show zDC (k+1) (b.drop (k+1))=zDC 0 b by rw[←HQ.out,HD.out];simp only[zDC];rw[if_neg];unfold zLV;rw[if_neg (by simpa using HP.out)];simpa using hpl)
      rw[hpl]
      clear hpl k0 k1 k2 k3 hp hp1
      go_wp2_with fail
      go_roundw
      case rel=>exact ⟨k+1,by omega,by go_num,S2,hv2,HV.out⟩
      case measure=>simp[intOf];omega
     ·have HV:=Zh (show zDC 0 b=zAx x.2.1 x.2.2.1 x.2.2.2 by rw[←HQ.out,HD.out];have hve:zLV k x=zAx x.2.1 x.2.2.1 x.2.2.2:=(by unfold zLV;rw[if_neg (by simpa using HP.out)]);simp only[zDC];rw[if_pos (by rw[hve];exact hpl),hve])
      have hne:(zAx x.2.1 x.2.2.1 x.2.2.2 != 0)=true:=by simpa using hpl
      clear hpl k0 k1 k2 k3 hp hp1
      go_wp2_with fail
      go_ret
      exact ⟨zAL (by rw[H.out,HV.out]),S2.below⟩
    ·have HV:=Zh (show zDC 0 b=zCG k (-1) x.1 by rw[←HQ.out,HD.out];have hve:zLV k x=zCG k (-1) x.1:=(by unfold zLV;rw[if_pos (by simpa using hpz)]);simp only[zDC];rw[if_pos (by rw[hve];exact hpz),hve])
     have hne:(zCG k (-1) x.1 != 0)=true:=by simpa using hpz
     clear hpz k0 k1 k2 k3 hp hp1
     go_wp2_with fail
     go_ret
     exact ⟨zAL (by rw[H.out,HV.out]),S1.below⟩
   ·obtain rfl:b.length=k:=by omega
    go_wp2_with fail
    go_ret
    refine ⟨zAL ?_,hS.below⟩
    rw[H.out,←HQ.out,List.drop_length]
    rfl
set_option maxRecDepth 100000 in
theorem zDs(v:Value)(b:List Ver)(W:World)(hv:zAR W v b) :
  Calls Tryz.prog 50 #[.agg #[v]] W fun e w'=>e=.returned (.int .i64 (zAt b))∧Below W.heap.size W w':=by
 obtain ⟨a,c,rfl,hc,⟨hm,hcm,_⟩,_⟩:=hv.opened
 have S0:=(zAD.refl W).alloc (.cells #[.slice a b.length c] 24)
 have hv0:=hv.stays zAz.stays (zAB _ (.cells #[.slice a b.length c] 24))
 have c0:(W.alloc (.cells #[.slice a b.length c] 24)).cell? ⟨W.heap.size,0,none⟩=some (.slice a b.length c):=by go_simp
 clear hv
 by_cases h12:12<b.length
 ·have H:=Zh (show zAt b=1 by unfold zAt;rw[if_pos (by omega)])
  clear c0
  go_enter Tryz.func50,Tryz.ntmps50
  go_wp2_with fail
  go_ret
  exact ⟨zAL H.out.symm,S0.below⟩
 ·have H:=Zh (show zAt b=zDC 0 b by unfold zAt;rw[if_neg (by omega)])
  have h12':b.length≤12:=by omega
  clear c0 h12
  go_enter Tryz.func50,Tryz.ntmps50
  go_wp2_with fail
  go_loopw[16] (fun i wr=>∃k:Nat,k≤b.length∧i=.int .i64 k∧zAD W.heap.size W wr∧zAR wr (.slice a b.length c) b∧zDC k (b.drop k)=zDC 0 b) (fun i _=>b.length - (intOf i).toNat)
  case atStart=>exact ⟨0,by omega,rfl,S0,hv0,rfl⟩
  case round =>
   obtain ⟨k,hk,rfl,hS,hvr,hq⟩:=hrel
   obtain ⟨wo,hwo⟩:∃wo:World,wo=wr:=⟨_,rfl⟩
   rw[←hwo] at hS hvr ⊢
   clear hwo
   have HQ:=Zh hq
   clear hq
   by_cases hlt:k<b.length
   ·obtain ⟨g,off,u,cu,rfl,k0,k1,k2,k3,hp,i1,i2,i3⟩:=zB1 hvr (List.getElem?_eq_getElem hlt)
    have HD:=Zh (List.drop_eq_getElem_cons hlt)
    generalize b[k]=x at *
    have B1:=zAB wo (.cells #[.slice u x.1.length cu,.int .i64 x.2.1,.int .i64 x.2.2.1,.int .i64 x.2.2.2] 51)
    have S1:=hS.alloc (.cells #[.slice u x.1.length cu,.int .i64 x.2.1,.int .i64 x.2.2.1,.int .i64 x.2.2.2] 51)
    have hp1:=hp.stays B1
    have hv1:=hvr.stays zAz.stays B1
    obtain ⟨_,_,e5,_,⟨hpm,hpcm,_⟩,hpi⟩:=hp1.opened
    simp only[Value.slice.injEq,true_and] at e5
    obtain ⟨rfl,rfl⟩:=e5
    go_wp2_with fail
    go_loop [24,5] (fun i z=>∃j:Nat,∃last:Int,j≤x.1.length∧i=.int .i64 j∧z=.int .i64 last∧I64 last∧zCG k last (x.1.drop j)=zCG k (-1) x.1) (fun i _=>x.1.length - (intOf i).toNat)
    case atStart=>exact ⟨0,-1,by omega,rfl,rfl,⟨by omega,by omega⟩,rfl⟩
    case round =>
     obtain ⟨j,last,hj,rfl,rfl,⟨il0,il1⟩,hq2⟩:=hrel
     have HR:=Zh hq2
     clear hq2
     by_cases hlt2:j<x.1.length
     ·obtain ⟨b1,o1,z1,rfl,hc1,hz1,hi1⟩:=hpi j hlt2
      have HZ:=Zh (zAr hz1)
      clear hz1
      by_cases h1:z1<0∨k≤z1
      ·have HV:=Zh (show zDC 0 b=4 by
        have e1:zCG k (-1) x.1=4:=by rw[←HR.out,HZ.out];unfold zCG;rw[if_pos h1]
        have e2:zLV k x=4:=by unfold zLV;rw[e1,if_pos (by omega)]
        rw[←HQ.out,HD.out];simp only[zDC];rw[e2,if_pos (by omega)])
       rcases h1 with h1|h1
       ·go_wp2_with fail
        go_ret
        exact ⟨zAL (by rw[H.out,HV.out]),S1.below⟩
       ·by_cases h0:z1<0
        ·go_wp2_with fail
         go_ret
         exact ⟨zAL (by rw[H.out,HV.out]),S1.below⟩
        ·go_wp2_with fail
         go_ret
         exact ⟨zAL (by rw[H.out,HV.out]),S1.below⟩
      ·have h0:0≤z1:=by omega
       have h2:z1<k:=by omega
       by_cases h3:z1≤last
       ·have HV:=Zh (show zDC 0 b=5 by
         have e1:zCG k (-1) x.1=5:=by rw[←HR.out,HZ.out];simp only[zCG];rw[if_neg h1,if_pos h3]
         have e2:zLV k x=5:=by unfold zLV;rw[e1,if_pos (by omega)]
         rw[←HQ.out,HD.out];simp only[zDC];rw[e2,if_pos (by omega)])
        clear h1
        go_wp2_with fail
        go_ret
        exact ⟨zAL (by rw[H.out,HV.out]),S1.below⟩
       ·have HE:=Zh (show zCG k z1 (x.1.drop (j+1))=zCG k (-1) x.1 by rw[←HR.out,HZ.out];simp only[zCG];rw[if_neg h1,if_neg h3])
        clear h1
        go_wp2_with fail
        go_round
        case rel=>exact ⟨j+1,z1,by omega,by go_num,rfl,hi1,HE.out⟩
        case measure=>simp[intOf];omega
     ·obtain rfl:x.1.length=j:=by omega
      have HP:=Zh (show zCG k (-1) x.1=0 by rw[←HR.out,List.drop_length];rfl)
      clear hpi
      go_wp2_with fail
      refine (zBB _ _ _ _).mono ?_
      rintro e w2 ⟨rfl,hb2⟩
      have S2:=S1.step hb2
      have hv2:=hv1.stays zAz.stays hb2
      by_cases hpl:zAx x.2.1 x.2.2.1 x.2.2.2=0
      ·have HV:=Zh (show zDC (k+1) (b.drop (k+1))=zDC 0 b by rw[←HQ.out,HD.out];simp only[zDC];rw[if_neg];unfold zLV;rw[if_neg (by simpa using HP.out)];simpa using hpl)
       rw[hpl]
       clear hpl k0 k1 k2 k3 hp hp1
       go_wp2_with fail
       go_roundw
       case rel=>exact ⟨k+1,by omega,by go_num,S2,hv2,HV.out⟩
       case measure=>simp[intOf];omega
      ·have HV:=Zh (show zDC 0 b=zAx x.2.1 x.2.2.1 x.2.2.2 by rw[←HQ.out,HD.out];have hve:zLV k x=zAx x.2.1 x.2.2.1 x.2.2.2:=(by unfold zLV;rw[if_neg (by simpa using HP.out)]);simp only[zDC];rw[if_pos (by rw[hve];exact hpl),hve])
       have hne:(zAx x.2.1 x.2.2.1 x.2.2.2 != 0)=true:=by simpa using hpl
       clear hpl k0 k1 k2 k3 hp hp1
       go_wp2_with fail
       go_ret
       exact ⟨zAL (by rw[H.out,HV.out]),S2.below⟩
   ·obtain rfl:b.length=k:=by omega
    go_wp2_with fail
    go_ret
    refine ⟨zAL ?_,hS.below⟩
    rw[H.out,←HQ.out,List.drop_length]
    rfl
open Go.ChangeShapes Go.WideShapes Go.ChangeAt Go.RowKit Go.Deep
section
variable {H : Type} {enc : TypeId × Value → H} {W : World} {base : Nat} {v : Value} {d : DataW H} {ps : List MemPlace} [zRf W]
theorem zPl:Tryz.prog.cellsOf 22=1:=by kernel_rfl
theorem zMB:Tryz.prog.cellsOf 51=4:=by kernel_rfl
theorem zQD:Tryz.prog.cellsOf 24=1:=by kernel_rfl
set_option maxRecDepth 100000 in
theorem zMf:zEN enc W 51 zAz:=by
 intro n cs x h hz
 obtain ⟨y0,y1,k,rfl,hl,h0,h1⟩:=trod_struct2 Tryz.underlying51 h
 rw[zMB] at hl
 simp only[zJ2,zHa] at h0 h1
 match cs,hl with
 | [c0,c1,c2,c3],_ =>
  simp only[List.drop_zero,List.drop_succ_cons,List.take_succ_cons,List.take_zero] at h0 h1
  simp only[DataW.weights,Tryz.underlying51,List.map_cons,List.map_nil,DataW.weightsEach,List.mem_append] at hz
  obtain ⟨z0,v0,e0,i0⟩:=zFz k _ _ h0 (fun m hm=>hz m (by simp[hm]))
  obtain ⟨z1,e1,i1⟩:=zKw k _ _ h1 (fun m hm=>hz m (by simp[hm]))
  simp only[List.cons.injEq,and_true] at e0 e1
  obtain ⟨rfl,rfl,rfl⟩:=e1
  subst e0
  exact ⟨(z0,z1),_,rfl,i0,i1⟩
set_option maxRecDepth 100000 in
theorem zPv:zEN enc W 22 (fun w cs l=>∃v,cs=[v]∧zAR w v l):=
 zHN Tryz.underlying22 zMB (by omega) (by rw[show Tryz.prog.bytesOf 51=48 by kernel_rfl];omega) zMf
def zWN:Rd (List Ver):=fun w cs b=>∃v,cs=[v]∧zAR w v b
set_option maxRecDepth 100000 in
theorem zKN:zEN enc W 24 zWN:=by
 intro n cs x h hz
 obtain ⟨y0,k,rfl,hl,h0⟩:=trod_struct1 Tryz.underlying24 h
 rw[zQD] at hl
 simp only[zPl] at h0
 match cs,hl with
 | [c0],_ =>
  simp only[List.drop_zero,List.take_succ_cons,List.take_zero] at h0
  simp only[DataW.weights,Tryz.underlying24,List.map_cons,List.map_nil,DataW.weightsEach,List.mem_append] at hz
  exact zPv k _ _ h0 (fun m hm=>hz m (by simp[hm]))
end
end Go.Proofs.YthgmphbkkojaoaaGreat
