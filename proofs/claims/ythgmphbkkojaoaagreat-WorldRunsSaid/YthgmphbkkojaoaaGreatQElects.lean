/-
  All sets of places, as bits, and sorted, in plain Lean. Of all sets of places, in order, the one that fewest shares are against: it is what most shares are of. slices.Compare at ints. Words of the walk of the reference's Elect: what its loops have. The library's slices.SortFunc, laid at this program: the numbers of this seat. slices.SortFunc at rows of ints with slices.Compare, by what the library proves of it. Words of the walk of the reference's Elect: what is best so far, as it lies.
-/
import Derived.Test.YthgmphbkkojaoaaGreatQVotes
import Derived.Test.YthgmphbkkojaoaaGreatQMosts
import Derived.Shelf.SlLaysF
import Derived.Shelf.SlSortCmp.Whole1
set_option maxHeartbeats 2000000
namespace Go.Proofs.YthgmphbkkojaoaaGreat
set_option linter.unusedSectionVars false
variable [Zn]
def zD1:List Int→List Int→Int
 | [],[]=>0
 | [],_::_ => -1
 | _::_,[]=>1
 | a::x,b::y=>if a<b then -1 else if b<a then 1 else zD1 x y
theorem zIh:∀(p x y:List Int),zD1 (p++x) (p++y)=zD1 x y
 | [],_,_=>rfl
 | a::p,x,y=>by
  rw[List.cons_append,List.cons_append,zD1,if_neg (by omega),if_neg (by omega),zIh p x y]
theorem zDZ:∀(x y:List Int),zD1 y x = -zD1 x y
 | [],[]=>rfl
 | [],_::_=>rfl
 | _::_,[]=>rfl
 | a::x,b::y=>by
  rw[zD1,zD1]
  by_cases h1:a<b
  ·rw[if_pos h1,if_neg (by omega),if_pos h1];rfl
  ·by_cases h2:b<a
   ·rw[if_pos h2,if_neg h1,if_pos h2]
   ·rw[if_neg h2,if_neg h1,if_neg h1,if_neg h2,zDZ x y]
def zEO{α:Type}(n:Nat):List α→List α→List (List α)
 | _,[]=>[]
 | pk,t::r=>(if pk.length+1=n then [pk++[t]] else zEO n (pk++[t]) r)++zEO n pk r
theorem zLb(n:Nat):∀(r pk:List Sh),zGe n pk r=zEO n pk r
 | [],_=>rfl
 | t::r,pk=>by rw[zGe,zEO,zLb n r pk,zLb n r (pk++[t])]
theorem zJJ{α β:Type}(f:α→β)(n:Nat):∀(r pk:List α),(zEO n pk r).map (List.map f)=zEO n (pk.map f) (r.map f)
 | [],_=>rfl
 | t::r,pk=>by
  rw[List.map_cons,zEO,zEO,List.map_append,zJJ f n r pk,List.length_map]
  congr 1
  split
  ·simp
  ·rw[zJJ f n r (pk++[t]),List.map_append]
   rfl
theorem zDT{α:Type}{n:Nat}:∀{r pk:List α} {c:List α},pk.length<n→(c∈zEO n pk r↔∃q,c=pk++q∧q.Sublist r∧pk.length+q.length=n)
 | [],pk,c,h=>by
  simp only[zEO,List.not_mem_nil,false_iff]
  rintro ⟨q,_,h2,h3⟩
  have:=List.sublist_nil.1 h2
  subst this
  simp at h3
  omega
 | t::r,pk,c,h=>by
  have ih:=zDT (r:=r) (pk:=pk) (c:=c) h
  simp only[zEO,List.mem_append,ih]
  constructor
  ·rintro (h1|⟨q,h1,h2,h3⟩)
   ·split at h1
    ·simp at h1
     exact ⟨[t],h1,List.Sublist.cons_cons t (List.nil_sublist r),by simpa⟩
    ·rename_i hn
     obtain ⟨q,h2,h3,h4⟩:=(zDT (r:=r) (pk:=pk++[t]) (c:=c) (by simp;omega)).1 h1
     exact ⟨t::q,by simp[h2],h3.cons_cons t,by simp at h4 ⊢;omega⟩
   ·exact ⟨q,h1,h2.cons t,h3⟩
  ·rintro ⟨q,rfl,h2,h3⟩
   cases h2 with
   | cons _ h2=>exact Or.inr ⟨q,rfl,h2,h3⟩
   | cons_cons _ h2 =>
    rename_i q
    left
    split
    ·rename_i hn
     simp at h3
     have:q=[]:=List.eq_nil_of_length_eq_zero (by omega)
     subst this
     simp
    ·rename_i hn
     refine (zDT (r:=r) (pk:=pk++[t]) (by simp;omega)).2 ⟨q,by simp,h2,by simp at h3 ⊢;omega⟩
theorem zEQ{n:Nat}:∀{r pk:List Int},pk.length<n→r.Pairwise (· < ·)→(zEO n pk r).Pairwise (fun c d=>zD1 c d<0)
 | [],_,_,_=>List.Pairwise.nil
 | t::r,pk,h,hr=>by
  obtain ⟨h1,h2⟩:=List.pairwise_cons.1 hr
  rw[zEO,List.pairwise_append]
  refine ⟨?_,zEQ h h2,fun c hc d hd=>?_⟩
  ·split
   ·simp
   ·exact zEQ (by simp;omega) h2
  ·obtain ⟨q,rfl,hq,hl⟩:=(zDT h).1 hd
   have hc':∃q1,c=pk++t::q1:=by
    split at hc
    ·simp at hc;exact ⟨[],hc⟩
    ·obtain ⟨q1,rfl,_,_⟩:=(zDT (by simp;omega)).1 hc
     exact ⟨q1,by simp⟩
   obtain ⟨q1,rfl⟩:=hc'
   rw[zIh]
   cases q with
   | nil=>simp at hl;omega
   | cons z q =>
    have:=h1 z (hq.subset (by simp))
    rw[zD1,if_pos this]
    omega
theorem zN5{n:Nat}{r pk:List Int}(h:pk.length<n)(hr:r.Pairwise (· < ·)):(zEO n pk r).Nodup:=
 (zEQ h hr).imp (fun {c d} hcd e=>by
  subst e
  have:=zDZ c c
  omega)
def zCP(len set:Nat):List Int:=((List.range len).filter fun i=>set.testBit i).map fun (i:Nat)=>(i:Int)
def zH7(n len:Nat):List (List Int):=((List.range (2 ^ len)).map (zCP len)).filter fun c=>decide (c.length=n)
def zBi(len:Nat):List Int:=(List.range len).map fun (i:Nat)=>(i:Int)
theorem zHw(len:Nat):(zBi len).Pairwise (· < ·):=by
 unfold zBi
 rw[List.pairwise_map]
 exact List.pairwise_lt_range.imp (fun h=>by omega)
theorem zOj:∀(len:Nat) (c:List Nat),c.Sublist (List.range len)→∃set,set<2 ^ len∧((List.range len).filter fun i=>set.testBit i)=c
 | 0,c,h=>⟨0,by simp,by simp at h;simp[h]⟩
 | len+1,c,h=>by
  rw[List.range_succ] at h
  obtain ⟨c1,c2,rfl,h1,h2⟩:=List.sublist_append_iff.1 h
  obtain ⟨set,hs,hf⟩:=zOj len c1 h1
  have hlt:∀i∈List.range len,(set+2 ^ len).testBit i=set.testBit i:=fun i hi=>by
   rw[Nat.add_comm]
   exact Nat.testBit_two_pow_add_gt (by simpa using hi) set
  have h2':c2=[]∨c2=[len]:=by
   cases h2 with
   | cons _ h2=>left;exact List.sublist_nil.1 h2
   | cons_cons _ h2=>right;rw[List.sublist_nil.1 h2]
  rcases h2' with rfl|rfl
  ·refine ⟨set,by rw[Nat.pow_succ];omega,?_⟩
   rw[List.range_succ,List.filter_append,hf]
   simp[Nat.testBit_lt_two_pow hs]
  ·refine ⟨set+2 ^ len,by rw[Nat.pow_succ];omega,?_⟩
   rw[List.range_succ,List.filter_append,List.filter_congr hlt,hf]
   have:(set+2 ^ len).testBit len=true:=by
    rw[Nat.add_comm,Nat.testBit_two_pow_add_eq,Nat.testBit_lt_two_pow hs];rfl
   simp[this]
theorem zTV{len a b:Nat}(ha:a<2 ^ len)(hb:b<2 ^ len)(h:zCP len a=zCP len b):a=b:=by
 apply Nat.eq_of_testBit_eq
 intro i
 by_cases hi:i<len
 ·have key:∀s,((i:Int)∈zCP len s↔s.testBit i=true):=fun s=>by
   unfold zCP
   simp only[List.mem_map,List.mem_filter,List.mem_range]
   constructor
   ·rintro ⟨j,⟨_,h2⟩,e⟩
    have:j=i:=by omega
    rw[←this];exact h2
   ·exact fun h=>⟨i,⟨hi,h⟩,rfl⟩
  have h1:=key a
  have h2:=key b
  rw[h] at h1
  have:=h1.symm.trans h2
  cases hx:a.testBit i<;>cases hy:b.testBit i<;>simp[hx,hy] at this ⊢
 ·have hp:2 ^ len≤2 ^ i:=Nat.pow_le_pow_right (by omega) (by omega)
  rw[Nat.testBit_lt_two_pow (by omega),Nat.testBit_lt_two_pow (by omega)]
theorem zNZ(n len:Nat):(zH7 n len).Nodup:=by
 unfold zH7
 refine List.Pairwise.filter _ ?_
 refine List.pairwise_map.2 ?_
 refine List.Pairwise.imp_of_mem ?_ (List.nodup_range (n:=2 ^ len))
 intro a b ha hb hne e
 exact hne (zTV (by simpa using ha) (by simpa using hb) e)
theorem zNM{n len:Nat}{c:List Int}:c∈zH7 n len↔c.Sublist (zBi len)∧c.length=n:=by
 unfold zH7
 rw[List.mem_filter,List.mem_map]
 constructor
 ·rintro ⟨⟨s,_,rfl⟩,h⟩
  refine ⟨?_,by simpa using h⟩
  unfold zCP zBi
  exact List.Sublist.map _ List.filter_sublist
 ·rintro ⟨h1,h2⟩
  unfold zBi at h1
  obtain ⟨c',hc',rfl⟩:=List.sublist_map_iff.1 h1
  obtain ⟨s,hs,hf⟩:=zOj len c' hc'
  exact ⟨⟨s,by simpa using hs,by unfold zCP;rw[hf]⟩,by simpa using h2⟩
theorem zKQ{n len:Nat}(hn:0<n):(zH7 n len).Perm (zEO n [] (zBi len)):=by
 refine (List.perm_ext_iff_of_nodup (zNZ n len) (zN5 (by simpa using hn) (zHw len))).2 (fun c=>?_)
 rw[zNM,zDT (by simpa using hn)]
 constructor
 ·rintro ⟨h1,h2⟩
  exact ⟨c,by simp,h1,by simpa using h2⟩
 ·rintro ⟨q,rfl,h1,h2⟩
  exact ⟨by simpa using h1,by simpa using h2⟩
theorem zKv:∀{a b:List (List Int)},a.Perm b→a.Pairwise (fun c d=>zD1 c d≤0)→b.Pairwise (fun c d=>zD1 c d<0)→a=b
 | [],b,hp,_,_=>(List.nil_perm.1 hp).symm
 | x::a,[],hp,_,_=>by simpa using hp.length_eq
 | x::a,y::b,hp,ha,hb=>by
  obtain ⟨ha1,ha2⟩:=List.pairwise_cons.1 ha
  obtain ⟨hb1,hb2⟩:=List.pairwise_cons.1 hb
  have hxy:x=y:=by
   have hx:x∈y::b:=hp.subset (by simp)
   have hy:y∈x::a:=hp.symm.subset (by simp)
   rcases List.mem_cons.1 hx with e|hx
   ·exact e
   ·rcases List.mem_cons.1 hy with e|hy
    ·exact e.symm
    ·have h1:=ha1 y hy
     have h2:=hb1 x hx
     have h3:=zDZ x y
     omega
  subst hxy
  rw[zKv (List.perm_cons x |>.1 hp) ha2 hb2]
theorem zMK{n len:Nat}(hn:0<n){s:List (List Int)}(hp:s.Perm (zH7 n len))(hs:s.Pairwise (fun c d=>zD1 c d≤0)):s=zEO n [] (zBi len):=
 zKv (hp.trans (zKQ hn)) hs (zEQ (by simpa using hn) (zHw len))
def zDL(n s:Nat)(ls pk:List Sh)(st:Option (List Int × List Int)):Option (List Int × List Int):=
 if zC6 n s pk=true then
  match st with
  | none=>some (zFK n s pk,(ls.filter fun t => !zCj n s pk t).map (·.1))
  | some b=>if ((ls.filter fun t => !zCj n s pk t).map (·.1)).length<b.2.length then some (zFK n s pk,(ls.filter fun t => !zCj n s pk t).map (·.1)) else some b
 else st
def zCz(ls:List Sh)(c:List Int):List Sh:=c.map fun i=>ls.getD i.toNat (0,[])
def zMZ(n s:Nat)(ls:List Sh):Option (List Int × List Int):=(zEO n [] (zBi ls.length)).foldl (fun st c=>zDL n s ls (zCz ls c) st) none
def zVi(ls:List Sh)(st:Vs)(b:Option (List Int × List Int)):Prop:=
 (st.2=[]∧b=none)∨∃p:Sh→Bool,st.2=zEb p 0 ls∧st.2≠[]∧b=some (st.1,(ls.filter fun t => !p t).map (·.1))
theorem zMs{n o s:Nat}{pk:List Sh}(h:zBe n o s pk)(hl:pk.length=n)(hm:zC6 n s pk=true):pk.all (zCj n s pk)=true:=by
 rw[zJ4 h hm,Bool.not_eq_true',zEJ,List.any_eq_false]
 intro i _
 unfold zJt
 rw[List.drop_of_length_le (by omega)]
 simp
theorem zSG{n o s:Nat}{ls pk:List Sh}(hR:zBe n o s ls)(hs:pk.Sublist ls)(hl:pk.length=n)(hn:0<n){st:Vs}{b:Option (List Int × List Int)}(h:zVi ls st b):zVi ls (zCx n o s ls pk st) (zDL n s ls pk b):=by
 have hp:zBe n o s pk:=hR.sub hs (by omega)
 have hc:=hp.checks
 by_cases hm:zC6 n s pk=true
 ·obtain ⟨e1,e2⟩:=zQs hp hc hm (zMs hp hl hm)
  unfold zCx zDL
  rw[if_neg (by simpa using e1),if_pos hm,e2]
  have hof:ofD n (zAM n s) (zFK n s pk)=zCj n s pk:=rfl
  rw[hof]
  obtain ⟨t,ht⟩:∃t,t∈pk:=by
   cases pk with
   | nil=>simp at hl;omega
   | cons t r=>exact ⟨t,by simp⟩
  have hpt:zCj n s pk t=true:=List.all_eq_true.1 (zMs hp hl hm) t ht
  have htl:=hs.subset ht
  have hpos:0<(zEb (zCj n s pk) 0 ls).length:=by
   rw[zDI]
   exact List.countP_pos_iff.2 ⟨t,htl,hpt⟩
  have hne:zEb (zCj n s pk) 0 ls≠[]:=fun e=>by rw[e] at hpos;simp at hpos
  have hlen:∀p:Sh→Bool,((ls.filter fun t => !p t).map (·.1)).length+(zEb p 0 ls).length=ls.length:=fun p=>by
   rw[List.length_map,zDI,←List.countP_eq_length_filter]
   have:=List.length_eq_countP_add_countP p (l:=ls)
   have e:(ls.countP fun t => !p t)=ls.countP (fun a=>decide ¬(p a=true)):=by
    congr 1
    funext a
    cases p a<;>rfl
   rw[e]
   omega
  rcases h with ⟨h1,rfl⟩|⟨p,h1,h2,rfl⟩
  ·rw[h1,if_pos (by simpa using hpos)]
   exact Or.inr ⟨_,rfl,hne,rfl⟩
  ·have l1:=hlen (zCj n s pk)
   have l2:=hlen p
   simp only
   by_cases hlt:st.2.length<(zEb (zCj n s pk) 0 ls).length
   ·rw[if_pos hlt,if_pos (by rw[h1] at hlt;omega)]
    exact Or.inr ⟨_,rfl,hne,rfl⟩
   ·rw[if_neg hlt,if_neg (by rw[h1] at hlt;omega)]
    exact Or.inr ⟨p,h1,h2,rfl⟩
 ·obtain ⟨e1,_⟩:=zUk hp hc (fun hh=>hm hh.1)
  unfold zCx zDL
  rw[if_pos (by rw[e1];decide),if_neg hm]
  exact h
theorem zGg(ls:List Sh):zCz ls (zBi ls.length)=ls:=by
 unfold zCz zBi
 rw[List.map_map]
 apply List.ext_getElem
 ·simp
 ·intro i h1 h2
  simp[List.getD_eq_getElem?_getD,List.getElem?_eq_getElem h2]
theorem zP4{n o s:Nat}{ls:List Sh}(hR:zBe n o s ls)(hn:0<n):zVi ls (zKI n o s ls) (zMZ n s ls):=by
 have e1:zKI n o s ls=((zEO n [] (zBi ls.length)).map (zCz ls)).foldl (fun st c=>zCx n o s ls c st) ([],[]):=by
  unfold zKI
  rw[zGx,zLb]
  have:=zJJ (fun i:Int=>ls.getD i.toNat (0,[])) n (zBi ls.length) []
  rw[show (zBi ls.length).map (fun i:Int=>ls.getD i.toNat (0,[]))=ls from zGg ls] at this
  rw[List.map_nil] at this
  rw[←this]
  rfl
 rw[e1]
 unfold zMZ
 rw[List.foldl_map]
 have key:∀(cs:List (List Int)) (st:Vs) (b:Option (List Int × List Int)),(∀c∈cs,(zCz ls c).Sublist ls∧(zCz ls c).length=n)→zVi ls st b→zVi ls (cs.foldl (fun st c=>zCx n o s ls (zCz ls c) st) st) (cs.foldl (fun st c=>zDL n s ls (zCz ls c) st) b):=by
  intro cs
  induction cs with
  | nil=>intro st b _ h;exact h
  | cons c cs ih =>
   intro st b hc h
   obtain ⟨h1,h2⟩:=hc c (by simp)
   exact ih _ _ (fun d hd=>hc d (by simp[hd])) (zSG hR h1 h2 hn h)
 refine key _ _ _ (fun c hc=>?_) (Or.inl ⟨rfl,rfl⟩)
 obtain ⟨q,rfl,h1,h2⟩:=(zDT (by simpa using hn)).1 hc
 refine ⟨?_,by unfold zCz;simpa using h2⟩
 have:=List.Sublist.map (fun i:Int=>ls.getD i.toNat (0,[])) h1
 rw[show (zBi ls.length).map (fun i:Int=>ls.getD i.toNat (0,[]))=ls from zGg ls] at this
 exact this
theorem zP7{n o s:Nat}{ls:List Sh}(hR:zBe n o s ls)(hn:0<n) :
  (zMZ n s ls=none∧zCF n o s ls=9∧zEs n o s ls=[]∧zEq n o s ls=[])∨∃b,zMZ n s ls=some b∧zCF n o s ls=0∧zEs n o s ls=b.1∧zEq n o s ls=b.2.mergeSort (fun x y=>decide (x≤y)):=by
 have hc:=hR.checks
 have hE:=zGy (n:=n) (o:=o) (s:=s) hc
 rcases zP4 hR hn with ⟨h1,h2⟩|⟨p,h1,h2,h3⟩
 ·left
  rw[if_pos h1] at hE
  exact ⟨h2,hE,zIa (by rw[hE];decide),zIN (by rw[hE];decide)⟩
 ·right
  rw[if_neg h2] at hE
  refine ⟨_,h3,hE,zGp hE,?_⟩
  rw[zEo hE,h1,zPK]
open Go.RowKit
def zO5(x y:Int):Int:=if x<y then -1 else if y<x then 1 else 0
theorem zJG(x:Int)(W:World):Calls Tryz.prog 154 #[.int .i64 x] W fun e w'=>e=.returned (.bool false)∧w'=W:=by
 go_enter Tryz.func154,Tryz.ntmps154
 go_wp2_with fail
 go_ret
 exact ⟨by simp,rfl⟩
theorem zGF(x y:Int)(W:World):Calls Tryz.prog 126 #[.int .i64 x,.int .i64 y] W fun e w'=>e=.returned (.int .i64 (zO5 x y))∧w'=W:=by
 by_cases h:x<y
 ·have hd:decide (x<y)=true:=by simpa using h
  have HC:=Zh (show zO5 x y = -1 by simp[zO5,h])
  clear h
  go_enter Tryz.func126,Tryz.ntmps126
  go_wp2_with (refine (zJG _ _).mono ?_;rintro e w1 ⟨rfl,rfl⟩)
  go_ret
  exact ⟨zAL HC.out.symm,rfl⟩
 ·have hd:decide (x<y)=false:=by simpa using h
  by_cases h2:y<x
  ·have hd2:decide (y<x)=true:=by simpa using h2
   have HC:=Zh (show zO5 x y=1 by simp[zO5,h,h2])
   clear h h2
   go_enter Tryz.func126,Tryz.ntmps126
   go_wp2_with (refine (zJG _ _).mono ?_;rintro e w1 ⟨rfl,rfl⟩)
   go_ret
   exact ⟨zAL HC.out.symm,rfl⟩
  ·have hd2:decide (y<x)=false:=by simpa using h2
   have HC:=Zh (show zO5 x y=0 by simp[zO5,h,h2])
   clear h h2
   go_enter Tryz.func126,Tryz.ntmps126
   go_wp2_with (refine (zJG _ _).mono ?_;rintro e w1 ⟨rfl,rfl⟩)
   go_ret
   exact ⟨zAL HC.out.symm,rfl⟩
theorem zTD{x y:List Int}{k:Nat}{a b:Int}(ha:x[k]?=some a)(hb:y[k]?=some b):zD1 (x.drop k) (y.drop k)=if zO5 a b=0 then zD1 (x.drop (k+1)) (y.drop (k+1)) else zO5 a b:=by
 rw[zAr ha,zAr hb,zD1]
 unfold zO5
 by_cases h:a<b
 ·simp[h]
 ·by_cases h2:b<a<;>simp[h,h2]
theorem zRY{x y:List Int}{k:Nat}{a:Int}(ha:x[k]?=some a)(hb:y.length≤k):zD1 (x.drop k) (y.drop k)=1:=by
 rw[zAr ha,List.drop_of_length_le hb];rfl
theorem zSs{x y:List Int}(h:x.length≤y.length):zD1 (x.drop x.length) (y.drop x.length)=if x.length<y.length then -1 else 0:=by
 rw[List.drop_of_length_le (Nat.le_refl _)]
 by_cases hl:x.length<y.length
 ·rw[if_pos hl]
  cases hy:y.drop x.length with
  | nil=>have:=congrArg List.length hy;simp at this;omega
  | cons b r=>rfl
 ·rw[if_neg hl,List.drop_of_length_le (by omega)];rfl
set_option maxRecDepth 100000 in
theorem zMg(vx vy:Value)(x y:List Int)(W:World)(hx:zAG W vx x)(hy:zAG W vy y) :
  Calls Tryz.prog 106 #[vx,vy] W fun e w'=>e=.returned (.int .i64 (zD1 x y))∧w'=W:=by
 obtain ⟨ax,cx,rfl,hx1,⟨hx2,hx3,_⟩,_⟩:=hx.opened
 obtain ⟨ay,cy,rfl,hy1,⟨hy2,hy3,_⟩,_⟩:=hy.opened
 have HX:=Zh hx
 have HY:=Zh hy
 clear hx hy
 go_enter Tryz.func106,Tryz.ntmps106
 go_wp2_with fail
 go_loopw[11] (fun i wr=>∃k:Nat,k≤x.length∧k≤y.length∧i=.int .i64 k∧wr=W∧zD1 (x.drop k) (y.drop k)=zD1 x y) (fun i _=>x.length - (intOf i).toNat)
 case atStart=>exact ⟨0,by omega,by omega,rfl,rfl,rfl⟩
 case round =>
  obtain ⟨k,hk,hk2,rfl,rfl,hq⟩:=hrel
  have HQ:=Zh hq
  clear hq
  by_cases hlt:k<x.length
  ·have ha:x[k]?=some x[k]:=List.getElem?_eq_getElem hlt
   obtain ⟨b1,o1,e1,q1,i1⟩:=zC0 HX.out ha
   have HA:=Zh ha
   generalize x[k]=a at *
   obtain rfl:=e1
   clear ha
   by_cases hl2:k<y.length
   ·have hb:y[k]?=some y[k]:=List.getElem?_eq_getElem hl2
    obtain ⟨b2,o2,e2,q2,i2⟩:=zC0 HY.out hb
    have HB:=Zh hb
    generalize y[k]=b at *
    obtain rfl:=e2
    have HR:=Zh (zTD HA.out hb)
    clear hb
    by_cases hz:zO5 a b=0
    ·have HZ:=Zh hz
     have HV:=Zh (show zD1 (x.drop (k+1)) (y.drop (k+1))=zD1 x y by rw[←HQ.out,HR.out,if_pos hz])
     clear hz
     go_wp2_with (refine (zGF _ _ _).mono ?_;rintro e w1 ⟨rfl,rfl⟩;rw[HZ.out])
     go_roundw
     case rel=>exact ⟨k+1,by omega,by omega,by go_num,trivial,HV.out⟩
     case measure=>simp[intOf];omega
    ·have HV:=Zh (show zO5 a b=zD1 x y by rw[←HQ.out,HR.out,if_neg hz])
     have hne:(zO5 a b != 0)=true:=by simpa using hz
     clear hz
     obtain ⟨c,hc⟩:∃c,c=zO5 a b:=⟨_,rfl⟩
     rw[←hc] at hne
     have HC:=Zh hc
     clear hc
     go_wp2_with (refine (zGF _ _ _).mono ?_;rintro e w1 ⟨rfl,rfl⟩;rw[←HC.out])
     go_ret
     exact ⟨zAL (HC.out.trans HV.out),rfl⟩
   ·have hV:=Zh (show 1=zD1 x y by rw[←HQ.out,zRY HA.out (by omega)])
    have hd:decide ((y.length:Int)≤(k:Int))=true:=by simp;omega
    go_wp2_with fail
    go_ret
    exact ⟨zAL hV.out,rfl⟩
  ·obtain rfl:x.length=k:=by omega
   have HE:=Zh (zSs (x:=x) (y:=y) (by omega))
   by_cases hl:x.length<y.length
   ·have HV:=Zh (show -1=zD1 x y by rw[←HQ.out,HE.out,if_pos hl])
    go_wp2_with fail
    go_ret
    exact ⟨zAL HV.out,rfl⟩
   ·have HV:=Zh (show 0=zD1 x y by rw[←HQ.out,HE.out,if_neg hl])
    have hd:decide ((x.length:Int)<(y.length:Int))=false:=by simp;omega
    go_wp2_with fail
    go_ret
    exact ⟨zAL HV.out,rfl⟩
def zCT(n len m:Nat):List (List Int):=((List.range m).map (zCP len)).filter fun c=>decide (c.length=n)
theorem zJg(n len:Nat):zCT n len (2 ^ len)=zH7 n len:=rfl
theorem zMy(i set:Nat):zCP (i+1) set=if set.testBit i=true then zCP i set++[(i:Int)] else zCP i set:=by
 unfold zCP
 rw[List.range_succ,List.filter_append,List.map_append]
 by_cases h:set.testBit i=true
 ·rw[if_pos h];simp[h]
 ·rw[if_neg h];simp[h]
theorem zTu(i set:Nat):(zCP i set).length≤i:=by
 unfold zCP
 rw[List.length_map]
 exact Nat.le_trans (List.length_filter_le _ _) (by simp)
theorem zS0{i set:Nat}(h:set.testBit i=true):zCP (i+1) set=zCP i set++[(i:Int)]:=by rw[zMy,if_pos h]
theorem zSE{i set:Nat}(h:set.testBit i=false):zCP (i+1) set=zCP i set:=by rw[zMy,if_neg (by simp[h])]
theorem zRH{n len m:Nat}(h:(zCP len m).length=n):zCT n len (m+1)=zCT n len m++[zCP len m]:=by
 unfold zCT
 rw[List.range_succ,List.map_append,List.filter_append];simp[h]
theorem zQU{n len m:Nat}(h:(zCP len m).length≠n):zCT n len (m+1)=zCT n len m:=by
 unfold zCT
 rw[List.range_succ,List.map_append,List.filter_append];simp[h]
theorem zM6(n len m:Nat):(zCT n len m).length≤m:=by
 unfold zCT
 exact Nat.le_trans (List.length_filter_le _ _) (by simp)
theorem zT3:∀m,m<257→∀k,k<8→(bits BinOp.and IntKind.i64 (((m:Nat):Int) / 2 ^ k) 1 == 1)=m.testBit k:=by decide +kernel
theorem zN4:Rd.Stays zLG:=by
 rintro w cs x ⟨v,rfl,h⟩ w' hw
 exact ⟨v,rfl,h.framed (fun _ _ _=>id) hw⟩
def zDU:Go.Shelf.Ren:=⟨fun | 6=>105 | 15=>124 | 14=>125 | 28=>144 | 29=>145 | 20=>146 | 21=>147 | 22=>148 | 23=>149 | 24=>150 | 25=>151 | 26=>152 | 27=>153 | 46=>173 | 47=>169 | 48=>170 | 49=>174 | 50=>175 | 57=>182 | n=>n,fun | 22=>43 | 24=>36 | 25=>138 | 3=>3 | 39=>157 | 0=>0 | 53=>175 | 55=>177 | 4=>4 | 46=>168 | 45=>167 | 50=>172 | 5=>5 | 9=>9 | 66=>191 | 70=>195 | 76=>202 | 77=>203 | n=>n,fun | n=>n⟩
theorem zLm:Go.Proofs.SlLaysF.n6 Tryz.prog zDU:={
 mixed:=by kernel_rfl,
 f6:=⟨Tryz.f105.name,by decide,Tryz.func105.trans (congrArg some (by kernel_rfl))⟩,
 f14:=⟨Tryz.f125.name,by decide,Tryz.func125.trans (congrArg some (by kernel_rfl))⟩,
 f15:=Tryz.func124.trans (congrArg some (by kernel_rfl)),
 f20:=⟨Tryz.f146.name,by decide,Tryz.func146.trans (congrArg some (by kernel_rfl))⟩,
 f21:=⟨Tryz.f147.name,by decide,Tryz.func147.trans (congrArg some (by kernel_rfl))⟩,
 f22:=⟨Tryz.f148.name,by decide,Tryz.func148.trans (congrArg some (by kernel_rfl))⟩,
 f23:=⟨Tryz.f149.name,by decide,Tryz.func149.trans (congrArg some (by kernel_rfl))⟩,
 f24:=⟨Tryz.f150.name,by decide,Tryz.func150.trans (congrArg some (by kernel_rfl))⟩,
 f25:=⟨Tryz.f151.name,by decide,Tryz.func151.trans (congrArg some (by kernel_rfl))⟩,
 f26:=⟨Tryz.f152.name,by decide,Tryz.func152.trans (congrArg some (by kernel_rfl))⟩,
 f27:=⟨Tryz.f153.name,by decide,Tryz.func153.trans (congrArg some (by kernel_rfl))⟩,
 f28:=Tryz.func144.trans (congrArg some (by kernel_rfl)),
 f29:=Tryz.func145.trans (congrArg some (by kernel_rfl)),
 f46:=⟨Tryz.f173.name,by decide,Tryz.func173.trans (congrArg some (by kernel_rfl))⟩,
 f47:=Tryz.func169.trans (congrArg some (by kernel_rfl)),
 f48:=Tryz.func170.trans (congrArg some (by kernel_rfl)),
 f49:=⟨Tryz.f174.name,by decide,Tryz.func174.trans (congrArg some (by kernel_rfl))⟩,
 f50:=⟨Tryz.f175.name,by decide,Tryz.func175.trans (congrArg some (by kernel_rfl))⟩,
 f57:=⟨Tryz.f182.name,by decide,Tryz.func182.trans (congrArg some (by kernel_rfl))⟩,
 t0:=Tryz.underlying0,
 a0:=Tryz.isAgg0,
 z0:=Tryz.sizeOf0,
 v0:=Tryz.zeroValue0,
 t3:=Tryz.underlying3,
 a3:=Tryz.isAgg3,
 z3:=Tryz.sizeOf3,
 v3:=Tryz.zeroValue3,
 t4:=Tryz.underlying4,
 a4:=Tryz.isAgg4,
 z4:=Tryz.sizeOf4,
 v4:=Tryz.zeroValue4,
 t5:=Tryz.underlying5,
 a5:=Tryz.isAgg5,
 z5:=Tryz.sizeOf5,
 v5:=Tryz.zeroValue5,
 t9:=Tryz.underlying9,
 a9:=Tryz.isAgg9,
 z9:=Tryz.sizeOf9,
 v9:=Tryz.zeroValue9,
 t22:=Tryz.underlying43,
 a22:=Tryz.isAgg43,
 z22:=Tryz.sizeOf43,
 v22:=Tryz.zeroValue43,
 a24:=Tryz.isAgg36,
 z24:=Tryz.sizeOf36,
 t25:=Tryz.underlying138,
 a25:=Tryz.isAgg138,
 z25:=Tryz.sizeOf138,
 v25:=Tryz.zeroValue138,
 t39:=Tryz.underlying157,
 a39:=Tryz.isAgg157,
 z39:=Tryz.sizeOf157,
 v39:=Tryz.zeroValue157,
 t45:=Tryz.underlying167,
 a45:=Tryz.isAgg167,
 z45:=Tryz.sizeOf167,
 v45:=Tryz.zeroValue167,
 t46:=Tryz.underlying168,
 a46:=Tryz.isAgg168,
 z46:=Tryz.sizeOf168,
 v46:=Tryz.zeroValue168,
 t50:=Tryz.underlying172,
 a50:=Tryz.isAgg172,
 z50:=Tryz.sizeOf172,
 v50:=Tryz.zeroValue172,
 t53:=Tryz.underlying175,
 a53:=Tryz.isAgg175,
 z53:=Tryz.sizeOf175,
 v53:=Tryz.zeroValue175,
 t55:=Tryz.underlying177,
 a55:=Tryz.isAgg177,
 z55:=Tryz.sizeOf177,
 v55:=Tryz.zeroValue177,
 t66:=Tryz.underlying191,
 a66:=Tryz.isAgg191,
 z66:=Tryz.sizeOf191,
 v66:=Tryz.zeroValue191,
 t70:=Tryz.underlying195,
 a70:=Tryz.isAgg195,
 z70:=Tryz.sizeOf195,
 v70:=Tryz.zeroValue195,
 t76:=Tryz.underlying202,
 a76:=Tryz.isAgg202,
 z76:=Tryz.sizeOf202,
 v76:=Tryz.zeroValue202,
 t77:=Tryz.underlying203,
 a77:=Tryz.isAgg203,
 z77:=Tryz.sizeOf203,
 v77:=Tryz.zeroValue203
}
open Go.Shelf Go.RowKit Go.Sort
theorem zHg:∀(x y z:List Int),zD1 x y≤0→zD1 y z≤0→zD1 x z≤0∧(zD1 x y<0∨zD1 y z<0→zD1 x z<0)
 | [],[],[],_,_=>by simp[zD1]
 | [],[],_::_,_,_=>by simp[zD1]
 | [],_::_,[],_,h=>by simp[zD1] at h
 | [],_::_,_::_,_,_=>by simp[zD1]
 | _::_,[],_,h,_=>by simp[zD1] at h
 | _::_,_::_,[],_,h=>by simp[zD1] at h
 | a::x,b::y,c::z,h1,h2=>by
  have ih:=zHg x y z
  simp only[zD1] at h1 h2 ⊢
  by_cases e1:a<b
  ·rw[if_pos e1] at h1 ⊢
   by_cases e2:b<c
   ·rw[if_pos (show a<c by omega)];omega
   ·by_cases e3:c<b
    ·rw[if_neg e2,if_pos e3] at h2;omega
    ·rw[if_pos (show a<c by omega)];omega
  ·by_cases e1':b<a
   ·rw[if_neg e1,if_pos e1'] at h1;omega
   ·have hab:a=b:=by omega
    subst hab
    rw[if_neg e1,if_neg e1] at h1 ⊢
    by_cases e2:a<c
    ·rw[if_pos e2];omega
    ·by_cases e3:c<a
     ·rw[if_neg e2,if_pos e3] at h2;omega
     ·simp only[if_neg e2,if_neg e3] at h2 ⊢
      exact ih h1 h2
abbrev ER(W:World)(g:Nat):={ p:List Int × Value // ∀w',zAF (fun k=>some g=some k) W w'→zAG w' p.2 p.1 }
instance (W:World) (g:Nat):Inhabited (ER W g):=⟨⟨([],.slice none 0 0),fun _ _=>zAG.nil _⟩⟩
def zO2{W:World}{g:Nat}(p:ER W g):Value:=p.1.2
def cfR{W:World}{g:Nat}(p q:ER W g):Int:=zD1 p.1.1 q.1.1
theorem ltR{W:World}{g:Nat}(p q:ER W g):ltOf cfR p q=decide (zD1 p.1.1 q.1.1<0):=by
 unfold ltOf cfR
 rfl
theorem zWd{W:World}{g:Nat}:SWO (ltOf (cfR (W:=W) (g:=g))) where
 irrefl x:=by
  rw[ltR]
  have:=zDZ x.1.1 x.1.1
  simp
  omega
 trans x y z h1 h2:=by
  rw[ltR] at *
  simp only[decide_eq_true_eq] at *
  exact (zHg x.1.1 y.1.1 z.1.1 (by omega) (by omega)).2 (Or.inl h1)
 ntrans x y z h1 h2:=by
  rw[ltR] at *
  simp only[decide_eq_false_iff_not] at *
  have a1:=zDZ x.1.1 y.1.1
  have a2:=zDZ y.1.1 z.1.1
  have a3:=zDZ x.1.1 z.1.1
  have:=(zHg z.1.1 y.1.1 x.1.1 (by omega) (by omega)).1
  omega
theorem zEM{α:Type}[Inhabited α]{enc:α→Value}{w:World}{g n:Nat}{os:Array Obj}(d:Array α):w.grownBy (sortWorld enc w g 0 n d os) (some g):=by
 unfold sortWorld
 refine ⟨rfl,rfl,rfl,by simp,fun k hk hne=>?_⟩
 rw[heap_grow_old _ _ (by simpa using hk)]
 have:g≠k:=fun e=>hne (by rw[e])
 simp[putRow,mapBlock,Sort.ahead,Array.getElem?_modify,this]
theorem zRF{W:World}{g:Nat}:∀(rows:List (List Value)) (l:List (List Int)),rows.length=l.length→(∀(i:Nat) (r:List Value) (x:List Int),rows[i]?=some r→l[i]?=some x→∃q:ER W g,r=[zO2 q]∧q.1.1=x)→∃es:List (ER W g),es.map (·.1.1)=l∧es.map (fun q=>[zO2 q])=rows
 | [],[],_,_=>⟨[],rfl,rfl⟩
 | [],_::_,h,_=>by simp at h
 | _::_,[],h,_=>by simp at h
 | r::rows,x::l,h,hq=>by
  obtain ⟨q,hr,hx⟩:=hq 0 r x rfl rfl
  obtain ⟨es,h1,h2⟩:=zRF rows l (by simpa using h) (fun i r x hr hx=>hq (i+1) r x (by simpa using hr) (by simpa using hx))
  exact ⟨q::es,by simp[h1,hx],by simp[h2,hr]⟩
set_option maxRecDepth 100000 in
theorem zNG(base g cap:Nat)(l:List (List Int))(W:World)(ho:zAK 1 zLG (fun _=>False) W 36 base (.slice (some ⟨g,0,none⟩) l.length cap) l) :
  Calls Tryz.prog 105 #[.slice (some ⟨g,0,none⟩) l.length cap,.func (.func 106) #[] #[]] W fun e w'=>e=.returned (.tuple #[]) ∧
   ∃l',zAZ 1 zLG w' (.slice (some ⟨g,0,none⟩) l.length cap) l'∧l'.Perm l∧l'.Pairwise (fun x y=>zD1 x y≤0)∧W.grownBy w' (some g):=by
 have htop:=ho.top
 obtain ⟨_,_,ev,hcap,⟨_,hcm,_⟩,_⟩:=ho.isRow.opened
 simp only[Value.slice.injEq,true_and] at ev
 obtain ⟨rfl,rfl⟩:=ev
 have hgl:g<W.heap.size:=(ho.lt g rfl).2
 obtain ⟨rows,r1,r2,r3,r4⟩:=ho.row
 obtain ⟨es,he1,he2⟩:=zRF (W:=W) (g:=g) rows l r2 (fun i r x hr hx=>by
  have hf:=r4 i r x hr hx
  obtain ⟨u,rfl,hu⟩:=hf.now
  refine ⟨⟨(x,u),fun w' hw'=>?_⟩,rfl,rfl⟩
  obtain ⟨u',e,hu'⟩:=hf w' (hw'.mono fun k _ hk=>Or.inl hk)
  simp only[List.cons.injEq,and_true] at e
  rw[e]
  exact hu')
 have hel:es.length=l.length:=by rw[←he1,List.length_map]
 have hH:Holds zO2 W g 0 es.toArray:=by
  intro t ht
  have ht':t<es.length:=by simpa using ht
  have hg:es[t]?=some es[t]:=List.getElem?_eq_getElem ht'
  have hrow:rows[t]?=some [zO2 es[t]]:=by rw[←he2,List.getElem?_map,hg];rfl
  have hcell:=r1.cells (g:=g) rfl _ _ (zCw (j:=0) (fun r hr=>(r3 r hr).1) hrow rfl)
  rw[zA7,Nat.mul_one,Nat.add_zero] at hcell
  refine ⟨?_,by rw[Nat.zero_add];exact ho.free rfl t⟩
  rw[Nat.zero_add,hcell]
  simp[ht']
 have hone:OneCell (zO2 (W:=W) (g:=g)):=fun q=>by
  obtain ⟨a,c,e,_⟩:=(q.2 W (zAF.refl _ _)).opened
  unfold zO2
  rw[e]
  rfl
 have hcmp:CmpLays1 Tryz.prog 106 #[] (zO2 (W:=W) (g:=g)) cfR g 0 es.toArray.size W:=fun m os dk _ x y=>by
  have hd:zAF (fun k=>some g=some k) W (sortWorld zO2 W g 0 m dk os):=zAF.of_grown (zEM dk)
  refine (zMg (zO2 x) (zO2 y) x.1.1 y.1.1 _ (x.2 _ hd) (y.2 _ hd)).mono ?_
  rintro e w' ⟨rfl,rfl⟩
  exact ⟨rfl,0,#[],by rw[grow_empty];rfl⟩
 have hcon:=Any.slices_SortFunc zLm zO2 hone cfR zWd 106 #[] g 0 cap es.toArray W (fun _ _=>rfl) hcmp hH hgl (by simp;omega)
 simp only[List.size_toArray,hel] at hcon
 refine hcon.mono ?_
 rintro e w' ⟨rfl,d',n,os,⟨p1,_,p3⟩,hs,rfl⟩
 have hsz':d'.size=es.length:=by simpa using p1
 have hperm:d'.toList.Perm es:=by
  have e1:d'.extract 0 l.length=d':=by rw[←hel,←hsz'];simp
  have e2:es.toArray.extract 0 l.length=es.toArray:=by rw[←hel];simp
  rw[e1,e2] at p3
  simpa using p3
 have hl:(d'.toList.map (·.1.1)).Perm l:=by rw[←he1];exact hperm.map _
 have hH':=holds_sortWorld zO2 W g 0 n es.toArray d' os hgl hH (by simpa using hsz')
 have hdirty:zAF (fun k=>some g=some k) W (sortWorld zO2 W g 0 n d' os):=zAF.of_grown (zEM d')
 have hlen:(d'.toList.map (·.1.1)).length=l.length:=hl.length_eq
 refine ⟨rfl,d'.toList.map (·.1.1),?_,hl,?_,zEM d'⟩
 ·refine ⟨some ⟨g,0,none⟩,cap,by rw[hlen],by omega,⟨by omega,by omega,fun e=>by cases e⟩,fun i x hx=>⟨g,0,rfl,?_⟩⟩
  have hi:i<d'.size:=by
   have:=(List.getElem?_eq_some_iff.1 hx).1
   simpa using this
  have hx':x=d'[i].1.1:=by
   rw[List.getElem?_map,Array.getElem?_toList,Array.getElem?_eq_getElem hi] at hx
   simpa using hx.symm
  subst hx'
  refine ⟨[zO2 d'[i]],rfl,fun j c hj=>?_,_,rfl,d'[i].2 _ hdirty⟩
  cases j with
  | zero =>
   have hc:=(hH' i hi).1
   have:d'[i]! = d'[i]:=by simp[hi]
   rw[this] at hc
   simp at hj
   subst hj
   simpa using hc
  | succ j=>simp at hj
 ·rw[List.pairwise_iff_getElem]
  intro i j hi hj hij
  have hi':i<d'.size:=by simpa using hi
  have hj':j<d'.size:=by simpa using hj
  have h2:=hs i j (Nat.zero_le _) hij (by omega)
  rw[ltR] at h2
  have h3:=zDZ d'[i].1.1 d'[j].1.1
  simp[hi',hj'] at h2 ⊢
  omega
set_option maxRecDepth 100000 in
theorem zMe(base:Nat)(v:Value)(l:List (List Int))(W:World)(ho:zAK 1 zLG (fun _=>False) W 36 base v l)(hl:l≠[]) :
  Calls Tryz.prog 105 #[v,.func (.func 106) #[] #[]] W fun e w'=>e=.returned (.tuple #[]) ∧
   ∃l',zAZ 1 zLG w' v l'∧l'.Perm l∧l'.Pairwise (fun x y=>zD1 x y≤0)∧W.grownBy w' v.ownBlock:=by
 rcases ho.shape with ⟨_,e⟩|⟨g,cap,cur,rfl,_⟩
 ·exact absurd e hl
 ·exact zNG base g cap l W ho
theorem zN2:(Tryz.prog.info? 64).map (fun i=>(i.zero,i.size,i.bytes))=some (some (.agg #[.int .i64 0,.slice none 0 0]),2,32):=by kernel_rfl
theorem zNE(w:World)(l:List Value)(T:TypeId)(n:Nat)(hn:n=w.heap.size):∀j u,l[j]?=some u→(w.alloc (.cells l.toArray T)).cell? ((⟨n,0,none⟩:Addr).add j)=some u:=by
 intro j u h
 subst hn
 rw[zA7]
 unfold World.cell? World.alloc
 simpa using h
theorem zSM{x y:Value}{a b:Int}(h:a=b):Ending.returned (.tuple #[x,y,.int .i64 a])=.returned (.tuple #[x,y,.int .i64 b]):=by rw[h]
theorem zCX{g:Nat}{W w:World}(h:zAD g W w):∀n,zAD g W (w.drewN n)
 | 0=>h
 | n+1=>(zCX h n).drew
theorem zB4(w:World)(n:Nat):Below w.heap.size w (w.drewN n):=(zCX (zAD.refl w) n).below
def zMh(w:World)(base:Nat)(v:Value):Option (List Int × List Int)→Prop
 | none=>v=.pointer none
 | some b=>∃(q:Nat) (a1:Option Addr) (n1 c1:Nat) (a2:Option Addr) (c2:Nat),v=.pointer (some ⟨q,0,none⟩)∧base≤q∧w.cell? ⟨q,0,none⟩=some (.slice a1 n1 c1)∧w.cell? ⟨q,1,none⟩=some (.slice a2 b.2.length c2)∧zAJ w 3 (q+1) (.slice a2 b.2.length c2) b.2∧∀w',zAF (fun k=>q≤k) w w'→zAG w' (.slice a1 n1 c1) b.1
theorem zMh.stays{w w':World}{base:Nat}{v:Value}{st:Option (List Int × List Int)}(h:zMh w base v st)(hb:Below w.heap.size w w'):zMh w' base v st:=by
 cases st with
 | none=>exact h
 | some b =>
  obtain ⟨q,a1,n1,c1,a2,c2,h1,h2,h3,h4,h5,h6⟩:=h
  exact ⟨q,a1,n1,c1,a2,c2,h1,h2,zAA hb h3,zAA hb h4,h5.stays hb,fun w'' hw=>h6 w'' ((zAF.old hb _).trans hw)⟩
theorem zRa{w3 w:World}{v:Value}{d:List Int}(h:zAG w3 v d)(hS:zAD w3.heap.size w3 w):∀w',zAF (fun k=>w3.heap.size≤k) w w'→zAG w' v d:=fun w' hw =>
 h.framed (fun k hk hne=>by have:=h.block_lt k hk hne;omega) ((zAF.of_below hS.below hS.2).trans hw)
def zGJ(M:Sh→Bool)(l:List Sh):List Int:=(l.filter fun t => !M t).map (·.1)
theorem zUv{M:Sh→Bool}{l:List Sh}{k:Nat}{t:Sh}(h:l[k]?=some t)(hM:M t=true):zGJ M (l.take (k+1))=zGJ M (l.take k):=by
 unfold zGJ
 rw[List.take_add_one,h]
 simp[hM]
theorem zTT{M:Sh→Bool}{l:List Sh}{k:Nat}{t:Sh}(h:l[k]?=some t)(hM:M t=false):zGJ M (l.take (k+1))=zGJ M (l.take k)++[t.1]:=by
 unfold zGJ
 rw[List.take_add_one,h]
 simp[hM]
theorem zTR(M:Sh→Bool)(l:List Sh):(zGJ M l).length≤l.length:=by
 unfold zGJ
 rw[List.length_map]
 exact List.length_filter_le _ _
theorem zQw{ls:List Sh}{c:List Int}{j m:Nat}{t:Sh}(h:c[j]?=some (m:Int))(ht:ls[m]?=some t):zCz ls (c.take (j+1))=zCz ls (c.take j)++[t]:=by
 unfold zCz
 rw[List.take_add_one,h]
 simp[List.getD_eq_getElem?_getD,ht]
theorem zPp{n len:Nat}(h:n≤len):zCT n len (2 ^ len)≠[]:=by
 rw[zJg]
 have hp:(zBi len).length=len:=by simp[zBi]
 have:(zBi len).take n∈zH7 n len:=zNM.2 ⟨List.take_sublist _ _,by rw[List.length_take,hp];omega⟩
 exact List.ne_nil_of_mem this
theorem zPz{n:Nat}{ls:List Sh}(hn:0<n){c:List Int}(h:c∈zEO n [] (zBi ls.length)):c.length=n∧(zCz ls c).Sublist ls∧(zCz ls c).length=n∧∀z∈c,∃m:Nat,z=(m:Int)∧m<ls.length:=by
 obtain ⟨q,hq,h1,h2⟩:=(zDT (by simpa using hn)).1 h
 rw[List.nil_append] at hq
 subst hq
 refine ⟨by simpa using h2,?_,by unfold zCz;simpa using h2,fun z hz=>?_⟩
 ·have:=List.Sublist.map (fun i:Int=>ls.getD i.toNat (0,[])) h1
  rw[show (zBi ls.length).map (fun i:Int=>ls.getD i.toNat (0,[]))=ls from zGg ls] at this
  exact this
 ·have hz:=h1.subset hz
  unfold zBi at hz
  obtain ⟨m,hm,rfl⟩:=List.mem_map.1 hz
  exact ⟨m,rfl,by simpa using hm⟩
theorem zTN(n len:Nat)(hl:len≤8)(hn:0<n):(zEO n [] (zBi len)).length≤256:=by
 rw[←(zKQ (n:=n) (len:=len) hn).length_eq]
 refine Nat.le_trans (zM6 n len (2 ^ len)) ?_
 calc 2 ^ len≤2 ^ 8:=Nat.pow_le_pow_right (by omega) (by omega)
  _=256:=rfl
theorem zR0{α β:Type}(f:α→β→α){l:List β}{k:Nat}{c:β}(h:l[k]?=some c)(a:α):(l.take (k+1)).foldl f a=f ((l.take k).foldl f a) c:=by
 rw[List.take_add_one,h]
 simp
theorem zTq{n s:Nat}{ls pk:List Sh}{st:Option (List Int × List Int)}(h:zC6 n s pk=false):zDL n s ls pk st=st:=by
 unfold zDL
 rw[if_neg (by simp[h])]
theorem zOM{n s:Nat}{ls pk:List Sh}(h:zC6 n s pk=true):zDL n s ls pk none=some (zFK n s pk,zGJ (zCj n s pk) ls):=by
 unfold zDL
 rw[if_pos h]
 rfl
theorem zNL{n s:Nat}{ls pk:List Sh}{b:List Int × List Int}(h:zC6 n s pk=true)(hl:(zGJ (zCj n s pk) ls).length<b.2.length):zDL n s ls pk (some b)=some (zFK n s pk,zGJ (zCj n s pk) ls):=by
 unfold zDL
 rw[if_pos h]
 exact if_pos hl
theorem zOT{n s:Nat}{ls pk:List Sh}{b:List Int × List Int}(h:zC6 n s pk=true)(hl:¬(zGJ (zCj n s pk) ls).length<b.2.length):zDL n s ls pk (some b)=some b:=by
 unfold zDL
 rw[if_pos h]
 exact if_neg hl
end Go.Proofs.YthgmphbkkojaoaaGreat
