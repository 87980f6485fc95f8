/-
  The plain laws of a mesh: what is there of a version; who was given what. The plain laws of a save: what was saved is there, each share at another peer; elder versions are as they were. What an audit answers, in plain Lean: who is to blame, how many shares lack, how many are to spare.
-/
import Derived.Test.YthgmphbkkojaoaaGreatQVotes
import Derived.Test.YthgmphbkkojaoaaGreatQMends
namespace Go.Proofs.YthgmphbkkojaoaaGreat
set_option linter.unusedSectionVars false
variable [Zn]
theorem zCt(v:Int)(ps:List Pr):zAS v ps=(ps.map (zAk v)).foldl zFL []:=by
 unfold zAS
 rw[List.foldl_map]
theorem zSI(os:List (Option Sh)):∀(l:List Sh),((l++os.filterMap id).map (·.1)).Nodup→os.foldl zFL l=l++os.filterMap id:=by
 induction os with
 | nil=>intro l _;simp
 | cons o os ih =>
  intro l h
  cases o with
  | none =>
   have:=ih l (by simpa using h)
   simpa[zFL] using this
  | some s =>
   have hn:l.any (fun t=>decide (t.1=s.1))=false:=by
    rw[List.any_eq_false]
    intro t ht he
    simp only[decide_eq_true_eq] at he
    simp only[List.filterMap_cons,id,List.map_append,List.map_cons,List.nodup_append] at h
    exact h.2.2 t.1 (List.mem_map.2 ⟨t,ht,rfl⟩) s.1 (by simp) he
   have ha:zFL l (some s)=l++[s]:=by unfold zFL;simp[hn]
   rw[List.foldl_cons,ha,ih _ (by simpa using h)]
   simp
theorem zGU{v:Int}{ps:List Pr}(h:((ps.filterMap (zAk v)).map (·.1)).Nodup):zAS v ps=ps.filterMap (zAk v):=by
 have e:(ps.map (zAk v)).filterMap id=ps.filterMap (zAk v):=by rw[List.filterMap_map];rfl
 rw[zCt,zSI _ [] (by rw[List.nil_append,e];exact h),e]
 simp
theorem zEd{v:Int}{p:Pr}{s:Sh}(h:zAk v p=some s):p.1=true∧∃x∈p.2.2,x.1=v∧x.2=s∧zA9 v p.2.2=some x:=by
 unfold zAk at h
 split at h
 ·rename_i ht
  refine ⟨ht,?_⟩
  cases hk:zA9 v p.2.2 with
  | none=>rw[hk] at h;simp at h
  | some x =>
   rw[hk] at h
   simp at h
   have h1:=List.mem_of_find?_eq_some hk
   have h2:=List.find?_some hk
   exact ⟨x,h1,by simpa using h2,h,rfl⟩
 ·cases h
theorem zHS{v:Int}{p:Pr}(h:p.1=false):zAk v p=none:=by unfold zAk;simp[h]
theorem zCY{v:Int}{p:Pr}{x:Kp}(h:p.1=true)(hx:zA9 v p.2.2=some x):zAk v p=some x.2:=by unfold zAk;simp[h,hx]
theorem zCh{b:List Ver}{k:Nat}{x:Ver}(h:b[k]?=some x):zAO b (k:Int)=x.2:=by unfold zAO;simp[h]
theorem zFi{v:Int}{x:Kp}:∀{l:List Kp},(∀y∈l,y.1≠x.1)→zA9 v (zDF x l)=if x.1=v then some x else zA9 v l
 | [],_=>by
  unfold zDF zA9
  by_cases h:x.1=v<;>simp[h]
 | y::r,h=>by
  have hy:=h y (by simp)
  have ih:=zFi (v:=v) (x:=x) (l:=r) (fun z hz=>h z (by simp[hz]))
  unfold zA9 at ih ⊢
  unfold zDF
  by_cases hlt:y.1<x.1
  ·rw[if_pos hlt]
   by_cases hv:y.1=v
   ·rw[List.find?_cons_of_pos (by simpa using hv),List.find?_cons_of_pos (by simpa using hv),if_neg (by omega)]
   ·rw[List.find?_cons_of_neg (by simpa using hv),List.find?_cons_of_neg (by simpa using hv),ih]
  ·rw[if_neg hlt]
   by_cases hxv:x.1=v
   ·rw[List.find?_cons_of_pos (by simpa using hxv),if_pos hxv]
   ·rw[List.find?_cons_of_neg (by simpa using hxv),if_neg hxv]
theorem zDV{b:List Ver}{p:Pr}{k:Kp}(h:zBN b p k=0):zBk b p∧(∀y∈p.2.2,y.1≠k.1)∧zBk b (zET p k)∧(p.2.2.length:Int)<p.2.1:=by
 unfold zBN at h
 by_cases h0:zBG b p=0
 ·rw[if_neg (by simpa using h0)] at h
  by_cases h1:(p.2.2.length:Int)=p.2.1
  ·rw[if_pos h1] at h;simp at h
  ·rw[if_neg h1] at h
   by_cases h2:0≤zBy k.1 p.2.2 0
   ·rw[if_pos h2] at h;simp at h
   ·rw[if_neg h2] at h
    have h3:=zDD.1 h0
    have:=h3.few
    exact ⟨h3,(zFg (k:=0)).1 (by omega),zDD.1 h,by omega⟩
 ·rw[if_pos h0] at h
  exact absurd h h0
theorem zPQ{b:List Ver}{v:Int}{ss:List Sh}:∀(cs:List Int) (i:Nat) (ps:List Pr),cs.Nodup→(∀c∈cs,0≤c∧c<ps.length)→i+cs.length≤ss.length→(zGR b v ss cs i ps).1=0 →
  (zGR b v ss cs i ps).2.length=ps.length∧(∀(k:Nat),(k:Int)∉cs→(zGR b v ss cs i ps).2[k]?=ps[k]?) ∧
  ∀(j k:Nat) p s,cs[j]?=some (k:Int)→ps[k]?=some p→ss[i+j]?=some s→zBN b p (v,s)=0∧(zGR b v ss cs i ps).2[k]?=some (zET p (v,s))
 | [],i,ps,_,_,_,_=>⟨rfl,fun _ _=>rfl,fun j k p s h=>by simp at h⟩
 | c::cs,i,ps,hn,hr,hl,h=>by
  obtain ⟨hc0,hc1⟩:=hr c (by simp)
  obtain ⟨m,rfl⟩:=Int.eq_ofNat_of_zero_le hc0
  have hm:m<ps.length:=by omega
  have hpm:ps[m]?=some ps[m]:=List.getElem?_eq_getElem hm
  have hi:i<ss.length:=by simp at hl;omega
  have hsi:ss[i]?=some ss[i]:=List.getElem?_eq_getElem hi
  have hn':=List.nodup_cons.1 hn
  by_cases hk:zBN b ps[m] (v,ss[i])=0
  ·rw[zLR rfl hpm hsi hk,zIZ hk] at h ⊢
   obtain ⟨h1,h2,h3⟩:=zPQ cs (i+1) (ps.set m (zET ps[m] (v,ss[i]))) hn'.2 (fun c hc=>by rw[List.length_set];exact hr c (by simp[hc])) (by simp at hl;omega) h
   rw[List.length_set] at h1
   refine ⟨h1,fun k hk'=>?_,fun j k p s hj hp hs=>?_⟩
   ·simp only[List.mem_cons,not_or] at hk'
    rw[h2 k hk'.2,List.getElem?_set,if_neg (by intro e;subst e;exact hk'.1 rfl)]
   ·match j,hj with
    | 0,hj =>
     simp only[List.getElem?_cons_zero,Option.some.injEq] at hj
     obtain rfl:m=k:=by omega
     rw[hpm] at hp
     cases hp
     rw[Nat.add_zero,hsi] at hs
     cases hs
     refine ⟨hk,?_⟩
     rw[h2 m (fun hm'=>hn'.1 hm'),List.getElem?_set,if_pos rfl,if_pos hm]
    | j+1,hj =>
     have hj':cs[j]?=some (k:Int):=by simpa using hj
     have hmk:m≠k:=by intro e;subst e;exact hn'.1 (List.mem_of_getElem? hj')
     exact h3 j k p s hj' (by rw[List.getElem?_set,if_neg hmk];exact hp) (by rw[show i+1+j=i+(j+1) by omega];exact hs)
  ·rw[zNz rfl hpm hsi hk] at h
   exact absurd h hk
theorem zHn(v:Int)(l:List Pr):(zOs v l).Nodup:=((zE6 v l).nodup_iff).2 ((zFT v l l.length).imp (fun h=>by omega))
theorem zPU{v:Int}{l:List Pr}{c:Int}(h:c∈zOs v l):∃(k:Nat) (p:Pr),c=k∧l[k]?=some p∧zG1 v p=true:=by
 have h1:=zD3.1 ((zE6 v l).mem_iff.1 h)
 obtain ⟨k,rfl⟩:=Int.eq_ofNat_of_zero_le h1.1.1
 have hk:k<l.length:=by omega
 have hg:l[k]?=some l[k]:=List.getElem?_eq_getElem hk
 have h2:=h1.2
 rw[zFX hg] at h2
 exact ⟨k,_,rfl,hg,h2⟩
structure Put (b:List Ver) (v:Int) (ss:List Sh) (ps qs:List Pr) (cs:List Int):Prop where
 len:qs.length=ps.length
 many:cs.length=ss.length
 nodup:cs.Nodup
 who:∀c∈cs,∃(k:Nat) (p:Pr),c=k∧ps[k]?=some p∧zG1 v p=true
 rest:∀(k:Nat),(k:Int)∉cs→qs[k]?=ps[k]?
 got:∀(j k:Nat) p s,cs[j]?=some (k:Int)→ps[k]?=some p→ss[j]?=some s→zBN b p (v,s)=0∧qs[k]?=some (zET p (v,s))
theorem zO3{m:Me}{v:Int}{ss:List Sh}(h:zF8 m v ss=0):zAp m.1 m.2=0∧∃qs cs,zGk m v ss=(m.1,qs)∧Put m.1 v ss m.2 qs cs:=by
 unfold zGk
 rw[if_neg (by simpa using h)]
 unfold zF8 at h
 by_cases h0:zGh m.1 m.2 v ss.length=0
 ·rw[if_neg (by simpa using h0)] at h
  have h1:zAp m.1 m.2=0:=by
   by_cases h9:zAp m.1 m.2=0
   ·exact h9
   ·rw[zOv _ _ h9] at h0;exact absurd h0 h9
  obtain ⟨h2,h3⟩:=zIX h0
  have hn:(zIQ m.1 m.2 v ss.length).Nodup:=by rw[zFA h0];exact (zHn v m.2).sublist (List.take_sublist _ _)
  obtain ⟨g1,g2,g3⟩:=zPQ (zIQ m.1 m.2 v ss.length) 0 m.2 hn h3 (by omega) h
  exact ⟨h1,_,_,rfl,g1,h2,hn,fun c hc=>zPU (by rw[zFA h0] at hc;exact List.mem_of_mem_take hc),g2,fun j k p s hj hp hs=>g3 j k p s hj hp (by simpa using hs)⟩
 ·rw[if_pos h0] at h
  exact absurd h h0
section
variable {b : List Ver} {v : Int} {ss : List Sh} {ps qs : List Pr} {cs : List Int}
theorem Put.each(h:Put b v ss ps qs cs){k:Nat}{p q:Pr}(hp:ps[k]?=some p)(hq:qs[k]?=some q):q=p∨∃(j:Nat) (s:Sh),cs[j]?=some (k:Int)∧ss[j]?=some s∧zBN b p (v,s)=0∧zG1 v p=true∧q=zET p (v,s):=by
 by_cases hk:(k:Int)∈cs
 ·right
  obtain ⟨j,hj⟩:=List.getElem?_of_mem hk
  have hjl:=(List.getElem?_eq_some_iff.1 hj).1
  have hm:=h.many
  have hsj:ss[j]?=some ss[j]:=List.getElem?_eq_getElem (by omega)
  obtain ⟨h1,h2⟩:=h.got j k p _ hj hp hsj
  rw[hq] at h2
  cases h2
  obtain ⟨k',p',e,hp',hc⟩:=h.who _ hk
  obtain rfl:k=k':=by omega
  rw[hp] at hp'
  cases hp'
  exact ⟨j,_,hj,hsj,h1,hc,rfl⟩
 ·left
  have:=h.rest k hk
  rw[hp,hq] at this
  exact Option.some.inj this
theorem Put.get(h:Put b v ss ps qs cs){k:Nat}{q:Pr}(hq:qs[k]?=some q):∃p,ps[k]?=some p:=by
 have:=(List.getElem?_eq_some_iff.1 hq).1
 exact ⟨_,List.getElem?_eq_getElem (by have:=h.len;omega)⟩
theorem Put.right(h:Put b v ss ps qs cs)(hm:zAp b ps=0):zAp b qs=0:=by
 obtain ⟨h1,h2,h3⟩:=zAU.1 hm
 refine zAU.2 ⟨h1,by have:=h.len;omega,fun q hq=>?_⟩
 obtain ⟨k,hk⟩:=List.getElem?_of_mem hq
 obtain ⟨p,hp⟩:=h.get hk
 rcases h.each hp hk with rfl|⟨j,s,_,_,h4,_,rfl⟩
 ·exact h3 _ (List.mem_of_getElem? hp)
 ·exact (zDV h4).2.2.1
theorem zFw{p:Pr}{k:Kp}(h:∀y∈p.2.2,y.1≠k.1):zA9 k.1 (zET p k).2.2=some k:=by
 unfold zET
 simp only
 rw[zFi h,if_pos rfl]
end
theorem zBJ.left{b:List Ver}{x:Ver}(h:zBJ (b++[x])):zBJ b:=by
 refine ⟨by have:=h.top;simp at this;omega,fun k v hk=>?_,fun k v hk=>?_⟩
 ·have hl:=(List.getElem?_eq_some_iff.1 hk).1
  exact h.par k v (by rw[List.getElem?_append_left hl];exact hk)
 ·have hl:=(List.getElem?_eq_some_iff.1 hk).1
  exact h.plan k v (by rw[List.getElem?_append_left hl];exact hk)
structure zBF (m:Me) (data pr:List Int) (n o:Nat) (qs:List Pr) (cs:List Int):Prop where
 mesh:zAp m.1 m.2=0
 split:zAe n o data.length data=0
 book:zAp (m.1++[zB9 data pr n o]) m.2=0
 put:Put (m.1++[zB9 data pr n o]) m.1.length (zAV n data o (zAM n data.length)) m.2 qs cs
theorem zVq{m:Me}{data pr:List Int}{n o:Int}(h:zEK m data pr n o=0):∃(n' o':Nat) (qs:List Pr) (cs:List Int),n=n'∧o=o'∧zD5 m data pr n o=(m.1++[zB9 data pr n o],qs)∧zBF m data pr n' o' qs cs:=by
 by_cases h0:zA2 m=0
 ·by_cases h1:zAe n o data.length data=0
  ·by_cases h2:zBz m.1 (zB9 data pr n o)=0
   ·obtain ⟨h3,h4⟩:=zI4 h0 h1 h2
    rw[h3] at h
    obtain ⟨n',o',s',rfl,rfl,e⟩:=zCq (zCJ h1).1
    have:s'=data.length:=by omega
    subst this
    rw[zLa h2,zBw h1] at h h4
    obtain ⟨h5,qs,cs,h6,h7⟩:=zO3 h
    exact ⟨n',o',qs,cs,rfl,rfl,h4.trans h6,h0,h1,h5,h7⟩
   ·rw[(zJX h0 h1 h2).1] at h
    exact absurd h h2
  ·rw[(zJV h0 h1).1] at h
   exact absurd h h1
 ·rw[(zJo h0).1] at h
  exact absurd h h0
theorem zEL{α β γ:Type}{f:α→Option β}{g:β→γ}{l:List α}(h:∀(i j:Nat) x y s t,i≠j→l[i]?=some x→l[j]?=some y→f x=some s→f y=some t→g s≠g t):((l.filterMap f).map g).Nodup:=by
 rw[List.Nodup,List.pairwise_map,List.pairwise_filterMap,List.pairwise_iff_getElem]
 intro i j hi hj hij s hs t ht
 exact h i j _ _ s t (by omega) (List.getElem?_eq_getElem hi) (List.getElem?_eq_getElem hj) hs ht
theorem zBF.none{m:Me}{data pr:List Int}{n o:Nat}{qs:List Pr}{cs:List Int}(h:zBF m data pr n o qs cs){p:Pr}(hp:p∈m.2):∀y∈p.2.2,y.1<(m.1.length:Int):=fun y hy=>(((zAU.1 h.mesh).2.2 p hp).each y hy).2.1
theorem zJM{v:Int}{l:List Kp}(h:∀y∈l,y.1≠v):zA9 v l=none:=by
 unfold zA9
 rw[List.find?_eq_none]
 intro y hy
 simpa using h y hy
section
variable {m : Me} {data pr : List Int} {n o : Nat} {qs : List Pr} {cs : List Int}
theorem zBF.right(h:zBF m data pr n o qs cs):zAp (m.1++[zB9 data pr n o]) qs=0:=h.put.right h.book
theorem zBF.kept(h:zBF m data pr n o qs cs){k:Nat}{q:Pr}{x:Kp}(hq:qs[k]?=some q)(hx:zA9 (m.1.length:Int) q.2.2=some x):∃j,j<o∧cs[j]?=some (k:Int)∧x=((m.1.length:Int),zAY n data (zAM n data.length) j)∧q.1=true:=by
 obtain ⟨p,hp⟩:=h.put.get hq
 have hnone:=h.none (List.mem_of_getElem? hp)
 rcases h.put.each hp hq with rfl|⟨j,s,h1,h2,h3,h4,rfl⟩
 ·rw[zJM (fun y hy=>by have:=hnone y hy;omega)] at hx
  cases hx
 ·have hj:j<o:=by
   have:=(List.getElem?_eq_some_iff.1 h2).1
   rwa [zBK] at this
  rw[zBX _ _ _ hj] at h2
  cases h2
  have hk:=zFw (p:=p) (k:=((m.1.length:Int),zAY n data (zAM n data.length) j)) (zDV h3).2.1
  rw[hk] at hx
  cases hx
  simp only[zG1,Bool.and_eq_true] at h4
  exact ⟨j,hj,h1,rfl,h4.1⟩
theorem zBF.given(h:zBF m data pr n o qs cs){j:Nat}(hj:j<o):∃(k:Nat) (q:Pr),cs[j]?=some (k:Int)∧qs[k]?=some q∧q.1=true∧zA9 (m.1.length:Int) q.2.2=some ((m.1.length:Int),zAY n data (zAM n data.length) j):=by
 have hm:=h.put.many
 rw[zBK] at hm
 have hcj:cs[j]?=some cs[j]:=List.getElem?_eq_getElem (by omega)
 obtain ⟨k,p,e,hp,hc⟩:=h.put.who _ (List.getElem_mem (by omega:j<cs.length))
 rw[e] at hcj
 obtain ⟨h1,h2⟩:=h.put.got j k p _ hcj hp (zBX _ _ _ hj)
 simp only[zG1,Bool.and_eq_true] at hc
 exact ⟨k,_,hcj,h2,hc.1,zFw (zDV h1).2.1⟩
end
def zBY(v:Int)(ps:List Pr):List Int:=ps.filterMap fun p=>(zAk v p).map (·.1)
end Go.Proofs.YthgmphbkkojaoaaGreat
