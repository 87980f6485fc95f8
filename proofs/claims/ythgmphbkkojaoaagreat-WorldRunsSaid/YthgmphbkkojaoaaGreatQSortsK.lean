/-
  slices.SortFunc at kept shares of which no two have one version, by what the library proves of it. The library's slices.SortFunc, laid at this program: the numbers of this seat. slices.SortFunc at kept shares, over this program.
-/
import Derived.Shelf.SlSortCmp.WholeK
import Derived.Test.YthgmphbkkojaoaaGreatQDrops
import Derived.Shelf.SlLaysF0
set_option maxHeartbeats 1000000
namespace Go.Proofs.YthgmphbkkojaoaaGreat
set_option linter.unusedSectionVars false
variable [Zn]
open Go.Shelf Go.RowKit Go.Sort
theorem zSb{c r:List Kp}(hc:c.Pairwise (fun a b=>a.1<b.1))(hr:r.Pairwise (fun a b=>a.1<b.1))(h:∀x,x∈c↔x∈r):c=r:=by
 induction c generalizing r with
 | nil=>cases r with
  | nil=>rfl
  | cons y r=>have:=(h y).2 (by simp);simp at this
 | cons x c ih=>cases r with
  | nil=>have:=(h x).1 (by simp);simp at this
  | cons y r =>
   have hc':=List.pairwise_cons.1 hc
   have hr':=List.pairwise_cons.1 hr
   have hxy:x=y:=by
    have h1:x=y∨x∈r:=by simpa using (h x).1 (by simp)
    have h2:y=x∨y∈c:=by simpa using (h y).2 (by simp)
    rcases h1 with h1|h1
    ·exact h1
    ·rcases h2 with h2|h2
     ·exact h2.symm
     ·have a1:=hr'.1 x h1
      have a2:=hc'.1 y h2
      omega
   subst hxy
   rw[ih hc'.2 hr'.2 (fun z=>?_)]
   have hz:=h z
   simp only[List.mem_cons] at hz
   constructor
   ·intro hzc
    rcases hz.1 (Or.inr hzc) with rfl|hh
    ·have:=hc'.1 z hzc;omega
    ·exact hh
   ·intro hzr
    rcases hz.2 (Or.inr hzr) with rfl|hh
    ·have:=hr'.1 z hzr;omega
    ·exact hh
abbrev EK:=Kp × (Option Addr × Nat × Nat)
def zLs(p:EK):List Value:=[.int .i64 p.1.1,.int .i64 p.1.2.1,.slice p.2.1 p.2.2.1 p.2.2.2]
def cfK(p q:EK):Int:=if p.1.1<q.1.1 then -1 else 1
theorem ltK(p q:EK):ltOf cfK p q=decide (p.1.1<q.1.1):=by
 unfold ltOf cfK
 by_cases h:p.1.1<q.1.1<;>simp[h]
theorem zWa:SWO (ltOf cfK) where
 irrefl x:=by rw[ltK];simp
 trans x y z h1 h2:=by rw[ltK] at *;simp at *;omega
 ntrans x y z h1 h2:=by rw[ltK] at *;simp at *;omega
theorem zOw(x:EK):(zLs x).length=3:=rfl
theorem zTB(x:EK):∀v∈zLs x,v.oneCell'=true:=by
 intro v hv
 simp[zLs] at hv
 rcases hv with rfl|rfl|rfl<;>rfl
theorem zPM:∀(rows:List (List Value)) (l:List Kp),rows.length=l.length→(∀(i:Nat) (r:List Value) (x:Kp),rows[i]?=some r→l[i]?=some x→∃q,r=zLs (x,q))→∃es:List EK,es.map (·.1)=l∧es.map zLs=rows
 | [],[],_,_=>⟨[],rfl,rfl⟩
 | [],_::_,h,_=>by simp at h
 | _::_,[],h,_=>by simp at h
 | r::rows,x::l,h,hq=>by
  obtain ⟨q,hr⟩:=hq 0 r x rfl rfl
  obtain ⟨es,h1,h2⟩:=zPM rows l (by simpa using h) (fun i r x hr hx=>hq (i+1) r x (by simpa using hr) (by simpa using hx))
  exact ⟨(x,q)::es,by simp[h1],by simp[h2,hr]⟩
set_option maxRecDepth 100000 in
theorem zOI(x y:EK)(W:World):Calls Tryz.prog 103 #[.agg (zLs x).toArray,.agg (zLs y).toArray] W fun e w'=>e=.returned (.int .i64 (cfK x y))∧∃q os',w'=grow (W.drewN q) os':=by
 obtain ⟨⟨xv,xn,xl⟩,xa,xm,xc⟩:=x
 obtain ⟨⟨yv,yn,yl⟩,ya,ym,yc⟩:=y
 have hg:(W.alloc (.cells #[.int .i64 xv,.int .i64 xn,.slice xa xm xc] 66)).alloc (.cells #[.int .i64 yv,.int .i64 yn,.slice ya ym yc] 66)=grow (W.drewN 0) #[.cells #[.int .i64 xv,.int .i64 xn,.slice xa xm xc] 66,.cells #[.int .i64 yv,.int .i64 yn,.slice ya ym yc] 66]:=by
  rw[alloc_eq_grow,alloc_eq_grow,grow_grow];rfl
 have HG:=Zh hg
 clear hg
 change Calls Tryz.prog 103 #[.agg #[.int .i64 xv,.int .i64 xn,.slice xa xm xc],.agg #[.int .i64 yv,.int .i64 yn,.slice ya ym yc]] W _
 by_cases h:xv<yv
 ·have HC:=Zh (show cfK ((xv,xn,xl),xa,xm,xc) ((yv,yn,yl),ya,ym,yc) = -1 by simp[cfK,h])
  go_enter Tryz.func103,Tryz.ntmps103
  go_wp2_with fail
  go_ret
  exact ⟨zAL HC.out.symm,0,_,HG.out⟩
 ·have HC:=Zh (show cfK ((xv,xn,xl),xa,xm,xc) ((yv,yn,yl),ya,ym,yc)=1 by simp[cfK,h])
  go_enter Tryz.func103,Tryz.ntmps103
  go_wp2_with fail
  go_ret
  exact ⟨zAL HC.out.symm,0,_,HG.out⟩
theorem zFd{w:World}{g n:Nat}{os:Array Obj}(d:Array EK):w.grownBy (sortWorldK zLs 3 w g 0 n d os) (some g):=by
 unfold sortWorldK putRowK
 refine ⟨rfl,rfl,rfl,by simp,fun k hk hne=>?_⟩
 rw[heap_grow_old _ _ (by simpa using hk)]
 have:g≠k:=fun e=>hne (by rw[e])
 simp[putRow,mapBlock,Sort.ahead,Array.getElem?_modify,this]
set_option maxRecDepth 100000 in
theorem zLc{ρ:Ren}(L:SlLaysF0.n6 Tryz.prog ρ)(h6:ρ.f 6=102)(h24:ρ.t 24=66)(E:Nat→Prop)(base g cap:Nat)(l:List Kp)(W:World)(ho:zAK 3 zAf E W 66 base (.slice (some ⟨g,0,none⟩) l.length cap) l)
  (hd:∀(i j:Nat) (x y:Kp),l[i]?=some x→l[j]?=some y→x.1=y.1→i=j) :
  Calls Tryz.prog 102 #[.slice (some ⟨g,0,none⟩) l.length cap,.func (.func 103) #[] #[]] W fun e w'=>e=.returned (.tuple #[]) ∧
   ∃l',(∀w'',zAF (fun k=>E k∧k≠g) w' w''→zAl w'' (.slice (some ⟨g,0,none⟩) l.length cap) l')∧(∀x,x∈l'↔x∈l)∧l'.Pairwise (fun x y=>x.1<y.1)∧W.grownBy w' (some g):=by
 have htop:=ho.top
 obtain ⟨_,_,ev,hcap,⟨_,hcm,_⟩,_⟩:=ho.isRow.opened
 simp only[Value.slice.injEq,true_and] at ev
 obtain ⟨rfl,rfl⟩:=ev
 have hgl:g<W.heap.size:=(ho.lt g rfl).2
 obtain ⟨rows,r1,r2,r3,r4⟩:=ho.row
 obtain ⟨es,he1,he2⟩:=zPM rows l r2 (fun i r x hr hx=>by
  obtain ⟨u,rfl,hu,_⟩:=(r4 i r x hr hx).now
  obtain ⟨a,c,rfl,_⟩:=hu.opened
  exact ⟨(a,x.2.2.length,c),rfl⟩)
 have hel:es.length=l.length:=by rw[←he1,List.length_map]
 have hrd:∀e∈es,zA3 (fun k=>some g=some k∨E k) zAf W (zLs e) e.1:=fun e he=>by
  obtain ⟨i,hi⟩:=List.getElem?_of_mem he
  exact r4 i _ _ (by rw[←he2,List.getElem?_map,hi];rfl) (by rw[←he1,List.getElem?_map,hi];rfl)
 have hH:HoldsK zLs 3 W g 0 es.toArray:=by
  intro t ht
  have ht':t<es.length*3:=by simpa using ht
  have hi:t / 3<es.length:=by omega
  have hq:t % 3<3:=Nat.mod_lt _ (by omega)
  have hg:es[t / 3]?=some es[t / 3]:=List.getElem?_eq_getElem hi
  have hrow:rows[t / 3]?=some (zLs es[t / 3]):=by rw[←he2,List.getElem?_map,hg];rfl
  have hc:(zLs es[t / 3])[t % 3]?=some (zLs es[t / 3])[t % 3]:=List.getElem?_eq_getElem (by rw[zOw];exact hq)
  have hcell:=r1.cells (g:=g) rfl _ _ (zCw (fun r hr=>(r3 r hr).1) hrow hc)
  rw[zA7,Nat.div_add_mod' t 3] at hcell
  refine ⟨?_,by rw[Nat.zero_add];exact ho.free rfl t⟩
  rw[get_flatK zLs 3 es.toArray t (by simpa using ht'),Nat.zero_add,hcell]
  simp[hi]
  rw[hc]
  rfl
 have hsz:∀w,(Go.sizeOf (ρ.t 24)).run Tryz.prog w=.ok 3 w:=fun w=>by
  obtain ⟨i0,hi0,_,hs0,_⟩:=info_parts zCn
  rw[h24]
  simp[Go.sizeOf,typeInfo,hi0,hs0]
 have hagg:∀w,(isAgg (ρ.t 24)).run Tryz.prog w=.ok true w:=fun w=>by
  rw[h24]
  exact Tryz.isAgg66 w
 have hcon:=AnyQ.slices_SortFunc L 3 hagg hsz zLs zOw zTB cfK zWa 103 #[] g 0 cap es.toArray W (fun _ _=>rfl) (fun _ _ _ _ x y=>zOI x y _) hH hgl (by simp;omega)
 rw[h6] at hcon
 simp only[List.size_toArray,hel] at hcon
 refine hcon.mono ?_
 rintro e w' ⟨rfl,d',n,os,⟨p1,_,p3⟩,hs,rfl⟩
 have hsz':d'.size=es.length:=by simpa using p1
 have hperm:d'.toList.Perm es:=by
  have e1:d'.extract 0 l.length=d':=by rw[←hel,←hsz'];simp
  have e2:es.toArray.extract 0 l.length=es.toArray:=by rw[←hel];simp
  rw[e1,e2] at p3
  simpa using p3
 have hl:(d'.toList.map (·.1)).Perm l:=by rw[←he1];exact hperm.map _
 have hH':=holdsK_sortWorldK zLs 3 W g 0 n es.toArray d' os hgl hH (by simpa using hsz')
 have hdirty:zAF (fun k=>some g=some k∨E k) W (sortWorldK zLs 3 W g 0 n d' os):=(zAF.of_grown (zFd d')).mono fun k _ hk=>Or.inl hk
 have hlen:(d'.toList.map (·.1)).length=l.length:=hl.length_eq
 refine ⟨rfl,d'.toList.map (·.1),?_,fun x=>hl.mem_iff,?_,zFd d'⟩
 ·intro w'' hd''
  refine ⟨some ⟨g,0,none⟩,cap,by rw[hlen],by omega,⟨by omega,by omega,fun e=>by cases e⟩,fun i x hx=>⟨g,0,rfl,?_⟩⟩
  have hi:i<d'.size:=by
   have:=(List.getElem?_eq_some_iff.1 hx).1
   simpa using this
  have hx':x=d'[i].1:=by
   rw[List.getElem?_map,Array.getElem?_toList,Array.getElem?_eq_getElem hi] at hx
   simpa using hx.symm
  have hmem:d'[i]∈es:=hperm.mem_iff.1 (by simp)
  subst hx'
  refine ⟨zLs d'[i],rfl,fun j c hj=>?_,hrd _ hmem _ (hdirty.trans (hd''.mono fun k _ hk=>Or.inr hk.1))⟩
  have hj3:j<3:=(List.getElem?_eq_some_iff.1 hj).1
  have hc:=(hH'.cell (i:=i) (c:=j) hi hj3).1
  have:d'[i]! = d'[i]:=by simp[hi]
  rw[this] at hc
  refine hd''.cell (hc.trans (by simp[hj])) (fun h=>h.2 rfl)
 ·have hne:(d'.toList.map (·.1)).Pairwise (fun x y=>x.1≠y.1):=by
   refine (hl.pairwise_iff (fun h=>Ne.symm h)).2 ?_
   rw[List.pairwise_iff_getElem]
   intro i j hi hj hij e
   have:=hd i j _ _ (List.getElem?_eq_getElem hi) (List.getElem?_eq_getElem hj) e
   omega
  rw[List.pairwise_iff_getElem] at hne ⊢
  intro i j hi hj hij
  have h1:=hne i j hi hj hij
  have hi':i<d'.size:=by simpa using hi
  have hj':j<d'.size:=by simpa using hj
  have h2:=hs i j (Nat.zero_le _) hij (by omega)
  rw[ltK] at h2
  simp[hi',hj'] at h1 h2 ⊢
  omega
def zDX:Go.Shelf.Ren:=⟨fun | 6=>102 | 15=>124 | 14=>123 | 28=>144 | 29=>145 | 20=>136 | 21=>137 | 22=>138 | 23=>139 | 24=>140 | 25=>141 | 26=>142 | 27=>143 | 46=>168 | 47=>169 | 48=>170 | 49=>171 | 50=>172 | 57=>181 | n=>n,fun | 22=>60 | 24=>66 | 25=>134 | 3=>3 | 39=>157 | 0=>0 | 53=>175 | 55=>177 | 4=>4 | 46=>168 | 45=>167 | 50=>172 | 5=>5 | 9=>9 | 66=>191 | 70=>195 | 76=>202 | 77=>203 | n=>n,fun | n=>n⟩
theorem zK5:Go.Proofs.SlLaysF0.n6 Tryz.prog zDX:={
 mixed:=by kernel_rfl,
 f6:=⟨Tryz.f102.name,by decide,Tryz.func102.trans (congrArg some (by kernel_rfl))⟩,
 f14:=⟨Tryz.f123.name,by decide,Tryz.func123.trans (congrArg some (by kernel_rfl))⟩,
 f15:=Tryz.func124.trans (congrArg some (by kernel_rfl)),
 f20:=⟨Tryz.f136.name,by decide,Tryz.func136.trans (congrArg some (by kernel_rfl))⟩,
 f21:=⟨Tryz.f137.name,by decide,Tryz.func137.trans (congrArg some (by kernel_rfl))⟩,
 f22:=⟨Tryz.f138.name,by decide,Tryz.func138.trans (congrArg some (by kernel_rfl))⟩,
 f23:=⟨Tryz.f139.name,by decide,Tryz.func139.trans (congrArg some (by kernel_rfl))⟩,
 f24:=⟨Tryz.f140.name,by decide,Tryz.func140.trans (congrArg some (by kernel_rfl))⟩,
 f25:=⟨Tryz.f141.name,by decide,Tryz.func141.trans (congrArg some (by kernel_rfl))⟩,
 f26:=⟨Tryz.f142.name,by decide,Tryz.func142.trans (congrArg some (by kernel_rfl))⟩,
 f27:=⟨Tryz.f143.name,by decide,Tryz.func143.trans (congrArg some (by kernel_rfl))⟩,
 f28:=Tryz.func144.trans (congrArg some (by kernel_rfl)),
 f29:=Tryz.func145.trans (congrArg some (by kernel_rfl)),
 f46:=⟨Tryz.f168.name,by decide,Tryz.func168.trans (congrArg some (by kernel_rfl))⟩,
 f47:=Tryz.func169.trans (congrArg some (by kernel_rfl)),
 f48:=Tryz.func170.trans (congrArg some (by kernel_rfl)),
 f49:=⟨Tryz.f171.name,by decide,Tryz.func171.trans (congrArg some (by kernel_rfl))⟩,
 f50:=⟨Tryz.f172.name,by decide,Tryz.func172.trans (congrArg some (by kernel_rfl))⟩,
 f57:=⟨Tryz.f181.name,by decide,Tryz.func181.trans (congrArg some (by kernel_rfl))⟩,
 t0:=Tryz.underlying0,
 a0:=Tryz.isAgg0,
 z0:=Tryz.sizeOf0,
 v0:=Tryz.zeroValue0,
 t3:=Tryz.underlying3,
 a3:=Tryz.isAgg3,
 z3:=Tryz.sizeOf3,
 v3:=Tryz.zeroValue3,
 t4:=Tryz.underlying4,
 a4:=Tryz.isAgg4,
 z4:=Tryz.sizeOf4,
 v4:=Tryz.zeroValue4,
 t5:=Tryz.underlying5,
 a5:=Tryz.isAgg5,
 z5:=Tryz.sizeOf5,
 v5:=Tryz.zeroValue5,
 t9:=Tryz.underlying9,
 a9:=Tryz.isAgg9,
 z9:=Tryz.sizeOf9,
 v9:=Tryz.zeroValue9,
 t22:=Tryz.underlying60,
 a22:=Tryz.isAgg60,
 z22:=Tryz.sizeOf60,
 v22:=Tryz.zeroValue60,
 t25:=Tryz.underlying134,
 a25:=Tryz.isAgg134,
 z25:=Tryz.sizeOf134,
 v25:=Tryz.zeroValue134,
 t39:=Tryz.underlying157,
 a39:=Tryz.isAgg157,
 z39:=Tryz.sizeOf157,
 v39:=Tryz.zeroValue157,
 t45:=Tryz.underlying167,
 a45:=Tryz.isAgg167,
 z45:=Tryz.sizeOf167,
 v45:=Tryz.zeroValue167,
 t46:=Tryz.underlying168,
 a46:=Tryz.isAgg168,
 z46:=Tryz.sizeOf168,
 v46:=Tryz.zeroValue168,
 t50:=Tryz.underlying172,
 a50:=Tryz.isAgg172,
 z50:=Tryz.sizeOf172,
 v50:=Tryz.zeroValue172,
 t53:=Tryz.underlying175,
 a53:=Tryz.isAgg175,
 z53:=Tryz.sizeOf175,
 v53:=Tryz.zeroValue175,
 t55:=Tryz.underlying177,
 a55:=Tryz.isAgg177,
 z55:=Tryz.sizeOf177,
 v55:=Tryz.zeroValue177,
 t66:=Tryz.underlying191,
 a66:=Tryz.isAgg191,
 z66:=Tryz.sizeOf191,
 v66:=Tryz.zeroValue191,
 t70:=Tryz.underlying195,
 a70:=Tryz.isAgg195,
 z70:=Tryz.sizeOf195,
 v70:=Tryz.zeroValue195,
 t76:=Tryz.underlying202,
 a76:=Tryz.isAgg202,
 z76:=Tryz.sizeOf202,
 v76:=Tryz.zeroValue202,
 t77:=Tryz.underlying203,
 a77:=Tryz.isAgg203,
 z77:=Tryz.sizeOf203,
 v77:=Tryz.zeroValue203
}
theorem zR8(E:Nat→Prop)(base g cap:Nat)(l:List Kp)(W:World)(ho:zAK 3 zAf E W 66 base (.slice (some ⟨g,0,none⟩) l.length cap) l)
  (hd:∀(i j:Nat) (x y:Kp),l[i]?=some x→l[j]?=some y→x.1=y.1→i=j) :
  Calls Tryz.prog 102 #[.slice (some ⟨g,0,none⟩) l.length cap,.func (.func 103) #[] #[]] W fun e w'=>e=.returned (.tuple #[]) ∧
   ∃l',(∀w'',zAF (fun k=>E k∧k≠g) w' w''→zAl w'' (.slice (some ⟨g,0,none⟩) l.length cap) l')∧(∀x,x∈l'↔x∈l)∧l'.Pairwise (fun x y=>x.1<y.1)∧W.grownBy w' (some g):=
 zLc zK5 rfl rfl E base g cap l W ho hd
end Go.Proofs.YthgmphbkkojaoaaGreat
