/-
  The walk of slices.Reverse at lists of ints of the call's own. The walks of Behind and Heads. The walks of the reference's From, AllBehind and CommonOf, at right books. The walks of package kin. The walks of book.Heads, book.Same, and of the reference's HeadsOf, SameBook. The walks of the reference's HeadsOf, of slices.EqualFunc at versions, of book.Same and the reference's SameBook. The walks of what holds two peers against each other. The walks of what holds two meshes against each other.
-/
import Derived.Test.YthgmphbkkojaoaaGreatQSaves
set_option maxHeartbeats 4000000
namespace Go.Proofs.YthgmphbkkojaoaaGreat
set_option linter.unusedSectionVars false
variable [Zn]
open Go.RowKit
def zG7(l c:List Int)(k:Nat):Prop:=c.length=l.length∧∀j,j<l.length→c.getD j 0=if j<k∨l.length - k≤j then l.getD (l.length - 1 - j) 0 else l.getD j 0
theorem zMp(c:List Int)(i j:Nat)(z:Int)(hi:i<c.length):(c.set i z).getD j 0=if j=i then z else c.getD j 0:=by
 simp only[List.getD_eq_getElem?_getD,List.getElem?_set]
 by_cases h:i=j
 ·subst h;simp[hi]
 ·simp[h,Ne.symm h]
theorem zG7.step{l c:List Int}{k:Nat}(h:zG7 l c k)(hk:k<l.length - 1 - k):zG7 l ((c.set k (c.getD (l.length - 1 - k) 0)).set (l.length - 1 - k) (c.getD k 0)) (k+1):=by
 obtain ⟨hl,hc⟩:=h
 refine ⟨by simp[hl],fun j hj=>?_⟩
 rw[zMp _ _ _ _ (by simp;omega),zMp _ _ _ _ (by omega)]
 have e1:=hc k (by omega)
 have e2:=hc (l.length - 1 - k) (by omega)
 rw[if_neg (by omega)] at e1 e2
 rw[e1,e2]
 by_cases h1:j=l.length - 1 - k
 ·rw[if_pos h1,if_pos (by omega)]
  congr 1
  omega
 ·rw[if_neg h1]
  by_cases h2:j=k
  ·subst h2
   rw[if_pos rfl,if_pos (by omega)]
  ·rw[if_neg h2,hc j hj]
   by_cases h3:j<k∨l.length - k≤j
   ·rw[if_pos h3,if_pos (by omega)]
   ·rw[if_neg h3,if_neg (by omega)]
theorem zG7.done{l c:List Int}{k:Nat}(h:zG7 l c k)(hk:l.length - 1 - k≤k):c=l.reverse:=by
 obtain ⟨hl,hc⟩:=h
 apply List.ext_getElem (by simp[hl])
 intro j h1 h2
 have:=hc j (by omega)
 simp only[List.getD_eq_getElem?_getD,List.getElem?_eq_getElem h1,Option.getD_some] at this
 rw[this,List.getElem_reverse]
 by_cases h3:j<k∨l.length - k≤j
 ·rw[if_pos h3]
  rw[List.getElem?_eq_getElem (by omega)];rfl
 ·rw[if_neg h3]
  rw[List.getElem?_eq_getElem (by omega)]
  simp only[Option.getD_some]
  congr 1
  omega
theorem zHe(w:World):(zeroValue 4).run Tryz.prog w=.ok (.bool false) w:=by kernel_rfl
theorem zGt(fn:Fn)(first cap:Array Value)(w:World):(Instr.makeFunc fn first cap).run Tryz.prog w=.ok (.func fn first cap) w:=rfl
theorem zDP(p:Int→Bool)(k:Nat):(((List.range (k+1)).map fun (j:Nat)=>(j:Int)).filter p)=(((List.range k).map fun (j:Nat)=>(j:Int)).filter p)++(if p k=true then [(k:Int)] else []):=by
 rw[List.range_succ,List.map_append,List.filter_append]
 congr 1
 by_cases h:p k=true<;>simp[h]
def zDW(b:List Ver):List Int:=b.flatMap (·.1)
theorem zSB(b:List Ver)(k:Int):(b.any fun v=>zEa k v.1)=decide (k∈zDW b):=by
 rw[Bool.eq_iff_iff,decide_eq_true_eq,zDW,List.mem_flatMap,List.any_eq_true]
 simp only[zEa,decide_eq_true_eq]
theorem zPj{b:List Ver}{k:Nat}{x:Ver}(h:b[k]?=some x):zDW (b.take (k+1))=zDW (b.take k)++x.1:=by
 rw[zAv h,zDW,List.flatMap_append]
 simp[zDW]
theorem zNw(b:List Ver):zCi b=((List.range b.length).map fun (j:Nat)=>(j:Int)).filter fun k => !decide (k∈zDW b):=by
 unfold zCi
 congr 1
 funext k
 rw[zSB]
def zM4(b:List Ver):List Int:=if zAt b=0 then zCi b else []
theorem zMj{b:List Ver}(h:zAt b=0):zM4 b=zCi b:=by unfold zM4;rw[if_pos h]
theorem zQo{b:List Ver}(h:zAt b≠0):zM4 b=[]:=by unfold zM4;rw[if_neg h]
set_option maxRecDepth 100000 in
theorem zTA(v:Value)(b:List Ver)(W:World)(hv:zAR W v b)(h0:zAt b=0) :
  Calls Tryz.prog 74 #[.agg #[v]] W fun e w'=>(∃v',e=.returned (.tuple #[v',.int .i64 0])∧zAJ w' 3 W.heap.size v' (zCi b))∧Below W.heap.size W w':=by
 have ht:=(zBj.1 h0).top
 have H0:=Zh h0
 have HH:=Zh (zNw b)
 clear h0
 obtain ⟨a,c,rfl,hc,⟨hm,hcm,_⟩,_⟩:=hv.opened
 have S0:=(zAD.refl W).alloc (.cells #[.slice a b.length c] 24)
 have hv0:=hv.stays zAz.stays (zAB _ (.cells #[.slice a b.length c] 24))
 have c0:(W.alloc (.cells #[.slice a b.length c] 24)).cell? ⟨W.heap.size,0,none⟩=some (.slice a b.length c):=by go_simp
 have hmm:=@run_makeMap Tryz.prog
 clear hv
 go_enter Tryz.func74,Tryz.ntmps74
 go_wp2_with fail
 generalize W.alloc (.cells #[.slice a b.length c] 24)=w0 at *
 obtain ⟨B,hB⟩:∃B,B=W.heap.size:=⟨_,rfl⟩
 rw[←hB] at c0 ⊢
 have HBB:=Zh hB
 clear hB
 have l0:=zAH c0
 refine (zBQ _ b _ hv0).mono ?_
 rintro e w1 ⟨rfl,hb1⟩
 rw[H0.out]
 have T1:=(zAD.refl w0).step hb1
 have d0:=(T1.below.cell (p:=⟨B,0,none⟩) l0).trans c0
 have hm0:zAo Tryz.prog 3 4 (w1.alloc (.map #[] 0)) w1.heap.size []:=zAo.made w1
 have hs1:=T1.2
 have l1:=zAH d0
 clear hb1
 go_wp2_with fail
 have T2:=T1.alloc (.map #[] 0)
 obtain ⟨Bm,hBm⟩:∃Bm,Bm=w1.heap.size:=⟨_,rfl⟩
 have hBm0:w0.heap.size≤Bm:=by omega
 rw[←hBm] at hm0 ⊢
 clear hBm d0 l1 hs1
 go_loopw[21] (fun i wr=>∃k:Nat,k≤b.length∧i=.int .i64 k∧zAD w0.heap.size w0 wr∧zAo Tryz.prog 3 4 wr Bm (zDW (b.take k))∧(zDW (b.take k)).length≤k*17592186044416) (fun i _=>b.length - (intOf i).toNat)
 case atStart=>exact ⟨0,by omega,rfl,T2,by simpa[zDW] using hm0,by simp[zDW]⟩
 case round =>
  obtain ⟨k,hk,rfl,hS,hm,hml⟩:=hrel
  clear hm0 T2
  by_cases hlt:k<b.length
  ·have hx:=List.getElem?_eq_getElem hlt
   have HT:=Zh (zPj hx)
   obtain ⟨g,off,u,cu,rfl,k0,k1,k2,k3,hp,i1,i2,i3⟩:=zB1 hv0 hx
   generalize b[k]=x at *
   have S1:=hS.alloc (.cells #[.slice u x.1.length cu,.int .i64 x.2.1,.int .i64 x.2.2.1,.int .i64 x.2.2.2] 51)
   have hm1:=hm.below (zAB wr (.cells #[.slice u x.1.length cu,.int .i64 x.2.1,.int .i64 x.2.2.1,.int .i64 x.2.2.2] 51))
   have g0:=(hS.below.cell (p:=⟨g,off+k*4,none⟩) (zAH k0)).trans k0
   have g1:=(hS.below.cell (p:=⟨g,off+k*4+1,none⟩) (zAH k1)).trans k1
   have g2:=(hS.below.cell (p:=⟨g,off+k*4+2,none⟩) (zAH k2)).trans k2
   have g3:=(hS.below.cell (p:=⟨g,off+k*4+3,none⟩) (zAH k3)).trans k3
   obtain ⟨_,_,e5,_,⟨hpm,hpcm,_⟩,_⟩:=hp.opened
   simp only[Value.slice.injEq,true_and] at e5
   obtain ⟨rfl,rfl⟩:=e5
   clear hx k0 k1 k2 k3
   go_wp2_with fail
   clear g0 g1 g2 g3 hm
   generalize zDW (b.take k)=S at *
   go_loopw[28] (fun i wr=>∃m:Nat,m≤x.1.length∧i=.int .i64 m∧zAD w0.heap.size w0 wr∧zAo Tryz.prog 3 4 wr Bm (S++x.1.take m)) (fun i _=>x.1.length - (intOf i).toNat)
   case atStart=>exact ⟨0,by omega,rfl,S1,by simpa using hm1⟩
   case round =>
    obtain ⟨m,hmm1,rfl,hS,hm⟩:=hrel
    by_cases hlm:m<x.1.length
    ·obtain ⟨_,_,e6,_,_,hpi⟩:=(hp.stays hS.below).opened
     simp only[Value.slice.injEq,true_and] at e6
     obtain ⟨rfl,rfl⟩:=e6
     obtain ⟨b2,o2,z2,e7,hc2,hz2,hi2⟩:=hpi m hlm
     subst e7
     have HZ2:=Zh (zAv hz2)
     have hlS:(S++x.1.take m).length<1000000000000000:=by simp;omega
     clear hz2 hpi
     go_wp2_with (at_mapUpdate;refine zB7 _ rfl _ _ _ 81 rfl Tryz.underlying3 Tryz.underlying4 Tryz.underlying81 _ _ rfl hm hlS _ rfl rfl hi2 ?_;intro w10 hm10 hg10)
     have S10:=hS.grown hg10 (fun q hq=>by cases hq;exact hBm0)
     have HM10:=Zh hm10
     clear hm10 hg10 hc2
     go_roundw
     case rel=>exact ⟨m+1,by omega,by go_num,S10,by rw[HZ2.out,←List.append_assoc];exact HM10.out⟩
     case measure=>simp[intOf];omega
    ·obtain rfl:x.1.length=m:=by omega
     rw[List.take_length,←HT.out] at hm
     have HM:=Zh hm
     clear hm
     go_wp2_with fail
     go_roundw
     case rel=>exact ⟨k+1,by omega,by go_num,hS,HM.out,by rw[HT.out];simp;omega⟩
     case measure=>simp[intOf];omega
  ·obtain rfl:b.length=k:=by omega
   rw[List.take_length] at hm
   have hmX:=hm
   have d0:=(hS.below.cell (p:=⟨B,0,none⟩) l0).trans c0
   have SX:=hS
   clear hm hS
   go_wp2_with fail
   clear d0
   go_loopw[39,10] (fun i o wr=>∃k:Nat,k≤b.length∧i=.int .i64 k∧zAD w0.heap.size w0 wr∧zAo Tryz.prog 3 4 wr Bm (zDW b)∧zAJ wr 3 w0.heap.size o ((((List.range k).map fun (j:Nat)=>(j:Int)).filter fun k => !decide (k∈zDW b)))∧o.ownBlock≠some Bm) (fun i _ _=>b.length - (intOf i).toNat)
   case atStart=>exact ⟨0,by omega,rfl,SX,hmX,by simpa using zAJ.nil _ _ _,by simp[Value.ownBlock]⟩
   case round =>
    obtain ⟨k,hk,rfl,hS,hm,ho,hne⟩:=hrel
    clear SX hmX
    by_cases hlt:k<b.length
    ·have HFS:=Zh (zDP (fun k => !decide (k∈zDW b)) k)
     have hol:(((List.range k).map fun (j:Nat)=>(j:Int)).filter fun k => !decide (k∈zDW b)).length≤1000000:=Nat.le_trans (List.length_filter_le _ _) (by simp;omega)
     have ik:I64 (k:Int):=⟨by omega,by omega⟩
     have hlk:=hm.lookup (t:=81) Tryz.underlying3 Tryz.underlying4 Tryz.underlying81 (zHe _) (k:Int) ik
     have hgs:=hS.2
     obtain ⟨T,hT⟩:∃T,T=decide ((k:Int)∈zDW b):=⟨_,rfl⟩
     rw[←hT] at hlk
     have HT:=Zh hT
     clear hT
     cases T with
     | true =>
      go_wp2_with fail
      clear hlk
      go_roundw
      case rel=>exact ⟨k+1,by omega,by go_num,hS,hm,by rw[HFS.out];simpa[←HT.out] using ho,hne⟩
      case measure=>simp[intOf];omega
     | false =>
      go_wp2_with (at_builtin;refine zBC rfl _ _ 36 rfl 3 Tryz.underlying36 zBD w0.heap.size _ _ rfl (ho.stays (zAB wr _)) ⟨wr.heap.size,0,none⟩ 1 (k:Int) rfl (by simp) ik (by omega) (by simp;omega) ?_;intro v' w2 ho2 hg2 hat2)
      have S2:=(hS.alloc (.cells #[.int .i64 (k:Int)] 3)).own (ho.stays (zAB wr _)) hg2
      have HO2:=Zh ho2
      have hBw:=hm.lt
      have hne2:v'.ownBlock≠some Bm:=by
       rcases hat2 with h|h
       ·rw[h];exact hne
       ·rw[h];simp;omega
      have hm2:=(hm.below (zAB wr (.cells #[.int .i64 (k:Int)] 3))).block (hg2.block Bm (by simp;omega) (fun e=>hne e.symm))
      clear ho2 hg2 hat2 hm ho hlk
      go_roundw
      case rel=>exact ⟨k+1,by omega,by go_num,S2,hm2,by rw[HFS.out];simpa[←HT.out] using HO2.out,hne2⟩
      case measure=>simp[intOf];omega
    ·obtain rfl:b.length=k:=by omega
     rw[←HH.out] at ho
     have HO:=Zh ho
     clear ho hm
     go_wp2_with fail
     go_ret2
     exact ⟨⟨_,rfl,HO.out.mono S0.2⟩,(S0.step hS.below).below⟩
set_option maxRecDepth 100000 in
theorem zSA(v:Value)(b:List Ver)(W:World)(hv:zAR W v b) :
  Calls Tryz.prog 74 #[.agg #[v]] W fun e w'=>(∃v',e=.returned (.tuple #[v',.int .i64 (zAt b)])∧zAJ w' 3 W.heap.size v' (zM4 b))∧Below W.heap.size W w':=by
 by_cases h:zAt b=0
 ·rw[h,zMj h]
  exact zTA v b W hv h
 ·have HC:=Zh (zQo h)
  have hne:(zAt b != 0)=true:=by simpa using h
  clear h
  obtain ⟨a,c,rfl,_⟩:=hv.opened
  have S0:=(zAD.refl W).alloc (.cells #[.slice a b.length c] 24)
  have hv0:=hv.stays zAz.stays (zAB _ (.cells #[.slice a b.length c] 24))
  clear hv
  go_enter Tryz.func74,Tryz.ntmps74
  go_wp2_with fail
  refine (zBQ _ b _ hv0).mono ?_
  rintro e w1 ⟨rfl,hb1⟩
  go_wp2_with fail
  go_ret2
  exact ⟨⟨_,rfl,by rw[HC.out];exact zAJ.nil _ _ _⟩,(S0.step hb1).below⟩
set_option maxRecDepth 100000 in
theorem zLw(u:Value)(x:Ver)(k:Int)(Bk:Nat)(w:World)(hx:zE3 w u x)(hc:w.cell? ⟨Bk,0,none⟩=some (.int .i64 k)) :
  Calls Tryz.prog 65 #[u,.pointer (some ⟨Bk,0,none⟩)] w fun e w'=>e=.returned (.bool (zEa k x.1))∧Below w.heap.size w w':=by
 obtain ⟨up,rfl,hp,_⟩:=hx
 obtain ⟨a,c,rfl,_⟩:=hp.opened
 have S0:=(zAD.refl w).alloc (.cells #[.slice a x.1.length c,.int .i64 x.2.1,.int .i64 x.2.2.1,.int .i64 x.2.2.2] 51)
 have hp0:=hp.stays S0.below
 have lc:=zAH hc
 clear hp
 go_enter Tryz.func65,Tryz.ntmps65
 go_wp2_with fail
 refine (zBc _ x.1 k _ hp0).mono ?_
 rintro e w' ⟨rfl,rfl⟩
 go_wp2_with fail
 go_ret
 exact ⟨rfl,S0.below⟩
set_option maxRecDepth 100000 in
theorem zHm(F:Nat)(eF:∀args w,(callFunc F args).run Tryz.prog w=.ok (.enter F args) w)(caps:Array Value)(p:Ver→Bool)(v:Value)(l:List Ver)(W:World)(hv:zAR W v l)
  (hF:∀u z w,z∈l→zAD W.heap.size W w→zE3 w u z→Calls Tryz.prog F (#[u]++caps) w fun e w'=>e=.returned (.bool (p z))∧Below w.heap.size w w') :
  Calls Tryz.prog 89 #[v,.func (.func F) #[] caps] W fun e w'=>e=.returned (.int .i64 (zAP p l 0))∧Below W.heap.size W w':=by
 obtain ⟨a,c,rfl,hcap,⟨hm,hcm,_⟩,_⟩:=hv.opened
 have HF:=Zh hF
 clear hF
 go_enter Tryz.func89,Tryz.ntmps89
 go_wp2_with fail
 go_loopw[8] (fun i wr=>∃k:Nat,k≤l.length∧i=.int .i64 k∧zAD W.heap.size W wr∧zAP p (l.drop k) k=zAP p l 0) (fun i _=>l.length - (intOf i).toNat)
 case atStart=>exact ⟨0,by omega,rfl,zAD.refl W,rfl⟩
 case round =>
  obtain ⟨k,hk,rfl,hS,hq⟩:=hrel
  have HQ:=Zh hq
  clear hq
  by_cases hlt:k<l.length
  ·obtain ⟨g,off,u,cu,rfl,k0,k1,k2,k3,hp,hi⟩:=zB1 (hv.later zAz.stays (zAF.old hS.below _)) (List.getElem?_eq_getElem hlt)
   have HD:=Zh (List.drop_eq_getElem_cons hlt)
   have HM:=Zh (List.getElem_mem hlt)
   generalize l[k]=x at *
   have hver:zE3 wr (.agg #[.slice u x.1.length cu,.int .i64 x.2.1,.int .i64 x.2.2.1,.int .i64 x.2.2.2]) x:=⟨_,rfl,hp,hi⟩
   have HVER:=Zh hver
   obtain ⟨T,hT⟩:∃T,T=p x:=⟨_,rfl⟩
   have HT:=Zh hT
   clear hT hver hp hi
   cases T with
   | true =>
    have HH:=Zh (show zAP p l 0=(k:Int) by rw[←HQ.out,HD.out];simp[zAP,←HT.out])
    go_wp2_with (go_at_fn F;refine (HF.out _ x _ HM.out hS HVER.out).mono ?_;rintro e w' ⟨rfl,hb'⟩;rw[←HT.out])
    go_ret
    exact ⟨zAL HH.out.symm,(hS.step hb').below⟩
   | false =>
    have HH:=Zh (show zAP p (l.drop (k+1)) (k+1)=zAP p l 0 by rw[←HQ.out,HD.out];simp[zAP,←HT.out])
    go_wp2_with (go_at_fn F;refine (HF.out _ x _ HM.out hS HVER.out).mono ?_;rintro e w' ⟨rfl,hb'⟩;rw[←HT.out])
    clear k0 k1 k2 k3
    go_roundw
    case rel=>exact ⟨k+1,by omega,by go_num,hS.step hb',HH.out⟩
    case measure=>simp[intOf];omega
  ·obtain rfl:l.length=k:=by omega
   go_wp2_with fail
   go_ret
   refine ⟨zAL ?_,hS.below⟩
   rw[←HQ.out]
   simp[zAP]
set_option maxRecDepth 100000 in
theorem zGA(F:Nat)(eF:∀args w,(callFunc F args).run Tryz.prog w=.ok (.enter F args) w)(caps:Array Value)(p:Ver→Bool)(v:Value)(l:List Ver)(W:World)(hv:zAR W v l)
  (hF:∀u z w,z∈l→zAD W.heap.size W w→zE3 w u z→Calls Tryz.prog F (#[u]++caps) w fun e w'=>e=.returned (.bool (p z))∧Below w.heap.size w w') :
  Calls Tryz.prog 64 #[v,.func (.func F) #[] caps] W fun e w'=>e=.returned (.bool (l.any p))∧Below W.heap.size W w':=by
 have hcall:=Zh (zHm F eF caps p v l W hv hF)
 have hnn:=zDA p l 0
 obtain ⟨a,c,rfl,_⟩:=hv.opened
 clear hv hF
 obtain ⟨H,hH⟩:∃H,H=l.any p:=⟨_,rfl⟩
 rw[←hH] at hnn ⊢
 clear hH
 obtain ⟨r,hr⟩:∃r,r=zAP p l 0:=⟨_,rfl⟩
 rw[←hr] at hcall hnn
 clear hr
 go_enter Tryz.func64,Tryz.ntmps64
 go_wp2_with fail
 refine hcall.out.mono ?_
 rintro e w' ⟨rfl,hb⟩
 cases H with
 | true =>
      go_wp2_with fail
      go_ret
      exact ⟨rfl,hb⟩
 | false =>
       go_wp2_with fail
       go_ret
       exact ⟨rfl,hb⟩
theorem zRB(b:List Ver):zCi b=((List.range b.length).map fun (j:Nat)=>(j:Int)).filter fun k => !(b.any fun v=>zEa k v.1):=rfl
set_option maxRecDepth 100000 in
theorem zI8(v:Value)(b:List Ver)(W:World)(hv:zAR W v b)(h0:zAt b=0) :
  Calls Tryz.prog 34 #[.agg #[v]] W fun e w'=>(∃v',e=.returned v'∧zAJ w' 3 W.heap.size v' (zCi b))∧Below W.heap.size W w':=by
 have ht:=(zBj.1 h0).top
 have HH:=Zh (zRB b)
 clear h0
 obtain ⟨a,c,rfl,hc,⟨hm,hcm,_⟩,_⟩:=hv.opened
 have S0:=(zAD.refl W).alloc (.cells #[.slice a b.length c] 24)
 have hv0:=hv.stays zAz.stays (zAB _ (.cells #[.slice a b.length c] 24))
 have c0:(W.alloc (.cells #[.slice a b.length c] 24)).cell? ⟨W.heap.size,0,none⟩=some (.slice a b.length c):=by go_simp
 have hmf:=zGt
 clear hv
 go_enter Tryz.func34,Tryz.ntmps34
 go_wp2_with fail
 generalize W.alloc (.cells #[.slice a b.length c] 24)=w0 at *
 obtain ⟨B,hB⟩:∃B,B=W.heap.size:=⟨_,rfl⟩
 rw[←hB] at c0 ⊢
 have l0:=zAH c0
 clear hB
 go_loopw[8,3] (fun i o wr=>∃k:Nat,k≤b.length∧i=.int .i64 k∧zAD w0.heap.size w0 wr∧zAJ wr 3 w0.heap.size o (((List.range k).map fun (j:Nat)=>(j:Int)).filter fun k => !(b.any fun v=>zEa k v.1))) (fun i _ _=>b.length - (intOf i).toNat)
 case atStart=>exact ⟨0,by omega,rfl,zAD.refl w0,by simpa using zAJ.nil _ _ _⟩
 case round =>
  obtain ⟨k,hk,rfl,hS,ho⟩:=hrel
  have d0:=(hS.below.cell (p:=⟨B,0,none⟩) l0).trans c0
  by_cases hlt:k<b.length
  ·have HFS:=Zh (zDP (fun k => !(b.any fun v=>zEa k v.1)) k)
   have hol:(((List.range k).map fun (j:Nat)=>(j:Int)).filter fun k => !(b.any fun v=>zEa k v.1)).length≤1000000:=Nat.le_trans (List.length_filter_le _ _) (by simp;omega)
   have ik:I64 (k:Int):=⟨by omega,by omega⟩
   have S1:=hS.alloc (.cells #[.int .i64 (k:Int)] 3)
   have ho1:=ho.stays (zAB wr (.cells #[.int .i64 (k:Int)] 3))
   have ck:(wr.alloc (.cells #[.int .i64 (k:Int)] 3)).cell? ⟨wr.heap.size,0,none⟩=some (.int .i64 (k:Int)):=by go_simp
   have lB:=zAH d0
   clear ho hS
   go_wp2_with fail
   generalize wr.alloc (.cells #[.int .i64 (k:Int)] 3)=w1 at *
   obtain ⟨Bk,hBk⟩:∃Bk,Bk=wr.heap.size:=⟨_,rfl⟩
   rw[←hBk] at ck ⊢
   have lk:=zAH ck
   clear hBk lB
   refine (zGA 65 (fun _ _=>rfl) #[.pointer (some ⟨Bk,0,none⟩)] (fun v=>zEa k v.1) _ b _ (hv0.later zAz.stays (zAF.old S1.below _)) (fun u z w _ hSw hz=>zLw u z k Bk w hz ((hSw.below.cell (p:=⟨Bk,0,none⟩) lk).trans ck))).mono ?_
   rintro e w2 ⟨rfl,hb2⟩
   have S2:=S1.step hb2
   have ho2:=ho1.stays hb2
   have ck2:=(hb2.cell (p:=⟨Bk,0,none⟩) lk).trans ck
   have hgs:=S2.2
   obtain ⟨T,hT⟩:∃T,T=b.any fun v=>zEa k v.1:=⟨_,rfl⟩
   rw[←hT]
   have HT:=Zh hT
   clear hT S1 ho1 hb2 ck d0
   cases T with
   | true =>
    go_wp2_with fail
    go_roundw
    case rel=>exact ⟨k+1,by omega,by go_num,S2,by rw[HFS.out];simpa[←HT.out] using ho2⟩
    case measure=>simp[intOf];omega
   | false =>
    go_wp2_with (at_builtin;refine zAc rfl _ _ 36 rfl 3 Tryz.underlying36 zBD w0.heap.size _ _ rfl (ho2.stays (zAB w2 _)) ⟨w2.heap.size,0,none⟩ 1 (k:Int) rfl (by simp) ik (by omega) (by simp;omega) ?_;intro v' w3 ho3 hg3)
    have S3:=(S2.alloc (.cells #[.int .i64 (k:Int)] 3)).own (ho2.stays (zAB w2 _)) hg3
    have HO3:=Zh ho3
    clear ho3 hg3 ho2 ck2
    go_roundw
    case rel=>exact ⟨k+1,by omega,by go_num,S3,by rw[HFS.out];simpa[←HT.out] using HO3.out⟩
    case measure=>simp[intOf];omega
  ·obtain rfl:b.length=k:=by omega
   rw[←HH.out] at ho
   have HO:=Zh ho
   clear ho d0
   go_wp2_with fail
   go_ret
   exact ⟨⟨_,rfl,HO.out.mono S0.2⟩,(S0.step hS.below).below⟩
def zDd(x y:Ver):Bool:=zBV x.1 y.1&&(decide (x.2.1=y.2.1)&&(decide (x.2.2.1=y.2.2.1)&&decide (x.2.2.2=y.2.2.2)))
set_option maxRecDepth 100000 in
theorem zHH(F:Nat)(eF:∀args w,(callFunc F args).run Tryz.prog w=.ok (.enter F args) w)
  (hF:∀u u' x y w,zE3 w u x→zE3 w u' y→Calls Tryz.prog F (#[u,u']) w fun e w'=>e=.returned (.bool (zDd x y))∧Below w.heap.size w w')
  (v u:Value) (l r:List Ver) (W:World) (hv:zAR W v l) (hu:zAR W u r) :
  Calls Tryz.prog 52 #[v,u,.func (.func F) #[] #[]] W fun e w'=>e=.returned (.bool (zEp zDd l r))∧Below W.heap.size W w':=by
 obtain ⟨a,c,rfl,hcap,⟨hm,hcm,_⟩,_⟩:=hv.opened
 obtain ⟨a',c',rfl,hcap',⟨hm',hcm',_⟩,_⟩:=hu.opened
 have HF:=Zh hF
 clear hF
 by_cases hl:l.length=r.length
 ·have hl2:(((l.length:Nat):Int) != ((r.length:Nat):Int))=false:=by simp[hl]
  have HL:=Zh hl
  clear hl
  go_enter Tryz.func52,Tryz.ntmps52
  go_wp2_with fail
  go_loopw[17] (fun i wr=>∃k:Nat,k≤l.length∧i=.int .i64 k∧zAD W.heap.size W wr∧zEp zDd (l.drop k) (r.drop k)=zEp zDd l r) (fun i _=>l.length - (intOf i).toNat)
  case atStart=>exact ⟨0,by omega,rfl,zAD.refl W,rfl⟩
  case round =>
   obtain ⟨k,hk,rfl,hS,hq⟩:=hrel
   have HQ:=Zh hq
   clear hq
   by_cases hlt:k<l.length
   ·have hlr:k<r.length:=by have:=HL.out;omega
    obtain ⟨g,off,u,cu,rfl,k0,k1,k2,k3,hp,hi⟩:=zB1 (hv.later zAz.stays (zAF.old hS.below _)) (List.getElem?_eq_getElem hlt)
    obtain ⟨g',off',u',cu',rfl,k0',k1',k2',k3',hp',hi'⟩:=zB1 (hu.later zAz.stays (zAF.old hS.below _)) (List.getElem?_eq_getElem hlr)
    have HD:=Zh (List.drop_eq_getElem_cons hlt)
    have HE:=Zh (List.drop_eq_getElem_cons hlr)
    generalize l[k]=x at *
    generalize r[k]=y at *
    have q0:=zAH k0'
    have S1:=hS.alloc (.cells #[.slice u x.1.length cu,.int .i64 x.2.1,.int .i64 x.2.2.1,.int .i64 x.2.2.2] 51)
    have S2:=S1.alloc (.cells #[.slice u' y.1.length cu',.int .i64 y.2.1,.int .i64 y.2.2.1,.int .i64 y.2.2.2] 51)
    have U2:=((zAD.refl wr).alloc (.cells #[.slice u x.1.length cu,.int .i64 x.2.1,.int .i64 x.2.2.1,.int .i64 x.2.2.2] 51)).alloc (.cells #[.slice u' y.1.length cu',.int .i64 y.2.1,.int .i64 y.2.2.1,.int .i64 y.2.2.2] 51)
    have hx2:zE3 _ (.agg #[.slice u x.1.length cu,.int .i64 x.2.1,.int .i64 x.2.2.1,.int .i64 x.2.2.2]) x:=⟨_,rfl,hp.stays U2.below,hi⟩
    have hy2:zE3 _ (.agg #[.slice u' y.1.length cu',.int .i64 y.2.1,.int .i64 y.2.2.1,.int .i64 y.2.2.2]) y:=⟨_,rfl,hp'.stays U2.below,hi'⟩
    have HX:=Zh hx2
    have HY:=Zh hy2
    obtain ⟨T,hT⟩:∃T,T=zDd x y:=⟨_,rfl⟩
    have HT:=Zh hT
    clear hT hx2 hy2 hp hp' hi hi' U2
    cases T with
    | true =>
     go_wp2_with (go_at_fn F;refine (HF.out _ _ x y _ HX.out HY.out).mono ?_;rintro e w5 ⟨rfl,hb5⟩;rw[←HT.out])
     have S5:=S2.step hb5
     clear k0 k1 k2 k3 k0' k1' k2' k3'
     go_roundw
     case rel =>
      refine ⟨k+1,by omega,by go_num,S5,?_⟩
      rw[←HQ.out,HD.out,HE.out]
      simp[zEp,←HT.out]
     case measure=>simp[intOf];omega
    | false =>
     go_wp2_with (go_at_fn F;refine (HF.out _ _ x y _ HX.out HY.out).mono ?_;rintro e w5 ⟨rfl,hb5⟩;rw[←HT.out])
     have S5:=S2.step hb5
     go_ret
     refine ⟨zAX ?_,S5.below⟩
     rw[←HQ.out,HD.out,HE.out]
     simp[zEp,←HT.out]
   ·obtain rfl:l.length=k:=by omega
    go_wp2_with fail
    go_ret
    refine ⟨zAX ?_,hS.below⟩
    have hLL:=HL.out
    rw[←HQ.out,List.drop_eq_nil_of_le (show l.length≤l.length by omega),List.drop_eq_nil_of_le (show r.length≤l.length by omega)]
    rfl
 ·have hl2:(((l.length:Nat):Int) != ((r.length:Nat):Int))=true:=by rw[bne_iff_ne];omega
  have HN:=Zh (zGz zDd hl)
  clear hl
  go_enter Tryz.func52,Tryz.ntmps52
  go_wp2_with fail
  go_ret
  exact ⟨zAX HN.out.symm,Below.refl _ _⟩
set_option maxRecDepth 100000 in
theorem zMt(u u':Value)(x y:Ver)(w:World)(hx:zE3 w u x)(hy:zE3 w u' y) :
  Calls Tryz.prog 53 #[u,u'] w fun e w'=>e=.returned (.bool (zDd x y))∧Below w.heap.size w w':=by
 obtain ⟨up,rfl,hp,_⟩:=hx
 obtain ⟨a,c,rfl,_⟩:=hp.opened
 obtain ⟨up',rfl,hp',_⟩:=hy
 obtain ⟨a',c',rfl,_⟩:=hp'.opened
 obtain ⟨xp,x0,x1,x2⟩:=x
 obtain ⟨yp,y0,y1,y2⟩:=y
 have S0:=((zAD.refl w).alloc (.cells #[.slice a xp.length c,.int .i64 x0,.int .i64 x1,.int .i64 x2] 51)).alloc (.cells #[.slice a' yp.length c',.int .i64 y0,.int .i64 y1,.int .i64 y2] 51)
 have hp0:=hp.stays S0.below
 have hp0':=hp'.stays S0.below
 have k0:((w.alloc (.cells #[.slice a xp.length c,.int .i64 x0,.int .i64 x1,.int .i64 x2] 51)).alloc (.cells #[.slice a' yp.length c',.int .i64 y0,.int .i64 y1,.int .i64 y2] 51)).cell? ⟨w.heap.size,1,none⟩=some (.int .i64 x0):=by go_simp
 have k1:((w.alloc (.cells #[.slice a xp.length c,.int .i64 x0,.int .i64 x1,.int .i64 x2] 51)).alloc (.cells #[.slice a' yp.length c',.int .i64 y0,.int .i64 y1,.int .i64 y2] 51)).cell? ⟨w.heap.size,2,none⟩=some (.int .i64 x1):=by go_simp
 have k2:((w.alloc (.cells #[.slice a xp.length c,.int .i64 x0,.int .i64 x1,.int .i64 x2] 51)).alloc (.cells #[.slice a' yp.length c',.int .i64 y0,.int .i64 y1,.int .i64 y2] 51)).cell? ⟨w.heap.size,3,none⟩=some (.int .i64 x2):=by go_simp
 have q0:((w.alloc (.cells #[.slice a xp.length c,.int .i64 x0,.int .i64 x1,.int .i64 x2] 51)).alloc (.cells #[.slice a' yp.length c',.int .i64 y0,.int .i64 y1,.int .i64 y2] 51)).cell? ⟨w.heap.size+1,1,none⟩=some (.int .i64 y0):=by go_simp
 have q1:((w.alloc (.cells #[.slice a xp.length c,.int .i64 x0,.int .i64 x1,.int .i64 x2] 51)).alloc (.cells #[.slice a' yp.length c',.int .i64 y0,.int .i64 y1,.int .i64 y2] 51)).cell? ⟨w.heap.size+1,2,none⟩=some (.int .i64 y1):=by go_simp
 have q2:((w.alloc (.cells #[.slice a xp.length c,.int .i64 x0,.int .i64 x1,.int .i64 x2] 51)).alloc (.cells #[.slice a' yp.length c',.int .i64 y0,.int .i64 y1,.int .i64 y2] 51)).cell? ⟨w.heap.size+1,3,none⟩=some (.int .i64 y2):=by go_simp
 clear hp hp'
 go_enter Tryz.func53,Tryz.ntmps53
 go_wp2_with fail
 generalize (w.alloc (.cells #[.slice a xp.length c,.int .i64 x0,.int .i64 x1,.int .i64 x2] 51)).alloc (.cells #[.slice a' yp.length c',.int .i64 y0,.int .i64 y1,.int .i64 y2] 51)=w0 at *
 obtain ⟨B1,hB1⟩:∃B,B=w.heap.size+1:=⟨_,rfl⟩
 rw[←hB1] at q0 q1 q2 ⊢
 clear hB1
 obtain ⟨B0,hB0⟩:∃B,B=w.heap.size:=⟨_,rfl⟩
 rw[←hB0] at k0 k1 k2
 have HB0:=Zh hB0
 clear hB0
 rw[←HB0.out]
 refine (zB8 _ _ xp yp _ hp0 hp0').mono ?_
 rintro e w1 ⟨rfl,hb1⟩
 have j0:=(hb1.cell (p:=⟨B0,1,none⟩) (zAH k0)).trans k0
 have j1:=(hb1.cell (p:=⟨B0,2,none⟩) (zAH k1)).trans k1
 have j2:=(hb1.cell (p:=⟨B0,3,none⟩) (zAH k2)).trans k2
 have r0:=(hb1.cell (p:=⟨B1,1,none⟩) (zAH q0)).trans q0
 have r1:=(hb1.cell (p:=⟨B1,2,none⟩) (zAH q1)).trans q1
 have r2:=(hb1.cell (p:=⟨B1,3,none⟩) (zAH q2)).trans q2
 have S1:=S0.step hb1
 clear k0 k1 k2 q0 q1 q2
 cases hq:zBV xp yp with
 | false =>
  have HV:=Zh (show zDd (xp,x0,x1,x2) (yp,y0,y1,y2)=false by simp[zDd,hq])
  clear hq
  go_wp2_with fail
  go_ret
  exact ⟨zAX HV.out.symm,S1.below⟩
 | true =>
  by_cases h:x0=y0∧x1=y1∧x2=y2
  ·obtain ⟨rfl,rfl,rfl⟩:=h
   have HV:=Zh (show zDd (xp,x0,x1,x2) (yp,x0,x1,x2)=true by simp[zDd,hq])
   clear hq
   go_wp2_with fail
   go_ret
   exact ⟨zAX HV.out.symm,S1.below⟩
  ·have HV:=Zh (show zDd (xp,x0,x1,x2) (yp,y0,y1,y2)=false by simp[zDd];intro _ h0 h1 h2;exact h ⟨h0,h1,h2⟩)
   have h3:(x0 == y0)=false∨x0=y0∧(x1 == y1)=false∨x0=y0∧x1=y1∧(x2 == y2)=false:=by
    simp only[beq_eq_false_iff_ne]
    by_cases e0:x0=y0
    ·by_cases e1:x1=y1
     ·exact Or.inr (Or.inr ⟨e0,e1,fun e2=>h ⟨e0,e1,e2⟩⟩)
     ·exact Or.inr (Or.inl ⟨e0,e1⟩)
    ·exact Or.inl e0
   clear h hq
   rcases h3 with h|⟨rfl,h⟩|⟨rfl,rfl,h⟩
   all_goals
    go_wp2_with fail
    go_ret
    exact ⟨zAX HV.out.symm,S1.below⟩
set_option maxRecDepth 100000 in
theorem zHq(v u:Value)(b c:List Ver)(W:World)(hv:zAR W v b)(hu:zAR W u c) :
  Calls Tryz.prog 26 #[.agg #[v],.agg #[u]] W fun e w'=>e=.returned (.bool (zEp zDd b c))∧Below W.heap.size W w':=by
 obtain ⟨a,n,rfl,_⟩:=hv.opened
 obtain ⟨a',n',rfl,_⟩:=hu.opened
 have S0:=((zAD.refl W).alloc (.cells #[.slice a b.length n] 24)).alloc (.cells #[.slice a' c.length n'] 24)
 have hv0:=hv.later zAz.stays (zAF.old S0.below _)
 have hu0:=hu.later zAz.stays (zAF.old S0.below _)
 clear hv hu
 go_enter Tryz.func26,Tryz.ntmps26
 go_wp2_with fail
 refine (zHH 53 (fun _ _=>rfl) zMt _ _ b c _ hv0 hu0).mono ?_
 rintro e w1 ⟨rfl,hb1⟩
 go_wp2_with fail
 go_ret
 exact ⟨rfl,(S0.step hb1).below⟩
def zJx(x y:Kp):Bool:=decide (x.1=y.1)&&(decide (x.2.1=y.2.1)&&zBV x.2.2 y.2.2)
def zHv(p q:Pr):Bool:=(p.1 == q.1)&&(decide (p.2.1=q.2.1)&&zEp zJx p.2.2 q.2.2)
theorem zSv(x y:Kp):zJx x y=true↔x=y:=by
 obtain ⟨x0,x1,xp⟩:=x
 obtain ⟨y0,y1,yp⟩:=y
 simp[zJx,zBV]
theorem zPD(p q:Pr):zHv p q=true↔p=q:=by
 obtain ⟨t,r,l⟩:=p
 obtain ⟨t',r',l'⟩:=q
 simp[zHv,zIU zSv]
set_option maxRecDepth 100000 in
theorem zGE(F:Nat)(eF:∀args w,(callFunc F args).run Tryz.prog w=.ok (.enter F args) w)
  (hF:∀u u' x y w,zDG w u x→zDG w u' y→Calls Tryz.prog F (#[u,u']) w fun e w'=>e=.returned (.bool (zJx x y))∧Below w.heap.size w w')
  (v u:Value) (l r:List Kp) (W:World) (hv:zAl W v l) (hu:zAl W u r) :
  Calls Tryz.prog 54 #[v,u,.func (.func F) #[] #[]] W fun e w'=>e=.returned (.bool (zEp zJx l r))∧Below W.heap.size W w':=by
 obtain ⟨a,c,rfl,hcap,⟨hm,hcm,_⟩,_⟩:=hv.opened
 obtain ⟨a',c',rfl,hcap',⟨hm',hcm',_⟩,_⟩:=hu.opened
 have HF:=Zh hF
 clear hF
 by_cases hl:l.length=r.length
 ·have hl2:(((l.length:Nat):Int) != ((r.length:Nat):Int))=false:=by simp[hl]
  have HL:=Zh hl
  clear hl
  go_enter Tryz.func54,Tryz.ntmps54
  go_wp2_with fail
  go_loopw[17] (fun i wr=>∃k:Nat,k≤l.length∧i=.int .i64 k∧zAD W.heap.size W wr∧zEp zJx (l.drop k) (r.drop k)=zEp zJx l r) (fun i _=>l.length - (intOf i).toNat)
  case atStart=>exact ⟨0,by omega,rfl,zAD.refl W,rfl⟩
  case round =>
   obtain ⟨k,hk,rfl,hS,hq⟩:=hrel
   have HQ:=Zh hq
   clear hq
   by_cases hlt:k<l.length
   ·have hlr:k<r.length:=by have:=HL.out;omega
    obtain ⟨g,off,u,cu,rfl,k0,k1,k2,hp,hi⟩:=zCK (hv.later zAf.stays (zAF.old hS.below _)) (List.getElem?_eq_getElem hlt)
    obtain ⟨g',off',u',cu',rfl,k0',k1',k2',hp',hi'⟩:=zCK (hu.later zAf.stays (zAF.old hS.below _)) (List.getElem?_eq_getElem hlr)
    have HD:=Zh (List.drop_eq_getElem_cons hlt)
    have HE:=Zh (List.drop_eq_getElem_cons hlr)
    generalize l[k]=x at *
    generalize r[k]=y at *
    have q0:=zAH k0'
    have S1:=hS.alloc (.cells #[.int .i64 x.1,.int .i64 x.2.1,.slice u x.2.2.length cu] 66)
    have S2:=S1.alloc (.cells #[.int .i64 y.1,.int .i64 y.2.1,.slice u' y.2.2.length cu'] 66)
    have U2:=((zAD.refl wr).alloc (.cells #[.int .i64 x.1,.int .i64 x.2.1,.slice u x.2.2.length cu] 66)).alloc (.cells #[.int .i64 y.1,.int .i64 y.2.1,.slice u' y.2.2.length cu'] 66)
    have hx2:zDG _ (.agg #[.int .i64 x.1,.int .i64 x.2.1,.slice u x.2.2.length cu]) x:=⟨_,rfl,hp.stays U2.below,hi⟩
    have hy2:zDG _ (.agg #[.int .i64 y.1,.int .i64 y.2.1,.slice u' y.2.2.length cu']) y:=⟨_,rfl,hp'.stays U2.below,hi'⟩
    have HX:=Zh hx2
    have HY:=Zh hy2
    obtain ⟨T,hT⟩:∃T,T=zJx x y:=⟨_,rfl⟩
    have HT:=Zh hT
    clear hT hx2 hy2 hp hp' hi hi' U2
    cases T with
    | true =>
     go_wp2_with (go_at_fn F;refine (HF.out _ _ x y _ HX.out HY.out).mono ?_;rintro e w5 ⟨rfl,hb5⟩;rw[←HT.out])
     have S5:=S2.step hb5
     clear k0 k1 k2 k0' k1' k2'
     go_roundw
     case rel =>
      refine ⟨k+1,by omega,by go_num,S5,?_⟩
      rw[←HQ.out,HD.out,HE.out]
      simp[zEp,←HT.out]
     case measure=>simp[intOf];omega
    | false =>
     go_wp2_with (go_at_fn F;refine (HF.out _ _ x y _ HX.out HY.out).mono ?_;rintro e w5 ⟨rfl,hb5⟩;rw[←HT.out])
     have S5:=S2.step hb5
     go_ret
     refine ⟨zAX ?_,S5.below⟩
     rw[←HQ.out,HD.out,HE.out]
     simp[zEp,←HT.out]
   ·obtain rfl:l.length=k:=by omega
    go_wp2_with fail
    go_ret
    refine ⟨zAX ?_,hS.below⟩
    have hLL:=HL.out
    rw[←HQ.out,List.drop_eq_nil_of_le (show l.length≤l.length by omega),List.drop_eq_nil_of_le (show r.length≤l.length by omega)]
    rfl
 ·have hl2:(((l.length:Nat):Int) != ((r.length:Nat):Int))=true:=by rw[bne_iff_ne];omega
  have HN:=Zh (zGz zJx hl)
  clear hl
  go_enter Tryz.func54,Tryz.ntmps54
  go_wp2_with fail
  go_ret
  exact ⟨zAX HN.out.symm,Below.refl _ _⟩
set_option maxRecDepth 100000 in
theorem zLB(u u':Value)(x y:Kp)(w:World)(hx:zDG w u x)(hy:zDG w u' y) :
  Calls Tryz.prog 55 #[u,u'] w fun e w'=>e=.returned (.bool (zJx x y))∧Below w.heap.size w w':=by
 obtain ⟨up,rfl,hp,_⟩:=hx
 obtain ⟨a,c,rfl,_⟩:=hp.opened
 obtain ⟨up',rfl,hp',_⟩:=hy
 obtain ⟨a',c',rfl,_⟩:=hp'.opened
 obtain ⟨x0,x1,xp⟩:=x
 obtain ⟨y0,y1,yp⟩:=y
 have S0:=((zAD.refl w).alloc (.cells #[.int .i64 x0,.int .i64 x1,.slice a xp.length c] 66)).alloc (.cells #[.int .i64 y0,.int .i64 y1,.slice a' yp.length c'] 66)
 have hp0:=hp.stays S0.below
 have hp0':=hp'.stays S0.below
 clear hp hp'
 by_cases h:x0=y0
 ·subst h
  have HV:=Zh (show zJx (x0,x1,xp) (x0,y1,yp)=zCm x1 y1 xp yp by simp[zJx,zCm])
  go_enter Tryz.func55,Tryz.ntmps55
  go_wp2_with fail
  refine (zBo _ _ _ _ xp yp _ hp0 hp0').mono ?_
  rintro e w1 ⟨rfl,hb1⟩
  go_wp2_with fail
  go_ret
  exact ⟨zAX HV.out.symm,(S0.step hb1).below⟩
 ·have HV:=Zh (show zJx (x0,x1,xp) (y0,y1,yp)=false by simp[zJx,h])
  have h2:(x0 == y0)=false:=by simpa using h
  clear h
  go_enter Tryz.func55,Tryz.ntmps55
  go_wp2_with fail
  go_ret
  exact ⟨zAX HV.out.symm,S0.below⟩
set_option maxRecDepth 100000 in
theorem zLn(u u':Value)(p q:Pr)(W:World)(hp:zG6 W u p)(hq:zG6 W u' q) :
  Calls Tryz.prog 28 #[u,u'] W fun e w'=>e=.returned (.bool (zHv p q))∧Below W.heap.size W w':=by
 obtain ⟨up,rfl,hp,_⟩:=hp
 obtain ⟨a,c,rfl,_⟩:=hp.opened
 obtain ⟨up',rfl,hp',_⟩:=hq
 obtain ⟨a',c',rfl,_⟩:=hp'.opened
 obtain ⟨t,r,l⟩:=p
 obtain ⟨t',r',l'⟩:=q
 have S0:=((zAD.refl W).alloc (.cells #[.bool t,.int .i64 r,.slice a l.length c] 62)).alloc (.cells #[.bool t',.int .i64 r',.slice a' l'.length c'] 62)
 have hp0:=hp.stays zAf.stays S0.below
 have hp0':=hp'.stays zAf.stays S0.below
 clear hp hp'
 by_cases ht:t=t'
 ·subst ht
  by_cases hr:r=r'
  ·subst hr
   have HV:=Zh (show zHv (t,r,l) (t,r,l')=zEp zJx l l' by simp[zHv])
   have htt:(t == t)=true:=by simp
   go_enter Tryz.func28,Tryz.ntmps28
   go_wp2_with fail
   refine (zGE 55 (fun _ _=>rfl) zLB _ _ l l' _ hp0 hp0').mono ?_
   rintro e w1 ⟨rfl,hb1⟩
   go_wp2_with fail
   go_ret
   exact ⟨zAX HV.out.symm,(S0.step hb1).below⟩
  ·have HV:=Zh (show zHv (t,r,l) (t,r',l')=false by simp[zHv,hr])
   have htt:(t == t)=true:=by simp
   have h2:(r == r')=false:=by simpa using hr
   clear hr
   go_enter Tryz.func28,Tryz.ntmps28
   go_wp2_with fail
   go_ret
   exact ⟨zAX HV.out.symm,S0.below⟩
 ·have HV:=Zh (show zHv (t,r,l) (t',r',l')=false by simp[zHv,ht])
  have h2:(t == t')=false:=by simpa using ht
  clear ht
  go_enter Tryz.func28,Tryz.ntmps28
  go_wp2_with fail
  go_ret
  exact ⟨zAX HV.out.symm,S0.below⟩
set_option maxRecDepth 100000 in
theorem zGB(F:Nat)(eF:∀args w,(callFunc F args).run Tryz.prog w=.ok (.enter F args) w)
  (hF:∀u u' x y w,zG6 w u x→zG6 w u' y→Calls Tryz.prog F (#[u,u']) w fun e w'=>e=.returned (.bool (zHv x y))∧Below w.heap.size w w')
  (v u:Value) (l r:List Pr) (W:World) (hv:zAT W v l) (hu:zAT W u r) :
  Calls Tryz.prog 27 #[v,u,.func (.func F) #[] #[]] W fun e w'=>e=.returned (.bool (zEp zHv l r))∧Below W.heap.size W w':=by
 obtain ⟨a,c,rfl,hcap,⟨hm,hcm,_⟩,_⟩:=hv.opened
 obtain ⟨a',c',rfl,hcap',⟨hm',hcm',_⟩,_⟩:=hu.opened
 have HF:=Zh hF
 clear hF
 by_cases hl:l.length=r.length
 ·have hl2:(((l.length:Nat):Int) != ((r.length:Nat):Int))=false:=by simp[hl]
  have HL:=Zh hl
  clear hl
  go_enter Tryz.func27,Tryz.ntmps27
  go_wp2_with fail
  go_loopw[17] (fun i wr=>∃k:Nat,k≤l.length∧i=.int .i64 k∧zAD W.heap.size W wr∧zEp zHv (l.drop k) (r.drop k)=zEp zHv l r) (fun i _=>l.length - (intOf i).toNat)
  case atStart=>exact ⟨0,by omega,rfl,zAD.refl W,rfl⟩
  case round =>
   obtain ⟨k,hk,rfl,hS,hq⟩:=hrel
   have HQ:=Zh hq
   clear hq
   by_cases hlt:k<l.length
   ·have hlr:k<r.length:=by have:=HL.out;omega
    obtain ⟨g,off,u,cu,rfl,k0,k1,k2,hp,hi⟩:=zBq (hv.later zAj.stays (zAF.old hS.below _)) (List.getElem?_eq_getElem hlt)
    obtain ⟨g',off',u',cu',rfl,k0',k1',k2',hp',hi'⟩:=zBq (hu.later zAj.stays (zAF.old hS.below _)) (List.getElem?_eq_getElem hlr)
    have HD:=Zh (List.drop_eq_getElem_cons hlt)
    have HE:=Zh (List.drop_eq_getElem_cons hlr)
    generalize l[k]=x at *
    generalize r[k]=y at *
    have q0:=zAH k0'
    have S1:=hS.alloc (.cells #[.bool x.1,.int .i64 x.2.1,.slice u x.2.2.length cu] 62)
    have S2:=S1.alloc (.cells #[.bool y.1,.int .i64 y.2.1,.slice u' y.2.2.length cu'] 62)
    have U2:=((zAD.refl wr).alloc (.cells #[.bool x.1,.int .i64 x.2.1,.slice u x.2.2.length cu] 62)).alloc (.cells #[.bool y.1,.int .i64 y.2.1,.slice u' y.2.2.length cu'] 62)
    have hx2:zG6 _ (.agg #[.bool x.1,.int .i64 x.2.1,.slice u x.2.2.length cu]) x:=⟨_,rfl,hp.stays zAf.stays U2.below,hi⟩
    have hy2:zG6 _ (.agg #[.bool y.1,.int .i64 y.2.1,.slice u' y.2.2.length cu']) y:=⟨_,rfl,hp'.stays zAf.stays U2.below,hi'⟩
    have HX:=Zh hx2
    have HY:=Zh hy2
    obtain ⟨T,hT⟩:∃T,T=zHv x y:=⟨_,rfl⟩
    have HT:=Zh hT
    clear hT hx2 hy2 hp hp' hi hi' U2
    cases T with
    | true =>
     go_wp2_with (go_at_fn F;refine (HF.out _ _ x y _ HX.out HY.out).mono ?_;rintro e w5 ⟨rfl,hb5⟩;rw[←HT.out])
     have S5:=S2.step hb5
     clear k0 k1 k2 k0' k1' k2'
     go_roundw
     case rel =>
      refine ⟨k+1,by omega,by go_num,S5,?_⟩
      rw[←HQ.out,HD.out,HE.out]
      simp[zEp,←HT.out]
     case measure=>simp[intOf];omega
    | false =>
     go_wp2_with (go_at_fn F;refine (HF.out _ _ x y _ HX.out HY.out).mono ?_;rintro e w5 ⟨rfl,hb5⟩;rw[←HT.out])
     have S5:=S2.step hb5
     go_ret
     refine ⟨zAX ?_,S5.below⟩
     rw[←HQ.out,HD.out,HE.out]
     simp[zEp,←HT.out]
   ·obtain rfl:l.length=k:=by omega
    go_wp2_with fail
    go_ret
    refine ⟨zAX ?_,hS.below⟩
    have hLL:=HL.out
    rw[←HQ.out,List.drop_eq_nil_of_le (show l.length≤l.length by omega),List.drop_eq_nil_of_le (show r.length≤l.length by omega)]
    rfl
 ·have hl2:(((l.length:Nat):Int) != ((r.length:Nat):Int))=true:=by rw[bne_iff_ne];omega
  have HN:=Zh (zGz zHv hl)
  clear hl
  go_enter Tryz.func27,Tryz.ntmps27
  go_wp2_with fail
  go_ret
  exact ⟨zAX HN.out.symm,Below.refl _ _⟩
theorem zRS(x y:Ver):zDd x y=true↔x=y:=by
 obtain ⟨x0,x1,x2,x3⟩:=x
 obtain ⟨y0,y1,y2,y3⟩:=y
 simp[zDd,zBV]
def zS2(m o:Me):Bool:=zEp zDd m.1 o.1&&zEp zHv m.2 o.2
theorem zO8(m o:Me):zS2 m o=true↔m=o:=by
 obtain ⟨b,p⟩:=m
 obtain ⟨c,q⟩:=o
 simp[zS2,zIU zRS,zIU zPD]
theorem zJI(m:Me):zS2 m m=true:=(zO8 m m).2 rfl
end Go.Proofs.YthgmphbkkojaoaaGreat
