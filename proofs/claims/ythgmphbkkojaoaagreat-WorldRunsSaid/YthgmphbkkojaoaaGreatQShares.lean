/-
  What Split makes, in plain lists. The walk of share.Split. What Join answers, in plain lists. What vote.Most reckons: the shares that a content has; each set of as many as are enough is tried, in order.
-/
import Derived.Test.YthgmphbkkojaoaaGreatQCurves
set_option maxHeartbeats 4000000
namespace Go.Proofs.YthgmphbkkojaoaaGreat
set_option linter.unusedSectionVars false
variable [Zn]
def zA5(n:Nat):List Int:=(List.range n).map fun (k:Nat)=>(k:Int)
def zFF(n:Nat)(data:List Int)(r:Nat):List Int:=(List.range n).map fun j=>data.getD (r*n+j) 0
def zCL(n:Nat)(data:List Int)(k r:Nat):Int:=atV (zA5 n) (zFF n data r) k
def zAY(n:Nat)(data:List Int)(r k:Nat):Int × List Int:=((k:Int),(List.range r).map (zCL n data k))
def zAV(n:Nat)(data:List Int)(o r:Nat):List (Int × List Int):=(List.range o).map (zAY n data r)
def stL(n:Nat)(data:List Int)(o r m:Nat):List (Int × List Int):=
 (List.range o).map fun k=>(if 0<r∨k<m then (k:Int) else 0,(List.range (if k<m then r+1 else r)).map (zCL n data k))
theorem zB2(n:Nat):(zA5 n).length=n:=by simp[zA5]
theorem zDl(n:Nat)(data:List Int)(r:Nat):(zFF n data r).length=n:=by simp[zFF]
theorem zQa(n:Nat)(data:List Int)(o:Nat):stL n data o 0 0=List.replicate o (0,[]):=by
 apply List.ext_getElem (by simp[stL])
 intro i h1 h2
 simp[stL]
theorem zTm(n:Nat)(data:List Int)(o r:Nat):stL n data o r o=stL n data o (r+1) 0:=by
 apply List.ext_getElem (by simp[stL])
 intro i h1 h2
 have:i<o:=by simpa[stL] using h1
 simp[stL,this]
theorem zSg(n:Nat)(data:List Int)(o r:Nat)(hr:0<r):stL n data o r 0=zAV n data o r:=by
 apply List.ext_getElem (by simp[stL,zAV])
 intro i h1 h2
 simp[stL,zAV,zAY,hr]
theorem zVN(n:Nat)(data:List Int)(o r m:Nat)(hm:m<o):∃N,(stL n data o r m)[m]?=some (N,(List.range r).map (zCL n data m)):=by
 refine ⟨if 0<r then (m:Int) else 0,?_⟩
 simp[stL,hm]
theorem zTQ(n:Nat)(data:List Int)(o r m:Nat):(stL n data o r m).set m ((m:Int),(List.range r).map (zCL n data m)++[zCL n data m r])=stL n data o r (m+1):=by
 apply List.ext_getElem (by simp[stL])
 intro i h1 h2
 rw[List.getElem_set]
 by_cases him:m=i
 ·subst him
  simp[stL,List.range_succ]
 ·rw[if_neg him]
  simp only[stL,List.getElem_map,List.getElem_range]
  by_cases hlt:i<m
  ·simp[hlt,show i<m+1 by omega]
  ·simp[hlt,show ¬i<m+1 by omega]
theorem zIH{n:Nat}(hn:n≤8):∀a∈zA5 n,0≤a∧a<31:=by
 intro a ha
 obtain ⟨k,hk,rfl⟩:=List.mem_map.1 ha
 have:=List.mem_range.1 hk
 omega
theorem zRw{n:Nat}{data:List Int}(hd:∀z∈data,0≤z∧z<31)(r:Nat):∀a∈zFF n data r,0≤a∧a<31:=by
 intro a ha
 obtain ⟨k,_,rfl⟩:=List.mem_map.1 ha
 exact zCD.getD hd _
theorem zFP{n:Nat}{data:List Int}(hn1:1≤n)(hn:n≤4)(hd:∀z∈data,0≤z∧z<31)(r:Nat):zC8 (zA5 n) (zFF n data r):=by
 refine ⟨by rw[zB2,zDl],by rw[zB2];exact hn1,by rw[zB2];omega,zIH (by omega),zRw hd r,?_⟩
 unfold zA5
 refine List.pairwise_map.2 (List.Pairwise.imp ?_ List.pairwise_lt_range)
 intro a b hab e
 omega
theorem zPk(n:Nat)(data:List Int)(r:Nat)(h:r*n≤data.length) :
  (data.drop (r*n)).take (List.replicate n (0:Int)).length++(List.replicate n (0:Int)).drop (data.drop (r*n)).length=zFF n data r:=by
 apply List.ext_getElem
 ·simp[zFF];omega
 ·intro i h1 h2
  have hi:i<n:=by simpa[zFF] using h2
  simp only[zFF,List.getElem_map,List.getElem_range,List.getD_eq_getElem?_getD]
  rw[List.getElem_append]
  split
  ·rename_i hlt
   simp at hlt
   simp only[List.getElem_take,List.getElem_drop]
   rw[List.getElem?_eq_getElem (by omega)]
   rfl
  ·rename_i hge
   simp at hge
   rw[List.getElem?_eq_none (by omega)]
   simp
open Go.RowKit
theorem zQP:(Tryz.prog.info? 64).map (fun i=>(i.zero,i.size,i.bytes))=some (some (.agg #[.int .i64 0,.slice none 0 0]),2,32):=by kernel_rfl
theorem zDk{v:Value}{a b:Int}(h:a=b):Ending.returned (.tuple #[v,.int .i64 a])=.returned (.tuple #[v,.int .i64 b]):=by rw[h]
def zAe(n o s:Int)(data:List Int):Int:=if zAx n o s≠0 then zAx n o s else if (data.length:Int)≠s then 3 else zEn data
set_option maxRecDepth 100000 in
theorem zPI(n o s:Int)(v:Value)(data:List Int)(W:World)(hd:zAG W v data)(hE:zAe n o s data≠0) :
  Calls Tryz.prog 68 #[.agg #[.int .i64 n,.int .i64 o,.int .i64 s],v] W fun e w'=>e=.returned (.tuple #[.slice none 0 0,.int .i64 (zAe n o s data)])∧Below W.heap.size W w':=by
 obtain ⟨a,c,rfl,hc,⟨hm,_⟩,_⟩:=hd.opened
 have S0:=(zAD.refl W).alloc (.cells #[.int .i64 n,.int .i64 o,.int .i64 s] 49)
 have hd0:=hd.stays (zAB _ (.cells #[.int .i64 n,.int .i64 o,.int .i64 s] 49))
 have c0:(W.alloc (.cells #[.int .i64 n,.int .i64 o,.int .i64 s] 49)).cell? ⟨W.heap.size,0,none⟩=some (.int .i64 n):=by go_simp
 have c1:(W.alloc (.cells #[.int .i64 n,.int .i64 o,.int .i64 s] 49)).cell? ⟨W.heap.size,1,none⟩=some (.int .i64 o):=by go_simp
 have c2:(W.alloc (.cells #[.int .i64 n,.int .i64 o,.int .i64 s] 49)).cell? ⟨W.heap.size,2,none⟩=some (.int .i64 s):=by go_simp
 obtain ⟨w0,hw0⟩:∃w0,w0=W.alloc (.cells #[.int .i64 n,.int .i64 o,.int .i64 s] 49):=⟨_,rfl⟩
 rw[←hw0] at S0 hd0 c0 c1 c2
 have HW:=Zh hw0
 clear hw0
 obtain ⟨B,hB⟩:∃B,B=W.heap.size:=⟨_,rfl⟩
 rw[←hB] at c0 c1 c2
 have HB:=Zh hB
 clear hB
 have l0:=zAH c0
 by_cases hp:zAx n o s=0
 ·have HP:=Zh hp
  by_cases hl:(data.length:Int)=s
  ·have H:=Zh (show zAe n o s data=zEn data by unfold zAe;rw[if_neg (by simpa using hp),if_neg (by simpa using hl)])
   have hl1:((data.length:Int) != s)=false:=by simpa using hl
   have HE:=Zh hE
   clear hp hl hE hd
   go_enter Tryz.func68,Tryz.ntmps68
   go_wp2_with fail
   rw[←HW.out,←HB.out]
   refine (zAu _ _ _ _).mono ?_
   rintro e w1 ⟨rfl,hb1⟩
   rw[HP.out]
   have d2:=(hb1.cell (p:=⟨B,2,none⟩) l0).trans c2
   have S1:=S0.step hb1
   have hd1:=hd0.stays hb1
   clear c0 c1 c2 hb1 S0 hd0
   go_wp2_with fail
   obtain ⟨a',c',ee,_,_,hi⟩:=hd1.opened
   simp only[Value.slice.injEq] at ee
   obtain ⟨rfl,_,rfl⟩:=ee
   go_loop [30] (fun i=>∃k:Nat,k≤data.length∧i=.int .i64 k∧zEn (data.drop k)=zEn data) (fun i=>data.length - (intOf i).toNat)
   case atStart=>exact ⟨0,by omega,rfl,rfl⟩
   case round =>
    obtain ⟨k,hk,rfl,hq⟩:=hrel
    have HQ:=Zh hq
    clear hq
    by_cases hlt:k<data.length
    ·obtain ⟨b1,o1,z1,rfl,hc1,hz1,hi1⟩:=hi k hlt
     have HZ:=Zh (zAr hz1)
     clear hz1
     by_cases n1:0≤z1∧z1<31
     ·obtain ⟨n10,n11⟩:=n1
      go_wp2_with (go_at_call 91;refine (zCa _ _ (by omega) (by omega)).mono ?_;rintro e w' ⟨rfl,rfl⟩)
      go_round
      case rel =>
       refine ⟨k+1,by omega,by go_num,?_⟩
       rw[←HQ.out,HZ.out]
       simp[zEn,zCW.2 ⟨n10,n11⟩]
      case measure=>simp[intOf];omega
     ·go_wp2_with (go_at_call 91;refine (zE2 _ _ (by omega)).mono ?_;rintro e w' ⟨rfl,rfl⟩)
      go_ret2
      refine ⟨zDk ?_,S1.below⟩
      rw[H.out,←HQ.out,HZ.out]
      simp[zEn,zDn.2 (show z1<0∨31≤z1 by omega)]
    ·obtain rfl:k=data.length:=by omega
     exfalso
     apply HE.out
     rw[H.out,←HQ.out]
     simp[zEn]
  ·have H:=Zh (show zAe n o s data=3 by unfold zAe;rw[if_neg (by simpa using hp),if_pos hl])
   have hl1:((data.length:Int) != s)=true:=by simpa using hl
   clear hp hl hE hd
   go_enter Tryz.func68,Tryz.ntmps68
   go_wp2_with fail
   rw[←HW.out,←HB.out]
   refine (zAu _ _ _ _).mono ?_
   rintro e w1 ⟨rfl,hb1⟩
   rw[HP.out]
   have d2:=(hb1.cell (p:=⟨B,2,none⟩) l0).trans c2
   have S1:=S0.step hb1
   clear c0 c1 c2
   go_wp2_with fail
   go_ret2
   exact ⟨zDk H.out.symm,S1.below⟩
 ·have H:=Zh (show zAe n o s data=zAx n o s by unfold zAe;rw[if_pos hp])
  have hne:(zAx n o s != 0)=true:=by simpa using hp
  clear hp hE
  go_enter Tryz.func68,Tryz.ntmps68
  go_wp2_with fail
  rw[←HW.out,←HB.out]
  refine (zAu _ _ _ _).mono ?_
  rintro e w1 ⟨rfl,hb1⟩
  have S1:=S0.step hb1
  clear c0 c1 c2
  go_wp2_with fail
  go_ret2
  exact ⟨zDk H.out.symm,S1.below⟩
theorem zCJ{n o s:Int}{data:List Int}(h:zAe n o s data=0):zAx n o s=0∧(data.length:Int)=s∧∀z∈data,0≤z∧z<31:=by
 unfold zAe at h
 split at h
 ·rename_i h1;exact absurd h h1
 ·rename_i h1
  split at h
  ·simp at h
  ·rename_i h2
   exact ⟨by simpa using h1,by simpa using h2,(zFj data).1 h⟩
theorem zVb{w w':World}{b c:Value}(e:b=c)(h:w.grownBy w' b.ownBlock):w.grownBy w' c.ownBlock:=e ▸ h
theorem zVI{a b c:Value}{t:Option Nat}(e:b=c)(h:a.ownBlock=b.ownBlock∨a.ownBlock=t):a.ownBlock=c.ownBlock∨a.ownBlock=t:=e ▸ h
def zAM(n s:Nat):Nat:=(s+n - 1) / n
theorem zTP{n s r:Nat}(h1:1≤n)(h2:n≤4)(hr:s≤r*n)(hr':r*n<s+n):r=zAM n s:=by
 unfold zAM
 rcases (by omega:n=1∨n=2∨n=3∨n=4) with rfl|rfl|rfl|rfl<;>omega
set_option maxRecDepth 100000 in
theorem zLj(n o s:Nat)(v:Value)(data:List Int)(W:World)(hd:zAG W v data)(hE:zAe n o s data=0) :
  Calls Tryz.prog 68 #[.agg #[.int .i64 n,.int .i64 o,.int .i64 s],v] W fun e w'=>(∃g f,e=.returned (.tuple #[.slice (some ⟨g,0,none⟩) o o,.int .i64 0])∧zB6 w' 3 64 W.heap.size g o (zAV n data o (zAM n s)) f)∧Below W.heap.size W w':=by
 obtain ⟨hp,hl,hnum⟩:=zCJ hE
 obtain ⟨p1,p2,p3,p4,p5,p6⟩:=zAg hp
 obtain ⟨a,c,rfl,hc,⟨hm,hcm,_⟩,hda⟩:=hd.opened
 obtain ⟨bd,od,_,rfl,_⟩:=hda 0 (by omega)
 clear hda
 have HP:=Zh hp
 have HN:=Zh hnum
 have hs1:s≤data.length:=by omega
 have hs2:data.length≤s:=by omega
 have hl1:((data.length:Int) != (s:Int))=false:=by simpa using hl
 have hsl:=Zh (show data.length=s by omega)
 clear hp hl hnum hE
 have S0:=(zAD.refl W).alloc (.cells #[.int .i64 (n:Int),.int .i64 (o:Int),.int .i64 (s:Int)] 49)
 have hd0:=hd.stays (zAB _ (.cells #[.int .i64 (n:Int),.int .i64 (o:Int),.int .i64 (s:Int)] 49))
 have c0:(W.alloc (.cells #[.int .i64 (n:Int),.int .i64 (o:Int),.int .i64 (s:Int)] 49)).cell? ⟨W.heap.size,0,none⟩=some (.int .i64 n):=by go_simp
 have c1:(W.alloc (.cells #[.int .i64 (n:Int),.int .i64 (o:Int),.int .i64 (s:Int)] 49)).cell? ⟨W.heap.size,1,none⟩=some (.int .i64 o):=by go_simp
 have c2:(W.alloc (.cells #[.int .i64 (n:Int),.int .i64 (o:Int),.int .i64 (s:Int)] 49)).cell? ⟨W.heap.size,2,none⟩=some (.int .i64 s):=by go_simp
 obtain ⟨w0,hw0⟩:∃w0,w0=W.alloc (.cells #[.int .i64 (n:Int),.int .i64 (o:Int),.int .i64 (s:Int)] 49):=⟨_,rfl⟩
 rw[←hw0] at S0 hd0 c0 c1 c2
 have HW:=Zh hw0
 clear hw0
 obtain ⟨B,hB⟩:∃B,B=W.heap.size:=⟨_,rfl⟩
 rw[←hB] at c0 c1 c2
 have HB:=Zh hB
 clear hB
 have l0:=zAH c0
 clear hd
 go_enter Tryz.func68,Tryz.ntmps68
 go_wp2_with fail
 rw[←HW.out,←HB.out]
 refine (zAu _ _ _ _).mono ?_
 rintro e w1 ⟨rfl,hb1⟩
 rw[HP.out]
 have T1:=(zAD.refl w0).step hb1
 have d2:=(T1.below.cell (p:=⟨B,2,none⟩) l0).trans c2
 have hd1:=hd0.stays T1.below
 go_wp2_with fail
 clear d2
 obtain ⟨a',c',ee,_,_,hi⟩:=hd1.opened
 simp only[Value.slice.injEq] at ee
 obtain ⟨rfl,_,rfl⟩:=ee
 go_loop [30] (fun i=>∃k:Nat,k≤data.length∧i=.int .i64 k) (fun i=>data.length - (intOf i).toNat)
 case atStart=>exact ⟨0,by omega,rfl⟩
 case round =>
  obtain ⟨k,hk,rfl⟩:=hrel
  by_cases hlt:k<data.length
  ·obtain ⟨b1,o1,z1,e3,hc1,hz1,hi1⟩:=hi k hlt
   cases e3
   obtain ⟨n10,n11⟩:=HN.out z1 (List.mem_of_getElem? hz1)
   clear hz1
   go_wp2_with (go_at_call 91;refine (zCa _ _ (by omega) (by omega)).mono ?_;rintro e w' ⟨rfl,rfl⟩)
   go_round
   case rel=>exact ⟨k+1,by omega,by go_num⟩
   case measure=>simp[intOf];omega
  ·obtain rfl:k=data.length:=by omega
   clear hi hd1 hlt hk
   have d0:=(T1.below.cell (p:=⟨B,0,none⟩) l0).trans c0
   go_wp2_with fail
   clear d0
   go_loopw[42,10] (fun i x wr=>∃k:Nat,k≤n∧i=.int .i64 k∧zAD w0.heap.size w0 wr∧zAJ wr 3 w0.heap.size x (zA5 k)) (fun i _ _=>n - (intOf i).toNat)
   case atStart=>exact ⟨0,by omega,rfl,T1,zAJ.nil _ _ _⟩
   case round =>
    obtain ⟨k,hk,rfl,hS,hx⟩:=hrel
    by_cases hlt:k<n
    ·have hpl:=zB2 k
     have HPL:=Zh hpl
     have hpl2:(zA5 k).length≤4:=by omega
     clear hpl
     have hgs:=hS.2
     go_wp2_with (at_builtin;refine zAc rfl _ _ 36 rfl 3 Tryz.underlying36 zBD w0.heap.size _ _ rfl (hx.stays (zAB wr _)) ⟨wr.heap.size,0,none⟩ 1 (k:Int) rfl (by simp) ⟨by omega,by omega⟩ (by omega) (by simp;omega) ?_;intro v' w4 hx4 hg4)
     go_roundw
     case rel=>exact ⟨k+1,by omega,by go_num,(hS.alloc _).own (hx.stays (zAB wr _)) hg4,by rw[show zA5 (k+1)=zA5 k++[(k:Int)] by simp[zA5,List.range_succ]];exact hx4⟩
     case measure=>simp[intOf];omega
    ·obtain rfl:n=k:=by omega
     clear hlt hk T1
     have d1:=(hS.below.cell (p:=⟨B,1,none⟩) l0).trans c1
     obtain ⟨wo,hwo⟩:∃wo:World,wo=wr:=⟨_,rfl⟩
     rw[←hwo] at hS hx d1 ⊢
     clear hwo
     have hog:=hx.1.lt
     have hgs:=hS.2
     go_wp2_with (at_make;refine zHI rfl _ _ 83 rfl 3 64 Tryz.underlying83 zQP wo.heap.size _ o rfl rfl rfl (by omega) (Nat.le_refl _) ?_;intro w2 hO2 hg2)
     have S2:zAD w0.heap.size w0 w2:=hS.grown hg2 (fun k hk=>by cases hk)
     have hx2:=hx.kept hg2 (by cases u10.ownBlock<;>simp)
     obtain ⟨g,hg⟩:∃g,g=wo.heap.size:=⟨_,rfl⟩
     rw[←hg] at hO2 hog hgs ⊢
     clear hg hg2 hx hS d1
     go_loopw[13] (fun i wr=>∃r:Nat,∃f:Nat→Value,r*n<s+n∧r≤24∧i=.int .i64 ((r*n:Nat):Int)∧zAD w0.heap.size w0 wr∧zAJ wr 3 w0.heap.size u10 (zA5 n)∧zB6 wr 3 64 g g o (stL n data o r 0) f) (fun i _=>s+n - (intOf i).toNat)
     case atStart=>exact ⟨0,_,by omega,by omega,by go_num,S2,hx2,by rw[zQa];exact hO2⟩
     case round =>
      obtain ⟨r,f,hr1,hr2,rfl,hS,hx,hO⟩:=hrel
      obtain ⟨q,hq⟩:∃q,q=r*n:=⟨_,rfl⟩
      rw[←hq] at hr1 ⊢
      have HQ:=Zh hq
      clear hq S2 hx2 hO2
      obtain ⟨wo,hwo⟩:∃wo:World,wo=wr:=⟨_,rfl⟩
      rw[←hwo] at hS hx hO ⊢
      clear hwo
      by_cases hlt:q<data.length
      ·have d0:=(hS.below.cell (p:=⟨B,0,none⟩) l0).trans c0
       have hdr:=(hd0.stays hS.below).from q (by omega)
       obtain ⟨r0,hr0⟩:∃r0,r0=wo.heap.size:=⟨_,rfl⟩
       have hq2:q<c:=by omega
       have e1:¬(q=c):=by omega
       go_wp2_with (first | (at_make;refine zFG rfl _ _ 36 rfl 3 Tryz.underlying36 zBD wo.heap.size _ n rfl rfl rfl (by omega) (Nat.le_refl _) ?_;intro w3 hw3 hg3;have hdr3:=hdr.stays (show Below wo.heap.size wo w3 from (Below.refl _ _).grown hg3 (Nat.le_refl _) (fun k hk=>by cases hk))) | (refine zIL rfl (.tmp 64) (.tmp 67) 36 rfl 3 Tryz.underlying36 zBD wo.heap.size wo.heap.size n n _ rfl hw3 (data.drop q) _ rfl hdr3 ?_;intro w4 cc hw4 hg4))
       rw[HQ.out,zPk n data r (by rw[←HQ.out];omega)] at hw4
       have hgl:=hO.lt
       have hfl:=fun k hk j hj=>(hO.flt (k:=k) (j:=j) hk hj).2
       have S4:zAD w0.heap.size w0 w4:=(hS.grown hg3 (fun k hk=>by cases hk)).grown hg4 (fun k hk=>by cases hk;exact hS.2)
       have hO4:=(hO.kept hg3 (by simp) (fun k _=>by cases (f k).ownBlock<;>simp)).kept hg4 (by simp;omega) (fun k hk=>by
        cases hfk:(f k).ownBlock with
        | none=>exact Or.inl rfl
        | some j=>right;have:=hfl k hk j hfk;simp;omega)
       have hx4:=(hx.kept hg3 (by cases u10.ownBlock<;>simp)).kept hg4 (by
        cases hxk:u10.ownBlock with
        | none=>exact Or.inl rfl
        | some j=>right;have:=(hog j hxk).2;simp;omega)
       have hoff4:∀k,k<o→(f k).ownBlock≠some wo.heap.size:=fun k hk e=>by have:=hfl k hk _ e;omega
       have hwog:¬g=wo.heap.size:=by omega
       have hr0g:w0.heap.size≤wo.heap.size:=hS.2
       clear hS hx hO hdr hdr3 hw3 hg3 hg4 d0 hgl hfl e1
       generalize wo.heap.size=r0 at *
       go_loopw[71] (fun i wr=>∃m:Nat,∃f:Nat→Value,m≤o∧i=.int .i64 m∧zAD w0.heap.size w0 wr∧zAJ wr 3 w0.heap.size u10 (zA5 n)∧zAJ wr 3 r0 (.slice (some ⟨r0,0,none⟩) n n) (zFF n data r)∧zB6 wr 3 64 g g o (stL n data o r m) f∧∀k,k<o→(f k).ownBlock≠some r0) (fun i _=>o - (intOf i).toNat)
       case atStart=>exact ⟨0,f,by omega,rfl,S4,hx4,hw4,hO4,hoff4⟩
       case round =>
        obtain ⟨m,f',hm1,rfl,hS,hx,hrow,hO,hoff⟩:=hrel
        have HOFF:=Zh hoff
        clear hoff S4 hx4 hw4 hO4 hoff4
        by_cases hlm:m<o
        ·obtain ⟨N,hN⟩:=zVN n data o r m hlm
         have HPT:=Zh (zNq.2 (zFP (n:=n) (data:=data) (by omega) (by omega) HN.out r))
         go_wp2_with fail
         refine (zUi _ _ (zA5 n) (zFF n data r) m _ hx.isInts hrow.isInts HPT.out (by omega) (by omega)).mono ?_
         rintro e w5 ⟨rfl,hb5⟩
         have S5:=hS.step hb5
         have hx5:=hx.stays hb5
         have hrow5:=hrow.stays hb5
         have hO5:=hO.stays hb5
         have hpb:=zEk (zA5 n) (zFF n data r) m
         have cV:=hO5.cellV hN
         have cN:=hO5.cellN hN
         have fz0:=hO5.free (m*2)
         have fz1:=hO5.free (m*2+1)
         have hfo:=hO5.own m _ hN
         obtain ⟨vf,hvf⟩:∃vf,vf=f' m:=⟨_,rfl⟩
         rw[←hvf] at cV hfo
         have HVF:=Zh hvf
         clear hvf hb5 hS hx hrow hO
         have hgs5:=S5.2
         have hgl5:=hO5.lt
         have hlen5:((List.range r).map (zCL n data m)).length≤24:=by simp;omega
         have iz5:I64 (atV (zA5 n) (zFF n data r) m):=⟨by omega,by omega⟩
         have hO5a:=fun o=>hO5.stays (zAB w5 o)
         have HO5a:=Zh hO5a
         clear hO5a
         go_wp2_with (at_builtin;refine zBC rfl _ _ 36 rfl 3 Tryz.underlying36 zBD g _ ((List.range r).map (zCL n data m)) rfl (hfo.stays (zAB w5 _)) ⟨w5.heap.size,0,none⟩ 1 (atV (zA5 n) (zFF n data r) m) rfl (by simp) iz5 (by omega) (by simp;omega) ?_;intro v' w6 ho6 hg6 hat6;obtain ⟨av,cv,rfl,_⟩:=ho6.isInts.opened;have hg7:=zVb HVF.out hg6;have hat7:=zVI HVF.out hat6;have hgq:=(HO5a.out _).same hlm hg7;have c6N:=(World.cell?_of_block (a:=⟨g,m*2,none⟩) hgq).trans ((HO5a.out _).cellN hN);have c6V:=(World.cell?_of_block (a:=⟨g,m*2+1,none⟩) hgq).trans ((HO5a.out _).cellV hN);have z6N:=(World.frozen?_of_block (a:=⟨g,m*2,none⟩) hgq).trans ((HO5a.out _).free (m*2));have z6V:=(World.frozen?_of_block (a:=⟨g,m*2+1,none⟩) hgq).trans ((HO5a.out _).free (m*2+1));have HGQ:=Zh hgq;clear hgq)
         clear hg6 hat6
         have hln:((List.range r).map (zCL n data m)++[atV (zA5 n) (zFF n data r) m]).length=r+1:=by simp
         have hfm:=fun b (hb:(f' m).ownBlock=some b)=>(hO5.flt hlm hb)
         have hrl:=hrow5.1.lt r0 rfl
         rw[hln] at ho6 hat7
         have hput:=zB6.put (HO5a.out _) hlm (N:=(m:Int)) ⟨by omega,by omega⟩ (Nat.le_refl _) hg7 ho6 hat7
         have hst:(stL n data o r m).set m ((m:Int),(List.range r).map (zCL n data m)++[atV (zA5 n) (zFF n data r) m])=stL n data o r (m+1):=zTQ n data o r m
         rw[hst] at hput
         have S6:=(((S5.alloc _).grown hg7 (fun k hk=>Nat.le_trans hgs (hfm k hk).1)).setCell (a:=⟨g,m*2,none⟩) hgs (.int .i64 m)).setCell (a:=⟨g,m*2+1,none⟩) hgs (.slice av (r+1) cv)
         have hx6:=(((hx5.stays (zAB w5 _)).kept hg7 (by
          cases hxk:u10.ownBlock with
          | none=>exact Or.inl rfl
          | some j=>right;intro e;have:=(hog j hxk).2;have:=(hfm j e.symm).1;omega)).kept (zAC w6 ⟨g,m*2,none⟩ (.int .i64 m)) (by
          cases hxk:u10.ownBlock with
          | none=>exact Or.inl rfl
          | some j=>right;intro e;have:=(hog j hxk).2;simp at e;omega)).kept (zAC _ ⟨g,m*2+1,none⟩ (.slice av (r+1) cv)) (by
          cases hxk:u10.ownBlock with
          | none=>exact Or.inl rfl
          | some j=>right;intro e;have:=(hog j hxk).2;simp at e;omega)
         have hrow6:=(((hrow5.stays (zAB w5 _)).kept hg7 (Or.inr fun e=>HOFF.out m hlm e.symm)).kept (zAC w6 ⟨g,m*2,none⟩ (.int .i64 m)) (Or.inr fun e=>hwog (by cases e;rfl))).kept (zAC _ ⟨g,m*2+1,none⟩ (.slice av (r+1) cv)) (Or.inr fun e=>hwog (by cases e;rfl))
         have hoff6:∀k,k<o→(if k=m then Value.slice av (r+1) cv else f' k).ownBlock≠some r0:=by
          intro k hk
          split
          ·intro e
           rcases hat7 with hat|hat
           ·exact HOFF.out m hlm (hat ▸ e)
           ·rw[hat] at e
            simp only[Option.some.injEq] at e
            simp at e
            omega
          ·exact HOFF.out k hk
         have HPUT:=Zh hput
         have HX6:=Zh hx6
         have HR6:=Zh hrow6
         have HF6:=Zh hoff6
         have HS6:=Zh S6
         clear hput hx6 hrow6 hoff6 S6 ho6 hg7 hat7 hfm
         go_roundw
         case rel=>exact ⟨m+1,_,by omega,by go_num,HS6.out,HX6.out,HR6.out,HPUT.out,HF6.out⟩
         case measure=>simp[intOf];omega
        ·obtain rfl:o=m:=by omega
         have d0':=(hS.below.cell (p:=⟨B,0,none⟩) l0).trans c0
         go_wp2_with fail
         go_roundw
         case rel =>
          refine ⟨r+1,f',?_,?_,?_,hS,hx,by rw[←zTm];exact hO⟩
          ·rw[Nat.add_mul,←HQ.out];omega
          ·have:=HQ.out
           have:r≤q:=by rw[HQ.out];exact Nat.le_mul_of_pos_right _ (by omega)
           omega
          ·rw[Nat.add_mul,←HQ.out];go_num
         case measure=>simp[intOf];omega
      ·go_wp2_with fail
       go_ret2
       have hrn:r=zAM n s:=zTP (by omega) (by omega) (by rw[←HQ.out];omega) (by rw[←HQ.out];omega)
       have hr0:0<r:=by
        rcases Nat.eq_zero_or_pos r with h0|h0
        ·have:=HQ.out;subst h0;omega
        ·exact h0
       rw[zSg _ _ _ _ hr0,hrn] at hO
       exact ⟨⟨g,f,rfl,hO.mono (Nat.le_trans S0.2 hgs)⟩,(S0.step hS.below).below⟩
def zAw(n o s:Int):List Sh→List Sh→Int
 | _,[]=>0
 | seen,t::r=>if zDy n o s t.1 t.2≠0 then zDy n o s t.1 t.2 else if zII seen t.1 then 5 else zAw n o s (seen++[t]) r
def zAb(n o s:Int)(ls:List Sh):Int:=
 if zAx n o s≠0 then zAx n o s else if 8<(ls.length:Int) then 1 else if zAw n o s [] ls≠0 then zAw n o s [] ls else if (ls.length:Int)<n then 7 else 0
theorem zEH{n o s N:Int}{l:List Int}(h:zDy n o s N l=0):0≤N∧N<o∧(l.length:Int)=zEg n o s∧∀z∈l,0≤z∧z<31:=by
 unfold zDy at h
 split at h
 ·rename_i h1;exact absurd h h1
 ·split at h
  ·simp at h
  ·rename_i h2
   split at h
   ·simp at h
   ·rename_i h3
    exact ⟨by omega,by omega,by simpa using h3,(zFj l).1 h⟩
theorem zLo(ls:List Sh)(M:Int):zII ls M=true↔∃t∈ls,t.1=M:=by simp[zII]
theorem zM3{n o s:Int}:∀{r seen:List Sh},zAw n o s seen r=0→(seen.map (·.1)).Pairwise (· ≠ ·)→(∀t∈r,zDy n o s t.1 t.2=0)∧((seen++r).map (·.1)).Pairwise (· ≠ ·)
 | [],seen,_,hp=>⟨by simp,by simpa using hp⟩
 | t::r,seen,h,hp=>by
  unfold zAw at h
  split at h
  ·rename_i h1;exact absurd h h1
  ·rename_i h1
   split at h
   ·simp at h
   ·rename_i h2
    have hp2:((seen++[t]).map (·.1)).Pairwise (· ≠ ·):=by
     rw[List.map_append,List.pairwise_append]
     refine ⟨hp,by simp,?_⟩
     intro a ha b hb e
     obtain ⟨u,hu,rfl⟩:=List.mem_map.1 ha
     simp at hb
     subst hb
     exact h2 ((zLo _ _).2 ⟨u,hu,e⟩)
    obtain ⟨i1,i2⟩:=zM3 h hp2
    refine ⟨?_,by simpa using i2⟩
    intro u hu
    rcases List.mem_cons.1 hu with rfl|hu
    ·simpa using h1
    ·exact i1 u hu
def xsL(n:Nat)(ls:List Sh):List Int:=(ls.take n).map (·.1)
def ysL(n:Nat)(ls:List Sh)(i:Nat):List Int:=(ls.take n).map fun t=>t.2.getD i 0
def zLq(n:Nat)(ls:List Sh)(i k:Nat):List Int:=(List.range k).map fun (j:Nat)=>atV (xsL n ls) (ysL n ls i) (j:Int)
def zUY(n:Nat)(ls:List Sh)(i:Nat):List Int:=zLq n ls i n
def zJt(n:Nat)(ls:List Sh)(i:Nat):Bool:=(ls.drop n).any fun t=>decide (atV (xsL n ls) (ysL n ls i) t.1≠t.2.getD i 0)
def zCB(n:Nat)(ls:List Sh)(r:Nat):List Int:=((List.range r).map (zUY n ls)).flatten
def zEJ(n:Nat)(ls:List Sh)(r:Nat):Bool:=(List.range r).any (zJt n ls)
def zBx(n o s:Nat)(ls:List Sh):Int:=
 if zAb n o s ls≠0 then zAb n o s ls else if zEJ n ls (zAM n s) then 9 else if zBl ((zCB n ls (zAM n s)).drop s) then 9 else 0
def zPu(n s:Nat)(ls:List Sh):List Int:=(zCB n ls (zAM n s)).take s
def zCI(n o s:Nat)(ls:List Sh):List Int:=if zBx n o s ls=0 then zPu n s ls else []
theorem zJc{n o s:Nat}{ls:List Sh}(h:zBx n o s ls≠0):zCI n o s ls=[]:=by unfold zCI;rw[if_neg h]
theorem zF2{n o s:Nat}{ls:List Sh}(h:zBx n o s ls=0):zCI n o s ls=zPu n s ls:=by unfold zCI;rw[if_pos h]
theorem zOx{ls:List Sh}{k:Nat}{t:Sh}(h:ls[k]?=some t):xsL (k+1) ls=xsL k ls++[t.1]:=by simp[xsL,List.take_add_one,h]
theorem zO9{ls:List Sh}{k:Nat}{t:Sh}(i:Nat)(h:ls[k]?=some t):ysL (k+1) ls i=ysL k ls i++[t.2.getD i 0]:=by simp[ysL,List.take_add_one,h]
theorem zM9(n:Nat)(ls:List Sh)(i k:Nat):zLq n ls i (k+1)=zLq n ls i k++[atV (xsL n ls) (ysL n ls i) (k:Int)]:=by simp[zLq,List.range_succ]
theorem zIO(n:Nat)(ls:List Sh)(i k:Nat):(zLq n ls i k).length=k:=by simp[zLq]
theorem zFu(n:Nat)(ls:List Sh)(r:Nat):zCB n ls (r+1)=zCB n ls r++zLq n ls r n:=by simp[zCB,List.range_succ,zUY]
theorem zDH(n:Nat)(ls:List Sh):∀r,(zCB n ls r).length=r*n
 | 0=>by simp[zCB]
 | r+1=>by rw[zFu,List.length_append,zDH n ls r,zIO,Nat.add_mul,Nat.one_mul]
theorem zJH(n:Nat)(ls:List Sh)(r:Nat):zEJ n ls (r+1)=(zEJ n ls r||zJt n ls r):=by simp[zEJ,List.range_succ]
theorem zRD{n:Nat}{ls:List Sh}{r m:Nat}(h:zJt n ls r=true)(hr:r<m):zEJ n ls m=true:=by
 simp only[zEJ,List.any_eq_true]
 exact ⟨r,List.mem_range.2 hr,h⟩
theorem zEh{n o s:Nat}(h:zAx n o s=0):zEg n o s=(zAM n s:Int):=by
 obtain ⟨p1,p2,p3,p4,p5,p6⟩:=zAg h
 unfold zEg zAM
 rw[if_pos h]
 rcases (by omega:n=1∨n=2∨n=3∨n=4) with rfl|rfl|rfl|rfl<;>omega
theorem zGq{n s:Nat}(h1:1≤n)(h2:n≤4)(h3:1≤s)(h4:s≤24):s≤zAM n s*n∧zAM n s*n<s+n∧zAM n s≤24:=by
 unfold zAM
 rcases (by omega:n=1∨n=2∨n=3∨n=4) with rfl|rfl|rfl|rfl<;>omega
structure zBe (n o s:Nat) (ls:List Sh):Prop where
 plan:zAx n o s=0
 few:n≤ls.length
 many:ls.length≤8
 num:∀t∈ls,0≤t.1∧t.1<o
 len:∀t∈ls,t.2.length=zAM n s
 vals:∀t∈ls,∀z∈t.2,0≤z∧z<31
 nodup:(ls.map (·.1)).Nodup
theorem zLf{n o s:Nat}{ls:List Sh}(hp:zAx n o s=0)(hn:n≤ls.length)(hl:ls.length≤8)(hE:zAw n o s [] ls=0):zBe n o s ls:=by
 obtain ⟨h1,h2⟩:=zM3 hE (by simp)
 refine ⟨hp,hn,hl,?_,?_,?_,by simpa[List.Nodup] using h2⟩
 ·intro t ht
  obtain ⟨g1,g2,_,_⟩:=zEH (h1 t ht)
  exact ⟨g1,g2⟩
 ·intro t ht
  obtain ⟨_,_,g3,_⟩:=zEH (h1 t ht)
  rw[zEh hp] at g3
  omega
 ·intro t ht
  exact (zEH (h1 t ht)).2.2.2
theorem zBe.pts{n o s:Nat}{ls:List Sh}(h:zBe n o s ls)(r:Nat):zC8 (xsL n ls) (ysL n ls r):=by
 obtain ⟨p1,p2,p3,p4,p5,p6⟩:=zAg h.plan
 have hf:=h.few
 refine ⟨by simp[xsL,ysL],by simp[xsL];omega,by simp[xsL];omega,?_,?_,?_⟩
 ·intro a ha
  obtain ⟨t,ht,rfl⟩:=List.mem_map.1 ha
  have:=h.num t (List.mem_of_mem_take ht)
  omega
 ·intro a ha
  obtain ⟨t,ht,rfl⟩:=List.mem_map.1 ha
  exact zCD.getD (h.vals t (List.mem_of_mem_take ht)) _
 ·have:=h.nodup
  exact List.Nodup.sublist (List.Sublist.map _ (List.take_sublist n ls)) this
def ofD(n r:Nat)(data:List Int)(t:Sh):Bool:=zCm t.1 t.1 t.2 (zAY n data r t.1.toNat).2
def zEb{α:Type}(p:α→Bool):Nat→List α→List Int
 | _,[]=>[]
 | k,x::r=>(if p x then [(k:Int)] else [])++zEb p (k+1) r
theorem zL6{α:Type}(p:α→Bool):∀(l:List α) (k:Nat) (x:α),zEb p k (l++[x])=zEb p k l++(if p x then [((k+l.length:Nat):Int)] else [])
 | [],k,x=>by simp[zEb]
 | y::l,k,x=>by
  simp only[List.cons_append,zEb,zL6 p l (k+1) x,List.append_assoc,List.length_cons]
  rw[show k+1+l.length=k+(l.length+1) by omega]
theorem zMC{α:Type}(p:α→Bool){l:List α}{k:Nat}{x:α}(h:l[k]?=some x):zEb p 0 (l.take (k+1))=zEb p 0 (l.take k)++(if p x then [(k:Int)] else []):=by
 have hk:=(List.getElem?_eq_some_iff.1 h).1
 rw[zAv h,zL6,List.length_take,Nat.min_eq_left (by omega),Nat.zero_add]
theorem zDI{α:Type}(p:α→Bool):∀(l:List α) (k:Nat),(zEb p k l).length=l.countP p
 | [],k=>rfl
 | x::l,k=>by
  simp only[zEb,List.length_append,zDI p l (k+1),List.countP_cons]
  split<;>simp_all<;>omega
theorem zLK{α:Type}{p:α→Bool}:∀{l:List α} {k:Nat} {z:Int},z∈zEb p k l↔∃(i:Nat) (x:α),z=((k+i:Nat):Int)∧l[i]?=some x∧p x=true
 | [],k,z=>by simp[zEb]
 | y::l,k,z=>by
  simp only[zEb,List.mem_append,zLK (l:=l) (k:=k+1)]
  constructor
  ·rintro (h|⟨i,x,rfl,h1,h2⟩)
   ·split at h
    ·rename_i hp
     simp at h
     exact ⟨0,y,by simpa using h,rfl,hp⟩
    ·simp at h
   ·exact ⟨i+1,x,by rw[show k+1+i=k+(i+1) by omega],by simpa using h1,h2⟩
  ·rintro ⟨i,x,rfl,h1,h2⟩
   match i,h1 with
   | 0,h1=>simp at h1;subst h1;left;simp[h2]
   | i+1,h1=>right;exact ⟨i,x,by rw[show k+1+i=k+(i+1) by omega],by simpa using h1,h2⟩
def zKX(who:List Int):Nat→List Sh→List Int
 | _,[]=>[]
 | k,t::r=>(if zEa (k:Int) who then [] else [t.1])++zKX who (k+1) r
theorem zMQ(who:List Int):∀(l:List Sh) (k:Nat) (t:Sh),zKX who k (l++[t])=zKX who k l++(if zEa ((k+l.length:Nat):Int) who then [] else [t.1])
 | [],k,t=>by simp[zKX]
 | y::l,k,t=>by
  simp only[List.cons_append,zKX,zMQ who l (k+1) t,List.append_assoc,List.length_cons]
  rw[show k+1+l.length=k+(l.length+1) by omega]
theorem zR5(who:List Int){l:List Sh}{k:Nat}{t:Sh}(h:l[k]?=some t):zKX who 0 (l.take (k+1))=zKX who 0 (l.take k)++(if zEa (k:Int) who then [] else [t.1]):=by
 have hk:=(List.getElem?_eq_some_iff.1 h).1
 rw[zAv h,zMQ,List.length_take,Nat.min_eq_left (by omega),Nat.zero_add]
theorem zPB(who:List Int):∀(l:List Sh) (k:Nat),(zKX who k l).length≤l.length
 | [],_=>by simp[zKX]
 | t::l,k=>by
  have:=zPB who l (k+1)
  simp only[zKX,List.length_append,List.length_cons]
  split<;>simp<;>omega
theorem zOu(p:Sh→Bool):∀(l:List Sh) (k:Nat) (who:List Int),(∀(i:Nat) t,l[i]?=some t→(((k+i:Nat):Int)∈who↔p t=true))→zKX who k l=(l.filter fun t => !p t).map (·.1)
 | [],_,_,_=>rfl
 | t::l,k,who,h=>by
  have h0:=h 0 t rfl
  have ih:=zOu p l (k+1) who (fun i u hu=>by
   have:=h (i+1) u (by simpa using hu)
   rwa [show k+(i+1)=k+1+i by omega] at this)
  simp only[zKX,ih]
  by_cases hp:p t=true
  ·have hm:zEa (k:Int) who=true:=by unfold zEa;simpa using h0.2 hp
   simp[hm,hp]
  ·have hm:zEa (k:Int) who=false:=by
    unfold zEa
    simp only[decide_eq_false_iff_not]
    intro hh
    exact hp (h0.1 (by simpa using hh))
   simp only[Bool.not_eq_true] at hp
   simp[hm,hp]
theorem zPK(p:Sh→Bool)(l:List Sh):zKX (zEb p 0 l) 0 l=(l.filter fun t => !p t).map (·.1):=
 zOu p l 0 _ fun i t ht=>by
  rw[zLK]
  constructor
  ·rintro ⟨j,x,e,h1,h2⟩
   have:i=j:=by omega
   subst this
   rw[ht] at h1
   cases h1
   exact h2
  ·intro hp
   exact ⟨i,t,rfl,ht,hp⟩
abbrev Vs:=List Int × List Int
def zCx(n o s:Nat)(ls pk:List Sh)(st:Vs):Vs:=
 if zBx n o s pk≠0 then st else if st.2.length<(zEb (ofD n (zAM n s) (zCI n o s pk)) 0 ls).length then (zCI n o s pk,zEb (ofD n (zAM n s) (zCI n o s pk)) 0 ls) else st
def zPS(n:Nat)(V:List Sh→Vs→Vs):List Sh→List Sh→Vs→Vs
 | _,[],st=>st
 | pk,t::r,st=>zPS n V pk r (if pk.length+1=n then V (pk++[t]) st else zPS n V (pk++[t]) r st)
def zUS(n:Nat)(V:List Sh→Vs→Vs)(pk r:List Sh)(st:Vs):Vs:=if pk.length=n then V pk st else zPS n V pk r st
theorem zQm(n:Nat)(V:List Sh→Vs→Vs)(pk:List Sh)(t:Sh)(r:List Sh)(st:Vs):zPS n V pk (t::r) st=zPS n V pk r (zUS n V (pk++[t]) r st):=by
 unfold zUS
 rw[zPS]
 simp
def zGe(n:Nat):List Sh→List Sh→List (List Sh)
 | _,[]=>[]
 | pk,t::r=>(if pk.length+1=n then [pk++[t]] else zGe n (pk++[t]) r)++zGe n pk r
theorem zGx(n:Nat)(V:List Sh→Vs→Vs):∀(r pk:List Sh) (st:Vs),zPS n V pk r st=(zGe n pk r).foldl (fun st c=>V c st) st
 | [],_,_=>rfl
 | t::r,pk,st=>by
  rw[zPS,zGe,List.foldl_append,zGx n V r pk]
  congr 1
  split
  ·rfl
  ·exact zGx n V r _ st
theorem zFl{n:Nat}:∀{r pk:List Sh} {c:List Sh},pk.length<n→(c∈zGe n pk r↔∃q,c=pk++q∧q.Sublist r∧pk.length+q.length=n)
 | [],pk,c,h=>by
  simp only[zGe,List.not_mem_nil,false_iff]
  rintro ⟨q,_,h2,h3⟩
  have:=List.sublist_nil.1 h2
  subst this
  simp at h3
  omega
 | t::r,pk,c,h=>by
  have ih:=zFl (r:=r) (pk:=pk) (c:=c) h
  simp only[zGe,List.mem_append,ih]
  constructor
  ·rintro (h1|⟨q,h1,h2,h3⟩)
   ·split at h1
    ·simp at h1
     exact ⟨[t],h1,List.Sublist.cons_cons t (List.nil_sublist r),by simpa⟩
    ·rename_i hn
     obtain ⟨q,h2,h3,h4⟩:=(zFl (r:=r) (pk:=pk++[t]) (c:=c) (by simp;omega)).1 h1
     exact ⟨t::q,by simp[h2],h3.cons_cons t,by simp at h4 ⊢;omega⟩
   ·exact ⟨q,h1,h2.cons t,h3⟩
  ·rintro ⟨q,rfl,h2,h3⟩
   cases h2 with
   | cons _ h2=>exact Or.inr ⟨q,rfl,h2,h3⟩
   | cons_cons _ h2 =>
    rename_i q
    left
    split
    ·rename_i hn
     simp at h3
     have:q=[]:=List.eq_nil_of_length_eq_zero (by omega)
     subst this
     simp
    ·rename_i hn
     refine (zFl (r:=r) (pk:=pk++[t]) (by simp;omega)).2 ⟨q,by simp,h2,by simp at h3 ⊢;omega⟩
def zKI(n o s:Nat)(ls:List Sh):Vs:=zPS n (zCx n o s ls) [] ls ([],[])
def zCF(n o s:Int)(ls:List Sh):Int:=if zAb n o s ls≠0 then zAb n o s ls else if (zKI n.toNat o.toNat s.toNat ls).2=[] then 9 else 0
def zEs(n o s:Int)(ls:List Sh):List Int:=if zCF n o s ls=0 then (zKI n.toNat o.toNat s.toNat ls).1 else []
def zEq(n o s:Int)(ls:List Sh):List Int:=if zCF n o s ls=0 then (zKX (zKI n.toNat o.toNat s.toNat ls).2 0 ls).mergeSort (fun x y=>decide (x≤y)) else []
theorem zEi{n o s:Int}{ls:List Sh}(h:zAb n o s ls≠0):zCF n o s ls=zAb n o s ls:=if_pos h
theorem zGy{n o s:Nat}{ls:List Sh}(h:zAb n o s ls=0):zCF n o s ls=if (zKI n o s ls).2=[] then 9 else 0:=by unfold zCF;rw[if_neg (by simpa using h)];simp
theorem zIa{n o s:Int}{ls:List Sh}(h:zCF n o s ls≠0):zEs n o s ls=[]:=if_neg h
theorem zIN{n o s:Int}{ls:List Sh}(h:zCF n o s ls≠0):zEq n o s ls=[]:=if_neg h
theorem zGp{n o s:Nat}{ls:List Sh}(h:zCF n o s ls=0):zEs n o s ls=(zKI n o s ls).1:=by unfold zEs;rw[if_pos h];simp
theorem zEo{n o s:Nat}{ls:List Sh}(h:zCF n o s ls=0):zEq n o s ls=(zKX (zKI n o s ls).2 0 ls).mergeSort (fun x y=>decide (x≤y)):=by unfold zEq;rw[if_pos h];simp
end Go.Proofs.YthgmphbkkojaoaaGreat
