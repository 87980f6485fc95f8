/-
  The walk of the reference's Elect.
-/
import Derived.Test.YthgmphbkkojaoaaGreatQElects
set_option maxHeartbeats 4000000
namespace Go.Proofs.YthgmphbkkojaoaaGreat
set_option linter.unusedSectionVars false
variable [Zn]
open Go.RowKit
set_option maxRecDepth 100000 in
theorem zTs(n o s:Nat)(v:Value)(ls:List Sh)(W:World)(hd:zAN W v ls)(hR:zBe n o s ls) :
  Calls Tryz.prog 85 #[.agg #[.int .i64 n,.int .i64 o,.int .i64 s],v] W fun e w'=>(∃vb vw,e=.returned (.tuple #[vb,vw,.int .i64 (zCF n o s ls)])∧zAG w' vb (zEs n o s ls)∧zAG w' vw (zEq n o s ls))∧Below W.heap.size W w':=by
 obtain ⟨p1,p2,p3,p4,p5,p6⟩:=zAg hR.plan
 have hmany:=hR.many
 have hfew:=hR.few
 have HRT:=Zh hR
 have HCK:=Zh hR.checks
 have HD:=Zh hd
 obtain ⟨a,c,rfl,hcc,⟨hcm,hcm',_⟩,_⟩:=hd.opened
 clear hd hR
 have S0:=(zAD.refl W).alloc (.cells #[.int .i64 n,.int .i64 o,.int .i64 s] 49)
 have c0:(W.alloc (.cells #[.int .i64 n,.int .i64 o,.int .i64 s] 49)).cell? ⟨W.heap.size,0,none⟩=some (.int .i64 n):=by go_simp
 have c1:(W.alloc (.cells #[.int .i64 n,.int .i64 o,.int .i64 s] 49)).cell? ⟨W.heap.size,1,none⟩=some (.int .i64 o):=by go_simp
 have c2:(W.alloc (.cells #[.int .i64 n,.int .i64 o,.int .i64 s] 49)).cell? ⟨W.heap.size,2,none⟩=some (.int .i64 s):=by go_simp
 go_enter Tryz.func85,Tryz.ntmps85
 go_upto_region 1 with fail
 generalize W.alloc (.cells #[.int .i64 n,.int .i64 o,.int .i64 s] 49)=w0 at *
 obtain ⟨B,hB⟩:∃B,B=W.heap.size:=⟨_,rfl⟩
 rw[←hB] at c0 c1 c2 ⊢
 clear hB
 have l0:=zAH c0
 have HC:Hid (∀w',zAD w0.heap.size w0 w'→(w'.cell? ⟨B,0,none⟩=some (.int .i64 n)∧w'.cell? ⟨B,1,none⟩=some (.int .i64 o)∧w'.cell? ⟨B,2,none⟩=some (.int .i64 s))):=Zh (fun w' q=>⟨(q.below.cell (p:=⟨B,0,none⟩) l0).trans c0,(q.below.cell (p:=⟨B,1,none⟩) l0).trans c1,(q.below.cell (p:=⟨B,2,none⟩) l0).trans c2⟩)
 have HDS:Hid (∀w',zAD w0.heap.size w0 w'→zAN w' (.slice a ls.length c) ls):=Zh (fun w' q=>zAs HD.out (S0.step q.below).below)
 have hds0:=HDS.out _ (zAD.refl w0)
 go_wp2_with fail
 refine (zJ3 n o s _ ls _ hds0).mono ?_
 rintro e w1 ⟨rfl,hb1⟩
 rw[HCK.out]
 have T1:=(zAD.refl w0).step hb1
 clear hb1 c0 c1 c2 hds0
 have hpw:∃P:Nat,P=2 ^ ls.length∧P≤256:=⟨_,rfl,by
  calc 2 ^ ls.length≤2 ^ 8:=Nat.pow_le_pow_right (by omega) (by omega)
   _=256:=rfl⟩
 obtain ⟨P,hP,hP8⟩:=hpw
 have HP:=Zh hP
 have hpi:IntKind.i64.wrap ((2:Int) ^ ls.length)=(P:Int):=by
  have:((2:Int) ^ ls.length)=(P:Int):=by rw[hP];push_cast;rfl
  rw[this,IntWalk.i64_in _ (by omega)]
 clear hP
 go_wp2_with fail
 go_loopw[32,9] (fun i vp wr=>∃m:Nat,m≤P∧i=.int .i64 m∧zAD w1.heap.size w1 wr∧zAK 1 zLG (fun _=>False) wr 36 w1.heap.size vp (zCT n ls.length m)) (fun i _ _=>P - (intOf i).toNat)
 case atStart=>exact ⟨0,by omega,rfl,zAD.refl w1,by simpa[zCT] using zAK.nil _ _ _⟩
 case round =>
  obtain ⟨m,hm,rfl,hS,ho⟩:=hrel
  by_cases hlt:m<P
  ·have hpl:=zM6 n ls.length m
   obtain ⟨ap,cp,rfl,_⟩:=ho.isRow.opened
   go_wp2_with fail
   obtain ⟨wo,hwo⟩:∃wo:World,wo=wr:=⟨_,rfl⟩
   rw[←hwo] at ho hS ⊢
   clear hwo
   have ho1:=ho.weaken (E':=fun k=>wo.heap.size≤k) (fun k hk h=>absurd h (by omega))
   go_loopw[37,11] (fun i vy wr=>∃k:Nat,k≤ls.length∧i=.int .i64 k∧zAD wo.heap.size wo wr∧zAJ wr 3 wo.heap.size vy (zCP k m)) (fun i _ _=>ls.length - (intOf i).toNat)
   case atStart=>exact ⟨0,by omega,rfl,zAD.refl wo,by simpa[zCP] using zAJ.nil _ _ _⟩
   case round =>
    obtain ⟨k,hk,rfl,hSw,hy⟩:=hrel
    by_cases hlk:k<ls.length
    ·have hbw:=zT3 m (by omega) k (by omega)
     have hbl:=zTu k m
     have hgs:=hSw.2
     cases htb:m.testBit k with
     | true =>
      have HB:=Zh (zS0 htb)
      rw[htb] at hbw
      clear htb
      go_wp2_with (at_builtin;refine zAc rfl _ _ 36 rfl 3 Tryz.underlying36 zBD wo.heap.size _ _ rfl (hy.stays (zAB _ _)) ⟨wr.heap.size,0,none⟩ 1 k rfl (by go_simp) ⟨by omega,by omega⟩ (by omega) (by simp;omega) ?_;intro v' w2 ho2 hg2)
      have S2:=(hSw.alloc (.cells #[.int .i64 k] 3)).own (hy.stays (zAB _ _)) hg2
      have HO2:=Zh ho2
      clear ho2 hg2 hy
      go_roundw
      case rel=>exact ⟨k+1,by omega,by go_num,S2,by rw[HB.out];exact HO2.out⟩
      case measure=>simp[intOf];omega
     | false =>
      have HB:=Zh (zSE htb)
      rw[htb] at hbw
      clear htb
      have HO2:=Zh hy
      clear hy
      go_wp2_with fail
      go_roundw
      case rel=>exact ⟨k+1,by omega,by go_num,hSw,by rw[HB.out];exact HO2.out⟩
      case measure=>simp[intOf];omega
    ·obtain rfl:ls.length=k:=by omega
     obtain ⟨ay,cy,rfl,_⟩:=hy.isInts.opened
     have hS2:=hS.step hSw.below
     obtain ⟨d0,d1,d2⟩:=HC.out _ (T1.step hS2.below)
     by_cases hln:(zCP ls.length m).length=n
     ·have HPO:=Zh (zRH hln)
      have hdn:(((zCP ls.length m).length:Int) == (n:Int))=true:=by simp[hln]
      have hal:∀q,(Value.slice ay (zCP ls.length m).length cy).ownBlock=some q→wo.heap.size≤q:=fun q h=>(hy.1.lt q h).1
      have hapl:∀q,(Value.slice ap (zCT n ls.length m).length cp).ownBlock=some q→q<wo.heap.size:=fun q h=>(ho.lt q h).2
      have HYI:=Zh hy.isInts
      have hop:=(ho1.later (zAF.of_below hSw.below hSw.2) (fun q h h2=>by have:=hapl q h;omega)).weaken (E':=fun _=>False) (fun k hk h=>h.elim)
      have hgs:=hSw.2
      have hw1s:=hS.2
      clear hln hy
      have HFR:Hid (zA3 (fun q=>(Value.slice ap (zCT n ls.length m).length cp).ownBlock=some q∨(fun _=>False) q) zLG (wr.alloc (.cells #[.slice ay (zCP ls.length m).length cy] 36)) [.slice ay (zCP ls.length m).length cy] (zCP ls.length m)):=Zh (fun w' hw'=>⟨_,rfl,(HYI.out.stays (zAB _ _)).framed (fun q hq _=>by
       rintro (h|h)
       ·have h2:=hapl q h
        have h3:=hal q (zK8 hq)
        omega
       ·exact h) hw'⟩)
      clear hal hapl
      go_wp2_with (at_builtin;refine zAd rfl _ _ 43 rfl 1 (fun _=>False) 36 Tryz.underlying43 (.slice none 0 0) 24 (by kernel_rfl) rfl (by omega) (by omega) w1.heap.size _ _ rfl (hop.stays (zAB _ _)) ⟨wr.heap.size,0,none⟩ 1 [.slice ay (zCP ls.length m).length cy] (zCP ls.length m) rfl rfl (by simp[Value.oneCell']) (by intro j u hj;cases j with | zero=>(simp at hj;subst hj;go_simp) | succ j=>simp at hj) HFR.out (by omega) (by simp;omega) ?_;intro v' w2 ho2 hg2 hv2)
      have hbf:∀q,(Value.slice ap (zCT n ls.length m).length cp).ownBlock=some q→w1.heap.size≤q:=fun q h=>(ho.lt q h).1
      have S2:=(hS2.alloc (.cells #[.slice ay (zCP ls.length m).length cy] 36)).row (hop.stays (zAB _ _)) hg2
      have HO2:=Zh ho2
      clear ho2 hg2 hv2 hop ho ho1 hbf
      go_roundw
      case rel=>exact ⟨m+1,by omega,by go_num,S2,by rw[HPO.out];exact HO2.out⟩
      case measure=>simp[intOf];omega
     ·have HPO:=Zh (zQU hln)
      have hdn:(((zCP ls.length m).length:Int) == (n:Int))=false:=by simp;omega
      have HO2:=Zh ((ho1.later (zAF.of_below hSw.below hSw.2) (fun q h h2=>by have:=(ho.lt q h).2;omega)).weaken (E':=fun _=>False) (fun k hk h=>h.elim))
      clear hln hy ho ho1
      go_wp2_with fail
      go_roundw
      case rel=>exact ⟨m+1,by omega,by go_num,hS2,by rw[HPO.out];exact HO2.out⟩
      case measure=>simp[intOf];omega
  ·obtain rfl:P=m:=by omega
   have hn1:0<n:=by omega
   have hne:zCT n ls.length P≠[]:=by rw[HP.out];exact zPp hfew
   obtain ⟨ap,cp,rfl,_⟩:=ho.isRow.opened
   have HSO:=Zh (zMe w1.heap.size _ _ wr ho hne)
   go_upto_region 20 with (go_at_call 105;go_fit HSO.out;rintro e w2 ⟨rfl,l',hrow,hper,hsrt,hg2⟩)
   have S2:=hS.grown hg2 (fun j hj=>(ho.lt j hj).1)
   have hL:l'=zEO n [] (zBi ls.length):=zMK hn1 (by rw[←zJg,←HP.out];exact hper) hsrt
   obtain ⟨CB,hCB⟩:∃CB,CB=zEO n [] (zBi ls.length):=⟨_,rfl⟩
   have hlen:(zCT n ls.length P).length=CB.length:=by rw[hCB,←hL];exact hper.length_eq.symm
   rw[hL,←hCB] at hrow
   rw[hlen] at hrow ⊢
   have HROW:Hid (∀w',zAD w2.heap.size w2 w'→zAZ 1 zLG w' (.slice ap CB.length cp) CB):=Zh (fun w' q=>hrow.stays zN4 q.below)
   have HCB:Hid (∀c∈CB,c.length=n∧(zCz ls c).Sublist ls∧(zCz ls c).length=n∧∀z∈c,∃m:Nat,z=(m:Int)∧m<ls.length):=Zh (fun c hc=>zPz hn1 (by rw[←hCB];exact hc))
   have HEF:Hid (CB.foldl (fun st c=>zDL n s ls (zCz ls c) st) none=zMZ n s ls):=Zh (by rw[hCB];rfl)
   have hcl:CB.length≤256:=by rw[hCB];exact zTN n ls.length hmany hn1
   have T2:=T1.step S2.below
   obtain ⟨_,_,ev,hcc2,⟨hcm2,hcm3,_⟩,_⟩:=hrow.opened
   simp only[Value.slice.injEq,true_and] at ev
   obtain ⟨rfl,rfl⟩:=ev
   clear hrow hper hsrt hL hCB hlen HSO ho hg2 hne hpi
   go_wp2_with fail
   go_loopw[64,8] (fun i vb wr=>∃k:Nat,k≤CB.length∧i=.int .i64 k∧zAD w2.heap.size w2 wr∧zMh wr w2.heap.size vb ((CB.take k).foldl (fun st c=>zDL n s ls (zCz ls c) st) none)) (fun i _ _=>CB.length - (intOf i).toNat)
   case atStart=>exact ⟨0,by omega,rfl,zAD.refl _,rfl⟩
   case round =>
    obtain ⟨k,hk,rfl,hS3,hbest⟩:=hrel
    have HBE:=Zh hbest
    clear hbest
    have hT3:=T2.step hS3.below
    by_cases hlt:k<CB.length
    ·have hget:=List.getElem?_eq_getElem hlt
     obtain ⟨g,off,rfl,cs,_,hcs,vd,rfl,hd⟩:=(HROW.out wr hS3).at hget
     obtain ⟨ad,cd,rfl,_⟩:=hd.opened
     obtain ⟨hc1,hc2,hc3,hc4⟩:=HCB.out _ (List.mem_of_getElem? hget)
     have HFS:=Zh (zR0 (fun st c=>zDL n s ls (zCz ls c) st) hget none)
     generalize CB[k]=c at *
     have k0:wr.cell? ⟨g,off+k,none⟩=some (.slice ad c.length cd):=by simpa using hcs 0 _ rfl
     have HDC:Hid (∀w',zAD wr.heap.size wr w'→zAG w' (.slice ad c.length cd) c):=Zh (fun w' q=>hd.stays q.below)
     have HC4:=Zh hc4
     have HC2:=Zh hc2
     have HC3:=Zh hc3
     have hnc:c.length≤8:=by omega
     clear hget hcs hd hc4 hc2 hc3
     go_wp2_with fail
     clear k0
     obtain ⟨wo,hwo⟩:∃wo:World,wo=wr:=⟨_,rfl⟩
     subst hwo
     go_loopw[70,15] (fun i vy wr=>∃j:Nat,j≤c.length∧i=.int .i64 j∧zAD wo.heap.size wo wr∧zAK 2 zBA (fun _=>False) wr 64 wo.heap.size vy (zCz ls (c.take j))) (fun i _ _=>c.length - (intOf i).toNat)
     case atStart=>exact ⟨0,by omega,rfl,zAD.refl wo,by simpa[zCz] using zAK.nil _ _ _⟩
     case round =>
      obtain ⟨j,hj,rfl,hSw,hy⟩:=hrel
      by_cases hlj:j<c.length
      ·have hz:c[j]?=some c[j]:=List.getElem?_eq_getElem hlj
       obtain ⟨m,hm,hml⟩:=HC4.out _ (List.mem_of_getElem? hz)
       rw[hm] at hz
       obtain ⟨b1,o1,e1,q1,_,_⟩:=zC0 (HDC.out wr hSw) hz
       subst e1
       have hx:ls[m]?=some ls[m]:=List.getElem?_eq_getElem hml
       obtain ⟨gs,os,u,cu,e2,k0,k1,hiv,hi1⟩:=zBZ (HDS.out wo hT3) hx
       subst e2
       have hblt:=hiv.block_lt
       have k0:=zAA hSw.below k0
       have k1:=zAA hSw.below k1
       have hiv:=hiv.stays hSw.below
       have HPS:=Zh (zQw hz hx)
       have hpl:(zCz ls (c.take j)).length≤8:=by unfold zCz;rw[List.length_map,List.length_take];omega
       generalize ls[m]=t at *
       obtain ⟨ay,cy,rfl,_⟩:=hy.isRow.opened
       have hal:∀q,(Value.slice ay (zCz ls (c.take j)).length cy).ownBlock=some q→wo.heap.size≤q:=fun q h=>(hy.lt q h).1
       have HFR:Hid (zA3 (fun q=>(Value.slice ay (zCz ls (c.take j)).length cy).ownBlock=some q∨(fun _=>False) q) zBA (wr.alloc (.cells #[.int .i64 t.1,.slice u t.2.length cu] 64)) [.int .i64 t.1,.slice u t.2.length cu] t):=Zh (fun w' hw'=>⟨_,rfl,(hiv.stays (zAB _ _)).framed (fun q hq hne=>by
        rintro (h|h)
        ·have h2:=hal q h
         have h3:=hblt q hq hne
         omega
        ·exact h) hw',hi1⟩)
       have hgr:=hSw.2
       have hmi:(m:Int)<(ls.length:Int):=by omega
       clear hx hz hm hal hblt hiv
       go_wp2_with (at_builtin;refine zAd rfl _ _ 83 rfl 2 (fun _=>False) 64 Tryz.underlying83 _ 32 zN2 rfl (by omega) (by omega) wo.heap.size _ _ rfl (hy.stays (zAB _ _)) ⟨wr.heap.size,0,none⟩ 1 [.int .i64 t.1,.slice u t.2.length cu] t rfl rfl (by intro w hw;simp at hw;rcases hw with rfl | rfl<;>rfl) (zNE wr [.int .i64 t.1,.slice u t.2.length cu] 64 _ rfl) HFR.out (by omega) (by simp;omega) ?_;intro v6 w6 ho6 hg6 hat6)
       have S6:=(hSw.alloc (.cells #[.int .i64 t.1,.slice u t.2.length cu] 64)).row (hy.stays (zAB _ _)) hg6
       have HO6:=Zh ho6
       clear ho6 hg6 hat6 hy q1 k0 k1
       go_roundw
       case rel=>exact ⟨j+1,by omega,by go_num,S6,by rw[HPS.out];exact HO6.out⟩
       case measure=>simp[intOf];omega
      ·obtain rfl:c.length=j:=by omega
       rw[List.take_length] at hy
       have hprl:(zCz ls c).length≤8:=by have:=HC3.out;omega
       have HRP:Hid (zBe n o s (zCz ls c)):=Zh (HRT.out.sub HC2.out (by rw[HC3.out];exact Nat.le_refl _))
       generalize zCz ls c=pk at *
       obtain ⟨ay,cy,rfl,_⟩:=hy.isRow.opened
       have hS4:=hS3.step hSw.below
       have hT4:=hT3.step hSw.below
       obtain ⟨d0,d1,d2⟩:=HC.out _ hT4
       have HIS:=Zh (zA6 hy.isRow)
       have HBE4:=Zh (HBE.out.stays hSw.below)
       clear hy HBE
       go_upto_region 30 with (go_at_call 107;go_fit (zTS n o s _ pk _ HIS.out HRP.out);rintro e w3 ⟨⟨v3,rfl,hi3⟩,hb3⟩)
       have S5:=hS4.step hb3
       have T5:=hT4.step hb3
       have HBE5:=Zh (HBE4.out.stays hb3)
       obtain ⟨a3,c3,rfl,_⟩:=hi3.opened
       clear d0 d1 d2 HBE4 HIS hb3
       obtain ⟨F1,hF1⟩:∃F1,F1=(CB.take (k+1)).foldl (fun st c=>zDL n s ls (zCz ls c) st) none:=⟨_,rfl⟩
       have HF1:=Zh hF1
       rw[←hF1] at HFS
       generalize (CB.take k).foldl (fun st c=>zDL n s ls (zCz ls c) st) none=st at *
       clear hF1
       by_cases hmd:zC6 n s pk=true
       ·have HNUM:=Zh (zRi HRP.out hmd)
        obtain ⟨D,hD⟩:∃D,D=zFK n s pk:=⟨_,rfl⟩
        obtain ⟨M,hM⟩:∃M,M=zCj n s pk:=⟨_,rfl⟩
        have HOF:Hid (∀t,M t=zCm t.1 t.1 t.2 (zAY n D (zAM n s) t.1.toNat).2):=Zh (fun t=>by rw[hM,hD];rfl)
        have HE1:Hid (st=none→F1=some (D,zGJ M ls)):=Zh (fun h=>by rw[HFS.out,h,hD,hM];exact zOM hmd)
        have HE2:Hid (∀b,st=some b→(zGJ M ls).length<b.2.length→F1=some (D,zGJ M ls)):=Zh (fun b h hl=>by rw[HFS.out,h,hD,hM];exact zNL hmd (by rw[←hM];exact hl))
        have HE3:Hid (∀b,st=some b→¬(zGJ M ls).length<b.2.length→F1=some b):=Zh (fun b h hl=>by rw[HFS.out,h];exact zOT hmd (by rw[←hM];exact hl))
        rw[hmd]
        rw[←hD] at hi3 HNUM ⊢
        have HI3:=Zh hi3
        clear hi3 hD hM hmd HFS
        have c0:(w3.alloc (.cells #[.slice a3 D.length c3,.slice none 0 0] 142)).cell? ⟨w3.heap.size,0,none⟩=some (.slice a3 D.length c3):=by go_simp
        have c1:(w3.alloc (.cells #[.slice a3 D.length c3,.slice none 0 0] 142)).cell? ⟨w3.heap.size,1,none⟩=some (.slice none 0 0):=by go_simp
        have cf:∀j,(w3.alloc (.cells #[.slice a3 D.length c3,.slice none 0 0] 142)).frozen? ⟨w3.heap.size,j,none⟩=false:=by intro j;go_simp
        have U3:=(zAD.refl w3).alloc (.cells #[.slice a3 D.length c3,.slice none 0 0] 142)
        go_upto_region 32 with fail
        generalize w3.alloc (.cells #[.slice a3 D.length c3,.slice none 0 0] 142)=w4 at *
        obtain ⟨q,hq⟩:∃q,q=w3.heap.size:=⟨_,rfl⟩
        rw[←hq] at c0 c1 cf ⊢
        have HQE:=Zh hq
        clear hq
        go_wp2_with fail
        go_loopw[94] (fun i wr=>∃(kk:Nat) (a2:Option Addr) (c2:Nat),kk≤ls.length∧i=.int .i64 kk∧zAD w3.heap.size w3 wr∧wr.cell? ⟨q,0,none⟩=some (.slice a3 D.length c3)∧wr.cell? ⟨q,1,none⟩=some (.slice a2 (zGJ M (ls.take kk)).length c2)∧(∀j,wr.frozen? ⟨q,j,none⟩=false)∧zAJ wr 3 (q+1) (.slice a2 (zGJ M (ls.take kk)).length c2) (zGJ M (ls.take kk))) (fun i _=>ls.length - (intOf i).toNat)
        case atStart=>exact ⟨0,none,0,by omega,rfl,U3,c0,by simpa[zGJ] using c1,cf,by simpa[zGJ] using zAJ.nil _ _ _⟩
        case round =>
         clear c0 c1 cf
         obtain ⟨kk,a2,c2,hkk,rfl,hS6,y0,y1,yf,hy⟩:=hrel
         have HYF:=Zh yf
         have HY:=Zh hy
         have hbl:=zTR M (ls.take kk)
         have hbl2:(ls.take kk).length≤kk:=by rw[List.length_take];omega
         clear yf hy
         by_cases hlk:kk<ls.length
         ·have hx:ls[kk]?=some ls[kk]:=List.getElem?_eq_getElem hlk
          have hSw:=T5.step hS6.below
          obtain ⟨gs,os,u,cu,e2,k0,k1,hiv,hi1⟩:=zBZ (HDS.out wr hSw) hx
          subst e2
          have hnum:=HRT.out.num _ (List.mem_of_getElem? hx)
          have HBI:=Zh (fun h=>zUv (M:=M) hx h)
          have HBO:=Zh (fun h=>zTT (M:=M) hx h)
          generalize ls[kk]=t at *
          obtain ⟨m,hm⟩:=Int.eq_ofNat_of_zero_le hnum.1
          have hm8:m≤8:=by omega
          have HM1:=Zh hm
          rw[hm] at k0 HBO
          have S7:=hS6.alloc (.cells #[.int .i64 (m:Int),.slice u t.2.length cu] 64)
          have BA:=zAB wr (.cells #[.int .i64 (m:Int),.slice u t.2.length cu] 64)
          have hiv1:=hiv.stays BA
          have q0:(wr.alloc (.cells #[.int .i64 (m:Int),.slice u t.2.length cu] 64)).cell? ⟨wr.heap.size,0,none⟩=some (.int .i64 (m:Int)):=by go_simp
          have q1:(wr.alloc (.cells #[.int .i64 (m:Int),.slice u t.2.length cu] 64)).cell? ⟨wr.heap.size,1,none⟩=some (.slice u t.2.length cu):=by go_simp
          have y0:=zAA BA y0
          have HYF:=Zh (fun j=>(BA.frozen (p:=⟨q,j,none⟩) (show q<wr.heap.size from zAH y1)).trans (HYF.out j))
          have y1:=zAA BA y1
          have HY:=Zh (HY.out.stays BA)
          clear hx hiv hm hnum hSw hS6 BA
          go_upto_region 35 with fail
          generalize wr.alloc (.cells #[.int .i64 (m:Int),.slice u t.2.length cu] 64)=w5 at *
          obtain ⟨Bt,hBt⟩:∃Bt,Bt=wr.heap.size:=⟨_,rfl⟩
          rw[←hBt] at q0 q1 ⊢
          clear hBt k0 k1
          have hqlt:=zAH y1
          have HS:Hid (∀w',zAD w5.heap.size w5 w'→w'.cell? ⟨B,0,none⟩=some (.int .i64 n)∧w'.cell? ⟨B,1,none⟩=some (.int .i64 o)∧w'.cell? ⟨B,2,none⟩=some (.int .i64 s)∧w'.cell? ⟨Bt,0,none⟩=some (.int .i64 (m:Int))∧w'.cell? ⟨Bt,1,none⟩=some (.slice u t.2.length cu)):=Zh (fun w' q=>by
           obtain ⟨x0,x1,x2⟩:=HC.out _ (T5.step (S7.step q.below).below)
           exact ⟨x0,x1,x2,zAA q.below q0,zAA q.below q1⟩)
          have HQ:Hid (∀w',zAD w5.heap.size w5 w'→w'.cell? ⟨q,0,none⟩=some (.slice a3 D.length c3)∧w'.cell? ⟨q,1,none⟩=some (.slice a2 (zGJ M (ls.take kk)).length c2)∧(∀j,w'.frozen? ⟨q,j,none⟩=false)∧zAJ w' 3 (q+1) (.slice a2 (zGJ M (ls.take kk)).length c2) (zGJ M (ls.take kk))):=Zh (fun w' h=>⟨zAA h.below y0,zAA h.below y1,fun j=>(h.below.frozen (p:=⟨q,j,none⟩) hqlt).trans (HYF.out j),HY.out.stays h.below⟩)
          have s3:=HS.out w5.drew (zAD.refl w5).drew
          have HIV:=Zh hiv1
          obtain ⟨T,hT⟩:∃T,T=M t:=⟨_,rfl⟩
          have HT:=Zh (show zCm (m:Int) (m:Int) t.2 (zAY n D (zAM n s) m).2=T by rw[hT,HOF.out t,HM1.out];simp)
          have HTT:=Zh hT.symm
          clear hT q0 q1 hiv1 y0 y1 HY HYF
          cases T with
          | true =>
           go_region_held3 (fun w'=>w'.cell? ⟨B,0,none⟩=some (.int .i64 n)∧w'.cell? ⟨B,1,none⟩=some (.int .i64 o)∧w'.cell? ⟨B,2,none⟩=some (.int .i64 s)∧w'.cell? ⟨Bt,0,none⟩=some (.int .i64 (m:Int))∧w'.cell? ⟨Bt,1,none⟩=some (.slice u t.2.length cu)) (first | exact s3 | exact s4 | exact s5) (first
            | (go_at_call 62;refine (zCV n o s _ D m _ (HI3.out.stays (S7.drew.below)) HRT.out.plan HNUM.out hm8).mono ?_;rintro e w6 ⟨⟨v4,rfl,ho4⟩,hb4⟩;have p4:=(zAD.refl w5).drew.step hb4;have s4:=HS.out w6 p4)
            | (go_at_call 56;refine (zBo (m:Int) (m:Int) _ _ t.2 (zAY n D (zAM n s) m).2 _ (HIV.out.stays p4.below) ho4.isInts).mono ?_;rintro e w7 ⟨rfl,hb5⟩;rw[HT.out];have p5:=p4.step hb5;have s5:=HS.out w7 p5))
           all_goals
            have S8:=S7.step p5.below
            obtain ⟨x0,x1,xf,hx⟩:=HQ.out w7 p5
            have HXF:=Zh xf
            have HX:=Zh hx
            clear s3 s4 ho4 hb4 hb5 xf hx
            have HV:=Zh (HBI.out HTT.out)
            have HXX:=Zh (And.intro x0 x1)
            clear s5 x0 x1
            go_wp2_with fail
            go_roundw
            case rel=>exact ⟨kk+1,a2,c2,by omega,by go_num,S8,HXX.out.1,by rw[HV.out];exact HXX.out.2,HXF.out,by rw[HV.out];exact HX.out⟩
            case measure=>simp[intOf];omega
          | false =>
           go_region_held3 (fun w'=>w'.cell? ⟨B,0,none⟩=some (.int .i64 n)∧w'.cell? ⟨B,1,none⟩=some (.int .i64 o)∧w'.cell? ⟨B,2,none⟩=some (.int .i64 s)∧w'.cell? ⟨Bt,0,none⟩=some (.int .i64 (m:Int))∧w'.cell? ⟨Bt,1,none⟩=some (.slice u t.2.length cu)) (first | exact s3 | exact s4 | exact s5) (first
            | (go_at_call 62;refine (zCV n o s _ D m _ (HI3.out.stays (S7.drew.below)) HRT.out.plan HNUM.out hm8).mono ?_;rintro e w6 ⟨⟨v4,rfl,ho4⟩,hb4⟩;have p4:=(zAD.refl w5).drew.step hb4;have s4:=HS.out w6 p4)
            | (go_at_call 56;refine (zBo (m:Int) (m:Int) _ _ t.2 (zAY n D (zAM n s) m).2 _ (HIV.out.stays p4.below) ho4.isInts).mono ?_;rintro e w7 ⟨rfl,hb5⟩;rw[HT.out];have p5:=p4.step hb5;have s5:=HS.out w7 p5))
           all_goals
            have S8:=S7.step p5.below
            obtain ⟨x0,x1,xf,hx⟩:=HQ.out w7 p5
            have HXF:=Zh xf
            have HX:=Zh hx
            clear s3 s4 ho4 hb4 hb5 xf hx
            obtain ⟨L2,hL2⟩:∃L2,L2=zGJ M (ls.take kk)++[(m:Int)]:=⟨_,rfl⟩
            have HL2:=Zh hL2
            have HV:=Zh ((HBO.out HTT.out).trans hL2.symm)
            clear hL2
            obtain ⟨_,_,_,k0,k1⟩:=s5
            have xf0:=HXF.out 0
            have xf1:=HXF.out 1
            have hq7:q+1≤w7.heap.size:=zAH x1
            have BI:=zAB w7 (.cells #[.int .i64 (m:Int)] 3)
            have hoq:∀j,(Value.slice a2 (zGJ M (ls.take kk)).length c2).ownBlock=some j→q+1≤j:=fun j h=>(HX.out.1.lt j h).1
            go_upto_region 37 with (at_builtin;refine zAc rfl _ _ 36 rfl 3 Tryz.underlying36 zBD (q+1) _ _ rfl (HX.out.stays (zAB _ _)) ⟨w7.heap.size,0,none⟩ 1 m rfl (by go_simp) ⟨by omega,by omega⟩ (by omega) (by simp;omega) ?_;intro v' w8 ho8 hg8;rw[←HL2.out] at ho8;obtain ⟨a8,c8,rfl,_⟩:=ho8.isInts.opened;have x0':=(zAF.of_grown hg8).cell (zAA BI x0) (fun h=>Nat.not_succ_le_self q (hoq _ h));have x1':=(zAF.of_grown hg8).cell (zAA BI x1) (fun h=>Nat.not_succ_le_self q (hoq _ h));have z1:=zAW hg8 (zAA BI x1) ((BI.frozen (p:=⟨q,1,none⟩) (zAH x1)).trans xf1) (fun h=>Nat.not_succ_le_self q (hoq _ h.symm)))
            have z0:=zAW hg8 (zAA BI x0) ((BI.frozen (p:=⟨q,0,none⟩) (zAH x0)).trans xf0) (fun h=>Nat.not_succ_le_self q (hoq _ h.symm))
            have S9:=(((S8.alloc (.cells #[.int .i64 (m:Int)] 3)).grown hg8 (fun j hj=>by have:=hoq j hj;have:=HQE.out;omega)).setCell (a:=⟨q,1,none⟩) (by rw[HQE.out];exact Nat.le_refl _) (.slice a8 L2.length c8))
            have n0:(w8.setCell ⟨q,1,none⟩ (.slice a8 L2.length c8)).cell? ⟨q,0,none⟩=some (.slice a3 D.length c3):=by go_simp
            have n1:(w8.setCell ⟨q,1,none⟩ (.slice a8 L2.length c8)).cell? ⟨q,1,none⟩=some (.slice a8 L2.length c8):=by go_simp
            have nf:∀j,(w8.setCell ⟨q,1,none⟩ (.slice a8 L2.length c8)).frozen? ⟨q,j,none⟩=false:=fun j=>by
             rw[World.frozen?_setCell]
             exact (World.frozen?_of_block (a:=⟨q,j,none⟩) (hg8.block q (Nat.lt_of_lt_of_le (show q<w7.heap.size from zAH x1) BI.size) (fun h=>Nat.not_succ_le_self q (hoq _ h.symm)))).trans ((BI.frozen (p:=⟨q,j,none⟩) (show q<w7.heap.size from zAH x1)).trans (HXF.out j))
            have HO:=Zh (ho8.kept (zAC w8 ⟨q,1,none⟩ (.slice a8 L2.length c8)) (by
             cases hob:(Value.slice a8 L2.length c8).ownBlock with
             | none=>exact Or.inl rfl
             | some j=>exact Or.inr (fun h=>Nat.not_succ_le_self q (by have h1:=(ho8.1.lt j hob).1;rw[Option.some.inj h] at h1;exact h1))))
            have HN:=Zh (And.intro n0 (And.intro n1 nf))
            clear n0 n1 nf x0 x1 x0' x1' z0 z1 xf0 xf1 k0 k1 BI hoq
            generalize w8.setCell ⟨q,1,none⟩ (.slice a8 L2.length c8)=w9 at *
            go_wp2_with fail
            go_roundw
            case rel=>exact ⟨kk+1,a8,c8,by omega,by go_num,S9,HN.out.1,by rw[HV.out];exact HN.out.2.1,HN.out.2.2,by rw[HV.out];exact HO.out⟩
            case measure=>simp[intOf];omega
         ·obtain rfl:ls.length=kk:=by omega
          rw[List.take_length] at y1 HY hbl
          have S9:=S5.step hS6.below
          have HB9:=HBE5.out.stays hS6.below
          have HNEW:Hid (zMh wr w2.heap.size (.pointer (some ⟨q,0,none⟩)) (some (D,zGJ M ls))):=Zh ⟨q,a3,D.length,c3,a2,c2,rfl,by rw[HQE.out];exact S5.2,y0,y1,HY.out,by rw[HQE.out];exact zRa HI3.out hS6⟩
          clear HBE5
          cases st with
          | none =>
           have hv:_=Value.pointer none:=HB9
           subst hv
           have HNX:=Zh (HF1.out.symm.trans (HE1.out rfl))
           clear HB9
           go_wp2_with (go_quiet (fail))
           go_roundw
           case rel=>exact ⟨k+1,by omega,by go_num,zCX S9 _,by rw[HNX.out];exact HNEW.out.stays (zB4 _ _)⟩
           case measure=>simp[intOf];omega
          | some b =>
           have HB9':=Zh HB9
           obtain ⟨q',a1,n1,c1,a2',c2',rfl,hq0,z0,z1,z2,z3⟩:=HB9
           by_cases hlt2:(zGJ M ls).length<b.2.length
           ·have hd:decide (((zGJ M ls).length:Int)<(b.2.length:Int))=true:=by simpa using hlt2
            have hd':decide ((zGJ M ls).length<b.2.length)=true:=by simpa using hlt2
            have HNX:=Zh (HF1.out.symm.trans (HE2.out b rfl hlt2))
            clear z2 z3
            go_wp2_with (go_quiet (fail))
            go_roundw
            case rel=>exact ⟨k+1,by omega,by go_num,zCX S9 _,by rw[HNX.out];exact HNEW.out.stays (zB4 _ _)⟩
            case measure=>simp[intOf];omega
           ·have hd:decide (((zGJ M ls).length:Int)<(b.2.length:Int))=false:=by simpa using hlt2
            have hd':decide ((zGJ M ls).length<b.2.length)=false:=by simpa using hlt2
            have HNX:=Zh (HF1.out.symm.trans (HE3.out b rfl hlt2))
            clear z2 z3
            go_wp2_with (go_quiet (fail))
            go_roundw
            case rel=>exact ⟨k+1,by omega,by go_num,zCX S9 _,by rw[HNX.out];exact HB9'.out.stays (zB4 _ _)⟩
            case measure=>simp[intOf];omega
       ·have hmf:zC6 n s pk=false:=by simpa using hmd
        have HNX:=Zh (HF1.out.symm.trans (HFS.out.trans (zTq hmf)))
        rw[hmf]
        clear hmd hmf hi3
        go_wp2_with fail
        go_roundw
        case rel=>exact ⟨k+1,by omega,by go_num,S5,by rw[HNX.out];exact HBE5.out⟩
        case measure=>simp[intOf];omega
    ·obtain rfl:CB.length=k:=by omega
     rw[List.take_length,HEF.out] at HBE
     rcases zP7 HRT.out hn1 with ⟨h1,h2,h3,h4⟩|⟨b,h1,h2,h3,h4⟩
     ·rw[h1] at HBE
      have hv:_=Value.pointer none:=HBE.out
      subst hv
      have H2:=Zh h2
      have H3:=Zh h3
      have H4:=Zh h4
      clear h1 h2 h3 h4
      go_wp2_with fail
      go_ret3
      exact ⟨⟨_,_,zSM H2.out.symm,by rw[H3.out];exact zAG.nil _,by rw[H4.out];exact zAG.nil _⟩,(S0.step hT3.below).below⟩
     ·rw[h1] at HBE
      obtain ⟨q,a1,n1,c1,a2,c2,rfl,hq0,z0,z1,z2,z3⟩:=HBE.out
      have H2:=Zh h2
      have H3:=Zh h3
      have H4:Hid (zEq n o s ls=zIm b.2):=Zh h4
      have HZ2:=Zh z2
      have HZ3:=Zh z3
      have hoq:∀j,(Value.slice a2 b.2.length c2).ownBlock=some j→q+1≤j:=fun j h=>(z2.1.lt j h).1
      clear h1 h2 h3 h4 z2 z3
      go_upto_region 44 with (go_at_call 108;go_fit (zH6 (q+1) _ b.2 wr HZ2.out);rintro e w9 ⟨rfl,ho9,hg9⟩)
      have x0:=(zAF.of_grown hg9).cell z0 (fun h=>Nat.not_succ_le_self q (hoq _ h))
      have x1:=(zAF.of_grown hg9).cell z1 (fun h=>Nat.not_succ_le_self q (hoq _ h))
      have hi1:=HZ3.out w9 ((zAF.of_grown hg9).mono fun j _ hj=>by have:=hoq j hj;omega)
      have S9:=hS3.grown hg9 (fun j hj=>by have:=hoq j hj;omega)
      have HI1:=Zh hi1
      have HI2:=Zh ho9.isInts
      clear z0 z1 ho9 hg9 hi1 hoq
      go_wp2_with (go_quiet (fail))
      go_ret3
      exact ⟨⟨_,_,zSM H2.out.symm,by rw[H3.out];exact HI1.out.stays (zB4 _ _),by rw[H4.out];exact HI2.out.stays (zB4 _ _)⟩,(S0.step (T2.step (zCX S9 _).below).below).below⟩
set_option maxRecDepth 100000 in
theorem zTK(n o s:Int)(v:Value)(ls:List Sh)(W:World)(hd:zAN W v ls)(hE:zAb n o s ls≠0) :
  Calls Tryz.prog 85 #[.agg #[.int .i64 n,.int .i64 o,.int .i64 s],v] W fun e w'=>e=.returned (.tuple #[.slice none 0 0,.slice none 0 0,.int .i64 (zAb n o s ls)])∧Below W.heap.size W w':=by
 obtain ⟨a,c,rfl,_⟩:=hd.opened
 have S0:=(zAD.refl W).alloc (.cells #[.int .i64 n,.int .i64 o,.int .i64 s] 49)
 have hd0:=zAs hd S0.below
 have hne:(zAb n o s ls != 0)=true:=by simpa using hE
 clear hd hE
 go_enter Tryz.func85,Tryz.ntmps85
 go_wp2_with fail
 refine (zJ3 n o s _ ls _ hd0).mono ?_
 rintro e w1 ⟨rfl,hb1⟩
 have S1:=S0.step hb1
 go_wp2_with fail
 go_ret3
 exact ⟨rfl,S1.below⟩
theorem zRJ(n o s:Int)(v:Value)(ls:List Sh)(W:World)(hd:zAN W v ls) :
  Calls Tryz.prog 85 #[.agg #[.int .i64 n,.int .i64 o,.int .i64 s],v] W fun e w'=>(∃vb vw,e=.returned (.tuple #[vb,vw,.int .i64 (zCF n o s ls)])∧zAG w' vb (zEs n o s ls)∧zAG w' vw (zEq n o s ls))∧Below W.heap.size W w':=by
 by_cases h:zAb n o s ls=0
 ·have hp:zAx n o s=0:=by
   unfold zAb at h
   split at h
   ·rename_i h1;exact absurd h h1
   ·rename_i h1;simpa using h1
  obtain ⟨n,o,s,rfl,rfl,rfl⟩:=zCq hp
  exact zTs n o s v ls W hd (zGo.1 h)
 ·refine (zTK n o s v ls W hd h).mono ?_
  rintro e w' ⟨rfl,hb⟩
  have hE:zCF n o s ls≠0:=by rw[zEi h];exact h
  exact ⟨⟨_,_,by rw[zEi h],by rw[zIa hE];exact zAG.nil _,by rw[zIN hE];exact zAG.nil _⟩,hb⟩
end Go.Proofs.YthgmphbkkojaoaaGreat
