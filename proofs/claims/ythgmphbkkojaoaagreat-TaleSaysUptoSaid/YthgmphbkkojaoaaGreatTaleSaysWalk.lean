/-
  The walk of TaleSays: what was saved by a script, and what is to spare, is told as the reference tells it. (Printed by wip/tools/mktalesays.py.)
-/
import Derived.Test.YthgmphbkkojaoaaGreatTold
import Derived.Test.YthgmphbkkojaoaaGreatEqRows
import Derived.Test.YthgmphbkkojaoaaGreatAppendSl
import Derived.Test.YthgmphbkkojaoaaGreatHappened
import Derived.Test.YthgmphbkkojaoaaGreatSameMesh
import Derived.Test.YthgmphbkkojaoaaGreatThere3
import Derived.Test.YthgmphbkkojaoaaGreatKeepLaw
import Derived.Test.YthgmphbkkojaoaaGreatReadTale
set_option linter.unusedSimpArgs false
set_option linter.unusedVariables false
set_option maxHeartbeats 16000000
namespace Go.Proofs.YthgmphbkkojaoaaGreat
open Go.RowKit
theorem eqBy_selfT{α:Type}{p:α→α→Bool}(h:∀x,p x x=true):∀l:List α,zEp p l l=true
 | []=>rfl
 | a::l=>by simp[zEp,h,eqBy_selfT h l]
theorem spare_lack{b:List Ver}{ps:List Pr}{v:Int}(h:zAh (b,ps) v=0):zFI (b,ps) v=(zAO b v).2.1 - zEV (b,ps) v - (zAO b v).1:=by
 unfold zFI zEV
 rw[if_neg (by simpa using h),if_neg (by simpa using h)]
 dsimp only
 omega
theorem spare_none{b:List Ver}{ps:List Pr}{v:Int}(h:zAh (b,ps) v≠0):zFI (b,ps) v=zEV (b,ps) v:=by
 unfold zFI zEV
 rw[if_pos h,if_pos h]
section
variable {w w' : World} {v : Value}
theorem zAR.offRow{u:Value}{l:List Ver}(h:zAR w u l)(hm:∀g,v.ownBlock=some g→zAm w g)(hd:zAF (fun k=>v.ownBlock=some k) w w'):zAR w' u l:=by
 cases hq:v.ownBlock with
 | none=>exact h.later zAz.stays (hd.mono fun k _ e=>by rw[hq] at e;cases e)
 | some g=>exact zAR.offBox h (hm g hq) (hd.mono fun k _ e=>by rw[hq] at e;exact (Option.some.inj e).symm)
theorem zAT.offRow{u:Value}{l:List Pr}(h:zAT w u l)(hm:∀g,v.ownBlock=some g→zAm w g)(hd:zAF (fun k=>v.ownBlock=some k) w w'):zAT w' u l:=by
 cases hq:v.ownBlock with
 | none=>exact h.later zAj.stays (hd.mono fun k _ e=>by rw[hq] at e;cases e)
 | some g=>exact zAT.offBox h (hm g hq) (hd.mono fun k _ e=>by rw[hq] at e;exact (Option.some.inj e).symm)
end
set_option maxRecDepth 100000 in
theorem TaleSays_walk(vr:Value)(room:List Int)(vl:Value)(l:List Hp)(vm:Value)(m:Me)(vn:Value)(z:Int)(W:World)(hv:zAG W vr room)(hu:zGj W vl l)(hm:zRN W vm m)(hz:IsIntT vn z)(hr:room.length≤1900000) :
  Calls Tryz.prog 4 #[vr,vl,vm,vn] W fun e w'=>e=.returned (.bool true)∧Below W.heap.size W w':=by
 obtain ⟨vb,vp,rfl,hb,hp⟩:=hm
 obtain ⟨rfl,hz64⟩:=hz
 obtain ⟨b,ps⟩:=m
 simp only at hb hp
 obtain ⟨a,c,rfl,hcb,⟨hbm,hbc,_⟩,_⟩:=hb.opened
 obtain ⟨a',c',rfl,hcp,⟨hpm,hpc,_⟩,_⟩:=hp.opened
 obtain ⟨ar,cr,rfl,_⟩:=hv.opened
 obtain ⟨al,cl,rfl,hcl,⟨hlm,hlc,_⟩,_⟩:=hu.opened
 have HU:Hid (∀w',zAD W.heap.size W w'→zGj w' (.slice al l.length cl) l):=Lib.hid (fun w' q=>hu.stays zUH.stays q.below)
 have HV:Hid (∀w',zAD W.heap.size W w'→zAG w' (.slice ar room.length cr) room):=Lib.hid (fun w' q=>hv.stays q.below)
 have HM:Hid (∀w',zAD W.heap.size W w'→zAR w' (.slice a b.length c) b∧zAT w' (.slice a' ps.length c') ps):=Lib.hid (fun w' q=>⟨hb.stays zAz.stays q.below,hp.stays zAj.stays q.below⟩)
 have HUW:=Lib.hid hu
 have S0:=(zAD.refl W).alloc (.cells #[.slice a b.length c,.slice a' ps.length c'] 27)
 have p0:(W.alloc (.cells #[.slice a b.length c,.slice a' ps.length c'] 27)).cell? ⟨W.heap.size,0,none⟩=some (.slice a b.length c):=by go_simp
 have p1:(W.alloc (.cells #[.slice a b.length c,.slice a' ps.length c'] 27)).cell? ⟨W.heap.size,1,none⟩=some (.slice a' ps.length c'):=by go_simp
 clear hb hp hv hu
 go_enter Tryz.func4,Tryz.ntmps4
 go_upto_region 1 with fail
 generalize W.alloc (.cells #[.slice a b.length c,.slice a' ps.length c'] 27)=w0 at *
 obtain ⟨B,hB⟩:∃B,B=W.heap.size:=⟨_,rfl⟩
 rw[←hB] at p0 p1 ⊢
 have HB:=Lib.hid hB
 clear hB
 have HSV:=Lib.hid (zRf _ _ room l w0 (HV.out w0 S0) (HU.out w0 S0) hr)
 go_upto_region 2 with (go_at_call 12;go_fit HSV.out;rintro e w1 ⟨⟨va,rfl,hia⟩,hb1⟩;obtain ⟨aa,ca,rfl,_⟩:=hia.opened)
 have S1:=S0.step hb1
 have HA:Hid (∀w',zAD w1.heap.size w1 w'→zAZ 1 zTx w' (.slice aa (zH5 room l).length ca) (zH5 room l)):=Lib.hid (fun w' q=>hia.stays zTx.stays q.below)
 have p0:=zAA hb1 p0
 have p1:=zAA hb1 p1
 clear hia HSV hb1
 have HS1:=Lib.hid S1
 have T1:=zAD.refl w1
 have HSP:=Lib.hid (zMq _ b _ ps z w1 (HM.out w1 S1).1 (HM.out w1 S1).2)
 go_upto_region 3 with (go_at_call 13;go_fit HSP.out;rintro e w2 ⟨rfl,hb2⟩)
 have T2:=T1.step hb2
 have p0:=zAA hb2 p0
 have p1:=zAA hb2 p1
 clear HSP hb2
 have HLK:=Lib.hid (zSo _ _ b ps z w2 (HM.out w2 (HS1.out.step T2.below)).1 (HM.out w2 (HS1.out.step T2.below)).2)
 go_upto_region 4 with (go_at_call 14;go_fit HLK.out;rintro e w3 ⟨rfl,hb3⟩)
 have T3:=T2.step hb3
 have p0:=zAA hb3 p0
 have p1:=zAA hb3 p1
 clear HLK hb3
 have HS3:=Lib.hid (HS1.out.step T3.below)
 have HT3:=Lib.hid T3
 clear T1 T2 T3
 by_cases hr0:zAh (b,ps) z=0
 case' pos =>
  have HSPL:=Lib.hid (spare_lack hr0)
  obtain ⟨hm0,hz0,hzb⟩:=zCo hr0
  rw[hr0]
  obtain ⟨k,rfl⟩:=Int.eq_ofNat_of_zero_le hz0
  have hkb:k<b.length:=by simpa using hzb
  have hget:=List.getElem?_eq_getElem hkb
  have HPL:=Lib.hid (zCh hget)
  have hbd:=zAg ((zBj.1 (zAU.1 hm0).1).plan k _ hget)
  have hlk:0≤zEV (b,ps) (k:Int)+8∧zEV (b,ps) (k:Int)≤8:=by
   unfold zEV
   rw[if_neg (by simpa using hr0),show zAO (b,ps).1 (k:Int)=b[k].2 from HPL.out,zLF]
   have hsl:=zGO (k:Int) ps []
   have hp8:ps.length≤8:=(zAU.1 hm0).2.1
   have hsl2:(zAS (k:Int) ps).length≤8:=by unfold zAS;simp only[List.length_nil] at hsl;omega
   dsimp only
   constructor<;>omega
  obtain ⟨g,off,u,cu,ea,q0,q1,q2,q3,_,i1,i2,i3⟩:=zB1 (HM.out w3 HS3.out).1 hget
  subst ea
  have HWR:Hid (wrap64 (wrap64 (b[k].2.2.1 - zEV (b,ps) (k:Int)) - b[k].2.1)=zFI (b,ps) (k:Int)):=Lib.hid (by
   rw[IntWalk.wrap64_in (b[k].2.2.1 - zEV (b,ps) (k:Int)) (by omega),IntWalk.wrap64_in _ (by omega),HSPL.out,HPL.out])
  generalize b[k]=x at *
  have hkI:(k:Int)<(b.length:Int):=by omega
  have hkI0:(0:Int)≤(k:Int):=by omega
  clear hbd hlk hget hzb hz0 hr0 i1 i2 i3
  go_upto_region 5 with fail
  go_upto_region 6 with (go_quiet (fail))
  rw[HWR.out]
  clear q0 q1 q2 q3
  generalize zFI (b,ps) (k:Int)=SP at *
  have HS4:=Lib.hid (zBL HS3.out nq)
  have HT4:=Lib.hid (zBL HT3.out nq)
 case' neg =>
  have hne:(zAh (b,ps) z == 0)=false:=by simpa using hr0
  rw[←spare_none hr0]
  go_upto_region 6 with fail
  clear hne hr0
  generalize zAh (b,ps) z=RE at *
  generalize zFI (b,ps) z=SP at *
  have HS4:=HS3
  have HT4:=HT3
 all_goals
  clear p0 p1
  go_upto_region 8 with (go_at_call 15;go_fit (zWB _);rintro e w4 ⟨rfl,hb4⟩)
  have S4:=HS4.out.step hb4
  have T4:=HT4.out.step hb4
  have HFM:=Lib.hid (zSh _ room w4 (HV.out w4 S4) hr)
  go_upto_region 9 with (go_at_call 16;go_fit HFM.out;rintro e w5 ⟨⟨u1,u2,rfl,ho5⟩,hb5⟩;obtain ⟨x1,e1,rfl,_⟩:=ho5.vers.opened;obtain ⟨x2,e2,rfl,_⟩:=ho5.peers.opened)
  have BB:=zAB w5 (.cells #[.slice x1 (zFo room).1.length e1,.slice x2 (zFo room).2.length e2] 27)
  have S8:=(S4.step hb5).step BB
  have T8:=(T4.step hb5).step BB
  have HV8:=Lib.hid (ho5.vers.stays zAz.stays BB)
  have HP8:=Lib.hid (ho5.peers.stays zAj.stays BB)
  have MB8:=zAm.made w5 x1 (zFo room).1.length e1 x2 (zFo room).2.length e2 27
  have x0:(w5.alloc (.cells #[.slice x1 (zFo room).1.length e1,.slice x2 (zFo room).2.length e2] 27)).cell? ⟨w5.heap.size,0,none⟩=some (.slice x1 (zFo room).1.length e1):=by go_simp
  have x1':(w5.alloc (.cells #[.slice x1 (zFo room).1.length e1,.slice x2 (zFo room).2.length e2] 27)).cell? ⟨w5.heap.size,1,none⟩=some (.slice x2 (zFo room).2.length e2):=by go_simp
  have x2':∀j,(w5.alloc (.cells #[.slice x1 (zFo room).1.length e1,.slice x2 (zFo room).2.length e2] 27)).frozen? ⟨w5.heap.size,j,none⟩=false:=by intro j;go_simp
  have hz2:w5.heap.size<(w5.alloc (.cells #[.slice x1 (zFo room).1.length e1,.slice x2 (zFo room).2.length e2] 27)).heap.size:=by simp
  have hWm:w1.heap.size≤w5.heap.size:=Nat.le_trans T4.2 hb5.size
  have hWW:W.heap.size≤w5.heap.size:=Nat.le_trans S4.2 hb5.size
  clear ho5 hb5 BB HFM hb4 S4 T4
  by_cases hE:zQV room=0
  ·have hMM0:zA2 (zFo room)=0:=by unfold zFo;rw[if_pos hE];exact hE
   have HNE:=Lib.hid hE
   generalize hM0:zFo room=M0 at *
   have HM0:=Lib.hid hM0
   have HMM0:=Lib.hid hMM0
   rw[hE]
   clear hM0 hE hMM0
   generalize w5.alloc (.cells #[.slice x1 M0.1.length e1,.slice x2 M0.2.length e2] 27)=w8 at *
   obtain ⟨Bx,hBx⟩:∃Bx,Bx=w5.heap.size:=⟨_,rfl⟩
   rw[←hBx] at x0 x1' x2' MB8 hz2 hWm hWW ⊢
   clear hBx
   by_cases hl:100<l.length
   ·have HE:Hid (zG2 room l=1):=Lib.hid (by unfold zG2;rw[if_neg (by simpa using HNE.out),if_pos hl])
    have HC:Hid (zH5 room l=[]):=Lib.hid (by unfold zH5;rw[HE.out];rfl)
    have hl2:(100:Int)<(l.length:Int):=by omega
    rw[HE.out,HC.out]
    clear x0 x1' x2'
    go_wp2_with fail
    exact bodyPost_ret (v:=.bool true) (by simp[results,Tryz.results4,go_sem]) rfl ⟨rfl,S8.below⟩
   ·have HE:Hid (zG2 room l=0):=Lib.hid (by unfold zG2;rw[if_neg (by simpa using HNE.out),if_neg hl])
    have HC:Hid (zH5 room l=(zIK l (M0,[])).2):=Lib.hid (by unfold zH5;rw[if_pos HE.out,HM0.out])
    have hl2:¬(100:Int)<(l.length:Int):=by omega
    have hl3:l.length≤100:=by omega
    rw[HE.out]
    have HT8:=Lib.hid T8
    clear T8
    go_wp2_with fail
    go_loopw[97,17] (fun i y wr=>∃(k:Nat) (m1:Option Addr) (n1 q1:Nat) (m2:Option Addr) (n2 q2:Nat),k≤l.length∧i=.int .i64 k∧zAD W.heap.size W wr∧zAD w1.heap.size w1 wr∧w8.heap.size≤wr.heap.size∧(zAR wr (.slice m1 n1 q1) (zIK (l.take k) (M0,[])).1.1∧zAT wr (.slice m2 n2 q2) (zIK (l.take k) (M0,[])).1.2)∧wr.cell? ⟨Bx,0,none⟩=some (.slice m1 n1 q1)∧wr.cell? ⟨Bx,1,none⟩=some (.slice m2 n2 q2)∧(∀j,wr.frozen? ⟨Bx,j,none⟩=false)∧zAm wr Bx∧zAK 1 zTx (fun j=>j=Bx) wr 36 w8.heap.size y (zIK (l.take k) (M0,[])).2∧(∀g,y.ownBlock=some g→zAm wr g)∧zA2 (zIK (l.take k) (M0,[])).1=0∧(zIK (l.take k) (M0,[])).2.length≤k) (fun i _ _=>l.length - (intOf i).toNat)
    case atStart=>exact ⟨0,_,_,_,_,_,_,by omega,rfl,S8,HT8.out,Nat.le_refl _,⟨HV8.out,HP8.out⟩,x0,x1',x2',MB8,zAK.nil _ _ _,(fun g hg=>by cases hg),HMM0.out,Nat.le_refl _⟩
    case round =>
     obtain ⟨k,m1,n1,q1,m2,n2,q2,hk,rfl,hS,hT,hsz,hvp,z0,z1,z2,hmb,ho,hob,hmv,hol⟩:=hrel
     clear x0 x1' x2' MB8 HV8 HP8
     by_cases hlt:k<l.length
     ·have hget:=List.getElem?_eq_getElem hlt
      obtain ⟨g,off,uu,cu,uv,cv,rfl,h0,h1,h2,h3,h4,h5,h6,hd,hp,i1,i2,i3,i4,i5⟩:=zR2 HUW.out hget
      have HDW:=Lib.hid hd
      have h0:=zAA hS.below h0
      have h1:=zAA hS.below h1
      have h2:=zAA hS.below h2
      have h3:=zAA hS.below h3
      have h4:=zAA hS.below h4
      have h5:=zAA hS.below h5
      have h6:=zAA hS.below h6
      have hd:=hd.stays hS.below
      have hp:=hp.stays hS.below
      have HST:=Lib.hid (zQL (M0,[]) hget)
      generalize l[k]=x at *
      obtain ⟨kd,n,pl,data,pr,need,of_⟩:=x
      simp only at h0 h1 h2 h3 h4 h5 h6 hd hp i1 i2 i3 i4 i5
      generalize zIK (l.take k) (M0,[])=st at *
      obtain ⟨⟨b',ps'⟩,out⟩:=st
      simp only at hvp ho hol hmv
      have BB:=zAB wr (.cells #[.int .i64 kd,.int .i64 n,.int .i64 pl,.slice uu data.length cu,.slice uv pr.length cv,.int .i64 need,.int .i64 of_] 38)
      have S4:=hS.alloc (.cells #[.int .i64 kd,.int .i64 n,.int .i64 pl,.slice uu data.length cu,.slice uv pr.length cv,.int .i64 need,.int .i64 of_] 38)
      have T4:=hT.alloc (.cells #[.int .i64 kd,.int .i64 n,.int .i64 pl,.slice uu data.length cu,.slice uv pr.length cv,.int .i64 need,.int .i64 of_] 38)
      have f0:(wr.alloc (.cells #[.int .i64 kd,.int .i64 n,.int .i64 pl,.slice uu data.length cu,.slice uv pr.length cv,.int .i64 need,.int .i64 of_] 38)).cell? ⟨wr.heap.size,0,none⟩=some (.int .i64 kd):=by go_simp
      have f1:(wr.alloc (.cells #[.int .i64 kd,.int .i64 n,.int .i64 pl,.slice uu data.length cu,.slice uv pr.length cv,.int .i64 need,.int .i64 of_] 38)).cell? ⟨wr.heap.size,1,none⟩=some (.int .i64 n):=by go_simp
      have f2:(wr.alloc (.cells #[.int .i64 kd,.int .i64 n,.int .i64 pl,.slice uu data.length cu,.slice uv pr.length cv,.int .i64 need,.int .i64 of_] 38)).cell? ⟨wr.heap.size,2,none⟩=some (.int .i64 pl):=by go_simp
      have f3:(wr.alloc (.cells #[.int .i64 kd,.int .i64 n,.int .i64 pl,.slice uu data.length cu,.slice uv pr.length cv,.int .i64 need,.int .i64 of_] 38)).cell? ⟨wr.heap.size,3,none⟩=some (.slice uu data.length cu):=by go_simp
      have f4:(wr.alloc (.cells #[.int .i64 kd,.int .i64 n,.int .i64 pl,.slice uu data.length cu,.slice uv pr.length cv,.int .i64 need,.int .i64 of_] 38)).cell? ⟨wr.heap.size,4,none⟩=some (.slice uv pr.length cv):=by go_simp
      have f5:(wr.alloc (.cells #[.int .i64 kd,.int .i64 n,.int .i64 pl,.slice uu data.length cu,.slice uv pr.length cv,.int .i64 need,.int .i64 of_] 38)).cell? ⟨wr.heap.size,5,none⟩=some (.int .i64 need):=by go_simp
      have f6:(wr.alloc (.cells #[.int .i64 kd,.int .i64 n,.int .i64 pl,.slice uu data.length cu,.slice uv pr.length cv,.int .i64 need,.int .i64 of_] 38)).cell? ⟨wr.heap.size,6,none⟩=some (.int .i64 of_):=by go_simp
      have t0:=zAA BB z0
      have t1:=zAA BB z1
      have g0:=zAE BB z0 (z2 0)
      have g1:=zAE BB z1 (z2 1)
      have HVP4:=Lib.hid (And.intro (hvp.1.stays zAz.stays BB) (hvp.2.stays zAj.stays BB))
      have ho4:=ho.stays BB
      have hmb4:=hmb.stays BB (zAH z0)
      have HOB4:Hid (∀g,u17.ownBlock=some g→zAm (wr.alloc (.cells #[.int .i64 kd,.int .i64 n,.int .i64 pl,.slice uu data.length cu,.slice uv pr.length cv,.int .i64 need,.int .i64 of_] 38)) g):=Lib.hid (fun g hg=>(hob g hg).stays BB (ho.lt g hg).2)
      have HDT:=Lib.hid (hd.stays BB)
      have HPR:=Lib.hid (hp.stays BB)
      have hs4:=BB.size
      have HZA:=Lib.hid (fun j=>(BB.frozen (p:=⟨Bx,j,none⟩) (by have:=zAH z0;simpa using this)).trans (z2 j))
      clear hget
      go_upto_region 17 with fail
      clear h0 h1 h2 h3 h4 h5 h6 z0 z1 z2 hvp ho hob hmb hd hp BB
      generalize wr.alloc (.cells #[.int .i64 kd,.int .i64 n,.int .i64 pl,.slice uu data.length cu,.slice uv pr.length cv,.int .i64 need,.int .i64 of_] 38)=wa at *
      obtain ⟨Bh,hBh⟩:∃Bh,Bh=wr.heap.size:=⟨_,rfl⟩
      rw[←hBh] at f0 f1 f2 f3 f4 f5 f6 ⊢
      have hBhm:Bh≠Bx:=by omega
      clear hBh
      have HDO:=Lib.hid (zLt _ _ _ _ b' ps' kd n pl data pr need of_ wa HVP4.out.1 HVP4.out.2 HDT.out HPR.out i4 i5 hmv)
      have HKE:=Lib.hid (fun h=>(zWk (b:=b') (ps:=ps') (x:=(kd,n,pl,data,pr,need,of_)) h).mesh)
      have HO4:=Lib.hid ho4
      have HMB4:=Lib.hid hmb4
      have HMV:=Lib.hid hmv
      clear ho4 hmb4 hmv
      go_upto_region 18 with (go_at_call 10;go_fit HDO.out;rintro e w5' ⟨⟨u1,u2,rfl,hv5,hp5⟩,hb5⟩;obtain ⟨a5,c5,rfl,_⟩:=hv5.opened;obtain ⟨a6,c6,rfl,_⟩:=hp5.opened)
      generalize hEE:doE (b',ps') (kd,n,pl,data,pr,need,of_)=E at *
      generalize hMM:doC (b',ps') (kd,n,pl,data,pr,need,of_)=M at *
      have BN:=zAB w5' (.cells #[.slice a5 M.1.length c5,.slice a6 M.2.length c6] 27)
      have S6:=(S4.step hb5).alloc (.cells #[.slice a5 M.1.length c5,.slice a6 M.2.length c6] 27)
      have T6:=(T4.step hb5).alloc (.cells #[.slice a5 M.1.length c5,.slice a6 M.2.length c6] 27)
      have B46:Below wa.heap.size wa (w5'.alloc (.cells #[.slice a5 M.1.length c5,.slice a6 M.2.length c6] 27)):=hb5.trans (BN.mono hb5.size)
      have n0:(w5'.alloc (.cells #[.slice a5 M.1.length c5,.slice a6 M.2.length c6] 27)).cell? ⟨w5'.heap.size,0,none⟩=some (.slice a5 M.1.length c5):=by go_simp
      have n1':(w5'.alloc (.cells #[.slice a5 M.1.length c5,.slice a6 M.2.length c6] 27)).cell? ⟨w5'.heap.size,1,none⟩=some (.slice a6 M.2.length c6):=by go_simp
      have g0:=zAE B46 t0 g0
      have g1:=zAE B46 t1 g1
      have t0:=zAA B46 t0
      have t1:=zAA B46 t1
      have k0:=zAA B46 f0
      have k3:=zAA B46 f3
      have hBma:Bx<wa.heap.size:=by omega
      have hv6:=hv5.stays zAz.stays BN
      have hp6:=hp5.stays zAj.stays BN
      have HO6:=Lib.hid (HO4.out.stays B46)
      have hmb6:=HMB4.out.stays B46 hBma
      have HOB6:=Lib.hid (fun g hg=>(HOB4.out g hg).stays B46 (HO4.out.lt g hg).2)
      have HVP6:=Lib.hid (And.intro (HVP4.out.1.stays zAz.stays B46) (HVP4.out.2.stays zAj.stays B46))
      have HZ6:=Lib.hid (fun j=>(B46.frozen (p:=⟨Bx,j,none⟩) hBma).trans (HZA.out j))
      have hs6:w8.heap.size≤(w5'.alloc (.cells #[.slice a5 M.1.length c5,.slice a6 M.2.length c6] 27)).heap.size:=Nat.le_trans hsz (Nat.le_trans hs4 B46.size)
      have hw5:wa.heap.size≤w5'.heap.size:=hb5.size
      have HEE:=Lib.hid hEE
      have HMM:=Lib.hid hMM
      have HDW6:=Lib.hid (HDW.out.stays S6.below)
      clear hv5 hp5 hb5 BN f0 f1 f2 f3 f4 f5 f6 HO4 HDT HPR HDO hEE hMM HMB4 HOB4 HVP4
      generalize w5'.alloc (.cells #[.slice a5 M.1.length c5,.slice a6 M.2.length c6] 27)=w6 at *
      obtain ⟨By,hBy⟩:∃By,By=w5'.heap.size:=⟨_,rfl⟩
      rw[←hBy] at n0 n1' hw5 ⊢
      clear hBy
      by_cases hE0:E=0
      ·have HS0:Hid (zIK (l.take (k+1)) (M0,[])=(M,if kd=1 then out++[data] else out)):=Lib.hid (by rw[HST.out];unfold zLT;simp only;rw[HEE.out,HMM.out,if_neg (by simpa using hE0)])
       have HMV7:Hid (zA2 M=0):=Lib.hid (HKE.out hE0)
       subst hE0
       have hd7:zAF (fun j=>j=Bx) w6 (((w6.setCell ⟨Bx,0,none⟩ (.slice a5 M.1.length c5)).setCell ⟨Bx,1,none⟩ (.slice a6 M.2.length c6))):=(zAn w6 Bx 0 (.slice a5 M.1.length c5)).trans (zAn _ Bx 1 (.slice a6 M.2.length c6))
       have S7:=(S6.setCell (a:=⟨Bx,0,none⟩) hWW (.slice a5 M.1.length c5)).setCell (a:=⟨Bx,1,none⟩) hWW (.slice a6 M.2.length c6)
       have T7:=(T6.setCell (a:=⟨Bx,0,none⟩) hWm (.slice a5 M.1.length c5)).setCell (a:=⟨Bx,1,none⟩) hWm (.slice a6 M.2.length c6)
       have y0:(((w6.setCell ⟨Bx,0,none⟩ (.slice a5 M.1.length c5)).setCell ⟨Bx,1,none⟩ (.slice a6 M.2.length c6))).cell? ⟨Bx,0,none⟩=some (.slice a5 M.1.length c5):=by go_simp
       have y1:(((w6.setCell ⟨Bx,0,none⟩ (.slice a5 M.1.length c5)).setCell ⟨Bx,1,none⟩ (.slice a6 M.2.length c6))).cell? ⟨Bx,1,none⟩=some (.slice a6 M.2.length c6):=by go_simp
       have HMB7:Hid (zAm (((w6.setCell ⟨Bx,0,none⟩ (.slice a5 M.1.length c5)).setCell ⟨Bx,1,none⟩ (.slice a6 M.2.length c6))) Bx):=Lib.hid ((hmb6.set t0 _ _ _).set (show (w6.setCell ⟨Bx,0,none⟩ (.slice a5 M.1.length c5)).cell? ⟨Bx,1,none⟩=some (.slice m2 n2 q2) by go_simp) _ _ _)
       have HVP7:=Lib.hid (And.intro (zAR.offBox hv6 hmb6 hd7) (zAT.offBox hp6 hmb6 hd7))
       have HO7:=Lib.hid (HO6.out.later hd7 (fun j hj=>by have:=(HO6.out.lt j hj).1;omega))
       have HOB7:Hid (∀g,u17.ownBlock=some g→zAm (((w6.setCell ⟨Bx,0,none⟩ (.slice a5 M.1.length c5)).setCell ⟨Bx,1,none⟩ (.slice a6 M.2.length c6))) g):=Lib.hid (fun g hg=>(HOB6.out g hg).off hd7 (HO6.out.lt g hg).2 (by have:=(HO6.out.lt g hg).1;omega))
       have HZ7:Hid (∀j,(((w6.setCell ⟨Bx,0,none⟩ (.slice a5 M.1.length c5)).setCell ⟨Bx,1,none⟩ (.slice a6 M.2.length c6))).frozen? ⟨Bx,j,none⟩=false):=Lib.hid (fun j=>by rw[World.frozen?_setCell,World.frozen?_setCell];exact HZ6.out j)
       have hs7:w8.heap.size≤(((w6.setCell ⟨Bx,0,none⟩ (.slice a5 M.1.length c5)).setCell ⟨Bx,1,none⟩ (.slice a6 M.2.length c6))).heap.size:=by simpa using hs6
       have k0:=hd7.cell k0 hBhm
       have k3:=hd7.cell k3 hBhm
       have HDW7:=Lib.hid (HDW.out.stays S7.below)
       clear hv6 hp6
       go_upto_region 20 with fail
       clear t0 t1 g0 g1 n0 n1' hmb6 hd7
       generalize ((w6.setCell ⟨Bx,0,none⟩ (.slice a5 M.1.length c5)).setCell ⟨Bx,1,none⟩ (.slice a6 M.2.length c6))=w7 at *
       by_cases hk1:kd=1
       ·subst hk1
        have hB7:Bx<w7.heap.size:=by omega
        have HLO:=Lib.hid (fun j hj=>(HO7.out.lt j hj))
        have BC:=zAB w7 (.cells #[.slice uu data.length cu] 36)
        have HOC:=Lib.hid (HO7.out.stays BC)
        have HBC:Hid (∀g,u17.ownBlock=some g→zAm (w7.alloc (.cells #[.slice uu data.length cu] 36)) g):=Lib.hid (fun g hg=>(HOB7.out g hg).stays BC (HLO.out g hg).2)
        have hFR:zA3 (fun j=>u17.ownBlock=some j∨j=Bx) zTx (w7.alloc (.cells #[.slice uu data.length cu] 36)) [.slice uu data.length cu] data:=fun w' hw'=>⟨_,rfl,(HDW7.out.stays BC).framed (fun j hj hne e=>by
         have h1:=HDW.out.block_lt j hj hne
         rcases e with e|e
         ·have h2:=(HLO.out j e).1;omega
         ·omega) hw'⟩
        have HFR:=Lib.hid hFR
        clear hFR
        go_upto_region 22 with (at_builtin;refine zN9 rfl _ _ 43 rfl (fun j=>j=Bx) 36 Tryz.underlying43 24 zRh (by omega) w8.heap.size _ out rfl HOC.out HBC.out ⟨w7.heap.size,0,none⟩ 1 uu data.length cu data rfl (by go_simp) HFR.out (by omega) (by simp;omega) ?_;intro v9 w9 ho9 hg9 hat9 hbx9)
        have hd9:=zAF.of_grown hg9
        have S9:=(S7.step BC).grown hg9 (fun j hj=>by have:=(HLO.out j hj).1;omega)
        have T9:=(T7.step BC).grown hg9 (fun j hj=>by have:=(HLO.out j hj).1;omega)
        have hnb:¬u17.ownBlock=some Bx:=fun e=>by have:=(HLO.out _ e).1;omega
        have HVP9:=Lib.hid (And.intro (zAR.offRow (HVP7.out.1.stays zAz.stays BC) HBC.out hd9) (zAT.offRow (HVP7.out.2.stays zAj.stays BC) HBC.out hd9))
        have z0:=hd9.cell (zAA BC y0) hnb
        have z1:=hd9.cell (zAA BC y1) hnb
        have hz9:=Lib.hid (fun j=>(World.frozen?_of_block (a:=⟨Bx,j,none⟩) (hd9.2 Bx (Nat.lt_of_lt_of_le hB7 BC.size) hnb)).trans ((BC.frozen (p:=⟨Bx,j,none⟩) hB7).trans (HZ7.out j)))
        have HMB9:=Lib.hid ((HMB7.out.stays BC hB7).off hd9 (Nat.lt_of_lt_of_le hB7 BC.size) hnb)
        have hs9:w8.heap.size≤w9.heap.size:=Nat.le_trans hs7 (Nat.le_trans BC.size hd9.1)
        have HO9:=Lib.hid ho9
        have HBX9:=Lib.hid hbx9
        clear ho9 hbx9 y0 y1 k0 k3
        go_wp2_with fail
        go_roundw
        case rel=>exact ⟨k+1,_,_,_,_,_,_,by omega,by go_num,S9,T9,hs9,by rw[HS0.out];exact HVP9.out,z0,z1,hz9.out,HMB9.out,by rw[HS0.out,if_pos rfl];exact HO9.out,HBX9.out,by rw[HS0.out];exact HMV7.out,by rw[HS0.out,if_pos rfl];simp;omega⟩
        case measure=>simp[intOf];omega
       ·have hk2:(kd == 1)=false:=by simpa using hk1
        go_wp2_with fail
        clear k0 k3
        go_roundw
        case rel=>exact ⟨k+1,_,_,_,_,_,_,by omega,by go_num,S7,T7,hs7,by rw[HS0.out];exact HVP7.out,y0,y1,HZ7.out,HMB7.out,by rw[HS0.out,if_neg hk1];exact HO7.out,HOB7.out,by rw[HS0.out];exact HMV7.out,by rw[HS0.out,if_neg hk1];exact Nat.le_succ_of_le hol⟩
        case measure=>simp[intOf];omega
      ·have HS0:Hid (zIK (l.take (k+1)) (M0,[])=((b',ps'),out)):=Lib.hid (by rw[HST.out];unfold zLT;simp only;rw[HEE.out,if_pos hE0])
       have hEn:(E == 0)=false:=by simpa using hE0
       have HMB6:=Lib.hid hmb6
       clear hmb6
       go_wp2_with fail
       clear n0 n1' k0 k3
       go_roundw
       case rel=>exact ⟨k+1,_,_,_,_,_,_,by omega,by go_num,S6,T6,hs6,by rw[HS0.out];exact HVP6.out,t0,t1,HZ6.out,HMB6.out,by rw[HS0.out];exact HO6.out,HOB6.out,by rw[HS0.out];exact HMV.out,by rw[HS0.out];exact Nat.le_succ_of_le hol⟩
       case measure=>simp[intOf];omega
     ·obtain rfl:l.length=k:=by omega
      rw[List.take_length] at ho
      have HI:=Lib.hid ho.isRow
      obtain ⟨ai,ci,rfl,_⟩:=ho.isRow.opened
      have HAW:=Lib.hid (HA.out wr hT)
      have hts:zEp zBV (zH5 room l) (zIK l (M0,[])).2=true:=by rw[HC.out];exact eqBy_selfT (fun x=>by simp[zBV]) _
      have HTS:=Lib.hid hts
      clear ho hob z0 z1 z2 hvp hmb hts
      go_wp2_with (go_at_call 17;go_fit (zTo _ _ (zH5 room l) (zIK l (M0,[])).2 wr HAW.out HI.out);rintro e w11 ⟨rfl,hb11⟩;rw[HTS.out])
      exact bodyPost_ret (v:=.bool true) (by simp[results,Tryz.results4,go_sem]) rfl ⟨rfl,(hS.step hb11).below⟩
  ·have HE:Hid (zG2 room l=zQV room):=Lib.hid (by unfold zG2;rw[if_pos hE])
   have HC:Hid (zH5 room l=[]):=Lib.hid (by unfold zH5;rw[HE.out,if_neg hE])
   rw[HE.out,HC.out]
   have hEn:(zQV room == 0)=false:=by simpa using hE
   have hEm:(zQV room != 0)=true:=by simpa using hE
   clear x0 x1' x2' MB8 HV8 HP8
   generalize zQV room=E at *
   go_wp2_with fail
   exact bodyPost_ret (v:=.bool true) (by simp[results,Tryz.results4,go_sem]) rfl ⟨rfl,S8.below⟩
end Go.Proofs.YthgmphbkkojaoaaGreat
