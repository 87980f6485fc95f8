/-
  The walk of WorldRuns: a script does to a mesh, happening by happening, what the reference says. (What a closed fact answers is given as a contract. Printed by wip/tools/mkworldruns.py.)
-/
import Derived.Test.YthgmphbkkojaoaaGreatQHappened
import Derived.Test.YthgmphbkkojaoaaGreatQSameMesh
import Derived.Test.YthgmphbkkojaoaaGreatQRun
import Derived.Test.YthgmphbkkojaoaaGreatQKeepLaw
import Derived.Test.YthgmphbkkojaoaaGreatQErrRow
set_option linter.unusedSimpArgs false
set_option linter.unusedVariables false
set_option maxHeartbeats 16000000
namespace Go.Proofs.YthgmphbkkojaoaaGreat
set_option linter.unusedSectionVars false
variable [Zn]
open Go.RowKit
set_option maxRecDepth 100000 in
theorem zRO(hdn:∀W,Calls Tryz.prog 8 #[] W fun e w'=>e=.returned (.bool true)∧Below W.heap.size W w')(W:World)(hzn:Zn.n=W.heap.size)(vm:Value)(m:Me)(vl:Value)(l:List Hp)(hm:zRN W vm m)(hu:zGj W vl l) :
  Calls Tryz.prog 3 #[vm,vl] W fun e w'=>e=.returned (.bool true)∧Below W.heap.size W w':=by
 obtain ⟨vb,vp,rfl,hb,hp⟩:=hm
 obtain ⟨b,ps⟩:=m
 simp only at hb hp
 obtain ⟨a,c,rfl,_⟩:=hb.opened
 obtain ⟨a',c',rfl,_⟩:=hp.opened
 obtain ⟨al,cl,rfl,hcl,⟨hlm,hlc,_⟩,_⟩:=hu.opened
 have HT:=Zh hdn
 have HU:Hid (∀w',zAD W.heap.size W w'→zGj w' (.slice al l.length cl) l):=Zh (fun w' q=>hu.stays zUH.stays q.below)
 have HM:Hid (∀w',zAD W.heap.size W w'→zAR w' (.slice a b.length c) b∧zAT w' (.slice a' ps.length c') ps):=Zh (fun w' q=>⟨hb.stays zAz.stays q.below,hp.stays zAj.stays q.below⟩)
 have HUW:=Zh hu
 have S0:=(zAD.refl W).alloc (.cells #[.slice a b.length c,.slice a' ps.length c'] 27)
 have p0:(W.alloc (.cells #[.slice a b.length c,.slice a' ps.length c'] 27)).cell? ⟨W.heap.size,0,none⟩=some (.slice a b.length c):=by go_simp
 have p1:(W.alloc (.cells #[.slice a b.length c,.slice a' ps.length c'] 27)).cell? ⟨W.heap.size,1,none⟩=some (.slice a' ps.length c'):=by go_simp
 have p2:∀j,(W.alloc (.cells #[.slice a b.length c,.slice a' ps.length c'] 27)).frozen? ⟨W.heap.size,j,none⟩=false:=by intro j;go_simp
 have mb0:=zAm.made W a b.length c a' ps.length c' 27
 have hB0:W.heap.size<(W.alloc (.cells #[.slice a b.length c,.slice a' ps.length c'] 27)).heap.size:=by simp
 clear hb hp hu hdn
 go_enter Tryz.func3,Tryz.ntmps3
 go_upto_region 1 with fail
 generalize W.alloc (.cells #[.slice a b.length c,.slice a' ps.length c'] 27)=w0 at *
 obtain ⟨B,hB⟩:∃B,B=W.heap.size:=⟨_,rfl⟩
 rw[←hB] at p0 p1 p2 mb0 hB0 ⊢
 have hBW:W.heap.size≤B:=by omega
 have HB:=Zh hB
 clear hB
 have HZN:=Zh hzn
 clear hzn
 have HRN:=Zh (zUX _ _ _ b ps l w0 (HM.out w0 S0).1 (HM.out w0 S0).2 (HU.out w0 S0))
 have HRE:Hid (zA2 (b,ps)≠0→zSY (b,ps) l=zA2 (b,ps)):=Zh (fun h=>by unfold zSY;rw[if_pos h])
 have HRL:Hid (zA2 (b,ps)=0→100<l.length→zSY (b,ps) l=1):=Zh (fun h h2=>by unfold zSY;rw[if_neg (by simpa using h),if_pos h2])
 have HRZ:Hid (zA2 (b,ps)=0→¬100<l.length→zSY (b,ps) l=0∧zQ6 (b,ps) l=(zHP l ((b,ps),[])).1∧zS5 (b,ps) l=(zHP l ((b,ps),[])).2):=Zh (fun h h2=>by
  have h3:zSY (b,ps) l=0:=by unfold zSY;rw[if_neg (by simpa using h),if_neg h2]
  unfold zQ6 zS5
  rw[if_pos h3,if_pos h3]
  exact ⟨h3,rfl,rfl⟩)
 have HRB:Hid (zSY (b,ps) l≠0→zQ6 (b,ps) l=([],[])∧zS5 (b,ps) l=[]):=Zh (fun h=>by
  unfold zQ6 zS5
  rw[if_neg h,if_neg h]
  exact ⟨rfl,rfl⟩)
 generalize zSY (b,ps) l=E0 at *
 generalize zQ6 (b,ps) l=Y at *
 generalize zS5 (b,ps) l=SD at *
 go_upto_region 2 with (go_at_call 6;go_fit HRN.out;rintro e w1 ⟨⟨u1,u2,us,rfl,hfin⟩,hb1⟩;obtain ⟨hv1,hp1,hs1⟩:=hfin w1 (zAF.refl _ _);obtain ⟨x1,e1,rfl,_⟩:=hv1.opened;obtain ⟨x2,e2,rfl,_⟩:=hp1.opened;obtain ⟨xs,es,rfl,_⟩:=hs1.opened)
 have BX:=zAB w1 (.cells #[.slice x1 Y.1.length e1,.slice x2 Y.2.length e2] 27)
 have S2:=(S0.step hb1).step BX
 have b02:=((zAD.refl w0).step hb1).step BX
 have HFIN:=Zh (fun w'' (hw:zAF (fun j=>j<w0.heap.size) (w1.alloc (.cells #[.slice x1 Y.1.length e1,.slice x2 Y.2.length e2] 27)) w'')=>hfin w'' ((zAF.old BX _).trans hw))
 have f0:(w1.alloc (.cells #[.slice x1 Y.1.length e1,.slice x2 Y.2.length e2] 27)).cell? ⟨w1.heap.size,0,none⟩=some (.slice x1 Y.1.length e1):=by go_simp
 have f1:(w1.alloc (.cells #[.slice x1 Y.1.length e1,.slice x2 Y.2.length e2] 27)).cell? ⟨w1.heap.size,1,none⟩=some (.slice x2 Y.2.length e2):=by go_simp
 have p0:=zAA b02.below p0
 have p1:=zAA b02.below p1
 have p2:∀j,(w1.alloc (.cells #[.slice x1 Y.1.length e1,.slice x2 Y.2.length e2] 27)).frozen? ⟨B,j,none⟩=false:=fun j=>(b02.below.frozen (p:=⟨B,j,none⟩) hB0).trans (p2 j)
 have mb2:=mb0.stays b02.below hB0
 have hy0:w0.heap.size≤w1.heap.size:=hb1.size
 clear hfin hv1 hp1 hs1 hb1 BX b02 mb0 HRN
 generalize w1.alloc (.cells #[.slice x1 Y.1.length e1,.slice x2 Y.2.length e2] 27)=w2 at *
 obtain ⟨By,hBy⟩:∃By,By=w1.heap.size:=⟨_,rfl⟩
 rw[←hBy] at f0 f1 hy0 ⊢
 clear hBy
 have HCM:=Zh (zDv _ b _ ps w2 (HM.out w2 S2).1 (HM.out w2 S2).2)
 go_upto_region 3 with (go_at_call 7;go_fit HCM.out;rintro e w3 ⟨rfl,hb3⟩)
 have S3:=S2.step hb3
 have HF3:=Zh (fun w'' (hw:zAF (fun j=>j<w0.heap.size) w3 w'')=>HFIN.out w'' ((zAF.old hb3 _).trans hw))
 have f0:=zAA hb3 f0
 have f1:=zAA hb3 f1
 have p0':=zAA hb3 p0
 have p1':=zAA hb3 p1
 have hBl:B<w2.heap.size:=zAH p0
 have p2:∀j,w3.frozen? ⟨B,j,none⟩=false:=fun j=>(hb3.frozen (p:=⟨B,j,none⟩) hBl).trans (p2 j)
 have mb3:=mb2.stays hb3 hBl
 have p0:=p0'
 have p1:=p1'
 clear hb3 HCM HFIN mb2 p0' p1'
 by_cases hm:zA2 (b,ps)=0
 ·by_cases hl:100<l.length
  ·have hE1:=HRL.out hm hl
   have hl2:(100:Int)<(l.length:Int):=by omega
   rw[hm]
   subst hE1
   obtain ⟨rfl,rfl⟩:=HRB.out (by decide)
   have HY3:=Zh (HF3.out w3 (zAF.refl _ _))
   have HY3:Hid (zAR w3 _ []∧zAT w3 _ []):=Zh ⟨HY3.out.1,HY3.out.2.1⟩
   clear hl hm p0 p1 p2
   go_wp2_with (first
    | (go_at_call 9;go_fit (zHz _ _ _ _ ([],[]) ([],[]) _ (HY3.out.1.stays zAz.stays b5.below) (HY3.out.2.stays zAj.stays b5.below) (zAZ.nil _) (zAZ.nil _));rintro e w7 ⟨rfl,hb7⟩;rw[zJI])
    | (go_at_call 8;go_fit (HT.out w3);rintro e w4 ⟨rfl,hb4⟩)
    | (go_at_call 8;go_fit (HT.out w4);rintro e w5 ⟨rfl,hb5⟩;have b5:=((zAD.refl w3).step hb4).step hb5;have f0:=zAA b5.below f0;have f1:=zAA b5.below f1))
   exact bodyPost_ret (v:=.bool true) (by simp[results,Tryz.results3,go_sem]) rfl ⟨rfl,((S3.step b5.below).step hb7).below⟩
  ·obtain ⟨rfl,rfl,rfl⟩:=HRZ.out hm hl
   have hl2:¬(100:Int)<(l.length:Int):=by omega
   have hl3:l.length≤100:=by omega
   have HMZ:=Zh hm
   rw[hm]
   go_upto_region 7 with (go_at_call 8;go_fit (HT.out w3);rintro e w4 ⟨rfl,hb4⟩)
   have S4:=S3.step hb4
   have HF4:=Zh (fun w'' (hw:zAF (fun j=>j<w0.heap.size) w4 w'')=>HF3.out w'' ((zAF.old hb4 _).trans hw))
   have hBl3:B<w3.heap.size:=zAH p0
   have f0:=zAA hb4 f0
   have f1:=zAA hb4 f1
   have p0:=zAA hb4 p0
   have p1:=zAA hb4 p1
   have p2:∀j,w4.frozen? ⟨B,j,none⟩=false:=fun j=>(hb4.frozen (p:=⟨B,j,none⟩) hBl3).trans (p2 j)
   have mb4:=mb3.stays hb4 hBl3
   have hB4:B<w4.heap.size:=zAH p0
   have HM4:=Zh (HM.out w4 S4)
   clear hb4 HF3 mb3 hm hl HRB HRL HRE HRZ
   go_wp2_with fail
   go_loopw[54,9] (fun i y wr=>∃(k:Nat) (m1:Option Addr) (n1 q1:Nat) (m2:Option Addr) (n2 q2:Nat),k≤l.length∧i=.int .i64 k∧zAD W.heap.size W wr∧zAF (fun j=>j<w0.heap.size) w4 wr∧(zAR wr (.slice m1 n1 q1) (zHP (l.take k) ((b,ps),[])).1.1∧zAT wr (.slice m2 n2 q2) (zHP (l.take k) ((b,ps),[])).1.2)∧wr.cell? ⟨B,0,none⟩=some (.slice m1 n1 q1)∧wr.cell? ⟨B,1,none⟩=some (.slice m2 n2 q2)∧(∀j,wr.frozen? ⟨B,j,none⟩=false)∧zAm wr B∧zAJ wr 30 w4.heap.size y (zHP (l.take k) ((b,ps),[])).2∧(∀g,y.ownBlock=some g→zFb wr g)∧zA2 (zHP (l.take k) ((b,ps),[])).1=0∧(zHP (l.take k) ((b,ps),[])).2.length≤k) (fun i _ _=>l.length - (intOf i).toNat)
   case atStart=>exact ⟨0,_,_,_,_,_,_,by omega,rfl,S4,zAF.refl _ _,HM4.out,p0,p1,p2,mb4,zAJ.nil _ _ _,(fun g hg=>by cases hg),HMZ.out,Nat.le_refl _⟩
   case round =>
    obtain ⟨k,m1,n1,q1,m2,n2,q2,hk,rfl,hS,hD,hvp,z0,z1,z2,hmb,ho,hob,hmv,hol⟩:=hrel
    have g0':=hD.cell f0 (Nat.not_lt.2 hy0)
    have g1':=hD.cell f1 (Nat.not_lt.2 hy0)
    clear p0 p1 p2 mb4
    by_cases hlt:k<l.length
    ·have hget:=List.getElem?_eq_getElem hlt
     obtain ⟨g,off,uu,cu,uv,cv,rfl,h0,h1,h2,h3,h4,h5,h6,hd,hp,i1,i2,i3,i4,i5⟩:=zR2 HUW.out hget
     have h0:=zAA hS.below h0
     have h1:=zAA hS.below h1
     have h2:=zAA hS.below h2
     have h3:=zAA hS.below h3
     have h4:=zAA hS.below h4
     have h5:=zAA hS.below h5
     have h6:=zAA hS.below h6
     have hd:=hd.stays hS.below
     have hp:=hp.stays hS.below
     have HST:=Zh (zST ((b,ps),[]) hget)
     generalize l[k]=x at *
     obtain ⟨kd,n,pl,data,pr,need,of_⟩:=x
     simp only at h0 h1 h2 h3 h4 h5 h6 hd hp i1 i2 i3 i4 i5
     generalize zHP (l.take k) ((b,ps),[])=st at *
     obtain ⟨⟨b',ps'⟩,out⟩:=st
     simp only at hvp ho hol hmv
     have BB:=zAB wr (.cells #[.int .i64 kd,.int .i64 n,.int .i64 pl,.slice uu data.length cu,.slice uv pr.length cv,.int .i64 need,.int .i64 of_] 38)
     have S4:=hS.alloc (.cells #[.int .i64 kd,.int .i64 n,.int .i64 pl,.slice uu data.length cu,.slice uv pr.length cv,.int .i64 need,.int .i64 of_] 38)
     have D4:=hD.trans (zAF.old BB _)
     have e0:(wr.alloc (.cells #[.int .i64 kd,.int .i64 n,.int .i64 pl,.slice uu data.length cu,.slice uv pr.length cv,.int .i64 need,.int .i64 of_] 38)).cell? ⟨wr.heap.size,0,none⟩=some (.int .i64 kd):=by go_simp
     have e1':(wr.alloc (.cells #[.int .i64 kd,.int .i64 n,.int .i64 pl,.slice uu data.length cu,.slice uv pr.length cv,.int .i64 need,.int .i64 of_] 38)).cell? ⟨wr.heap.size,1,none⟩=some (.int .i64 n):=by go_simp
     have e2':(wr.alloc (.cells #[.int .i64 kd,.int .i64 n,.int .i64 pl,.slice uu data.length cu,.slice uv pr.length cv,.int .i64 need,.int .i64 of_] 38)).cell? ⟨wr.heap.size,2,none⟩=some (.int .i64 pl):=by go_simp
     have e3:(wr.alloc (.cells #[.int .i64 kd,.int .i64 n,.int .i64 pl,.slice uu data.length cu,.slice uv pr.length cv,.int .i64 need,.int .i64 of_] 38)).cell? ⟨wr.heap.size,3,none⟩=some (.slice uu data.length cu):=by go_simp
     have e4:(wr.alloc (.cells #[.int .i64 kd,.int .i64 n,.int .i64 pl,.slice uu data.length cu,.slice uv pr.length cv,.int .i64 need,.int .i64 of_] 38)).cell? ⟨wr.heap.size,4,none⟩=some (.slice uv pr.length cv):=by go_simp
     have e5:(wr.alloc (.cells #[.int .i64 kd,.int .i64 n,.int .i64 pl,.slice uu data.length cu,.slice uv pr.length cv,.int .i64 need,.int .i64 of_] 38)).cell? ⟨wr.heap.size,5,none⟩=some (.int .i64 need):=by go_simp
     have e6:(wr.alloc (.cells #[.int .i64 kd,.int .i64 n,.int .i64 pl,.slice uu data.length cu,.slice uv pr.length cv,.int .i64 need,.int .i64 of_] 38)).cell? ⟨wr.heap.size,6,none⟩=some (.int .i64 of_):=by go_simp
     have t0:=zAA BB z0
     have t1:=zAA BB z1
     have g0:=zAE BB z0 (z2 0)
     have g1:=zAE BB z1 (z2 1)
     have hBr:B<wr.heap.size:=zAH z0
     have HVP4:=Zh (And.intro (hvp.1.stays zAz.stays BB) (hvp.2.stays zAj.stays BB))
     have HO4:=Zh (ho.stays BB)
     have HMB4:=Zh (hmb.stays BB hBr)
     have HOB4:Hid (∀g,u9.ownBlock=some g→zFb (wr.alloc (.cells #[.int .i64 kd,.int .i64 n,.int .i64 pl,.slice uu data.length cu,.slice uv pr.length cv,.int .i64 need,.int .i64 of_] 38)) g):=Zh (fun g hg=>(hob g hg).stays BB (ho.1.lt g hg).2)
     have HDT:=Zh (hd.stays BB)
     have HPR:=Zh (hp.stays BB)
     have HZA:=Zh (fun j=>(BB.frozen (p:=⟨B,j,none⟩) hBr).trans (z2 j))
     clear hget g0' g1'
     go_upto_region 11 with fail
     clear h0 h1 h2 h3 h4 h5 h6 z0 z1 z2 hvp ho hob hmb hd hp BB
     generalize wr.alloc (.cells #[.int .i64 kd,.int .i64 n,.int .i64 pl,.slice uu data.length cu,.slice uv pr.length cv,.int .i64 need,.int .i64 of_] 38)=wa at *
     obtain ⟨Bh,hBh⟩:∃Bh,Bh=wr.heap.size:=⟨_,rfl⟩
     rw[←hBh] at e0 e1' e2' e3 e4 e5 e6 ⊢
     have hBhm:Bh≠B:=by omega
     clear hBh hBr
     have HDO:=Zh (zLt _ _ _ _ b' ps' kd n pl data pr need of_ wa HVP4.out.1 HVP4.out.2 HDT.out HPR.out i4 i5 hmv)
     have HKE:=Zh (fun h=>(zWk (b:=b') (ps:=ps') (x:=(kd,n,pl,data,pr,need,of_)) h).mesh)
     have HEI:=Zh (zVP (b',ps') (kd,n,pl,data,pr,need,of_)).i64
     have HMV:=Zh hmv
     clear hmv
     go_upto_region 12 with (go_at_call 10;go_fit HDO.out;rintro e w5 ⟨⟨u1,u2,rfl,hv5,hp5⟩,hb5⟩;obtain ⟨a5,c5,rfl,_⟩:=hv5.opened;obtain ⟨a6,c6,rfl,_⟩:=hp5.opened)
     generalize hEE:doE (b',ps') (kd,n,pl,data,pr,need,of_)=E at *
     generalize hMM:doC (b',ps') (kd,n,pl,data,pr,need,of_)=M at *
     have BN:=zAB w5 (.cells #[.slice a5 M.1.length c5,.slice a6 M.2.length c6] 27)
     have B46:Below wa.heap.size wa (w5.alloc (.cells #[.slice a5 M.1.length c5,.slice a6 M.2.length c6] 27)):=hb5.trans (BN.mono hb5.size)
     have S6:=S4.step B46
     have D6:=D4.trans (zAF.old B46 _)
     have n0:(w5.alloc (.cells #[.slice a5 M.1.length c5,.slice a6 M.2.length c6] 27)).cell? ⟨w5.heap.size,0,none⟩=some (.slice a5 M.1.length c5):=by go_simp
     have n1':(w5.alloc (.cells #[.slice a5 M.1.length c5,.slice a6 M.2.length c6] 27)).cell? ⟨w5.heap.size,1,none⟩=some (.slice a6 M.2.length c6):=by go_simp
     have g0:=zAE B46 t0 g0
     have g1:=zAE B46 t1 g1
     have hBma:B<wa.heap.size:=zAH t0
     have t0:=zAA B46 t0
     have t1:=zAA B46 t1
     have hv6:=hv5.stays zAz.stays BN
     have hp6:=hp5.stays zAj.stays BN
     have HO6:=Zh (HO4.out.stays B46)
     have hmb6:=HMB4.out.stays B46 hBma
     have HOB6:=Zh (fun g hg=>(HOB4.out g hg).stays B46 (HO4.out.1.lt g hg).2)
     have HVP6:=Zh (And.intro (HVP4.out.1.stays zAz.stays B46) (HVP4.out.2.stays zAj.stays B46))
     have HZ6:=Zh (fun j=>(B46.frozen (p:=⟨B,j,none⟩) hBma).trans (HZA.out j))
     have HEE:=Zh hEE
     have HMM:=Zh hMM
     have hw46:w4.heap.size≤(w5.alloc (.cells #[.slice a5 M.1.length c5,.slice a6 M.2.length c6] 27)).heap.size:=D6.1
     clear hv5 hp5 hb5 BN e0 e1' e2' e3 e4 e5 e6 HO4 HDT HPR HDO hEE hMM HMB4 HOB4 HVP4 HZA
     generalize w5.alloc (.cells #[.slice a5 M.1.length c5,.slice a6 M.2.length c6] 27)=w6 at *
     obtain ⟨By5,hBy⟩:∃By5,By5=w5.heap.size:=⟨_,rfl⟩
     rw[←hBy] at n0 n1' ⊢
     clear hBy B46
     by_cases hE0:E=0
     ·have HS0:Hid (zHP (l.take (k+1)) ((b,ps),[])=(M,out++[0])):=Zh (by rw[HST.out];unfold zFH;simp only;rw[HEE.out,HMM.out,hE0,if_pos rfl])
      have HMV7:Hid (zA2 M=0):=Zh (HKE.out hE0)
      subst hE0
      have hd7:zAF (fun j=>j=B) w6 ((w6.setCell ⟨B,0,none⟩ (.slice a5 M.1.length c5)).setCell ⟨B,1,none⟩ (.slice a6 M.2.length c6)):=(zAn w6 B 0 (.slice a5 M.1.length c5)).trans (zAn _ B 1 (.slice a6 M.2.length c6))
      have S7:=(S6.setCell (a:=⟨B,0,none⟩) hBW (.slice a5 M.1.length c5)).setCell (a:=⟨B,1,none⟩) hBW (.slice a6 M.2.length c6)
      have y0:((w6.setCell ⟨B,0,none⟩ (.slice a5 M.1.length c5)).setCell ⟨B,1,none⟩ (.slice a6 M.2.length c6)).cell? ⟨B,0,none⟩=some (.slice a5 M.1.length c5):=by go_simp
      have y1:((w6.setCell ⟨B,0,none⟩ (.slice a5 M.1.length c5)).setCell ⟨B,1,none⟩ (.slice a6 M.2.length c6)).cell? ⟨B,1,none⟩=some (.slice a6 M.2.length c6):=by go_simp
      have HMB7:Hid (zAm ((w6.setCell ⟨B,0,none⟩ (.slice a5 M.1.length c5)).setCell ⟨B,1,none⟩ (.slice a6 M.2.length c6)) B):=Zh ((hmb6.set t0 _ _ _).set (show (w6.setCell ⟨B,0,none⟩ (.slice a5 M.1.length c5)).cell? ⟨B,1,none⟩=some (.slice m2 n2 q2) by go_simp) _ _ _)
      have HVP7:=Zh (And.intro (zAR.offBox hv6 hmb6 hd7) (zAT.offBox hp6 hmb6 hd7))
      have HO7:=Zh (HO6.out.kept ((zAC w6 ⟨B,0,none⟩ (.slice a5 M.1.length c5)).trans (zAC _ ⟨B,1,none⟩ (.slice a6 M.2.length c6))) (by
       cases hq:u9.ownBlock with
       | none=>exact Or.inl rfl
       | some g=>exact Or.inr (fun e=>by have h1:=(HO6.out.1.lt g hq).1;have e2:g=B:=Option.some.inj e;omega)))
      have HOB7:Hid (∀g,u9.ownBlock=some g→zFb ((w6.setCell ⟨B,0,none⟩ (.slice a5 M.1.length c5)).setCell ⟨B,1,none⟩ (.slice a6 M.2.length c6)) g):=Zh (fun g hg=>(HOB6.out g hg).off hd7 (HO6.out.1.lt g hg).2 (by have:=(HO6.out.1.lt g hg).1;omega))
      have HZ7:Hid (∀j,((w6.setCell ⟨B,0,none⟩ (.slice a5 M.1.length c5)).setCell ⟨B,1,none⟩ (.slice a6 M.2.length c6)).frozen? ⟨B,j,none⟩=false):=Zh (fun j=>by rw[World.frozen?_setCell,World.frozen?_setCell];exact HZ6.out j)
      have D7:=D6.trans (hd7.mono (D':=fun j=>j<w0.heap.size) fun j _ hj=>by rw[hj];exact hB0)
      clear hv6 hp6
      go_upto_region 14 with fail
      clear t0 t1 g0 g1 n0 n1' hmb6 hd7
      generalize ((w6.setCell ⟨B,0,none⟩ (.slice a5 M.1.length c5)).setCell ⟨B,1,none⟩ (.slice a6 M.2.length c6))=w7 at *
      have hEI:I64 (0:Int):=⟨by decide,by decide⟩
      have hs9:w4.heap.size≤w7.heap.size:=D7.1
      have HLO:=Zh (fun j hj=>(HO7.out.1.lt j hj))
      have BC:=zAB w7 (.cells #[.int .i64 0] 30)
      have HOC:=Zh (HO7.out.stays BC)
      have HBC:Hid (∀g,u9.ownBlock=some g→zFb (w7.alloc (.cells #[.int .i64 0] 30)) g):=Zh (fun g hg=>(HOB7.out g hg).stays BC (HLO.out g hg).2)
      have HZN2:Hid (∀g,u9.ownBlock=some g→zFb (w7.alloc (.cells #[.int .i64 0] 30)) g∧Zn.n≤g):=Zh (fun g hg=>⟨HBC.out g hg,by have h1:=(HLO.out g hg).1;have h2:=HZN.out;omega⟩)
      go_upto_region 15 with (at_builtin;refine zID rfl _ _ 29 rfl Tryz.underlying29 zMJ w4.heap.size _ out rfl HOC.out HBC.out ⟨w7.heap.size,0,none⟩ 1 0 rfl (by go_simp) hEI (by omega) (by simp;omega) ?_;intro v9 w9 ho9 hg9 hat9 hbx9)
      have hd9:=zAF.of_grown hg9
      have S9:=(S7.step BC).grown hg9 (fun j hj=>by have:=(HLO.out j hj).1;omega)
      have D9:=(D7.trans (zAF.old BC _)).next hd9 (fun j hj=>Or.inr (HLO.out j hj).1)
      have hB7:B<w7.heap.size:=by omega
      have hnb:¬u9.ownBlock=some B:=fun e=>by have:=(HLO.out _ e).1;omega
      have HVP9:=Zh (zN9 ⟨HVP7.out.1.stays zAz.stays BC,HVP7.out.2.stays zAj.stays BC⟩ HZN2.out hd9)
      have z0:=hd9.cell (zAA BC y0) hnb
      have z1:=hd9.cell (zAA BC y1) hnb
      have hz9:=Zh (fun j=>(World.frozen?_of_block (a:=⟨B,j,none⟩) (hd9.2 B (Nat.lt_of_lt_of_le hB7 BC.size) hnb)).trans ((BC.frozen (p:=⟨B,j,none⟩) hB7).trans (HZ7.out j)))
      have HMB9:=Zh ((HMB7.out.stays BC hB7).off hd9 (Nat.lt_of_lt_of_le hB7 BC.size) hnb)
      have HO9:=Zh ho9
      have HBX9:=Zh hbx9
      clear ho9 hbx9 y0 y1
      go_wp2_with fail
      go_roundw
      case rel=>exact ⟨k+1,_,_,_,_,_,_,by omega,by go_num,S9,D9,by rw[HS0.out];exact HVP9.out,z0,z1,hz9.out,HMB9.out,by rw[HS0.out];exact HO9.out,HBX9.out,by rw[HS0.out];exact HMV7.out,by rw[HS0.out];simp;omega⟩
      case measure=>simp[intOf];omega
     ·have HS0:Hid (zHP (l.take (k+1)) ((b,ps),[])=((b',ps'),out++[E])):=Zh (by rw[HST.out];unfold zFH;simp only;rw[HEE.out,if_neg hE0])
      have HMV7:=HMV
      have hEn:(E == 0)=false:=by simpa using hE0
      have HO7:=HO6
      have HOB7:=HOB6
      have HVP7:=HVP6
      have HMB7:=Zh hmb6
      have HZ7:=HZ6
      have S7:=S6
      have D7:=D6
      have y0:=t0
      have y1:=t1
      clear hmb6 hv6 hp6
      go_upto_region 14 with fail
      clear t0 t1 g0 g1 n0 n1' S6 D6
      have hEI:I64 E:=HEI.out
      have hs9:w4.heap.size≤w6.heap.size:=D7.1
      have HLO:=Zh (fun j hj=>(HO7.out.1.lt j hj))
      have BC:=zAB w6 (.cells #[.int .i64 E] 30)
      have HOC:=Zh (HO7.out.stays BC)
      have HBC:Hid (∀g,u9.ownBlock=some g→zFb (w6.alloc (.cells #[.int .i64 E] 30)) g):=Zh (fun g hg=>(HOB7.out g hg).stays BC (HLO.out g hg).2)
      have HZN2:Hid (∀g,u9.ownBlock=some g→zFb (w6.alloc (.cells #[.int .i64 E] 30)) g∧Zn.n≤g):=Zh (fun g hg=>⟨HBC.out g hg,by have h1:=(HLO.out g hg).1;have h2:=HZN.out;omega⟩)
      go_upto_region 15 with (at_builtin;refine zID rfl _ _ 29 rfl Tryz.underlying29 zMJ w4.heap.size _ out rfl HOC.out HBC.out ⟨w6.heap.size,0,none⟩ 1 E rfl (by go_simp) hEI (by omega) (by simp;omega) ?_;intro v9 w9 ho9 hg9 hat9 hbx9)
      have hd9:=zAF.of_grown hg9
      have S9:=(S7.step BC).grown hg9 (fun j hj=>by have:=(HLO.out j hj).1;omega)
      have D9:=(D7.trans (zAF.old BC _)).next hd9 (fun j hj=>Or.inr (HLO.out j hj).1)
      have hB7:B<w6.heap.size:=by omega
      have hnb:¬u9.ownBlock=some B:=fun e=>by have:=(HLO.out _ e).1;omega
      have HVP9:=Zh (zN9 ⟨HVP7.out.1.stays zAz.stays BC,HVP7.out.2.stays zAj.stays BC⟩ HZN2.out hd9)
      have z0:=hd9.cell (zAA BC y0) hnb
      have z1:=hd9.cell (zAA BC y1) hnb
      have hz9:=Zh (fun j=>(World.frozen?_of_block (a:=⟨B,j,none⟩) (hd9.2 B (Nat.lt_of_lt_of_le hB7 BC.size) hnb)).trans ((BC.frozen (p:=⟨B,j,none⟩) hB7).trans (HZ7.out j)))
      have HMB9:=Zh ((HMB7.out.stays BC hB7).off hd9 (Nat.lt_of_lt_of_le hB7 BC.size) hnb)
      have HO9:=Zh ho9
      have HBX9:=Zh hbx9
      clear ho9 hbx9 y0 y1
      go_wp2_with fail
      go_roundw
      case rel=>exact ⟨k+1,_,_,_,_,_,_,by omega,by go_num,S9,D9,by rw[HS0.out];exact HVP9.out,z0,z1,hz9.out,HMB9.out,by rw[HS0.out];exact HO9.out,HBX9.out,by rw[HS0.out];exact HMV7.out,by rw[HS0.out];simp;omega⟩
      case measure=>simp[intOf];omega
    ·obtain rfl:l.length=k:=by omega
     rw[List.take_length] at ho hvp
     have HI:=Zh ho.isErrs
     obtain ⟨ai,ci,rfl,_⟩:=ho.isErrs.opened
     have HFW:=Zh (HF4.out wr hD)
     have HVP:=Zh hvp
     have hts:zBV (zHP l ((b,ps),[])).2 (zHP l ((b,ps),[])).2=true:=by simp[zBV]
     have HTS:=Zh hts
     clear ho hob z2 hvp hmb hts
     go_wp2_with (first
      | (go_at_call 9;go_fit (zHz _ _ _ _ (zHP l ((b,ps),[])).1 (zHP l ((b,ps),[])).1 w11 (HFW.out.1.stays zAz.stays hb11) (HFW.out.2.1.stays zAj.stays hb11) (HVP.out.1.stays zAz.stays hb11) (HVP.out.2.stays zAj.stays hb11));rintro e w12 ⟨rfl,hb12⟩;rw[zJI])
      | (go_at_call 11;go_fit (zQA _ _ (zHP l ((b,ps),[])).2 (zHP l ((b,ps),[])).2 wr HFW.out.2.2 HI.out);rintro e w11 ⟨rfl,hb11⟩;rw[HTS.out];have z0:=zAA hb11 z0;have z1:=zAA hb11 z1;have g0':=zAA hb11 g0';have g1':=zAA hb11 g1'))
     exact bodyPost_ret (v:=.bool true) (by simp[results,Tryz.results3,go_sem]) rfl ⟨rfl,((hS.step hb11).step hb12).below⟩
 ·have hE1:=HRE.out hm
  obtain ⟨rfl,rfl⟩:=HRB.out (by rw[hE1];exact hm)
  have hne:(zA2 (b,ps) != 0)=true:=by simpa using hm
  have hnf:(zA2 (b,ps) == 0)=false:=by simpa using hm
  subst hE1
  have HY3:=Zh (HF3.out w3 (zAF.refl _ _))
  have HY3:Hid (zAR w3 _ []∧zAT w3 _ []):=Zh ⟨HY3.out.1,HY3.out.2.1⟩
  clear hm p0 p1 p2
  generalize zA2 (b,ps)=E at *
  go_wp2_with (first
   | (go_at_call 9;go_fit (zHz _ _ _ _ ([],[]) ([],[]) _ (HY3.out.1.stays zAz.stays b5.below) (HY3.out.2.stays zAj.stays b5.below) (zAZ.nil _) (zAZ.nil _));rintro e w7 ⟨rfl,hb7⟩;rw[zJI])
   | (go_at_call 8;go_fit (HT.out w3);rintro e w4 ⟨rfl,hb4⟩)
   | (go_at_call 8;go_fit (HT.out w4);rintro e w5 ⟨rfl,hb5⟩;have b5:=((zAD.refl w3).step hb4).step hb5;have f0:=zAA b5.below f0;have f1:=zAA b5.below f1))
  exact bodyPost_ret (v:=.bool true) (by simp[results,Tryz.results3,go_sem]) rfl ⟨rfl,((S3.step b5.below).step hb7).below⟩
end Go.Proofs.YthgmphbkkojaoaaGreat
