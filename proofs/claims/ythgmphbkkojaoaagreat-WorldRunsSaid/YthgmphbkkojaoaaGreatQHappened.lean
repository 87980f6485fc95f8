/-
  The reference's Happened, walked. (Printed by wip/tools/mkhapall.py.)
-/
import Derived.Test.YthgmphbkkojaoaaGreatQRepaired
import Derived.Test.YthgmphbkkojaoaaGreatQSavedIn
import Derived.Test.YthgmphbkkojaoaaGreatQForget
set_option linter.unusedSimpArgs false
set_option linter.unusedVariables false
set_option maxHeartbeats 64000000
namespace Go.Proofs.YthgmphbkkojaoaaGreat
set_option linter.unusedSectionVars false
variable [Zn]
open Go.RowKit
theorem zEy(z:Int)(W:World):Calls Tryz.prog 29 #[.int .i64 z] W fun e w'=>e=.returned (.tuple #[.agg #[.slice none 0 0,.slice none 0 0],.int .i64 z])∧Below W.heap.size W w':=by
 have S0:=(zAD.refl W).alloc (.cells #[.slice none 0 0,.slice none 0 0] 27)
 go_enter Tryz.func29,Tryz.ntmps29
 go_wp2_with fail
 exact bodyPost_ret (v:=.tuple #[.agg #[.slice none 0 0,.slice none 0 0],.int .i64 z]) (by simp[results,Tryz.results29,go_sem]) rfl ⟨rfl,S0.below⟩
theorem zPA{α:Type}{sz:Nat}{R:Rd α}{E:Nat→Prop}{w:World}{e:TypeId}{base n c:Nat}{a:Option Addr}{l:List α}(h:zAK sz R E w e base (.slice a n c) l){i:Nat}{x:α}(hx:l[i]?=some x):∃g,a=some ⟨g,0,none⟩∧base≤g∧g<w.heap.size:=by
 rcases h.shape with ⟨_,e⟩|⟨g,cap,cur,e,h1,h2,_⟩
 ·rw[e] at hx;simp at hx
 ·simp only[Value.slice.injEq] at e
  exact ⟨g,e.1,h1,h2⟩
theorem zSu{m:Me}{v:Int}(h:zA2 m=0):zAh m v=if v<0∨(m.1.length:Int)≤v then 4 else 0:=by
 unfold zAh
 rw[if_neg (by omega)]
theorem zHX{m:Me}{x:Hp}(h1:x.1≠1)(h6:x.1≠6)(h:doE m x≠0):doC m x=([],[]):=by
 unfold doC
 by_cases hm:zA2 m≠0
 ·rw[if_pos hm]
 ·rw[if_neg hm,if_neg h1,if_neg h6,if_pos h]
set_option maxRecDepth 100000 in
theorem zLt(vb u vd vp:Value)(b:List Ver)(ps:List Pr)(k n i:Int)(data pr:List Int)(ne of:Int)(W:World)(hb:zAR W vb b)(hu:zAT W u ps)(hd:zAG W vd data)(hp:zAG W vp pr)(hne:I64 ne)(hof:I64 of)(hm:zA2 (b,ps)=0) :
  Calls Tryz.prog 10 #[.agg #[vb,u],.agg #[.int .i64 k,.int .i64 n,.int .i64 i,vd,vp,.int .i64 ne,.int .i64 of]] W fun e w'=>(∃u1 u2,e=.returned (.tuple #[.agg #[u1,u2],.int .i64 (doE (b,ps) (k,n,i,data,pr,ne,of))])∧zAR w' u1 (doC (b,ps) (k,n,i,data,pr,ne,of)).1∧zAT w' u2 (doC (b,ps) (k,n,i,data,pr,ne,of)).2)∧Below W.heap.size W w':=by
 have hL:ps.length≤8:=(zAU.1 hm).2.1
 have HOK:=Zh (zAU.1 hm).2.2
 have HM:Hid (¬zA2 (b,ps)≠0):=Zh (by omega)
 have HMZ:=Zh hm
 obtain ⟨E,hE⟩:∃E,E=doE (b,ps) (k,n,i,data,pr,ne,of):=⟨_,rfl⟩
 obtain ⟨C,hC⟩:∃C,C=doC (b,ps) (k,n,i,data,pr,ne,of):=⟨_,rfl⟩
 rw[←hE,←hC]
 have HE:=Zh hE
 have HC:=Zh hC
 clear hE hC hm
 obtain ⟨a,c,rfl,hcb,⟨hbm,hbc,_⟩,_⟩:=hb.opened
 obtain ⟨a',c',rfl,hcu,⟨hum,huc,_⟩,_⟩:=hu.opened
 obtain ⟨ad,cd,rfl,_⟩:=hd.opened
 obtain ⟨ap,cp,rfl,_⟩:=hp.opened
 obtain ⟨w0,hw0⟩:∃w0,w0=(((W.alloc (.cells #[.slice a b.length c,.slice a' ps.length c'] 27)).alloc (.cells #[.int .i64 k,.int .i64 n,.int .i64 i,.slice ad data.length cd,.slice ap pr.length cp,.int .i64 ne,.int .i64 of] 38)).alloc (.cells #[.slice none 0 0,.slice none 0 0] 27)):=⟨_,rfl⟩
 have S0:zAD W.heap.size W w0:=by rw[hw0];exact (((zAD.refl W).alloc _).alloc _).alloc _
 have p0:w0.cell? ⟨W.heap.size,0,none⟩=some (.slice a b.length c):=by rw[hw0];go_simp
 have p1:w0.cell? ⟨W.heap.size,1,none⟩=some (.slice a' ps.length c'):=by rw[hw0];go_simp
 have p2:∀j,w0.frozen? ⟨W.heap.size,j,none⟩=false:=by intro j;rw[hw0];go_simp
 have h0:w0.cell? ⟨W.heap.size+1,0,none⟩=some (.int .i64 k):=by rw[hw0];go_simp
 have h1:w0.cell? ⟨W.heap.size+1,1,none⟩=some (.int .i64 n):=by rw[hw0];go_simp
 have h2:w0.cell? ⟨W.heap.size+1,2,none⟩=some (.int .i64 i):=by rw[hw0];go_simp
 have h3:w0.cell? ⟨W.heap.size+1,3,none⟩=some (.slice ad data.length cd):=by rw[hw0];go_simp
 have h4:w0.cell? ⟨W.heap.size+1,4,none⟩=some (.slice ap pr.length cp):=by rw[hw0];go_simp
 have h5:w0.cell? ⟨W.heap.size+1,5,none⟩=some (.int .i64 ne):=by rw[hw0];go_simp
 have h6:w0.cell? ⟨W.heap.size+1,6,none⟩=some (.int .i64 of):=by rw[hw0];go_simp
 have q0:w0.cell? ⟨W.heap.size+2,0,none⟩=some (.slice none 0 0):=by rw[hw0];go_simp
 have q1:w0.cell? ⟨W.heap.size+2,1,none⟩=some (.slice none 0 0):=by rw[hw0];go_simp
 have q2:∀j,w0.frozen? ⟨W.heap.size+2,j,none⟩=false:=by intro j;rw[hw0];go_simp
 have m1:zAm w0 W.heap.size:=by rw[hw0];exact ((zAm.made W a b.length c a' ps.length c' 27).stays (zAB _ _) (by simp)).stays (zAB _ _) (by simp;omega)
 have m2:zAm w0 (W.heap.size+2):=by
  rw[hw0]
  have h:=zAm.made ((W.alloc (.cells #[.slice a b.length c,.slice a' ps.length c'] 27)).alloc (.cells #[.int .i64 k,.int .i64 n,.int .i64 i,.slice ad data.length cd,.slice ap pr.length cp,.int .i64 ne,.int .i64 of] 38)) none 0 0 none 0 0 27
  simpa using h
 have hs0:w0.heap.size=W.heap.size+3:=by rw[hw0];simp
 have HW:=Zh hw0
 clear hw0
 obtain ⟨B,hB⟩:∃B,B=W.heap.size:=⟨_,rfl⟩
 obtain ⟨B2,hB2⟩:∃B,B=W.heap.size+1:=⟨_,rfl⟩
 obtain ⟨B1,hB1⟩:∃B,B=W.heap.size+2:=⟨_,rfl⟩
 rw[←hB1] at q0 q1 q2 m2
 rw[←hB2] at h0 h1 h2 h3 h4 h5 h6
 rw[←hB] at p0 p1 p2 m1
 have hBW:W.heap.size≤B:=by omega
 have hBW1:W.heap.size≤B1:=by omega
 have hBB:¬B1=B:=by omega
 have hBB':¬B=B1:=by omega
 have hB2B:¬B2=B:=by omega
 have hB2B1:¬B2=B1:=by omega
 have hBl:B<w0.heap.size:=by omega
 have hB1l:B1<w0.heap.size:=by omega
 have hB2l:B2<w0.heap.size:=by omega
 have HBB:=Zh hB
 have HBB1:=Zh hB1
 have HBB2:=Zh hB2
 clear hB hB1 hB2 hs0
 have HB:=Zh hb
 have HU:=Zh hu
 have HD:=Zh hd
 have HP:=Zh hp
 have HF:Hid (∀w',zAD w0.heap.size w0 w'→(w'.cell? ⟨B,0,none⟩=some (.slice a b.length c)∧w'.cell? ⟨B,1,none⟩=some (.slice a' ps.length c')∧(∀j,w'.frozen? ⟨B,j,none⟩=false))∧(w'.cell? ⟨B2,0,none⟩=some (.int .i64 k)∧w'.cell? ⟨B2,1,none⟩=some (.int .i64 n)∧w'.cell? ⟨B2,2,none⟩=some (.int .i64 i)∧w'.cell? ⟨B2,3,none⟩=some (.slice ad data.length cd)∧w'.cell? ⟨B2,4,none⟩=some (.slice ap pr.length cp)∧w'.cell? ⟨B2,5,none⟩=some (.int .i64 ne)∧w'.cell? ⟨B2,6,none⟩=some (.int .i64 of))∧w'.cell? ⟨B1,0,none⟩=some (.slice none 0 0)∧w'.cell? ⟨B1,1,none⟩=some (.slice none 0 0)∧(∀j,w'.frozen? ⟨B1,j,none⟩=false)∧zAm w' B∧zAm w' B1):=Zh (fun w' q=>⟨⟨zAA q.below p0,zAA q.below p1,fun j=>(q.below.frozen (p:=⟨B,j,none⟩) hBl).trans (p2 j)⟩,⟨zAA q.below h0,zAA q.below h1,zAA q.below h2,zAA q.below h3,zAA q.below h4,zAA q.below h5,zAA q.below h6⟩,zAA q.below q0,zAA q.below q1,fun j=>(q.below.frozen (p:=⟨B1,j,none⟩) hB1l).trans (q2 j),m1.stays q.below hBl,m2.stays q.below hB1l⟩)
 have HNO:Hid (∀w',zAD w0.heap.size w0 w'→((w'.setCell ⟨B1,0,none⟩ (.slice none 0 0)).setCell ⟨B1,1,none⟩ (.slice none 0 0)).cell? ⟨B1,0,none⟩=some (.slice none 0 0)∧((w'.setCell ⟨B1,0,none⟩ (.slice none 0 0)).setCell ⟨B1,1,none⟩ (.slice none 0 0)).cell? ⟨B1,1,none⟩=some (.slice none 0 0)∧Below W.heap.size W ((w'.setCell ⟨B1,0,none⟩ (.slice none 0 0)).setCell ⟨B1,1,none⟩ (.slice none 0 0))):=Zh (fun w' q=>by
  obtain ⟨_,_,z0,z1,_⟩:=HF.out w' q
  exact ⟨by go_simp,by go_simp,(((S0.step q.below).setCell (a:=⟨B1,0,none⟩) hBW1 (.slice none 0 0)).setCell (a:=⟨B1,1,none⟩) hBW1 (.slice none 0 0)).below⟩)
 clear hb hu hd hp p0 p1 p2 h0 h1 h2 h3 h4 h5 h6 q0 q1 q2 m1 m2
 go_enter Tryz.func10,Tryz.ntmps10
 go_upto_region 2 with fail
 rw[←HW.out,←HBB1.out,←HBB2.out,←HBB.out]
 have T0:=zAD.refl w0
 obtain ⟨⟨d0,d1,d2⟩,⟨g0,g1,g2,g3,g4,g5,g6⟩,e0,e1,e2,mb,mb1⟩:=HF.out w0 T0
 have f0:=e2 0
 have f1:=e2 1
 by_cases k1:k=1
 ·obtain rfl:E=zEK (b,ps) data pr ne of:=HE.out.trans (by unfold doE;rw[if_neg HM.out,if_pos k1])
  obtain rfl:C=zD5 (b,ps) data pr ne of:=HC.out.trans (by unfold doC;rw[if_neg HM.out,if_pos k1])
  subst k1
  obtain ⟨EE,hEE⟩:∃x,x=zEK (b,ps) data pr ne of:=⟨_,rfl⟩
  obtain ⟨CC,hCC⟩:∃x,x=zD5 (b,ps) data pr ne of:=⟨_,rfl⟩
  have HEE:=Zh hEE
  have HCC:=Zh hCC
  clear hEE hCC d2 e2 mb
  go_wp2_with (go_at_call 30;go_fit (zN8 _ _ _ _ b ps data pr ne of w0 (HB.out.stays zAz.stays S0.below) (HU.out.stays zAj.stays S0.below) (HD.out.stays S0.below) (HP.out.stays S0.below) hne hof);rintro e w6 ⟨⟨u1,u2,rfl,hv6,hp6⟩,hb6⟩;rw[←HEE.out];rw[←HCC.out] at hv6 hp6;obtain ⟨a6,c6,rfl,_⟩:=hv6.opened;obtain ⟨a7,c7,rfl,_⟩:=hp6.opened;have z0:=zAA hb6 e0;have z1:=zAA hb6 e1;have z2:=zAE hb6 e0 f0;have z3:=zAE hb6 e1 f1;have mb6:=mb1.stays hb6 (zAH e0);have v0:((w6.setCell ⟨B1,0,none⟩ (.slice a6 CC.1.length c6)).setCell ⟨B1,1,none⟩ (.slice a7 CC.2.length c7)).cell? ⟨B1,0,none⟩=some (.slice a6 CC.1.length c6):=(by go_simp);have v1:((w6.setCell ⟨B1,0,none⟩ (.slice a6 CC.1.length c6)).setCell ⟨B1,1,none⟩ (.slice a7 CC.2.length c7)).cell? ⟨B1,1,none⟩=some (.slice a7 CC.2.length c7):=(by go_simp))
  have hd7:=(zAn w6 B1 0 (.slice a6 CC.1.length c6)).trans (zAn _ B1 1 (.slice a7 CC.2.length c7))
  have S7:=((S0.step hb6).setCell (a:=⟨B1,0,none⟩) hBW1 (.slice a6 CC.1.length c6)).setCell (a:=⟨B1,1,none⟩) hBW1 (.slice a7 CC.2.length c7)
  have hv7:=hv6.offBox mb6 hd7
  have hp7:=hp6.offBox mb6 hd7
  exact bodyPost_ret (v:=.tuple #[.agg #[.slice a6 CC.1.length c6,.slice a7 CC.2.length c7],.int .i64 EE]) (by simp[results,Tryz.results10,go_sem,v0,v1]) rfl ⟨⟨_,_,zEF HEE.out,by rw[←HCC.out];exact hv7,by rw[←HCC.out];exact hp7⟩,S7.below⟩
 by_cases k6:k=6
 ·obtain rfl:E=zBP (b,ps) n:=HE.out.trans (by unfold doE;rw[if_neg HM.out,if_neg k1,if_pos k6])
  obtain rfl:C=zBU (b,ps) n:=HC.out.trans (by unfold doC;rw[if_neg HM.out,if_neg k1,if_pos k6])
  subst k6
  clear k1
  obtain ⟨EE,hEE⟩:∃x,x=zBP (b,ps) n:=⟨_,rfl⟩
  obtain ⟨CC,hCC⟩:∃x,x=zBU (b,ps) n:=⟨_,rfl⟩
  have HEE:=Zh hEE
  have HCC:=Zh hCC
  clear hEE hCC d2 e2 mb
  go_wp2_with (go_at_call 31;go_fit (zMG _ _ b ps n w0 (HB.out.stays zAz.stays S0.below) (HU.out.stays zAj.stays S0.below));rintro e w6 ⟨⟨u1,u2,rfl,hv6,hp6⟩,hb6⟩;rw[←HEE.out];rw[←HCC.out] at hv6 hp6;obtain ⟨a6,c6,rfl,_⟩:=hv6.opened;obtain ⟨a7,c7,rfl,_⟩:=hp6.opened;have z0:=zAA hb6 e0;have z1:=zAA hb6 e1;have z2:=zAE hb6 e0 f0;have z3:=zAE hb6 e1 f1;have mb6:=mb1.stays hb6 (zAH e0);have v0:((w6.setCell ⟨B1,0,none⟩ (.slice a6 CC.1.length c6)).setCell ⟨B1,1,none⟩ (.slice a7 CC.2.length c7)).cell? ⟨B1,0,none⟩=some (.slice a6 CC.1.length c6):=(by go_simp);have v1:((w6.setCell ⟨B1,0,none⟩ (.slice a6 CC.1.length c6)).setCell ⟨B1,1,none⟩ (.slice a7 CC.2.length c7)).cell? ⟨B1,1,none⟩=some (.slice a7 CC.2.length c7):=(by go_simp))
  have hd7:=(zAn w6 B1 0 (.slice a6 CC.1.length c6)).trans (zAn _ B1 1 (.slice a7 CC.2.length c7))
  have S7:=((S0.step hb6).setCell (a:=⟨B1,0,none⟩) hBW1 (.slice a6 CC.1.length c6)).setCell (a:=⟨B1,1,none⟩) hBW1 (.slice a7 CC.2.length c7)
  have hv7:=hv6.offBox mb6 hd7
  have hp7:=hp6.offBox mb6 hd7
  exact bodyPost_ret (v:=.tuple #[.agg #[.slice a6 CC.1.length c6,.slice a7 CC.2.length c7],.int .i64 EE]) (by simp[results,Tryz.results10,go_sem,v0,v1]) rfl ⟨⟨_,_,zEF HEE.out,by rw[←HCC.out];exact hv7,by rw[←HCC.out];exact hp7⟩,S7.below⟩
 by_cases k7:k=7
 ·have hr9:∀z,(if n<0∨(b.length:Int)≤n then 4 else 0)=z→zAh (b,ps) n=z:=fun z h=>(zSu HMZ.out).trans h
  have HE7:Hid (E=zBv (b,ps) n):=Zh (HE.out.trans (by unfold doE;rw[if_neg HM.out,if_neg k1,if_neg k6,if_pos k7]))
  by_cases hn:n<0∨(b.length:Int)≤n
  ·obtain rfl:E=4:=HE7.out.trans (by unfold zBv;rw[if_pos hn])
   obtain rfl:C=([],[]):=HC.out.trans (by exact zHX k1 k6 (by rw[←HE.out];decide))
   have hr:zAh (b,ps) n=4:=hr9 _ (if_pos hn)
   have hE:(4:Int)≠0:=by decide
   subst k7
   clear hn hr9 k1 k6
   have HR:=Zh hr
   have hne:((4:Int) != 0)=true:=by decide
   clear d2 e2 mb mb1 hr
   go_wp2_with (first
    | (go_at_call 32;go_fit (zEG _ b _ ps n w0 (HB.out.stays zAz.stays S0.below) (HU.out.stays zAj.stays S0.below));rintro e w1 ⟨rfl,hb1⟩;rw[HR.out];have T1:=T0.step hb1;clear d0 d1 g0 g1 g2 g3 g4 g5 g6 e0 e1 f0 f1)
    | (go_at_call 29;go_fit (zEy 4 _);rintro e w9 ⟨rfl,hb9⟩;have T9:=T1.step hb9;obtain ⟨_,_,e0,e1,e2,_,_⟩:=HF.out w9 T9;have f0:=e2 0;have f1:=e2 1;obtain ⟨z0,z1,z2⟩:=HNO.out w9 T9))
   exact bodyPost_ret (v:=.tuple #[.agg #[.slice none 0 0,.slice none 0 0],.int .i64 4]) (by simp[results,Tryz.results10,go_sem,z0,z1]) rfl ⟨⟨_,_,rfl,zAZ.nil _,zAZ.nil _⟩,z2⟩
  have hr:zAh (b,ps) n=0:=hr9 _ (if_neg hn)
  by_cases hh:n∈zCi b
  ·obtain rfl:E=0:=HE7.out.trans (by unfold zBv;rw[if_neg hn,if_pos hh])
   obtain rfl:C=(b,ps.map (zBs n)):=HC.out.trans (by unfold doC;rw[if_neg HM.out,if_neg k1,if_neg k6,if_neg (by rw[←HE.out];decide),if_pos k7])
   have hmm:zEa n (zCi b)=true:=by simpa[zEa] using hh
   have hm0:=HMZ.out
   subst k7
   clear hn hr9 k1 k6 hh
   have HR:=Zh hr
   have hbk:zAt b=0:=(zAU.1 hm0).1
   have HBK:=Zh hbk
   clear d2 e2 mb mb1 hr hbk g2 g3 g4 g5 g6 e0 e1 f0 f1
   go_upto_region 11 with (go_at_call 32;go_fit (zEG _ b _ ps n w0 (HB.out.stays zAz.stays S0.below) (HU.out.stays zAj.stays S0.below));rintro e w1 ⟨rfl,hb1⟩;rw[HR.out])
   have T1:=T0.step hb1
   clear d0 d1 g0 g1 hb1
   obtain ⟨⟨d0,d1,d2⟩,⟨_,g1,_⟩,e0,e1,e2,mb,mb1⟩:=HF.out w1 T1
   have s3:w1.drew.cell? ⟨B,0,none⟩=some (.slice a b.length c)∧w1.drew.cell? ⟨B2,1,none⟩=some (.int .i64 n):=⟨d0,g1⟩
   have HSS:Hid (∀w',zAD w1.heap.size w1 w'→w'.cell? ⟨B,0,none⟩=some (.slice a b.length c)∧w'.cell? ⟨B2,1,none⟩=some (.int .i64 n)):=Zh (fun w' h=>⟨zAA h.below d0,zAA h.below g1⟩)
   have HVD:=Zh (HB.out.stays zAz.stays (S0.step (T1.drew).below).below)
   have HMM:=Zh hmm
   clear d0 d1 d2 g1 e0 e1 e2 mb mb1 hmm
   refine wp_region_held_drew (S:=fun w'=>w'.cell? ⟨B,0,none⟩=some (.slice a b.length c)∧w'.cell? ⟨B2,1,none⟩=some (.int .i64 n)) (by kernel_rfl) s3 (fun _=>?_)
   refine wpAnyH_take (i:=0) (v:=?vh0) rfl (by kernel_rfl) (by kernel_rfl) (by kernel_rfl) (fun _ _ _ h=>h) (Or.inl ⟨by rfl,?hyh0⟩) (by exact s3) ?rh0
   case hyh0=>(intro w hSw;(try dsimp only at hSw);go_simp<;>with_reducible rfl)
   simp only[Act.put,List.setIfInBounds_toArray,List.set]
   refine wpAnyH_take (i:=1) (v:=?vh1) rfl (by kernel_rfl) (by kernel_rfl) (by kernel_rfl) (fun _ _ _ h=>h) (Or.inl ⟨by rfl,?hyh1⟩) (by exact s3) ?rh1
   case hyh1=>(intro w hSw;(try dsimp only at hSw);go_simp<;>with_reducible rfl)
   simp only[Act.put,List.setIfInBounds_toArray,List.set]
   refine wpAnyH_take (i:=3) (v:=?vh3) rfl (by kernel_rfl) (by kernel_rfl) (by kernel_rfl) (fun _ _ _ h=>h) (Or.inl ⟨by rfl,?hyh3⟩) (by exact s3) ?rh3
   case hyh3=>(intro w hSw;(try dsimp only at hSw);go_simp<;>with_reducible rfl)
   simp only[Act.put,List.setIfInBounds_toArray,List.set]
   refine wpAnyH_take (i:=4) (v:=?vh4) rfl (by kernel_rfl) (by kernel_rfl) (by kernel_rfl) (fun _ _ _ h=>h) (Or.inl ⟨by rfl,?hyh4⟩) (by exact s3) ?rh4
   case hyh4=>(intro w hSw;(try dsimp only at hSw);go_simp<;>with_reducible rfl)
   simp only[Act.put,List.setIfInBounds_toArray,List.set]
   refine wpAnyH_ready (rs:=[2]) (by kernel_rfl) (by simp) ?_
   refine AllReadyH.cons (o:=?oh2) ?hoh2 (fun K' hK'=>?kh2) AllReadyH.nil
   case hoh2=>(simp only[List.getElem?_toArray,List.getElem?_cons_succ,List.getElem?_cons_zero];rfl)
   go_simp
   go_at_call 34
   refine (zI8 _ b _ HVD.out HBK.out).mono ?_
   rintro e w6 ⟨⟨v4,rfl,ho4⟩,hb4⟩
   have p4:=(zAD.refl w1).drew.step hb4
   have s4:=HSS.out w6 p4
   obtain ⟨ah,ch,rfl,_⟩:=ho4.isInts.opened
   try go_wp2_with fail
   refine hK'.out _ _ s4 (fun _=>?_)
   clear hK' K'
   refine wpAnyH_ready (rs:=[5]) (by kernel_rfl) (by simp) ?_
   refine AllReadyH.cons (o:=?oh5) ?hoh5 (fun K' hK'=>?kh5) AllReadyH.nil
   case hoh5=>(simp only[List.getElem?_toArray,List.getElem?_cons_succ,List.getElem?_cons_zero];rfl)
   go_simp
   go_at_call 33
   refine (zBc _ (zCi b) n _ ho4.isInts).mono ?_
   rintro e w7 ⟨rfl,rfl⟩
   rw[HMM.out]
   try go_wp2_with fail
   refine hK'.out _ _ s4 (fun _=>?_)
   clear hK' K'
   refine wpAnyH_take (i:=6) (v:=?vh6) rfl (by kernel_rfl) (by kernel_rfl) (by kernel_rfl) (fun _ _ _ h=>h) (Or.inl ⟨by rfl,?hyh6⟩) (by exact s4) ?rh6
   case hyh6=>(intro w hSw;(try dsimp only at hSw);go_simp<;>with_reducible rfl)
   simp only[Act.put,List.setIfInBounds_toArray,List.set]
   refine wpAnyH_done (by kernel_rfl) ?_ _
   go_simp
   have T6:=T1.step p4.below
   clear s3 s4 ho4 p4 hb4
   have HPK:Hid (∀p∈ps,zBk b p):=Zh (zAU.1 hm0).2.2
   have hp8:ps.length≤8:=(zAU.1 hm0).2.1
   obtain ⟨⟨d0,d1,d2⟩,⟨_,g1,_⟩,e0,e1,e2,mb,mb1⟩:=HF.out w6 T6
   have SQ:=S0.step T6.below
   have HCL:=Zh (zBT RPF.stays RPF.one (.slice a' ps.length c') (ps.map fun p=>(p,true)) W w6 (zAF.old SQ.below _) (zIz HU.out) (by simp;omega))
   have hBq:B<w6.heap.size:=zAH d0
   have hB1q:B1<w6.heap.size:=zAH e0
   have hB2q:B2<w6.heap.size:=zAH g1
   have d21:=d2 1
   clear d2
   go_upto_region 14 with (go_at_call 35;go_fit HCL.out;rintro e w3 ⟨⟨v2,rfl,ho3⟩,hb3⟩;obtain ⟨a2,c2,rfl,hc2,⟨hm2,hk2,_⟩,_⟩:=ho3.isRow.opened;have d21:=zAE hb3 d1 d21;have d0:=zAA hb3 d0;have d1:=zAA hb3 d1)
   rw[show (ps.map fun p=>(p,true)).length=ps.length by simp] at ho3 hc2 hm2
   have hnB:∀j,(Value.slice a2 ps.length c2).ownBlock=some j→j≠B∧j≠B1∧j≠B2∧W.heap.size≤j:=fun j h=>by have:=(ho3.lt j h).1;have:=SQ.2;omega
   have HNB:=Zh hnB
   have ho4:=(ho3.kept (zAC w3 ⟨B,1,none⟩ (.slice a2 ps.length c2)) (fun j h=>by cases h;exact hBW) (by
    cases hq:(Value.slice a2 ps.length c2).ownBlock with
    | none=>exact Or.inl rfl
    | some j=>exact Or.inr (fun e=>(hnB j hq).1 (Option.some.inj e)))).weaken (E':=fun _=>False) (fun j _ e=>e.elim)
   have S4:=(SQ.step hb3).setCell (a:=⟨B,1,none⟩) hBW (.slice a2 ps.length c2)
   have hd4:=zAn w3 B 1 (.slice a2 ps.length c2)
   have mb4:=(mb1.stays hb3 hB1q).off hd4 (Nat.lt_of_lt_of_le hB1q hb3.size) (fun e=>hBB e)
   have c0:(w3.setCell ⟨B,1,none⟩ (.slice a2 ps.length c2)).cell? ⟨B,0,none⟩=some (.slice a b.length c):=by go_simp
   have c1:(w3.setCell ⟨B,1,none⟩ (.slice a2 ps.length c2)).cell? ⟨B,1,none⟩=some (.slice a2 ps.length c2):=by go_simp
   have g1:=hd4.cell (zAA hb3 g1) hB2B
   have i0:=hd4.cell (zAA hb3 e0) hBB
   have i1:=hd4.cell (zAA hb3 e1) hBB
   have i2:∀j,(w3.setCell ⟨B,1,none⟩ (.slice a2 ps.length c2)).frozen? ⟨B1,j,none⟩=false:=fun j=>by rw[World.frozen?_setCell];exact (hb3.frozen (p:=⟨B1,j,none⟩) hB1q).trans (e2 j)
   clear ho3 hc2 hm2 hnB hd4 d0 d1 d21 e0 e1 e2 mb mb1 hb3
   generalize (w3.setCell ⟨B,1,none⟩ (.slice a2 ps.length c2))=w4 at *
   have HG:Hid (∀w',zAF (fun j=>(Value.slice a2 ps.length c2).ownBlock=some j) w4 w'→w'.cell? ⟨B,0,none⟩=some (.slice a b.length c)∧w'.cell? ⟨B,1,none⟩=some (.slice a2 ps.length c2)∧w'.cell? ⟨B2,1,none⟩=some (.int .i64 n)∧w'.cell? ⟨B1,0,none⟩=some (.slice none 0 0)∧w'.cell? ⟨B1,1,none⟩=some (.slice none 0 0)∧(∀j,w'.frozen? ⟨B1,j,none⟩=false)∧zAm w' B1):=Zh (fun w' h=>by
    have n0:¬(Value.slice a2 ps.length c2).ownBlock=some B:=fun e=>(HNB.out B e).1 rfl
    have n1:¬(Value.slice a2 ps.length c2).ownBlock=some B1:=fun e=>(HNB.out B1 e).2.1 rfl
    have n2:¬(Value.slice a2 ps.length c2).ownBlock=some B2:=fun e=>(HNB.out B2 e).2.2.1 rfl
    have hB14:B1<w4.heap.size:=zAH i0
    exact ⟨h.cell c0 n0,h.cell c1 n0,h.cell g1 n2,h.cell i0 n1,h.cell i1 n1,fun j=>(World.frozen?_of_block (a:=⟨B1,j,none⟩) (h.2 B1 hB14 n1)).trans (i2 j),mb4.off h hB14 n1⟩)
   clear i0 i1 i2 mb4 c0 g1
   go_wp2_with fail
   clear c1
   go_loopw[67] (fun i wr=>∃(k:Nat) (qs:List PrF),k≤ps.length∧i=.int .i64 k∧zAD W.heap.size W wr∧zAF (fun j=>(Value.slice a2 ps.length c2).ownBlock=some j) w4 wr∧zAK 3 (RPF W) (fun _=>False) wr 62 w6.heap.size (.slice a2 ps.length c2) qs∧qs.length=ps.length∧qs.map (·.1)=(ps.take k).map (zBs n)++ps.drop k∧∀m,k≤m→m<ps.length→∃p,ps[m]?=some p∧qs[m]?=some (p,true)) (fun i _=>ps.length - (intOf i).toNat)
   case atStart=>exact ⟨0,ps.map fun p=>(p,true),by omega,rfl,S4,zAF.refl _ _,ho4,by simp,by simp[Function.comp_def],fun m _ hm=>⟨ps[m],List.getElem?_eq_getElem hm,by rw[List.getElem?_map,List.getElem?_eq_getElem hm];rfl⟩⟩
   case round =>
    clear ho4
    obtain ⟨k,qs,hk,rfl,hS,hDr,ho,hql,hmap,hft⟩:=hrel
    by_cases hlt:k<ps.length
    ·obtain ⟨p,hpk,hqk⟩:=hft k (Nat.le_refl _) hlt
     have hpo:=HPK.out p (List.mem_of_getElem? hpk)
     have HSTEP:Hid (((ps.take k).map (zBs n)++ps.drop k).set k (zBs n p)=(ps.take (k+1)).map (zBs n)++ps.drop (k+1)):=Zh (zOq hpk)
     have HSTILL:Hid (zBs n p=p→(ps.take k).map (zBs n)++ps.drop k=(ps.take (k+1)).map (zBs n)++ps.drop (k+1)):=Zh (fun h=>zMn hpk h)
     have HFT2:Hid (∀m,k+1≤m→m<ps.length→∃p,ps[m]?=some p∧qs[m]?=some (p,true)):=Zh (fun m h1 h2=>hft m (by omega) h2)
     obtain ⟨t,r,K⟩:=p
     have HMAP:=Zh hmap
     have HQL:=Zh hql
     have HQK:=Zh hqk
     have hK20:K.length≤1000:=by have h1:=hpo.few;have h2:=hpo.room;simp only at h1 h2;omega
     have hkq:k<qs.length:=by omega
     obtain ⟨g,rfl,hg1,hglt⟩:=zPA ho hqk
     have hgg:=HNB.out g rfl
     obtain ⟨rr,g',hg',hl3,hone,hcell,hf⟩:=ho.get hqk
     obtain rfl:g'=g:=Option.some.inj (hg'.symm.trans rfl)
     obtain ⟨vK,rfl,hr,hK⟩:=hf.now
     simp only[if_true] at hK hr
     obtain ⟨aa,ca,rfl,_⟩:=hK.opened
     have k0:wr.cell? ⟨g',k*3,none⟩=some (.bool t):=hcell 0 _ rfl
     have k1:wr.cell? ⟨g',k*3+1,none⟩=some (.int .i64 r):=hcell 1 _ rfl
     have k2:wr.cell? ⟨g',k*3+2,none⟩=some (.slice aa K.length ca):=hcell 2 _ rfl
     have HKW:=Zh hK
     have BB:=zAB wr (.cells #[.bool t,.int .i64 r,.slice aa K.length ca] 62)
     have S6:=hS.alloc (.cells #[.bool t,.int .i64 r,.slice aa K.length ca] 62)
     have D6:=hDr.trans (zAF.old BB _)
     have x0:(wr.alloc (.cells #[.bool t,.int .i64 r,.slice aa K.length ca] 62)).cell? ⟨wr.heap.size,0,none⟩=some (.bool t):=by go_simp
     have x1:(wr.alloc (.cells #[.bool t,.int .i64 r,.slice aa K.length ca] 62)).cell? ⟨wr.heap.size,1,none⟩=some (.int .i64 r):=by go_simp
     have x2:(wr.alloc (.cells #[.bool t,.int .i64 r,.slice aa K.length ca] 62)).cell? ⟨wr.heap.size,2,none⟩=some (.slice aa K.length ca):=by go_simp
     have ho6:=ho.stays BB
     have hkI:(k:Int)<(ps.length:Int):=by omega
     clear hpk hmap hql hqk hft hf hcell hone hl3 hg' hpo hK
     go_upto_region 17 with fail
     clear k0 k1 k2 BB ho hDr hS
     generalize wr.alloc (.cells #[.bool t,.int .i64 r,.slice aa K.length ca] 62)=wb at *
     obtain ⟨Bp,hBp⟩:∃Bp,Bp=wr.heap.size:=⟨_,rfl⟩
     rw[←hBp] at x0 x1 x2 hglt ⊢
     have hgp:¬Bp=g':=by omega
     clear hBp
     cases t with
     | false =>
      have HM1:Hid (qs.map (·.1)=(ps.take (k+1)).map (zBs n)++ps.drop (k+1)):=Zh (by rw[HMAP.out];exact HSTILL.out (by unfold zBs;simp))
      have HSTC:=Zh (And.intro S6 (And.intro D6 ho6))
      clear S6 D6 ho6
      go_wp2_with fail
      go_roundw
      case rel=>exact ⟨k+1,qs,by omega,by go_num,HSTC.out.1,HSTC.out.2.1,HSTC.out.2.2,HQL.out,HM1.out,HFT2.out⟩
      case measure=>simp[intOf];omega
     | true =>
      obtain ⟨_,b1,j1,_,_,_,_⟩:=HG.out wb D6
      have HWO:=Zh (zIC true r (.slice aa K.length ca) K n W wb.drew S6.drew HKW.out hK20)
      have l0:wb.drew.cell? ⟨g',k*3,none⟩=some (.bool true):=by
       obtain ⟨rr,g2,hg2,_,_,hcell,hf⟩:=ho6.get HQK.out
       obtain rfl:g2=g':=Option.some.inj (hg2.symm.trans rfl)
       obtain ⟨_,rfl,_⟩:=hf.now
       exact hcell 0 _ rfl
      have l1:wb.drew.cell? ⟨g',k*3+1,none⟩=some (.int .i64 r):=by
       obtain ⟨rr,g2,hg2,_,_,hcell,hf⟩:=ho6.get HQK.out
       obtain rfl:g2=g':=Option.some.inj (hg2.symm.trans rfl)
       obtain ⟨_,rfl,_⟩:=hf.now
       exact hcell 1 _ rfl
      obtain ⟨cz,l2⟩:∃cz,wb.drew.cell? ⟨g',k*3+2,none⟩=some cz:=by
       obtain ⟨rr,g2,hg2,_,_,hcell,hf⟩:=ho6.get HQK.out
       obtain rfl:g2=g':=Option.some.inj (hg2.symm.trans rfl)
       obtain ⟨_,rfl,_⟩:=hf.now
       exact ⟨_,hcell 2 _ rfl⟩
      have l3:∀j,wb.drew.frozen? ⟨g',j,none⟩=false:=fun j=>ho6.free rfl j
      have s15:wb.drew.cell? ⟨B,1,none⟩=some (.slice (some ⟨g',0,none⟩) ps.length c2)∧wb.drew.cell? ⟨B2,1,none⟩=some (.int .i64 n)∧wb.drew.cell? ⟨Bp,0,none⟩=some (.bool true)∧wb.drew.cell? ⟨Bp,1,none⟩=some (.int .i64 r)∧wb.drew.cell? ⟨Bp,2,none⟩=some (.slice aa K.length ca):=⟨b1,j1,x0,x1,x2⟩
      have HO6:=Zh (And.intro ho6 (And.intro S6 D6))
      clear ho6 S6 D6 x1 x2 b1 j1
      go_upto_region 18 with fail
      clear x0
      refine wp_region_held_drew (S:=fun w'=>w'.cell? ⟨B,1,none⟩=some (.slice (some ⟨g',0,none⟩) ps.length c2)∧w'.cell? ⟨B2,1,none⟩=some (.int .i64 n)∧w'.cell? ⟨Bp,0,none⟩=some (.bool true)∧w'.cell? ⟨Bp,1,none⟩=some (.int .i64 r)∧w'.cell? ⟨Bp,2,none⟩=some (.slice aa K.length ca)) (by kernel_rfl) s15 (fun _=>?_)
      refine wpAnyH_take (i:=0) (v:=?vw0) rfl (by kernel_rfl) (by kernel_rfl) (by kernel_rfl) (fun _ _ _ h=>h) (Or.inl ⟨by rfl,?hyw0⟩) (by exact s15) ?rw0
      case hyw0=>(intro w hSw;(try dsimp only at hSw);go_simp<;>with_reducible rfl)
      simp only[Act.put,List.setIfInBounds_toArray,List.set]
      refine wpAnyH_take (i:=1) (v:=?vw1) rfl (by kernel_rfl) (by kernel_rfl) (by kernel_rfl) (fun _ _ _ h=>h) (Or.inl ⟨by rfl,?hyw1⟩) (by exact s15) ?rw1
      case hyw1=>(intro w hSw;(try dsimp only at hSw);go_simp<;>with_reducible rfl)
      simp only[Act.put,List.setIfInBounds_toArray,List.set]
      refine wpAnyH_take (i:=2) (v:=?vw2) rfl (by kernel_rfl) (by kernel_rfl) (by kernel_rfl) (fun _ _ _ h=>h) (Or.inl ⟨by rfl,?hyw2⟩) (by exact s15) ?rw2
      case hyw2=>(intro w hSw;(try dsimp only at hSw);go_simp<;>with_reducible rfl)
      simp only[Act.put,List.setIfInBounds_toArray,List.set]
      refine wpAnyH_take (i:=3) (v:=?vw3) rfl (by kernel_rfl) (by kernel_rfl) (by kernel_rfl) (fun _ _ _ h=>h) (Or.inl ⟨by rfl,?hyw3⟩) (by exact s15) ?rw3
      case hyw3=>(intro w hSw;(try dsimp only at hSw);go_simp<;>with_reducible rfl)
      simp only[Act.put,List.setIfInBounds_toArray,List.set]
      refine wpAnyH_take (i:=4) (v:=?vw4) rfl (by kernel_rfl) (by kernel_rfl) (by kernel_rfl) (fun _ _ _ h=>h) (Or.inl ⟨by rfl,?hyw4⟩) (by exact s15) ?rw4
      case hyw4=>(intro w hSw;(try dsimp only at hSw);go_simp<;>with_reducible rfl)
      simp only[Act.put,List.setIfInBounds_toArray,List.set]
      refine wpAnyH_take (i:=5) (v:=?vw5) rfl (by kernel_rfl) (by kernel_rfl) (by kernel_rfl) (fun _ _ _ h=>h) (Or.inl ⟨by rfl,?hyw5⟩) (by exact s15) ?rw5
      case hyw5=>(intro w hSw;(try dsimp only at hSw);go_simp<;>with_reducible rfl)
      simp only[Act.put,List.setIfInBounds_toArray,List.set]
      refine wpAnyH_ready (rs:=[6]) (by kernel_rfl) (by simp) ?_
      refine AllReadyH.cons (o:=?ow6) ?how6 (fun K' hK'=>?kw6) AllReadyH.nil
      case how6=>(simp only[List.getElem?_toArray,List.getElem?_cons_succ,List.getElem?_cons_zero];rfl)
      go_simp
      go_at_call 36
      refine HWO.out.mono ?_
      rintro e w5' ⟨⟨v5,rfl,hv5,hv6⟩,hb5⟩
      obtain ⟨a5,c5,rfl,_⟩:=(hv6 w5' (zAF.refl _ _)).opened
      have t0:=zAA hb5 l0
      have t1:=zAA hb5 l1
      have t2:=zAA hb5 l2
      have y0:=zAE hb5 l0 (l3 _)
      have y1':=zAE hb5 l1 (l3 _)
      have y2':=zAE hb5 l2 (l3 _)
      have s16:w5'.cell? ⟨B,1,none⟩=some (.slice (some ⟨g',0,none⟩) ps.length c2)∧w5'.cell? ⟨B2,1,none⟩=some (.int .i64 n)∧w5'.cell? ⟨Bp,0,none⟩=some (.bool true)∧w5'.cell? ⟨Bp,1,none⟩=some (.int .i64 r)∧w5'.cell? ⟨Bp,2,none⟩=some (.slice aa K.length ca):=⟨zAA hb5 s15.1,zAA hb5 s15.2.1,zAA hb5 s15.2.2.1,zAA hb5 s15.2.2.2.1,zAA hb5 s15.2.2.2.2⟩
      try go_wp2_with fail
      refine hK'.out _ _ s16 (fun _=>?_)
      clear hK' K'
      refine wpAnyH_take (i:=7) (v:=?vw7) rfl (by kernel_rfl) (by kernel_rfl) (by kernel_rfl) (fun _ _ _ h=>h) (Or.inl ⟨by rfl,?hyw7⟩) (by exact s16) ?rw7
      case hyw7=>(intro w hSw;(try dsimp only at hSw);go_simp<;>with_reducible rfl)
      simp only[Act.put,List.setIfInBounds_toArray,List.set]
      refine wpAnyH_ready (rs:=[8]) (by kernel_rfl) (by simp) ?_
      refine AllReadyH.cons (o:=?ow8) ?how8 (fun K' hK'=>?kw8) AllReadyH.nil
      case how8=>(simp only[List.getElem?_toArray,List.getElem?_cons_succ,List.getElem?_cons_zero];rfl)
      go_simp
      have hnBg:¬B=g':=fun e=>hgg.1 e.symm
      have hnB2g:¬B2=g':=fun e=>hgg.2.2.1 e.symm
      have hDg:zAF (fun j=>j=g') w5' (((w5'.setCell ⟨g',k*3,none⟩ (.bool true)).setCell ⟨g',k*3+1,none⟩ (.int .i64 r)).setCell ⟨g',k*3+1+1,none⟩ (.slice a5 (zAa n K).length c5)):=(zAF.of_grown (zAQ g' [.bool true,.int .i64 r,.slice a5 (zAa n K).length c5] (k*3) w5')).mono (fun j _ hj=>by cases hj;rfl)
      have s17:(((w5'.setCell ⟨g',k*3,none⟩ (.bool true)).setCell ⟨g',k*3+1,none⟩ (.int .i64 r)).setCell ⟨g',k*3+1+1,none⟩ (.slice a5 (zAa n K).length c5)).cell? ⟨B,1,none⟩=some (.slice (some ⟨g',0,none⟩) ps.length c2)∧(((w5'.setCell ⟨g',k*3,none⟩ (.bool true)).setCell ⟨g',k*3+1,none⟩ (.int .i64 r)).setCell ⟨g',k*3+1+1,none⟩ (.slice a5 (zAa n K).length c5)).cell? ⟨B2,1,none⟩=some (.int .i64 n)∧(((w5'.setCell ⟨g',k*3,none⟩ (.bool true)).setCell ⟨g',k*3+1,none⟩ (.int .i64 r)).setCell ⟨g',k*3+1+1,none⟩ (.slice a5 (zAa n K).length c5)).cell? ⟨Bp,0,none⟩=some (.bool true)∧(((w5'.setCell ⟨g',k*3,none⟩ (.bool true)).setCell ⟨g',k*3+1,none⟩ (.int .i64 r)).setCell ⟨g',k*3+1+1,none⟩ (.slice a5 (zAa n K).length c5)).cell? ⟨Bp,1,none⟩=some (.int .i64 r)∧(((w5'.setCell ⟨g',k*3,none⟩ (.bool true)).setCell ⟨g',k*3+1,none⟩ (.int .i64 r)).setCell ⟨g',k*3+1+1,none⟩ (.slice a5 (zAa n K).length c5)).cell? ⟨Bp,2,none⟩=some (.slice aa K.length ca):=⟨hDg.cell s16.1 hnBg,hDg.cell s16.2.1 hnB2g,hDg.cell s16.2.2.1 hgp,hDg.cell s16.2.2.2.1 hgp,hDg.cell s16.2.2.2.2 hgp⟩
      refine hK'.out _ _ s17 (fun _=>?_)
      clear hK' K'
      refine wpAnyH_done (by kernel_rfl) ?_ _
      go_simp
      have hb5r:Below wb.heap.size wb w5':=((zAD.refl wb).drew.step hb5).below
      have D8:=HO6.out.2.2.trans ((zAF.old hb5r _).trans (hDg.mono (D':=fun j=>(Value.slice (some ⟨g',0,none⟩) ps.length c2).ownBlock=some j) (fun j _ hj=>by rw[hj];rfl)))
      have hgW:=hgg.2.2.2
      have S8:=(((HO6.out.2.1.step hb5r).setCell (a:=⟨g',k*3,none⟩) hgW (.bool true)).setCell (a:=⟨g',k*3+1,none⟩) hgW (.int .i64 r)).setCell (a:=⟨g',k*3+1+1,none⟩) hgW (.slice a5 (zAa n K).length c5)
      have hgE:=(HO6.out.1.lt g' rfl).2
      have hn5:(Value.slice a5 (zAa n K).length c5).ownBlock≠some g':=fun e=>by have:wb.heap.size≤g':=hv5 g' e;omega
      have ho8:zAK 3 (RPF W) (fun _=>False) (((w5'.setCell ⟨g',k*3,none⟩ (.bool true)).setCell ⟨g',k*3+1,none⟩ (.int .i64 r)).setCell ⟨g',k*3+1+1,none⟩ (.slice a5 (zAa n K).length c5)) 62 w6.heap.size (.slice (some ⟨g',0,none⟩) ps.length c2) (qs.set k ((true,r,zAa n K),false)):=
       (HO6.out.1.stays hb5r).setElem (r:=[.bool true,.int .i64 r,.slice a5 (zAa n K).length c5]) hkq rfl (by intro z hz;simp at hz;rcases hz with rfl | rfl | rfl<;>rfl) (fun w' hw'=>⟨_,rfl,hr,by
        simp only[Bool.false_eq_true,if_false]
        refine hv6 w' (hw'.mono fun j _ hj=>?_)
        rcases hj with hj|hj
        ·cases hj;exact ⟨hgW,hn5⟩
        ·exact hj.elim⟩)
      have hql8:(qs.set k ((true,r,zAa n K),false)).length=ps.length:=by rw[List.length_set];exact HQL.out
      have hmap8:(qs.set k ((true,r,zAa n K),false)).map (·.1)=(ps.take (k+1)).map (zBs n)++ps.drop (k+1):=by
       rw[List.map_set,HMAP.out]
       exact HSTEP.out
      have hft8:∀m,k+1≤m→m<ps.length→∃p,ps[m]?=some p∧(qs.set k ((true,r,zAa n K),false))[m]?=some (p,true):=fun m h1 h2=>by
       obtain ⟨p,h3,h4⟩:=HFT2.out m h1 h2
       exact ⟨p,h3,by rw[List.getElem?_set_ne (by omega)];exact h4⟩
      have HX8:=Zh (And.intro S8 (And.intro D8 (And.intro ho8 (And.intro hql8 (And.intro hmap8 hft8)))))
      clear S8 D8 ho8 hql8 hmap8 hft8 s15 s16 s17 l0 l1 l2 l3 t0 t1 t2 y0 y1' y2' hv5 hv6 hb5 hb5r hDg hn5
      generalize ((w5'.setCell ⟨g',k*3,none⟩ (.bool true)).setCell ⟨g',k*3+1,none⟩ (.int .i64 r)).setCell ⟨g',k*3+1+1,none⟩ (.slice a5 (zAa n K).length c5)=wf at *
      go_wp2_with fail
      go_roundw
      case rel=>exact ⟨k+1,_,by omega,by go_num,HX8.out.1,HX8.out.2.1,HX8.out.2.2.1,HX8.out.2.2.2.1,HX8.out.2.2.2.2.1,HX8.out.2.2.2.2.2⟩
      case measure=>simp[intOf];omega
    ·obtain rfl:ps.length=k:=by omega
     rw[List.drop_length,List.append_nil,List.take_length] at hmap
     obtain ⟨b0,b1,_,i0,i1,i2,mbz⟩:=HG.out wr hDr
     have hP8:=zEE ho.isRow hS.below
     rw[hmap] at hP8
     have HP8:=Zh (show zAT wr (.slice a2 ps.length c2) (ps.map (zBs n)) from hP8)
     have HV8:=Zh (show zAR wr (.slice a b.length c) b from HB.out.stays zAz.stays hS.below)
     have HMB:=Zh mbz
     have HS6:=Zh hS
     have j0:=i2 0
     have j1:=i2 1
     clear hmap hP8 ho hft hDr hS i2 mbz
     have v0:((wr.setCell ⟨B1,0,none⟩ (.slice a b.length c)).setCell ⟨B1,1,none⟩ (.slice a2 ps.length c2)).cell? ⟨B1,0,none⟩=some (.slice a b.length c):=by go_simp
     have v1:((wr.setCell ⟨B1,0,none⟩ (.slice a b.length c)).setCell ⟨B1,1,none⟩ (.slice a2 ps.length c2)).cell? ⟨B1,1,none⟩=some (.slice a2 ps.length c2):=by go_simp
     go_wp2_with fail
     have hd9:=(zAn wr B1 0 (.slice a b.length c)).trans (zAn _ B1 1 (.slice a2 ps.length c2))
     have S9:=(HS6.out.setCell (a:=⟨B1,0,none⟩) hBW1 (.slice a b.length c)).setCell (a:=⟨B1,1,none⟩) hBW1 (.slice a2 ps.length c2)
     exact bodyPost_ret (v:=.tuple #[.agg #[.slice a b.length c,.slice a2 ps.length c2],.int .i64 0]) (by simp[results,Tryz.results10,go_sem,v0,v1]) rfl ⟨⟨_,_,rfl,HV8.out.offBox HMB.out hd9,HP8.out.offBox HMB.out hd9⟩,S9.below⟩
  ·obtain rfl:E=6:=HE7.out.trans (by unfold zBv;rw[if_neg hn,if_neg hh])
   obtain rfl:C=([],[]):=HC.out.trans (by exact zHX k1 k6 (by rw[←HE.out];decide))
   have hmm:zEa n (zCi b)=false:=by simpa[zEa] using hh
   have hm0:=HMZ.out
   subst k7
   clear hn hr9 k1 k6 hh
   have HR:=Zh hr
   have hbk:zAt b=0:=(zAU.1 hm0).1
   have HBK:=Zh hbk
   clear d2 e2 mb mb1 hr hbk g2 g3 g4 g5 g6 e0 e1 f0 f1
   go_upto_region 11 with (go_at_call 32;go_fit (zEG _ b _ ps n w0 (HB.out.stays zAz.stays S0.below) (HU.out.stays zAj.stays S0.below));rintro e w1 ⟨rfl,hb1⟩;rw[HR.out])
   have T1:=T0.step hb1
   clear d0 d1 g0 g1 hb1
   obtain ⟨⟨d0,d1,d2⟩,⟨_,g1,_⟩,e0,e1,e2,mb,mb1⟩:=HF.out w1 T1
   have s3:w1.drew.cell? ⟨B,0,none⟩=some (.slice a b.length c)∧w1.drew.cell? ⟨B2,1,none⟩=some (.int .i64 n):=⟨d0,g1⟩
   have HSS:Hid (∀w',zAD w1.heap.size w1 w'→w'.cell? ⟨B,0,none⟩=some (.slice a b.length c)∧w'.cell? ⟨B2,1,none⟩=some (.int .i64 n)):=Zh (fun w' h=>⟨zAA h.below d0,zAA h.below g1⟩)
   have HVD:=Zh (HB.out.stays zAz.stays (S0.step (T1.drew).below).below)
   have HMM:=Zh hmm
   clear d0 d1 d2 g1 e0 e1 e2 mb mb1 hmm
   refine wp_region_held_drew (S:=fun w'=>w'.cell? ⟨B,0,none⟩=some (.slice a b.length c)∧w'.cell? ⟨B2,1,none⟩=some (.int .i64 n)) (by kernel_rfl) s3 (fun _=>?_)
   refine wpAnyH_take (i:=0) (v:=?vl0) rfl (by kernel_rfl) (by kernel_rfl) (by kernel_rfl) (fun _ _ _ h=>h) (Or.inl ⟨by rfl,?hyl0⟩) (by exact s3) ?rl0
   case hyl0=>(intro w hSw;(try dsimp only at hSw);go_simp<;>with_reducible rfl)
   simp only[Act.put,List.setIfInBounds_toArray,List.set]
   refine wpAnyH_take (i:=1) (v:=?vl1) rfl (by kernel_rfl) (by kernel_rfl) (by kernel_rfl) (fun _ _ _ h=>h) (Or.inl ⟨by rfl,?hyl1⟩) (by exact s3) ?rl1
   case hyl1=>(intro w hSw;(try dsimp only at hSw);go_simp<;>with_reducible rfl)
   simp only[Act.put,List.setIfInBounds_toArray,List.set]
   refine wpAnyH_take (i:=3) (v:=?vl3) rfl (by kernel_rfl) (by kernel_rfl) (by kernel_rfl) (fun _ _ _ h=>h) (Or.inl ⟨by rfl,?hyl3⟩) (by exact s3) ?rl3
   case hyl3=>(intro w hSw;(try dsimp only at hSw);go_simp<;>with_reducible rfl)
   simp only[Act.put,List.setIfInBounds_toArray,List.set]
   refine wpAnyH_take (i:=4) (v:=?vl4) rfl (by kernel_rfl) (by kernel_rfl) (by kernel_rfl) (fun _ _ _ h=>h) (Or.inl ⟨by rfl,?hyl4⟩) (by exact s3) ?rl4
   case hyl4=>(intro w hSw;(try dsimp only at hSw);go_simp<;>with_reducible rfl)
   simp only[Act.put,List.setIfInBounds_toArray,List.set]
   refine wpAnyH_ready (rs:=[2]) (by kernel_rfl) (by simp) ?_
   refine AllReadyH.cons (o:=?ol2) ?hol2 (fun K' hK'=>?kl2) AllReadyH.nil
   case hol2=>(simp only[List.getElem?_toArray,List.getElem?_cons_succ,List.getElem?_cons_zero];rfl)
   go_simp
   go_at_call 34
   refine (zI8 _ b _ HVD.out HBK.out).mono ?_
   rintro e w6 ⟨⟨v4,rfl,ho4⟩,hb4⟩
   have p4:=(zAD.refl w1).drew.step hb4
   have s4:=HSS.out w6 p4
   obtain ⟨ah,ch,rfl,_⟩:=ho4.isInts.opened
   try go_wp2_with fail
   refine hK'.out _ _ s4 (fun _=>?_)
   clear hK' K'
   refine wpAnyH_ready (rs:=[5]) (by kernel_rfl) (by simp) ?_
   refine AllReadyH.cons (o:=?ol5) ?hol5 (fun K' hK'=>?kl5) AllReadyH.nil
   case hol5=>(simp only[List.getElem?_toArray,List.getElem?_cons_succ,List.getElem?_cons_zero];rfl)
   go_simp
   go_at_call 33
   refine (zBc _ (zCi b) n _ ho4.isInts).mono ?_
   rintro e w7 ⟨rfl,rfl⟩
   rw[HMM.out]
   try go_wp2_with fail
   refine hK'.out _ _ s4 (fun _=>?_)
   clear hK' K'
   refine wpAnyH_take (i:=6) (v:=?vl6) rfl (by kernel_rfl) (by kernel_rfl) (by kernel_rfl) (fun _ _ _ h=>h) (Or.inl ⟨by rfl,?hyl6⟩) (by exact s4) ?rl6
   case hyl6=>(intro w hSw;(try dsimp only at hSw);go_simp<;>with_reducible rfl)
   simp only[Act.put,List.setIfInBounds_toArray,List.set]
   refine wpAnyH_done (by kernel_rfl) ?_ _
   go_simp
   have T6:=T1.step p4.below
   clear s3 s4 ho4 p4 hb4
   obtain ⟨_,_,e0,e1,e2,_,_⟩:=HF.out w6 T6
   clear e0 e1 e2
   go_wp2_with (go_at_call 29;go_fit (zEy 6 _);rintro e w9 ⟨rfl,hb9⟩;have T9:=T6.step hb9;obtain ⟨_,_,e0,e1,e2,_,_⟩:=HF.out w9 T9;have f0:=e2 0;have f1:=e2 1;obtain ⟨z0,z1,z2⟩:=HNO.out w9 T9)
   exact bodyPost_ret (v:=.tuple #[.agg #[.slice none 0 0,.slice none 0 0],.int .i64 6]) (by simp[results,Tryz.results10,go_sem,z0,z1]) rfl ⟨⟨_,_,rfl,zAZ.nil _,zAZ.nil _⟩,z2⟩
 by_cases kf:k<2∨5<k
 ·obtain rfl:E=3:=HE.out.trans (by unfold doE;rw[if_neg HM.out,if_neg k1,if_neg k6,if_neg k7,if_pos kf])
  obtain rfl:C=([],[]):=HC.out.trans (by exact zHX k1 k6 (by rw[←HE.out];decide))
  have hk1:=k1
  have hk6:=k6
  have hk7:=k7
  have hk:=kf
  clear k1 k6 k7 kf
  have x1:(k == 1)=false:=by simpa using hk1
  have x6:(k == 6)=false:=by simpa using hk6
  have x7:(k == 7)=false:=by simpa using hk7
  have hin:=zHJ hk
  have HIN:=Zh hin
  clear d2 e2 mb mb1 hk hk1 hk6 hk7 hin
  go_wp2_with (first
   | (go_at_call 37;go_fit (zCS k 2 5 w0);rintro e w1 ⟨rfl,rfl⟩;rw[HIN.out])
   | (go_at_call 29;go_fit (zEy 3 _);rintro e w9 ⟨rfl,hb9⟩;have T9:=T0.step hb9;obtain ⟨_,_,e0,e1,e2,_,_⟩:=HF.out w9 T9;have f0:=e2 0;have f1:=e2 1;obtain ⟨z0,z1,z2⟩:=HNO.out w9 T9))
  exact bodyPost_ret (v:=.tuple #[.agg #[.slice none 0 0,.slice none 0 0],.int .i64 3]) (by simp[results,Tryz.results10,go_sem,z0,z1]) rfl ⟨⟨_,_,rfl,zAZ.nil _,zAZ.nil _⟩,z2⟩
 by_cases hn:n<0∨(ps.length:Int)≤n
 ·obtain rfl:E=4:=HE.out.trans (by unfold doE;rw[if_neg HM.out,if_neg k1,if_neg k6,if_neg k7,if_neg kf,if_pos hn])
  obtain rfl:C=([],[]):=HC.out.trans (by exact zHX k1 k6 (by rw[←HE.out];decide))
  have hk2:2≤k:=by omega
  have hk5:k≤5:=by omega
  clear k1 k6 k7 kf
  have x1:(k == 1)=false:=by simp;omega
  have x6:(k == 6)=false:=by simp;omega
  have x7:(k == 7)=false:=by simp;omega
  have hin:=zB5 (n:=k) (a:=2) (b:=5) (by omega) (by omega)
  have HIN:=Zh hin
  clear d2 e2 mb mb1 hin
  by_cases h:n<0
  ·have hd:decide (n<0)=true:=by simpa using h
   go_wp2_with (first
    | (go_at_call 37;go_fit (zCS k 2 5 w0);rintro e w1 ⟨rfl,rfl⟩;rw[HIN.out])
    | (go_at_call 29;go_fit (zEy 4 _);rintro e w9 ⟨rfl,hb9⟩;have T9:=T0.step hb9;obtain ⟨_,_,e0,e1,e2,_,_⟩:=HF.out w9 T9;have f0:=e2 0;have f1:=e2 1;obtain ⟨z0,z1,z2⟩:=HNO.out w9 T9))
   exact bodyPost_ret (v:=.tuple #[.agg #[.slice none 0 0,.slice none 0 0],.int .i64 4]) (by simp[results,Tryz.results10,go_sem,z0,z1]) rfl ⟨⟨_,_,rfl,zAZ.nil _,zAZ.nil _⟩,z2⟩
  ·have hd:decide (n<0)=false:=by simpa using h
   have h2:(ps.length:Int)≤n:=by omega
   have hd2:decide ((ps.length:Int)≤n)=true:=by simpa using h2
   go_wp2_with (first
    | (go_at_call 37;go_fit (zCS k 2 5 w0);rintro e w1 ⟨rfl,rfl⟩;rw[HIN.out])
    | (go_at_call 29;go_fit (zEy 4 _);rintro e w9 ⟨rfl,hb9⟩;have T9:=T0.step hb9;obtain ⟨_,_,e0,e1,e2,_,_⟩:=HF.out w9 T9;have f0:=e2 0;have f1:=e2 1;obtain ⟨z0,z1,z2⟩:=HNO.out w9 T9))
   exact bodyPost_ret (v:=.tuple #[.agg #[.slice none 0 0,.slice none 0 0],.int .i64 4]) (by simp[results,Tryz.results10,go_sem,z0,z1]) rfl ⟨⟨_,_,rfl,zAZ.nil _,zAZ.nil _⟩,z2⟩
 obtain ⟨m,rfl⟩:=Int.eq_ofNat_of_zero_le (show 0≤n by omega)
 have hml0:m<ps.length:=by omega
 obtain ⟨⟨t,r,K⟩,hget⟩:∃p,ps[m]?=some p:=⟨_,List.getElem?_eq_getElem hml0⟩
 have HPO:=Zh (HOK.out _ (List.mem_of_getElem? hget))
 clear hml0
 by_cases k5:k=5
 ·have HE5:Hid (E=zI0 K i):=Zh (HE.out.trans (by unfold doE;rw[if_neg HM.out,if_neg k1,if_neg k6,if_neg k7,if_neg kf,if_neg hn,if_pos k5,zGd hget]))
  by_cases hi:i<0∨(K.length:Int)≤i
  ·obtain rfl:E=4:=HE5.out.trans (zLE hi)
   obtain rfl:C=([],[]):=HC.out.trans (by exact zHX k1 k6 (by rw[←HE.out];decide))
   subst k5
   clear k1 k6 k7 kf hn
   have hml:=(List.getElem?_eq_some_iff.1 hget).1
   have hin:inB 5 2 5=true:=zB5 (n:=5) (a:=2) (b:=5) (by omega) (by omega)
   have HIN:=Zh hin
   have hmI:(m:Int)<(ps.length:Int):=by omega
   have hmI0:(0:Int)≤(m:Int):=by omega
   have hdm:decide ((m:Int)<0)=false:=by simp
   have hdm2:decide ((ps.length:Int)≤(m:Int))=false:=by simp;omega
   obtain ⟨gp,op,uk,ck,ea,k0,k1,k2,hKW,hrI⟩:=zBq HU.out hget
   subst ea
   simp only at k0 k1 k2 hKW hrI
   have k0:=zAA S0.below k0
   have k1:=zAA S0.below k1
   have k2:=zAA S0.below k2
   have HKW:=Zh hKW
   have HGET:=Zh hget
   have TP:=T0.alloc (.cells #[.bool t,.int .i64 r,.slice uk K.length ck] 62)
   have x0:(w0.alloc (.cells #[.bool t,.int .i64 r,.slice uk K.length ck] 62)).cell? ⟨w0.heap.size,0,none⟩=some (.bool t):=by go_simp
   have x1:(w0.alloc (.cells #[.bool t,.int .i64 r,.slice uk K.length ck] 62)).cell? ⟨w0.heap.size,1,none⟩=some (.int .i64 r):=by go_simp
   have x2:(w0.alloc (.cells #[.bool t,.int .i64 r,.slice uk K.length ck] 62)).cell? ⟨w0.heap.size,2,none⟩=some (.slice uk K.length ck):=by go_simp
   have xf0:(w0.alloc (.cells #[.bool t,.int .i64 r,.slice uk K.length ck] 62)).frozen? ⟨w0.heap.size,0,none⟩=false:=by go_simp
   have xf2:(w0.alloc (.cells #[.bool t,.int .i64 r,.slice uk K.length ck] 62)).frozen? ⟨w0.heap.size,2,none⟩=false:=by go_simp
   have hzp:w0.heap.size<(w0.alloc (.cells #[.bool t,.int .i64 r,.slice uk K.length ck] 62)).heap.size:=by simp
   clear hin hKW hget d2 e2 mb mb1
   go_upto_region 26 with (go_at_call 37;go_fit (zCS 5 2 5 w0);rintro e w1 ⟨rfl,rfl⟩;rw[HIN.out])
   clear k0 k1 k2 d0 d1 g0 g1 g2 g3 g4 g5 g6 e0 e1 f0 f1
   generalize w0.alloc (.cells #[.bool t,.int .i64 r,.slice uk K.length ck] 62)=wp at *
   obtain ⟨Bp,hBp⟩:∃Bp,Bp=w0.heap.size:=⟨_,rfl⟩
   rw[←hBp] at x0 x1 x2 xf0 xf2 hzp ⊢
   have hBp0:w0.heap.size≤Bp:=by omega
   have hBpW:W.heap.size≤Bp:=by have:=S0.2;omega
   have hBpB:¬Bp=B:=by omega
   have hBBp:¬B=Bp:=by omega
   have hB1p:¬B1=Bp:=by omega
   have hB2p:¬B2=Bp:=by omega
   clear hBp
   obtain ⟨⟨d0,d1,d2⟩,⟨g0,g1,g2,g3,g4,g5,g6⟩,e0,e1,e2,mb,mb1⟩:=HF.out wp TP
   by_cases hi0:i<0
   ·have hdi:decide (i<0)=true:=by simpa using hi0
    clear d2 e2 mb mb1 d0 e0 e1 g3 g4 g5 g6
    go_wp2_with (go_at_call 29;go_fit (zEy 4 _);rintro e w9 ⟨rfl,hb9⟩;have T9:=TP.step hb9;obtain ⟨_,_,e0,e1,e2,_,_⟩:=HF.out w9 T9;have f0:=e2 0;have f1:=e2 1;obtain ⟨z0,z1,z2⟩:=HNO.out w9 T9)
    exact bodyPost_ret (v:=.tuple #[.agg #[.slice none 0 0,.slice none 0 0],.int .i64 4]) (by simp[results,Tryz.results10,go_sem,z0,z1]) rfl ⟨⟨_,_,rfl,zAZ.nil _,zAZ.nil _⟩,z2⟩
   ·have hdi:decide (i<0)=false:=by simpa using hi0
    have hil:(K.length:Int)≤i:=by omega
    have hdl:decide ((K.length:Int)≤i)=true:=by simpa using hil
    clear d2 e2 mb mb1 d0 e0 e1 g3 g4 g5 g6
    go_wp2_with (go_at_call 29;go_fit (zEy 4 _);rintro e w9 ⟨rfl,hb9⟩;have T9:=TP.step hb9;obtain ⟨_,_,e0,e1,e2,_,_⟩:=HF.out w9 T9;have f0:=e2 0;have f1:=e2 1;obtain ⟨z0,z1,z2⟩:=HNO.out w9 T9)
    exact bodyPost_ret (v:=.tuple #[.agg #[.slice none 0 0,.slice none 0 0],.int .i64 4]) (by simp[results,Tryz.results10,go_sem,z0,z1]) rfl ⟨⟨_,_,rfl,zAZ.nil _,zAZ.nil _⟩,z2⟩
  obtain ⟨q,rfl⟩:=Int.eq_ofNat_of_zero_le (show 0≤i by omega)
  obtain rfl:E=0:=HE5.out.trans (zO4 hi)
  obtain rfl:C=(b,ps.set m (t,r,zEe q K)):=HC.out.trans (by unfold doC;rw[if_neg HM.out,if_neg k1,if_neg k6,if_neg (by rw[←HE.out];decide),if_neg k7,if_pos k5,zE8 hget];simp only[Int.toNat_natCast])
  have hql:q<K.length:=by omega
  have hok:=HPO.out
  subst k5
  clear k1 k6 k7 kf hn hi
  have hml:=(List.getElem?_eq_some_iff.1 hget).1
  have hin:inB 5 2 5=true:=zB5 (n:=5) (a:=2) (b:=5) (by omega) (by omega)
  have HIN:=Zh hin
  have hmI:(m:Int)<(ps.length:Int):=by omega
  have hmI0:(0:Int)≤(m:Int):=by omega
  have hdm:decide ((m:Int)<0)=false:=by simp
  have hdm2:decide ((ps.length:Int)≤(m:Int))=false:=by simp;omega
  obtain ⟨gp,op,uk,ck,ea,k0,k1,k2,hKW,hrI⟩:=zBq HU.out hget
  subst ea
  simp only at k0 k1 k2 hKW hrI
  have k0:=zAA S0.below k0
  have k1:=zAA S0.below k1
  have k2:=zAA S0.below k2
  have HKW:=Zh hKW
  have HGET:=Zh hget
  have TP:=T0.alloc (.cells #[.bool t,.int .i64 r,.slice uk K.length ck] 62)
  have x0:(w0.alloc (.cells #[.bool t,.int .i64 r,.slice uk K.length ck] 62)).cell? ⟨w0.heap.size,0,none⟩=some (.bool t):=by go_simp
  have x1:(w0.alloc (.cells #[.bool t,.int .i64 r,.slice uk K.length ck] 62)).cell? ⟨w0.heap.size,1,none⟩=some (.int .i64 r):=by go_simp
  have x2:(w0.alloc (.cells #[.bool t,.int .i64 r,.slice uk K.length ck] 62)).cell? ⟨w0.heap.size,2,none⟩=some (.slice uk K.length ck):=by go_simp
  have xf0:(w0.alloc (.cells #[.bool t,.int .i64 r,.slice uk K.length ck] 62)).frozen? ⟨w0.heap.size,0,none⟩=false:=by go_simp
  have xf2:(w0.alloc (.cells #[.bool t,.int .i64 r,.slice uk K.length ck] 62)).frozen? ⟨w0.heap.size,2,none⟩=false:=by go_simp
  have hzp:w0.heap.size<(w0.alloc (.cells #[.bool t,.int .i64 r,.slice uk K.length ck] 62)).heap.size:=by simp
  clear hin hKW hget d2 e2 mb mb1
  go_upto_region 26 with (go_at_call 37;go_fit (zCS 5 2 5 w0);rintro e w1 ⟨rfl,rfl⟩;rw[HIN.out])
  clear k0 k1 k2 d0 d1 g0 g1 g2 g3 g4 g5 g6 e0 e1 f0 f1
  generalize w0.alloc (.cells #[.bool t,.int .i64 r,.slice uk K.length ck] 62)=wp at *
  obtain ⟨Bp,hBp⟩:∃Bp,Bp=w0.heap.size:=⟨_,rfl⟩
  rw[←hBp] at x0 x1 x2 xf0 xf2 hzp ⊢
  have hBp0:w0.heap.size≤Bp:=by omega
  have hBpW:W.heap.size≤Bp:=by have:=S0.2;omega
  have hBpB:¬Bp=B:=by omega
  have hBBp:¬B=Bp:=by omega
  have hB1p:¬B1=Bp:=by omega
  have hB2p:¬B2=Bp:=by omega
  clear hBp
  obtain ⟨⟨d0,d1,d2⟩,⟨g0,g1,g2,g3,g4,g5,g6⟩,e0,e1,e2,mb,mb1⟩:=HF.out wp TP
  have hqI:(q:Int)<(K.length:Int):=by omega
  have hqI0:(0:Int)≤(q:Int):=by omega
  have hdi:decide ((q:Int)<0)=false:=by simp
  have hdl:decide ((K.length:Int)≤(q:Int))=false:=by simp;omega
  have hK20:K.length≤1000000:=by have h1:=hok.few;have h2:=hok.room;simp only at h1 h2;omega
  have hyq:=List.getElem?_eq_getElem hql
  obtain ⟨z,hz0,hz1,hz2⟩:=zFN hok (List.getElem_mem hql)
  generalize hyy:K[q]=y at *
  obtain ⟨zz,hzz⟩:∃zz,zz=(z+1) % 31:=⟨_,rfl⟩
  have hyl:0<y.2.2.length:=by
   apply List.length_pos_iff.2
   intro e
   rw[e] at hz0
   cases hz0
  have HBN:Hid (zEe q K=K.set q (y.1,y.2.1,y.2.2.set 0 zz)):=Zh (by
   rw[zKp hyq]
   unfold zFn zJZ
   rw[List.getD_eq_getElem?_getD,hz0,hzz]
   rfl)
  have iz:I64 zz:=⟨by omega,by omega⟩
  have s1:IntKind.i64.wrap (z+1)=z+1:=IntWalk.i64_in _ (by omega)
  have s3:(z+1).tmod 31=zz:=by rw[hzz];exact IntWalk.rem_in _ _ (by omega)
  have hgz:y.2.2.getD 0 0=z:=by rw[List.getD_eq_getElem?_getD,hz0];rfl
  have hSP:=S0.step TP.below
  have hBpq:Bp<wp.heap.size:=hzp
  have hBwp:B<wp.heap.size:=zAH d0
  have HCK:=Zh (zEX (.slice uk K.length ck) K W wp (zAF.old hSP.below _) HKW.out hK20)
  have HYQ:=Zh hyq
  have HZZ:=Zh hzz
  clear hzz hyy hz0 hyq hok
  go_upto_region 38 with (go_at_call 38;go_fit HCK.out;rintro e w2 ⟨⟨v5,rfl,ho5⟩,hb5⟩;obtain ⟨a5,c5,rfl,_⟩:=ho5.isRow.opened;have xf2:=zAE hb5 x2 xf2;have x2:=zAA hb5 x2)
  obtain ⟨gk,rfl,hgk1,hgk2⟩:=zPA ho5 HYQ.out
  have hkB:¬gk=Bp:=by omega
  have hBpk:¬Bp=gk:=by omega
  have hd5:=zAn w2 Bp 2 (.slice (some ⟨gk,0,none⟩) K.length c5)
  have ho6:=ho5.kept (zAC w2 ⟨Bp,2,none⟩ (.slice (some ⟨gk,0,none⟩) K.length c5)) (fun j h=>by cases h;exact hBpW) (Or.inr (fun e=>hkB (Option.some.inj e)))
  have T6:=(TP.step hb5).setCell (a:=⟨Bp,2,none⟩) hBp0 (.slice (some ⟨gk,0,none⟩) K.length c5)
  obtain ⟨r6,g6',hg6',_,_,hcell6,hf6⟩:=ho6.get HYQ.out
  obtain rfl:g6'=gk:=Option.some.inj (hg6'.symm.trans rfl)
  obtain ⟨v6,rfl,hv6,hI1,hI2⟩:=hf6.now
  obtain ⟨a6,c6,rfl,_⟩:=hv6.opened
  have s2:(w2.setCell ⟨Bp,2,none⟩ (.slice (some ⟨g6',0,none⟩) K.length c5)).cell? ⟨g6',q*3+2,none⟩=some (.slice a6 y.2.2.length c6):=hcell6 2 _ rfl
  have s2f:(w2.setCell ⟨Bp,2,none⟩ (.slice (some ⟨g6',0,none⟩) K.length c5)).frozen? ⟨g6',q*3+2,none⟩=false:=ho6.free rfl _
  have t0:(w2.setCell ⟨Bp,2,none⟩ (.slice (some ⟨g6',0,none⟩) K.length c5)).cell? ⟨Bp,0,none⟩=some (.bool t):=by have:=zAA hb5 x0;go_simp
  have t1:(w2.setCell ⟨Bp,2,none⟩ (.slice (some ⟨g6',0,none⟩) K.length c5)).cell? ⟨Bp,1,none⟩=some (.int .i64 r):=by have:=zAA hb5 x1;go_simp
  have t2:(w2.setCell ⟨Bp,2,none⟩ (.slice (some ⟨g6',0,none⟩) K.length c5)).cell? ⟨Bp,2,none⟩=some (.slice (some ⟨g6',0,none⟩) K.length c5):=by go_simp
  have HO6:=Zh ho6
  have HI:=Zh (And.intro hI1 hI2)
  have HV6:=Zh hv6
  clear x0 x1 x2 xf0 xf2 TP d0 d1 d2 g0 g1 g2 g3 g4 g5 g6 e0 e1 e2 mb mb1 ho5 hb5 hd5 ho6 hcell6 hf6 hv6 hI1 hI2 hg6'
  generalize (w2.setCell ⟨Bp,2,none⟩ (.slice (some ⟨g6',0,none⟩) K.length c5))=w4 at *
  obtain ⟨_,⟨_,g1,g2,_⟩,_,_,_,_,_⟩:=HF.out w4 T6
  go_upto_region 39 with (go_at_call 39;go_fit (zD0 _ y.2.2 w4 HV6.out);rintro e w5 ⟨⟨v7,rfl,ho7⟩,hb7⟩;obtain ⟨gv,cv,rfl,hgv1,hgv2,_,_⟩:=ho7.shape hyl)
  have h0c:=ho7.cell 0 hyl
  rw[hgz] at h0c
  have h0f:=ho7.free 0
  have hgkl:g6'<w4.heap.size:=zAH s2
  have hBpl:Bp<w4.heap.size:=zAH t0
  have hvk:¬gv=g6':=by omega
  have hkv:¬g6'=gv:=by omega
  have hvp:¬gv=Bp:=by omega
  have hpv:¬Bp=gv:=by omega
  have hb2v:¬B2=gv:=by have:B2<w4.heap.size:=zAH g1;omega
  have HO8:=Zh (ho7.stored 0 zz iz)
  have hylI:(0:Int)<(y.2.2.length:Int):=by omega
  clear ho7 g1 g2
  go_upto_region 40 with fail
  clear h0c h0f
  have hd6:=zAn w5 gv 0 (.int .i64 zz)
  have s2:=hd6.cell (zAA hb7 s2) hkv
  have s2f:(w5.setCell ⟨gv,0,none⟩ (.int .i64 zz)).frozen? ⟨g6',q*3+2,none⟩=false:=by rw[World.frozen?_setCell];exact (hb7.frozen (p:=⟨g6',q*3+2,none⟩) hgkl).trans s2f
  have t0:=hd6.cell (zAA hb7 t0) hpv
  have t1:=hd6.cell (zAA hb7 t1) hpv
  have t2:=hd6.cell (zAA hb7 t2) hpv
  have hgvW:W.heap.size≤gv:=by have:=S0.2;have:=T6.2;omega
  have hgk0:w0.heap.size≤g6':=by omega
  have hgv0:w0.heap.size≤gv:=by have:=T6.2;omega
  have T7:=(T6.step hb7).setCell (a:=⟨gv,0,none⟩) hgv0 (.int .i64 zz)
  have HO9:=Zh (((HO6.out.stays hb7).kept (zAC w5 ⟨gv,0,none⟩ (.int .i64 zz)) (fun j h=>by cases h;exact hgvW) (Or.inr (fun e=>hkv (Option.some.inj e)))).weaken (E':=fun j=>j=B) (fun j _ e=>Or.inl (by rw[e];exact hBW)))
  clear hd6 hb7 HO6
  generalize (w5.setCell ⟨gv,0,none⟩ (.int .i64 zz))=w6 at *
  obtain ⟨_,⟨_,g1,g2,_⟩,_,_,_,_,_⟩:=HF.out w6 T7
  have s4:w6.cell? ⟨g6',q*3+1+1,none⟩=some (.slice a6 y.2.2.length c6):=s2
  have s4f:w6.frozen? ⟨g6',q*3+1+1,none⟩=false:=s2f
  go_upto_region 41 with fail
  clear s2 s2f s4 s4f g1 g2
  have hvB:¬gv=B:=by have:B<w4.heap.size:=zAH (HF.out w4 T6).1.1;omega
  have hvl:=HO8.out.lies
  obtain ⟨r9,g9',hg9',hr9,_,hcell9,hf9⟩:=HO9.out.get HYQ.out
  obtain rfl:g9'=g6':=Option.some.inj (hg9'.symm.trans rfl)
  obtain ⟨v9,rfl,_⟩:=hf9.now
  have ho10:=HO9.out.set (j:=2) (c:=.slice (some ⟨gv,0,none⟩) y.2.2.length cv) (x':=(y.1,y.2.1,y.2.2.set 0 zz)) HYQ.out rfl rfl hcell9 (by omega) rfl (fun w' hw'=>⟨_,rfl,HO8.out.isInts.framed (fun j hj _ h=>by
   have h2:=(hvl j hj).1
   rcases h with h|h
   ·have h3:g9'=j:=Option.some.inj h
    omega
   ·have:B<w4.heap.size:=zAH (HF.out w4 T6).1.1;omega) hw',HI.out.1,HI.out.2⟩)
  have T8:=T7.setCell (a:=⟨g9',q*3+1+1,none⟩) hgk0 (.slice (some ⟨gv,0,none⟩) y.2.2.length cv)
  have hd8:=zAn w6 g9' (q*3+1+1) (.slice (some ⟨gv,0,none⟩) y.2.2.length cv)
  have y0:=hd8.cell t0 hBpk
  have y1:=hd8.cell t1 hBpk
  have y2:=hd8.cell t2 hBpk
  have HO10:=Zh (show zAK 3 zAf (fun j=>j=B) (w6.setCell ⟨g9',q*3+1+1,none⟩ (.slice (some ⟨gv,0,none⟩) y.2.2.length cv)) 66 wp.heap.size (.slice (some ⟨g9',0,none⟩) K.length c5) (K.set q (y.1,y.2.1,y.2.2.set 0 zz)) from ho10)
  have hBk:¬g9'=B:=by omega
  have Tq:=Zh T8
  clear ho10 hcell9 hf9 hg9' hr9 hd8 t0 t1 t2
  generalize (w6.setCell ⟨g9',q*3+1+1,none⟩ (.slice (some ⟨gv,0,none⟩) y.2.2.length cv))=wq at *
  have Tq:=Tq.out
  have HEL:Hid (∀w',zAF (fun j=>j=B∨wq.heap.size≤j) wq w'→RPF W w' [.bool t,.int .i64 r,.slice (some ⟨g9',0,none⟩) K.length c5] ((t,r,zEe q K),false)):=Zh (fun w' hw'=>⟨_,rfl,hrI,by simp only[Bool.false_eq_true,if_false];rw[HBN.out];exact (HO10.out.later (hw'.mono fun j hj h=>h.elim id (fun h=>by omega)) (fun j h e=>hBk ((Option.some.inj h).trans e))).isRow⟩)
  have SQ:=S0.step Tq.below
  obtain ⟨⟨d0,d1,d2⟩,⟨_,g1,_⟩,e0,e1,e2,mb,mb1⟩:=HF.out wq Tq
  have hBq:B<wq.heap.size:=zAH d0
  have hB1q:B1<wq.heap.size:=zAH e0
  have hB2q:B2<wq.heap.size:=zAH g1
  have hBpq:Bp<wq.heap.size:=zAH y0
  have d21:=d2 1
  have HCL:=Zh (zBT RPF.stays RPF.one (.slice (some ⟨gp,op,none⟩) ps.length c') (ps.map fun p=>(p,true)) W wq (zAF.old SQ.below _) (zIz HU.out) (by simp;omega))
  clear d2
  go_upto_region 42 with (go_at_call 35;go_fit HCL.out;rintro e w3 ⟨⟨v2,rfl,ho3⟩,hb3⟩;obtain ⟨a2,c2,rfl,hc2,⟨hm2,hk2,_⟩,_⟩:=ho3.isRow.opened;have d21:=zAE hb3 d1 d21;have d0:=zAA hb3 d0;have d1:=zAA hb3 d1)
  rw[show (ps.map fun p=>(p,true)).length=ps.length by simp] at ho3 hc2 hm2
  have hmq:(ps.map fun p=>(p,true))[m]?=some ((t,r,K),true):=by rw[List.getElem?_map,HGET.out];rfl
  obtain ⟨rr,g,hg,_,_,_,_⟩:=ho3.get hmq
  have hgl:=ho3.lt g hg
  obtain rfl:a2=some ⟨g,0,none⟩:=by
   rcases ho3.shape with ⟨_,e⟩|⟨g',cap,cur,e,_⟩
   ·rw[e] at hmq;simp at hmq
   ·simp only[Value.slice.injEq] at e
    obtain ⟨e1,_⟩:=e
    subst e1
    simp only[Value.ownBlock,Option.some.injEq] at hg
    rw[hg]
  have hBg:¬B=g:=fun e=>by have:=hgl.1;omega
  have hB1g:¬B1=g:=fun e=>by have:=hgl.1;omega
  have hB2g:¬B2=g:=fun e=>by have:=hgl.1;omega
  have hBpg:¬Bp=g:=fun e=>by have:=hgl.1;omega
  have hgW:W.heap.size≤g:=Nat.le_trans SQ.2 hgl.1
  have ho4:=(ho3.kept (zAC w3 ⟨B,1,none⟩ (.slice (some ⟨g,0,none⟩) ps.length c2)) (fun j h=>by cases h;exact hBW) (Or.inr (fun e=>hBg (Option.some.inj e).symm))).weaken (E':=fun j=>j=B) (fun j _ e=>Or.inl (by rw[e];exact hBW))
  have hd4:=zAn w3 B 1 (.slice (some ⟨g,0,none⟩) ps.length c2)
  have S4:=(SQ.step hb3).setCell (a:=⟨B,1,none⟩) hBW (.slice (some ⟨g,0,none⟩) ps.length c2)
  have mb4:=(mb1.stays hb3 hB1q).off hd4 (Nat.lt_of_lt_of_le hB1q hb3.size) (fun e=>hBB e)
  have hEL:∀w',zAF (fun j=>j=B∨j=g) (w3.setCell ⟨B,1,none⟩ (.slice (some ⟨g,0,none⟩) ps.length c2)) w'→RPF W w' [.bool t,.int .i64 r,.slice (some ⟨g9',0,none⟩) K.length c5] ((t,r,zEe q K),false):=fun w' hw'=>HEL.out w' (((zAF.old hb3 _).trans (hd4.mono fun j _ h=>Or.inl h)).trans (hw'.mono fun j _ h=>h.elim Or.inl (fun h=>Or.inr (by rw[h];exact hgl.1))))
  have HEL4:=Zh hEL
  have c0:(w3.setCell ⟨B,1,none⟩ (.slice (some ⟨g,0,none⟩) ps.length c2)).cell? ⟨B,0,none⟩=some (.slice a b.length c):=by go_simp
  have c1:(w3.setCell ⟨B,1,none⟩ (.slice (some ⟨g,0,none⟩) ps.length c2)).cell? ⟨B,1,none⟩=some (.slice (some ⟨g,0,none⟩) ps.length c2):=by go_simp
  have g1:=hd4.cell (zAA hb3 g1) hB2B
  have y0:=hd4.cell (zAA hb3 y0) hBpB
  have y1:=hd4.cell (zAA hb3 y1) hBpB
  have y2:=hd4.cell (zAA hb3 y2) hBpB
  have i0:=hd4.cell (zAA hb3 e0) hBB
  have i1:=hd4.cell (zAA hb3 e1) hBB
  have i2:∀j,(w3.setCell ⟨B,1,none⟩ (.slice (some ⟨g,0,none⟩) ps.length c2)).frozen? ⟨B1,j,none⟩=false:=fun j=>by rw[World.frozen?_setCell];exact (hb3.frozen (p:=⟨B1,j,none⟩) hB1q).trans (e2 j)
  obtain ⟨_,g9,hg9,_,_,hcell,hf4⟩:=ho4.get hmq
  obtain rfl:g9=g:=Option.some.inj (hg9.symm.trans rfl)
  obtain ⟨_,rfl,_⟩:=hf4.now
  have l0:(w3.setCell ⟨B,1,none⟩ (.slice (some ⟨g9,0,none⟩) ps.length c2)).cell? ⟨g9,m*3,none⟩=some (.bool t):=hcell 0 _ rfl
  have l1:(w3.setCell ⟨B,1,none⟩ (.slice (some ⟨g9,0,none⟩) ps.length c2)).cell? ⟨g9,m*3+1,none⟩=some (.int .i64 r):=hcell 1 _ rfl
  have l2:=hcell 2 _ rfl
  have l3:∀j,(w3.setCell ⟨B,1,none⟩ (.slice (some ⟨g9,0,none⟩) ps.length c2)).frozen? ⟨g9,j,none⟩=false:=fun j=>ho4.free rfl j
  have HX:=Zh (And.intro ho4 (And.intro hd4 (And.intro S4 (And.intro mb4 hmq))))
  clear hEL ho3 hc2 hm2 ho4 hd4 S4 mb4 hmq hcell hf4 d0 d1 d21 e0 e1 e2 mb mb1 hg9 hg hb3
  generalize (w3.setCell ⟨B,1,none⟩ (.slice (some ⟨g9,0,none⟩) ps.length c2))=w4 at *
  have n0:=zAE (Below.refl w4.heap.size w4) l0 (l3 _)
  have n1:=zAE (Below.refl w4.heap.size w4) l1 (l3 _)
  have n2:=zAE (Below.refl w4.heap.size w4) l2 (l3 _)
  go_upto_region 43 with fail
  clear l0 l1 l2 n0 n1 n2 g1
  have hDg:zAF (fun j=>j=g9) w4 (((w4.setCell ⟨g9,m*3,none⟩ (.bool t)).setCell ⟨g9,m*3+1,none⟩ (.int .i64 r)).setCell ⟨g9,m*3+1+1,none⟩ (.slice (some ⟨g9',0,none⟩) K.length c5)):=(zAF.of_grown (zAQ g9 [.bool t,.int .i64 r,.slice (some ⟨g9',0,none⟩) K.length c5] (m*3) w4)).mono (fun j _ hj=>by cases hj;rfl)
  have S6:=((HX.out.2.2.1.setCell (a:=⟨g9,m*3,none⟩) hgW (.bool t)).setCell (a:=⟨g9,m*3+1,none⟩) hgW (.int .i64 r)).setCell (a:=⟨g9,m*3+1+1,none⟩) hgW (.slice (some ⟨g9',0,none⟩) K.length c5)
  have ho8:zAK 3 (RPF W) (fun j=>j=B) (((w4.setCell ⟨g9,m*3,none⟩ (.bool t)).setCell ⟨g9,m*3+1,none⟩ (.int .i64 r)).setCell ⟨g9,m*3+1+1,none⟩ (.slice (some ⟨g9',0,none⟩) K.length c5)) 62 wq.heap.size (.slice (some ⟨g9,0,none⟩) ps.length c2) ((ps.map fun p=>(p,true)).set m ((t,r,zEe q K),false)):=
   HX.out.1.setElem (r:=[.bool t,.int .i64 r,.slice (some ⟨g9',0,none⟩) K.length c5]) (by simpa using hml) rfl (by intro z hz;simp at hz;rcases hz with rfl | rfl | rfl<;>rfl) (fun w' hw'=>HEL4.out w' (hw'.mono fun j _ h=>h.elim (fun e=>Or.inr (Option.some.inj e).symm) Or.inl))
  have hP8:=zEE ho8.isRow S6.below
  rw[List.map_set,show (ps.map fun p=>(p,true)).map (·.1)=ps by simp[Function.comp_def]] at hP8
  have HP8:=Zh (show zAT (((w4.setCell ⟨g9,m*3,none⟩ (.bool t)).setCell ⟨g9,m*3+1,none⟩ (.int .i64 r)).setCell ⟨g9,m*3+1+1,none⟩ (.slice (some ⟨g9',0,none⟩) K.length c5)) (.slice (some ⟨g9,0,none⟩) ps.length c2) (ps.set m (t,r,zEe q K)) from hP8)
  have HV8:=Zh (show zAR (((w4.setCell ⟨g9,m*3,none⟩ (.bool t)).setCell ⟨g9,m*3+1,none⟩ (.int .i64 r)).setCell ⟨g9,m*3+1+1,none⟩ (.slice (some ⟨g9',0,none⟩) K.length c5)) (.slice a b.length c) b from HB.out.stays zAz.stays S6.below)
  have hB1w:B1<w4.heap.size:=zAH i0
  have c0:=hDg.cell c0 hBg
  have c1:=hDg.cell c1 hBg
  have i0:=hDg.cell i0 hB1g
  have i1:=hDg.cell i1 hB1g
  have i2:∀j,(((w4.setCell ⟨g9,m*3,none⟩ (.bool t)).setCell ⟨g9,m*3+1,none⟩ (.int .i64 r)).setCell ⟨g9,m*3+1+1,none⟩ (.slice (some ⟨g9',0,none⟩) K.length c5)).frozen? ⟨B1,j,none⟩=false:=fun j=>by rw[World.frozen?_setCell,World.frozen?_setCell,World.frozen?_setCell];exact i2 j
  have HMB:=Zh (HX.out.2.2.2.1.off hDg hB1w (fun e=>hB1g e))
  clear hDg ho8 hP8
  have HS6:=Zh S6
  clear S6
  generalize (((w4.setCell ⟨g9,m*3,none⟩ (.bool t)).setCell ⟨g9,m*3+1,none⟩ (.int .i64 r)).setCell ⟨g9,m*3+1+1,none⟩ (.slice (some ⟨g9',0,none⟩) K.length c5))=wf at *
  have j0:=i2 0
  have j1:=i2 1
  have v0:((wf.setCell ⟨B1,0,none⟩ (.slice a b.length c)).setCell ⟨B1,1,none⟩ (.slice (some ⟨g9,0,none⟩) ps.length c2)).cell? ⟨B1,0,none⟩=some (.slice a b.length c):=by go_simp
  have v1:((wf.setCell ⟨B1,0,none⟩ (.slice a b.length c)).setCell ⟨B1,1,none⟩ (.slice (some ⟨g9,0,none⟩) ps.length c2)).cell? ⟨B1,1,none⟩=some (.slice (some ⟨g9,0,none⟩) ps.length c2):=by go_simp
  go_wp2_with fail
  have hd9:=(zAn wf B1 0 (.slice a b.length c)).trans (zAn _ B1 1 (.slice (some ⟨g9,0,none⟩) ps.length c2))
  have S9:=(HS6.out.setCell (a:=⟨B1,0,none⟩) hBW1 (.slice a b.length c)).setCell (a:=⟨B1,1,none⟩) hBW1 (.slice (some ⟨g9,0,none⟩) ps.length c2)
  exact bodyPost_ret (v:=.tuple #[.agg #[.slice a b.length c,.slice (some ⟨g9,0,none⟩) ps.length c2],.int .i64 0]) (by simp[results,Tryz.results10,go_sem,v0,v1]) rfl ⟨⟨_,_,rfl,HV8.out.offBox HMB.out hd9,HP8.out.offBox HMB.out hd9⟩,S9.below⟩
 by_cases k4:k=4
 ·obtain rfl:E=0:=HE.out.trans (by unfold doE;rw[if_neg HM.out,if_neg k1,if_neg k6,if_neg k7,if_neg kf,if_neg hn,if_neg k5,if_pos k4])
  obtain rfl:C=(b,ps.set m (t,r,[])):=HC.out.trans (by unfold doC;rw[if_neg HM.out,if_neg k1,if_neg k6,if_neg (by rw[←HE.out];decide),if_neg k7,if_neg k5,if_pos k4,zE8 hget])
  subst k4
  clear k1 k6 k7 kf hn k5
  have hml:=(List.getElem?_eq_some_iff.1 hget).1
  have hin:inB 4 2 5=true:=zB5 (n:=4) (a:=2) (b:=5) (by omega) (by omega)
  have HIN:=Zh hin
  have hmI:(m:Int)<(ps.length:Int):=by omega
  have hmI0:(0:Int)≤(m:Int):=by omega
  have hdm:decide ((m:Int)<0)=false:=by simp
  have hdm2:decide ((ps.length:Int)≤(m:Int))=false:=by simp;omega
  obtain ⟨gp,op,uk,ck,ea,k0,k1,k2,hKW,hrI⟩:=zBq HU.out hget
  subst ea
  simp only at k0 k1 k2 hKW hrI
  have k0:=zAA S0.below k0
  have k1:=zAA S0.below k1
  have k2:=zAA S0.below k2
  have HKW:=Zh hKW
  have HGET:=Zh hget
  have TP:=T0.alloc (.cells #[.bool t,.int .i64 r,.slice uk K.length ck] 62)
  have x0:(w0.alloc (.cells #[.bool t,.int .i64 r,.slice uk K.length ck] 62)).cell? ⟨w0.heap.size,0,none⟩=some (.bool t):=by go_simp
  have x1:(w0.alloc (.cells #[.bool t,.int .i64 r,.slice uk K.length ck] 62)).cell? ⟨w0.heap.size,1,none⟩=some (.int .i64 r):=by go_simp
  have x2:(w0.alloc (.cells #[.bool t,.int .i64 r,.slice uk K.length ck] 62)).cell? ⟨w0.heap.size,2,none⟩=some (.slice uk K.length ck):=by go_simp
  have xf0:(w0.alloc (.cells #[.bool t,.int .i64 r,.slice uk K.length ck] 62)).frozen? ⟨w0.heap.size,0,none⟩=false:=by go_simp
  have xf2:(w0.alloc (.cells #[.bool t,.int .i64 r,.slice uk K.length ck] 62)).frozen? ⟨w0.heap.size,2,none⟩=false:=by go_simp
  have hzp:w0.heap.size<(w0.alloc (.cells #[.bool t,.int .i64 r,.slice uk K.length ck] 62)).heap.size:=by simp
  clear hin hKW hget d2 e2 mb mb1
  go_upto_region 26 with (go_at_call 37;go_fit (zCS 4 2 5 w0);rintro e w1 ⟨rfl,rfl⟩;rw[HIN.out])
  clear k0 k1 k2 d0 d1 g0 g1 g2 g3 g4 g5 g6 e0 e1 f0 f1
  generalize w0.alloc (.cells #[.bool t,.int .i64 r,.slice uk K.length ck] 62)=wp at *
  obtain ⟨Bp,hBp⟩:∃Bp,Bp=w0.heap.size:=⟨_,rfl⟩
  rw[←hBp] at x0 x1 x2 xf0 xf2 hzp ⊢
  have hBp0:w0.heap.size≤Bp:=by omega
  have hBpW:W.heap.size≤Bp:=by have:=S0.2;omega
  have hBpB:¬Bp=B:=by omega
  have hBBp:¬B=Bp:=by omega
  have hB1p:¬B1=Bp:=by omega
  have hB2p:¬B2=Bp:=by omega
  clear hBp
  obtain ⟨⟨d0,d1,d2⟩,⟨g0,g1,g2,g3,g4,g5,g6⟩,e0,e1,e2,mb,mb1⟩:=HF.out wp TP
  have Tq:=TP.setCell (a:=⟨Bp,2,none⟩) hBp0 (.slice none 0 0)
  have y0:(wp.setCell ⟨Bp,2,none⟩ (.slice none 0 0)).cell? ⟨Bp,0,none⟩=some (.bool t):=by go_simp
  have y1:(wp.setCell ⟨Bp,2,none⟩ (.slice none 0 0)).cell? ⟨Bp,1,none⟩=some (.int .i64 r):=by go_simp
  have y2:(wp.setCell ⟨Bp,2,none⟩ (.slice none 0 0)).cell? ⟨Bp,2,none⟩=some (.slice none 0 0):=by go_simp
  go_upto_region 41 with fail
  clear x0 x1 x2 xf0 xf2 TP d0 d1 d2 g0 g1 g2 g3 g4 g5 g6 e0 e1 e2 mb mb1
  generalize wp.setCell ⟨Bp,2,none⟩ (.slice none 0 0)=wq at *
  have HEL:Hid (∀w',zAF (fun j=>j=B∨wq.heap.size≤j) wq w'→RPF W w' [.bool t,.int .i64 r,.slice none 0 0] ((t,r,[]),false)):=Zh (fun w' hw'=>⟨_,rfl,hrI,by simp only[Bool.false_eq_true,if_false];exact zAZ.nil _⟩)
  have SQ:=S0.step Tq.below
  obtain ⟨⟨d0,d1,d2⟩,⟨_,g1,_⟩,e0,e1,e2,mb,mb1⟩:=HF.out wq Tq
  have hBq:B<wq.heap.size:=zAH d0
  have hB1q:B1<wq.heap.size:=zAH e0
  have hB2q:B2<wq.heap.size:=zAH g1
  have hBpq:Bp<wq.heap.size:=zAH y0
  have d21:=d2 1
  have HCL:=Zh (zBT RPF.stays RPF.one (.slice (some ⟨gp,op,none⟩) ps.length c') (ps.map fun p=>(p,true)) W wq (zAF.old SQ.below _) (zIz HU.out) (by simp;omega))
  clear d2
  go_upto_region 42 with (go_at_call 35;go_fit HCL.out;rintro e w3 ⟨⟨v2,rfl,ho3⟩,hb3⟩;obtain ⟨a2,c2,rfl,hc2,⟨hm2,hk2,_⟩,_⟩:=ho3.isRow.opened;have d21:=zAE hb3 d1 d21;have d0:=zAA hb3 d0;have d1:=zAA hb3 d1)
  rw[show (ps.map fun p=>(p,true)).length=ps.length by simp] at ho3 hc2 hm2
  have hmq:(ps.map fun p=>(p,true))[m]?=some ((t,r,K),true):=by rw[List.getElem?_map,HGET.out];rfl
  obtain ⟨rr,g,hg,_,_,_,_⟩:=ho3.get hmq
  have hgl:=ho3.lt g hg
  obtain rfl:a2=some ⟨g,0,none⟩:=by
   rcases ho3.shape with ⟨_,e⟩|⟨g',cap,cur,e,_⟩
   ·rw[e] at hmq;simp at hmq
   ·simp only[Value.slice.injEq] at e
    obtain ⟨e1,_⟩:=e
    subst e1
    simp only[Value.ownBlock,Option.some.injEq] at hg
    rw[hg]
  have hBg:¬B=g:=fun e=>by have:=hgl.1;omega
  have hB1g:¬B1=g:=fun e=>by have:=hgl.1;omega
  have hB2g:¬B2=g:=fun e=>by have:=hgl.1;omega
  have hBpg:¬Bp=g:=fun e=>by have:=hgl.1;omega
  have hgW:W.heap.size≤g:=Nat.le_trans SQ.2 hgl.1
  have ho4:=(ho3.kept (zAC w3 ⟨B,1,none⟩ (.slice (some ⟨g,0,none⟩) ps.length c2)) (fun j h=>by cases h;exact hBW) (Or.inr (fun e=>hBg (Option.some.inj e).symm))).weaken (E':=fun j=>j=B) (fun j _ e=>Or.inl (by rw[e];exact hBW))
  have hd4:=zAn w3 B 1 (.slice (some ⟨g,0,none⟩) ps.length c2)
  have S4:=(SQ.step hb3).setCell (a:=⟨B,1,none⟩) hBW (.slice (some ⟨g,0,none⟩) ps.length c2)
  have mb4:=(mb1.stays hb3 hB1q).off hd4 (Nat.lt_of_lt_of_le hB1q hb3.size) (fun e=>hBB e)
  have hEL:∀w',zAF (fun j=>j=B∨j=g) (w3.setCell ⟨B,1,none⟩ (.slice (some ⟨g,0,none⟩) ps.length c2)) w'→RPF W w' [.bool t,.int .i64 r,.slice none 0 0] ((t,r,[]),false):=fun w' hw'=>HEL.out w' (((zAF.old hb3 _).trans (hd4.mono fun j _ h=>Or.inl h)).trans (hw'.mono fun j _ h=>h.elim Or.inl (fun h=>Or.inr (by rw[h];exact hgl.1))))
  have HEL4:=Zh hEL
  have c0:(w3.setCell ⟨B,1,none⟩ (.slice (some ⟨g,0,none⟩) ps.length c2)).cell? ⟨B,0,none⟩=some (.slice a b.length c):=by go_simp
  have c1:(w3.setCell ⟨B,1,none⟩ (.slice (some ⟨g,0,none⟩) ps.length c2)).cell? ⟨B,1,none⟩=some (.slice (some ⟨g,0,none⟩) ps.length c2):=by go_simp
  have g1:=hd4.cell (zAA hb3 g1) hB2B
  have y0:=hd4.cell (zAA hb3 y0) hBpB
  have y1:=hd4.cell (zAA hb3 y1) hBpB
  have y2:=hd4.cell (zAA hb3 y2) hBpB
  have i0:=hd4.cell (zAA hb3 e0) hBB
  have i1:=hd4.cell (zAA hb3 e1) hBB
  have i2:∀j,(w3.setCell ⟨B,1,none⟩ (.slice (some ⟨g,0,none⟩) ps.length c2)).frozen? ⟨B1,j,none⟩=false:=fun j=>by rw[World.frozen?_setCell];exact (hb3.frozen (p:=⟨B1,j,none⟩) hB1q).trans (e2 j)
  obtain ⟨_,g9,hg9,_,_,hcell,hf4⟩:=ho4.get hmq
  obtain rfl:g9=g:=Option.some.inj (hg9.symm.trans rfl)
  obtain ⟨_,rfl,_⟩:=hf4.now
  have l0:(w3.setCell ⟨B,1,none⟩ (.slice (some ⟨g9,0,none⟩) ps.length c2)).cell? ⟨g9,m*3,none⟩=some (.bool t):=hcell 0 _ rfl
  have l1:(w3.setCell ⟨B,1,none⟩ (.slice (some ⟨g9,0,none⟩) ps.length c2)).cell? ⟨g9,m*3+1,none⟩=some (.int .i64 r):=hcell 1 _ rfl
  have l2:=hcell 2 _ rfl
  have l3:∀j,(w3.setCell ⟨B,1,none⟩ (.slice (some ⟨g9,0,none⟩) ps.length c2)).frozen? ⟨g9,j,none⟩=false:=fun j=>ho4.free rfl j
  have HX:=Zh (And.intro ho4 (And.intro hd4 (And.intro S4 (And.intro mb4 hmq))))
  clear hEL ho3 hc2 hm2 ho4 hd4 S4 mb4 hmq hcell hf4 d0 d1 d21 e0 e1 e2 mb mb1 hg9 hg hb3
  generalize (w3.setCell ⟨B,1,none⟩ (.slice (some ⟨g9,0,none⟩) ps.length c2))=w4 at *
  have n0:=zAE (Below.refl w4.heap.size w4) l0 (l3 _)
  have n1:=zAE (Below.refl w4.heap.size w4) l1 (l3 _)
  have n2:=zAE (Below.refl w4.heap.size w4) l2 (l3 _)
  go_upto_region 43 with fail
  clear l0 l1 l2 n0 n1 n2 g1
  have hDg:zAF (fun j=>j=g9) w4 (((w4.setCell ⟨g9,m*3,none⟩ (.bool t)).setCell ⟨g9,m*3+1,none⟩ (.int .i64 r)).setCell ⟨g9,m*3+1+1,none⟩ (.slice none 0 0)):=(zAF.of_grown (zAQ g9 [.bool t,.int .i64 r,.slice none 0 0] (m*3) w4)).mono (fun j _ hj=>by cases hj;rfl)
  have S6:=((HX.out.2.2.1.setCell (a:=⟨g9,m*3,none⟩) hgW (.bool t)).setCell (a:=⟨g9,m*3+1,none⟩) hgW (.int .i64 r)).setCell (a:=⟨g9,m*3+1+1,none⟩) hgW (.slice none 0 0)
  have ho8:zAK 3 (RPF W) (fun j=>j=B) (((w4.setCell ⟨g9,m*3,none⟩ (.bool t)).setCell ⟨g9,m*3+1,none⟩ (.int .i64 r)).setCell ⟨g9,m*3+1+1,none⟩ (.slice none 0 0)) 62 wq.heap.size (.slice (some ⟨g9,0,none⟩) ps.length c2) ((ps.map fun p=>(p,true)).set m ((t,r,[]),false)):=
   HX.out.1.setElem (r:=[.bool t,.int .i64 r,.slice none 0 0]) (by simpa using hml) rfl (by intro z hz;simp at hz;rcases hz with rfl | rfl | rfl<;>rfl) (fun w' hw'=>HEL4.out w' (hw'.mono fun j _ h=>h.elim (fun e=>Or.inr (Option.some.inj e).symm) Or.inl))
  have hP8:=zEE ho8.isRow S6.below
  rw[List.map_set,show (ps.map fun p=>(p,true)).map (·.1)=ps by simp[Function.comp_def]] at hP8
  have HP8:=Zh (show zAT (((w4.setCell ⟨g9,m*3,none⟩ (.bool t)).setCell ⟨g9,m*3+1,none⟩ (.int .i64 r)).setCell ⟨g9,m*3+1+1,none⟩ (.slice none 0 0)) (.slice (some ⟨g9,0,none⟩) ps.length c2) (ps.set m (t,r,[])) from hP8)
  have HV8:=Zh (show zAR (((w4.setCell ⟨g9,m*3,none⟩ (.bool t)).setCell ⟨g9,m*3+1,none⟩ (.int .i64 r)).setCell ⟨g9,m*3+1+1,none⟩ (.slice none 0 0)) (.slice a b.length c) b from HB.out.stays zAz.stays S6.below)
  have hB1w:B1<w4.heap.size:=zAH i0
  have c0:=hDg.cell c0 hBg
  have c1:=hDg.cell c1 hBg
  have i0:=hDg.cell i0 hB1g
  have i1:=hDg.cell i1 hB1g
  have i2:∀j,(((w4.setCell ⟨g9,m*3,none⟩ (.bool t)).setCell ⟨g9,m*3+1,none⟩ (.int .i64 r)).setCell ⟨g9,m*3+1+1,none⟩ (.slice none 0 0)).frozen? ⟨B1,j,none⟩=false:=fun j=>by rw[World.frozen?_setCell,World.frozen?_setCell,World.frozen?_setCell];exact i2 j
  have HMB:=Zh (HX.out.2.2.2.1.off hDg hB1w (fun e=>hB1g e))
  clear hDg ho8 hP8
  have HS6:=Zh S6
  clear S6
  generalize (((w4.setCell ⟨g9,m*3,none⟩ (.bool t)).setCell ⟨g9,m*3+1,none⟩ (.int .i64 r)).setCell ⟨g9,m*3+1+1,none⟩ (.slice none 0 0))=wf at *
  have j0:=i2 0
  have j1:=i2 1
  have v0:((wf.setCell ⟨B1,0,none⟩ (.slice a b.length c)).setCell ⟨B1,1,none⟩ (.slice (some ⟨g9,0,none⟩) ps.length c2)).cell? ⟨B1,0,none⟩=some (.slice a b.length c):=by go_simp
  have v1:((wf.setCell ⟨B1,0,none⟩ (.slice a b.length c)).setCell ⟨B1,1,none⟩ (.slice (some ⟨g9,0,none⟩) ps.length c2)).cell? ⟨B1,1,none⟩=some (.slice (some ⟨g9,0,none⟩) ps.length c2):=by go_simp
  go_wp2_with fail
  have hd9:=(zAn wf B1 0 (.slice a b.length c)).trans (zAn _ B1 1 (.slice (some ⟨g9,0,none⟩) ps.length c2))
  have S9:=(HS6.out.setCell (a:=⟨B1,0,none⟩) hBW1 (.slice a b.length c)).setCell (a:=⟨B1,1,none⟩) hBW1 (.slice (some ⟨g9,0,none⟩) ps.length c2)
  exact bodyPost_ret (v:=.tuple #[.agg #[.slice a b.length c,.slice (some ⟨g9,0,none⟩) ps.length c2],.int .i64 0]) (by simp[results,Tryz.results10,go_sem,v0,v1]) rfl ⟨⟨_,_,rfl,HV8.out.offBox HMB.out hd9,HP8.out.offBox HMB.out hd9⟩,S9.below⟩
 have HE3:Hid (E=if t=decide (k=3) then 6 else 0):=Zh (HE.out.trans (by unfold doE;rw[if_neg HM.out,if_neg k1,if_neg k6,if_neg k7,if_neg kf,if_neg hn,if_neg k5,if_neg k4,zGd hget]))
 have HC3:Hid (E=0→C=(b,ps.set m (decide (k=3),r,K))):=Zh (fun h=>HC.out.trans (by unfold doC;rw[if_neg HM.out,if_neg k1,if_neg k6,if_neg (by rw[←HE.out,h];decide),if_neg k7,if_neg k5,if_neg k4,zE8 hget]))
 have hk23:k=2∨k=3:=by omega
 have HC6:Hid (E≠0→C=([],[])):=Zh (fun h=>HC.out.trans (zHX k1 k6 (by rw[←HE.out];exact h)))
 clear k1 k6 k7 kf hn k5 k4
 rcases hk23 with rfl|rfl
 ·cases t with
  | true =>
   obtain rfl:E=0:=HE3.out.trans (by decide)
   obtain rfl:C=(b,ps.set m (false,r,K)):=HC3.out rfl
   have hml:=(List.getElem?_eq_some_iff.1 hget).1
   have hin:inB 2 2 5=true:=zB5 (n:=2) (a:=2) (b:=5) (by omega) (by omega)
   have HIN:=Zh hin
   have hmI:(m:Int)<(ps.length:Int):=by omega
   have hmI0:(0:Int)≤(m:Int):=by omega
   have hdm:decide ((m:Int)<0)=false:=by simp
   have hdm2:decide ((ps.length:Int)≤(m:Int))=false:=by simp;omega
   obtain ⟨gp,op,uk,ck,ea,k0,k1,k2,hKW,hrI⟩:=zBq HU.out hget
   subst ea
   simp only at k0 k1 k2 hKW hrI
   have k0:=zAA S0.below k0
   have k1:=zAA S0.below k1
   have k2:=zAA S0.below k2
   have HKW:=Zh hKW
   have HGET:=Zh hget
   have TP:=T0.alloc (.cells #[.bool true,.int .i64 r,.slice uk K.length ck] 62)
   have x0:(w0.alloc (.cells #[.bool true,.int .i64 r,.slice uk K.length ck] 62)).cell? ⟨w0.heap.size,0,none⟩=some (.bool true):=by go_simp
   have x1:(w0.alloc (.cells #[.bool true,.int .i64 r,.slice uk K.length ck] 62)).cell? ⟨w0.heap.size,1,none⟩=some (.int .i64 r):=by go_simp
   have x2:(w0.alloc (.cells #[.bool true,.int .i64 r,.slice uk K.length ck] 62)).cell? ⟨w0.heap.size,2,none⟩=some (.slice uk K.length ck):=by go_simp
   have xf0:(w0.alloc (.cells #[.bool true,.int .i64 r,.slice uk K.length ck] 62)).frozen? ⟨w0.heap.size,0,none⟩=false:=by go_simp
   have xf2:(w0.alloc (.cells #[.bool true,.int .i64 r,.slice uk K.length ck] 62)).frozen? ⟨w0.heap.size,2,none⟩=false:=by go_simp
   have hzp:w0.heap.size<(w0.alloc (.cells #[.bool true,.int .i64 r,.slice uk K.length ck] 62)).heap.size:=by simp
   clear hin hKW hget d2 e2 mb mb1
   go_upto_region 26 with (go_at_call 37;go_fit (zCS 2 2 5 w0);rintro e w1 ⟨rfl,rfl⟩;rw[HIN.out])
   clear k0 k1 k2 d0 d1 g0 g1 g2 g3 g4 g5 g6 e0 e1 f0 f1
   generalize w0.alloc (.cells #[.bool true,.int .i64 r,.slice uk K.length ck] 62)=wp at *
   obtain ⟨Bp,hBp⟩:∃Bp,Bp=w0.heap.size:=⟨_,rfl⟩
   rw[←hBp] at x0 x1 x2 xf0 xf2 hzp ⊢
   have hBp0:w0.heap.size≤Bp:=by omega
   have hBpW:W.heap.size≤Bp:=by have:=S0.2;omega
   have hBpB:¬Bp=B:=by omega
   have hBBp:¬B=Bp:=by omega
   have hB1p:¬B1=Bp:=by omega
   have hB2p:¬B2=Bp:=by omega
   clear hBp
   obtain ⟨⟨d0,d1,d2⟩,⟨g0,g1,g2,g3,g4,g5,g6⟩,e0,e1,e2,mb,mb1⟩:=HF.out wp TP
   have Tq:=TP.setCell (a:=⟨Bp,0,none⟩) hBp0 (.bool false)
   have y0:(wp.setCell ⟨Bp,0,none⟩ (.bool false)).cell? ⟨Bp,0,none⟩=some (.bool false):=by go_simp
   have y1:(wp.setCell ⟨Bp,0,none⟩ (.bool false)).cell? ⟨Bp,1,none⟩=some (.int .i64 r):=by go_simp
   have y2:(wp.setCell ⟨Bp,0,none⟩ (.bool false)).cell? ⟨Bp,2,none⟩=some (.slice uk K.length ck):=by go_simp
   go_upto_region 41 with fail
   clear x0 x1 x2 xf0 xf2 TP d0 d1 d2 g0 g1 g2 g3 g4 g5 g6 e0 e1 e2 mb mb1
   generalize wp.setCell ⟨Bp,0,none⟩ (.bool false)=wq at *
   have HEL:Hid (∀w',zAF (fun j=>j=B∨wq.heap.size≤j) wq w'→RPF W w' [.bool false,.int .i64 r,.slice uk K.length ck] ((false,r,K),true)):=Zh (fun w' hw'=>⟨_,rfl,hrI,by simp only[if_true];exact HKW.out⟩)
   have SQ:=S0.step Tq.below
   obtain ⟨⟨d0,d1,d2⟩,⟨_,g1,_⟩,e0,e1,e2,mb,mb1⟩:=HF.out wq Tq
   have hBq:B<wq.heap.size:=zAH d0
   have hB1q:B1<wq.heap.size:=zAH e0
   have hB2q:B2<wq.heap.size:=zAH g1
   have hBpq:Bp<wq.heap.size:=zAH y0
   have d21:=d2 1
   have HCL:=Zh (zBT RPF.stays RPF.one (.slice (some ⟨gp,op,none⟩) ps.length c') (ps.map fun p=>(p,true)) W wq (zAF.old SQ.below _) (zIz HU.out) (by simp;omega))
   clear d2
   go_upto_region 42 with (go_at_call 35;go_fit HCL.out;rintro e w3 ⟨⟨v2,rfl,ho3⟩,hb3⟩;obtain ⟨a2,c2,rfl,hc2,⟨hm2,hk2,_⟩,_⟩:=ho3.isRow.opened;have d21:=zAE hb3 d1 d21;have d0:=zAA hb3 d0;have d1:=zAA hb3 d1)
   rw[show (ps.map fun p=>(p,true)).length=ps.length by simp] at ho3 hc2 hm2
   have hmq:(ps.map fun p=>(p,true))[m]?=some ((true,r,K),true):=by rw[List.getElem?_map,HGET.out];rfl
   obtain ⟨rr,g,hg,_,_,_,_⟩:=ho3.get hmq
   have hgl:=ho3.lt g hg
   obtain rfl:a2=some ⟨g,0,none⟩:=by
    rcases ho3.shape with ⟨_,e⟩|⟨g',cap,cur,e,_⟩
    ·rw[e] at hmq;simp at hmq
    ·simp only[Value.slice.injEq] at e
     obtain ⟨e1,_⟩:=e
     subst e1
     simp only[Value.ownBlock,Option.some.injEq] at hg
     rw[hg]
   have hBg:¬B=g:=fun e=>by have:=hgl.1;omega
   have hB1g:¬B1=g:=fun e=>by have:=hgl.1;omega
   have hB2g:¬B2=g:=fun e=>by have:=hgl.1;omega
   have hBpg:¬Bp=g:=fun e=>by have:=hgl.1;omega
   have hgW:W.heap.size≤g:=Nat.le_trans SQ.2 hgl.1
   have ho4:=(ho3.kept (zAC w3 ⟨B,1,none⟩ (.slice (some ⟨g,0,none⟩) ps.length c2)) (fun j h=>by cases h;exact hBW) (Or.inr (fun e=>hBg (Option.some.inj e).symm))).weaken (E':=fun j=>j=B) (fun j _ e=>Or.inl (by rw[e];exact hBW))
   have hd4:=zAn w3 B 1 (.slice (some ⟨g,0,none⟩) ps.length c2)
   have S4:=(SQ.step hb3).setCell (a:=⟨B,1,none⟩) hBW (.slice (some ⟨g,0,none⟩) ps.length c2)
   have mb4:=(mb1.stays hb3 hB1q).off hd4 (Nat.lt_of_lt_of_le hB1q hb3.size) (fun e=>hBB e)
   have hEL:∀w',zAF (fun j=>j=B∨j=g) (w3.setCell ⟨B,1,none⟩ (.slice (some ⟨g,0,none⟩) ps.length c2)) w'→RPF W w' [.bool false,.int .i64 r,.slice uk K.length ck] ((false,r,K),true):=fun w' hw'=>HEL.out w' (((zAF.old hb3 _).trans (hd4.mono fun j _ h=>Or.inl h)).trans (hw'.mono fun j _ h=>h.elim Or.inl (fun h=>Or.inr (by rw[h];exact hgl.1))))
   have HEL4:=Zh hEL
   have c0:(w3.setCell ⟨B,1,none⟩ (.slice (some ⟨g,0,none⟩) ps.length c2)).cell? ⟨B,0,none⟩=some (.slice a b.length c):=by go_simp
   have c1:(w3.setCell ⟨B,1,none⟩ (.slice (some ⟨g,0,none⟩) ps.length c2)).cell? ⟨B,1,none⟩=some (.slice (some ⟨g,0,none⟩) ps.length c2):=by go_simp
   have g1:=hd4.cell (zAA hb3 g1) hB2B
   have y0:=hd4.cell (zAA hb3 y0) hBpB
   have y1:=hd4.cell (zAA hb3 y1) hBpB
   have y2:=hd4.cell (zAA hb3 y2) hBpB
   have i0:=hd4.cell (zAA hb3 e0) hBB
   have i1:=hd4.cell (zAA hb3 e1) hBB
   have i2:∀j,(w3.setCell ⟨B,1,none⟩ (.slice (some ⟨g,0,none⟩) ps.length c2)).frozen? ⟨B1,j,none⟩=false:=fun j=>by rw[World.frozen?_setCell];exact (hb3.frozen (p:=⟨B1,j,none⟩) hB1q).trans (e2 j)
   obtain ⟨_,g9,hg9,_,_,hcell,hf4⟩:=ho4.get hmq
   obtain rfl:g9=g:=Option.some.inj (hg9.symm.trans rfl)
   obtain ⟨_,rfl,_⟩:=hf4.now
   have l0:(w3.setCell ⟨B,1,none⟩ (.slice (some ⟨g9,0,none⟩) ps.length c2)).cell? ⟨g9,m*3,none⟩=some (.bool true):=hcell 0 _ rfl
   have l1:(w3.setCell ⟨B,1,none⟩ (.slice (some ⟨g9,0,none⟩) ps.length c2)).cell? ⟨g9,m*3+1,none⟩=some (.int .i64 r):=hcell 1 _ rfl
   have l2:=hcell 2 _ rfl
   have l3:∀j,(w3.setCell ⟨B,1,none⟩ (.slice (some ⟨g9,0,none⟩) ps.length c2)).frozen? ⟨g9,j,none⟩=false:=fun j=>ho4.free rfl j
   have HX:=Zh (And.intro ho4 (And.intro hd4 (And.intro S4 (And.intro mb4 hmq))))
   clear hEL ho3 hc2 hm2 ho4 hd4 S4 mb4 hmq hcell hf4 d0 d1 d21 e0 e1 e2 mb mb1 hg9 hg hb3
   generalize (w3.setCell ⟨B,1,none⟩ (.slice (some ⟨g9,0,none⟩) ps.length c2))=w4 at *
   have n0:=zAE (Below.refl w4.heap.size w4) l0 (l3 _)
   have n1:=zAE (Below.refl w4.heap.size w4) l1 (l3 _)
   have n2:=zAE (Below.refl w4.heap.size w4) l2 (l3 _)
   go_upto_region 43 with fail
   clear l0 l1 l2 n0 n1 n2 g1
   have hDg:zAF (fun j=>j=g9) w4 (((w4.setCell ⟨g9,m*3,none⟩ (.bool false)).setCell ⟨g9,m*3+1,none⟩ (.int .i64 r)).setCell ⟨g9,m*3+1+1,none⟩ (.slice uk K.length ck)):=(zAF.of_grown (zAQ g9 [.bool false,.int .i64 r,.slice uk K.length ck] (m*3) w4)).mono (fun j _ hj=>by cases hj;rfl)
   have S6:=((HX.out.2.2.1.setCell (a:=⟨g9,m*3,none⟩) hgW (.bool false)).setCell (a:=⟨g9,m*3+1,none⟩) hgW (.int .i64 r)).setCell (a:=⟨g9,m*3+1+1,none⟩) hgW (.slice uk K.length ck)
   have ho8:zAK 3 (RPF W) (fun j=>j=B) (((w4.setCell ⟨g9,m*3,none⟩ (.bool false)).setCell ⟨g9,m*3+1,none⟩ (.int .i64 r)).setCell ⟨g9,m*3+1+1,none⟩ (.slice uk K.length ck)) 62 wq.heap.size (.slice (some ⟨g9,0,none⟩) ps.length c2) ((ps.map fun p=>(p,true)).set m ((false,r,K),true)):=
    HX.out.1.setElem (r:=[.bool false,.int .i64 r,.slice uk K.length ck]) (by simpa using hml) rfl (by intro z hz;simp at hz;rcases hz with rfl | rfl | rfl<;>rfl) (fun w' hw'=>HEL4.out w' (hw'.mono fun j _ h=>h.elim (fun e=>Or.inr (Option.some.inj e).symm) Or.inl))
   have hP8:=zEE ho8.isRow S6.below
   rw[List.map_set,show (ps.map fun p=>(p,true)).map (·.1)=ps by simp[Function.comp_def]] at hP8
   have HP8:=Zh (show zAT (((w4.setCell ⟨g9,m*3,none⟩ (.bool false)).setCell ⟨g9,m*3+1,none⟩ (.int .i64 r)).setCell ⟨g9,m*3+1+1,none⟩ (.slice uk K.length ck)) (.slice (some ⟨g9,0,none⟩) ps.length c2) (ps.set m (false,r,K)) from hP8)
   have HV8:=Zh (show zAR (((w4.setCell ⟨g9,m*3,none⟩ (.bool false)).setCell ⟨g9,m*3+1,none⟩ (.int .i64 r)).setCell ⟨g9,m*3+1+1,none⟩ (.slice uk K.length ck)) (.slice a b.length c) b from HB.out.stays zAz.stays S6.below)
   have hB1w:B1<w4.heap.size:=zAH i0
   have c0:=hDg.cell c0 hBg
   have c1:=hDg.cell c1 hBg
   have i0:=hDg.cell i0 hB1g
   have i1:=hDg.cell i1 hB1g
   have i2:∀j,(((w4.setCell ⟨g9,m*3,none⟩ (.bool false)).setCell ⟨g9,m*3+1,none⟩ (.int .i64 r)).setCell ⟨g9,m*3+1+1,none⟩ (.slice uk K.length ck)).frozen? ⟨B1,j,none⟩=false:=fun j=>by rw[World.frozen?_setCell,World.frozen?_setCell,World.frozen?_setCell];exact i2 j
   have HMB:=Zh (HX.out.2.2.2.1.off hDg hB1w (fun e=>hB1g e))
   clear hDg ho8 hP8
   have HS6:=Zh S6
   clear S6
   generalize (((w4.setCell ⟨g9,m*3,none⟩ (.bool false)).setCell ⟨g9,m*3+1,none⟩ (.int .i64 r)).setCell ⟨g9,m*3+1+1,none⟩ (.slice uk K.length ck))=wf at *
   have j0:=i2 0
   have j1:=i2 1
   have v0:((wf.setCell ⟨B1,0,none⟩ (.slice a b.length c)).setCell ⟨B1,1,none⟩ (.slice (some ⟨g9,0,none⟩) ps.length c2)).cell? ⟨B1,0,none⟩=some (.slice a b.length c):=by go_simp
   have v1:((wf.setCell ⟨B1,0,none⟩ (.slice a b.length c)).setCell ⟨B1,1,none⟩ (.slice (some ⟨g9,0,none⟩) ps.length c2)).cell? ⟨B1,1,none⟩=some (.slice (some ⟨g9,0,none⟩) ps.length c2):=by go_simp
   go_wp2_with fail
   have hd9:=(zAn wf B1 0 (.slice a b.length c)).trans (zAn _ B1 1 (.slice (some ⟨g9,0,none⟩) ps.length c2))
   have S9:=(HS6.out.setCell (a:=⟨B1,0,none⟩) hBW1 (.slice a b.length c)).setCell (a:=⟨B1,1,none⟩) hBW1 (.slice (some ⟨g9,0,none⟩) ps.length c2)
   exact bodyPost_ret (v:=.tuple #[.agg #[.slice a b.length c,.slice (some ⟨g9,0,none⟩) ps.length c2],.int .i64 0]) (by simp[results,Tryz.results10,go_sem,v0,v1]) rfl ⟨⟨_,_,rfl,HV8.out.offBox HMB.out hd9,HP8.out.offBox HMB.out hd9⟩,S9.below⟩
  | false =>
   obtain rfl:E=6:=HE3.out.trans (by decide)
   obtain rfl:C=([],[]):=HC6.out (by decide)
   have hml:=(List.getElem?_eq_some_iff.1 hget).1
   have hin:inB 2 2 5=true:=zB5 (n:=2) (a:=2) (b:=5) (by omega) (by omega)
   have HIN:=Zh hin
   have hmI:(m:Int)<(ps.length:Int):=by omega
   have hmI0:(0:Int)≤(m:Int):=by omega
   have hdm:decide ((m:Int)<0)=false:=by simp
   have hdm2:decide ((ps.length:Int)≤(m:Int))=false:=by simp;omega
   obtain ⟨gp,op,uk,ck,ea,k0,k1,k2,hKW,hrI⟩:=zBq HU.out hget
   subst ea
   simp only at k0 k1 k2 hKW hrI
   have k0:=zAA S0.below k0
   have k1:=zAA S0.below k1
   have k2:=zAA S0.below k2
   have HKW:=Zh hKW
   have HGET:=Zh hget
   have TP:=T0.alloc (.cells #[.bool false,.int .i64 r,.slice uk K.length ck] 62)
   have x0:(w0.alloc (.cells #[.bool false,.int .i64 r,.slice uk K.length ck] 62)).cell? ⟨w0.heap.size,0,none⟩=some (.bool false):=by go_simp
   have x1:(w0.alloc (.cells #[.bool false,.int .i64 r,.slice uk K.length ck] 62)).cell? ⟨w0.heap.size,1,none⟩=some (.int .i64 r):=by go_simp
   have x2:(w0.alloc (.cells #[.bool false,.int .i64 r,.slice uk K.length ck] 62)).cell? ⟨w0.heap.size,2,none⟩=some (.slice uk K.length ck):=by go_simp
   have xf0:(w0.alloc (.cells #[.bool false,.int .i64 r,.slice uk K.length ck] 62)).frozen? ⟨w0.heap.size,0,none⟩=false:=by go_simp
   have xf2:(w0.alloc (.cells #[.bool false,.int .i64 r,.slice uk K.length ck] 62)).frozen? ⟨w0.heap.size,2,none⟩=false:=by go_simp
   have hzp:w0.heap.size<(w0.alloc (.cells #[.bool false,.int .i64 r,.slice uk K.length ck] 62)).heap.size:=by simp
   clear hin hKW hget d2 e2 mb mb1
   go_upto_region 26 with (go_at_call 37;go_fit (zCS 2 2 5 w0);rintro e w1 ⟨rfl,rfl⟩;rw[HIN.out])
   clear k0 k1 k2 d0 d1 g0 g1 g2 g3 g4 g5 g6 e0 e1 f0 f1
   generalize w0.alloc (.cells #[.bool false,.int .i64 r,.slice uk K.length ck] 62)=wp at *
   obtain ⟨Bp,hBp⟩:∃Bp,Bp=w0.heap.size:=⟨_,rfl⟩
   rw[←hBp] at x0 x1 x2 xf0 xf2 hzp ⊢
   have hBp0:w0.heap.size≤Bp:=by omega
   have hBpW:W.heap.size≤Bp:=by have:=S0.2;omega
   have hBpB:¬Bp=B:=by omega
   have hBBp:¬B=Bp:=by omega
   have hB1p:¬B1=Bp:=by omega
   have hB2p:¬B2=Bp:=by omega
   clear hBp
   obtain ⟨⟨d0,d1,d2⟩,⟨g0,g1,g2,g3,g4,g5,g6⟩,e0,e1,e2,mb,mb1⟩:=HF.out wp TP
   clear d2 e2 mb mb1 d0 e0 e1 g3 g4 g5 g6
   go_wp2_with (go_at_call 29;go_fit (zEy 6 _);rintro e w9 ⟨rfl,hb9⟩;have T9:=TP.step hb9;obtain ⟨_,_,e0,e1,e2,_,_⟩:=HF.out w9 T9;have f0:=e2 0;have f1:=e2 1;obtain ⟨z0,z1,z2⟩:=HNO.out w9 T9)
   exact bodyPost_ret (v:=.tuple #[.agg #[.slice none 0 0,.slice none 0 0],.int .i64 6]) (by simp[results,Tryz.results10,go_sem,z0,z1]) rfl ⟨⟨_,_,rfl,zAZ.nil _,zAZ.nil _⟩,z2⟩
 ·cases t with
  | true =>
   obtain rfl:E=6:=HE3.out.trans (by decide)
   obtain rfl:C=([],[]):=HC6.out (by decide)
   have hml:=(List.getElem?_eq_some_iff.1 hget).1
   have hin:inB 3 2 5=true:=zB5 (n:=3) (a:=2) (b:=5) (by omega) (by omega)
   have HIN:=Zh hin
   have hmI:(m:Int)<(ps.length:Int):=by omega
   have hmI0:(0:Int)≤(m:Int):=by omega
   have hdm:decide ((m:Int)<0)=false:=by simp
   have hdm2:decide ((ps.length:Int)≤(m:Int))=false:=by simp;omega
   obtain ⟨gp,op,uk,ck,ea,k0,k1,k2,hKW,hrI⟩:=zBq HU.out hget
   subst ea
   simp only at k0 k1 k2 hKW hrI
   have k0:=zAA S0.below k0
   have k1:=zAA S0.below k1
   have k2:=zAA S0.below k2
   have HKW:=Zh hKW
   have HGET:=Zh hget
   have TP:=T0.alloc (.cells #[.bool true,.int .i64 r,.slice uk K.length ck] 62)
   have x0:(w0.alloc (.cells #[.bool true,.int .i64 r,.slice uk K.length ck] 62)).cell? ⟨w0.heap.size,0,none⟩=some (.bool true):=by go_simp
   have x1:(w0.alloc (.cells #[.bool true,.int .i64 r,.slice uk K.length ck] 62)).cell? ⟨w0.heap.size,1,none⟩=some (.int .i64 r):=by go_simp
   have x2:(w0.alloc (.cells #[.bool true,.int .i64 r,.slice uk K.length ck] 62)).cell? ⟨w0.heap.size,2,none⟩=some (.slice uk K.length ck):=by go_simp
   have xf0:(w0.alloc (.cells #[.bool true,.int .i64 r,.slice uk K.length ck] 62)).frozen? ⟨w0.heap.size,0,none⟩=false:=by go_simp
   have xf2:(w0.alloc (.cells #[.bool true,.int .i64 r,.slice uk K.length ck] 62)).frozen? ⟨w0.heap.size,2,none⟩=false:=by go_simp
   have hzp:w0.heap.size<(w0.alloc (.cells #[.bool true,.int .i64 r,.slice uk K.length ck] 62)).heap.size:=by simp
   clear hin hKW hget d2 e2 mb mb1
   go_upto_region 26 with (go_at_call 37;go_fit (zCS 3 2 5 w0);rintro e w1 ⟨rfl,rfl⟩;rw[HIN.out])
   clear k0 k1 k2 d0 d1 g0 g1 g2 g3 g4 g5 g6 e0 e1 f0 f1
   generalize w0.alloc (.cells #[.bool true,.int .i64 r,.slice uk K.length ck] 62)=wp at *
   obtain ⟨Bp,hBp⟩:∃Bp,Bp=w0.heap.size:=⟨_,rfl⟩
   rw[←hBp] at x0 x1 x2 xf0 xf2 hzp ⊢
   have hBp0:w0.heap.size≤Bp:=by omega
   have hBpW:W.heap.size≤Bp:=by have:=S0.2;omega
   have hBpB:¬Bp=B:=by omega
   have hBBp:¬B=Bp:=by omega
   have hB1p:¬B1=Bp:=by omega
   have hB2p:¬B2=Bp:=by omega
   clear hBp
   obtain ⟨⟨d0,d1,d2⟩,⟨g0,g1,g2,g3,g4,g5,g6⟩,e0,e1,e2,mb,mb1⟩:=HF.out wp TP
   clear d2 e2 mb mb1 d0 e0 e1 g3 g4 g5 g6
   go_wp2_with (go_at_call 29;go_fit (zEy 6 _);rintro e w9 ⟨rfl,hb9⟩;have T9:=TP.step hb9;obtain ⟨_,_,e0,e1,e2,_,_⟩:=HF.out w9 T9;have f0:=e2 0;have f1:=e2 1;obtain ⟨z0,z1,z2⟩:=HNO.out w9 T9)
   exact bodyPost_ret (v:=.tuple #[.agg #[.slice none 0 0,.slice none 0 0],.int .i64 6]) (by simp[results,Tryz.results10,go_sem,z0,z1]) rfl ⟨⟨_,_,rfl,zAZ.nil _,zAZ.nil _⟩,z2⟩
  | false =>
   obtain rfl:E=0:=HE3.out.trans (by decide)
   obtain rfl:C=(b,ps.set m (true,r,K)):=HC3.out rfl
   have hml:=(List.getElem?_eq_some_iff.1 hget).1
   have hin:inB 3 2 5=true:=zB5 (n:=3) (a:=2) (b:=5) (by omega) (by omega)
   have HIN:=Zh hin
   have hmI:(m:Int)<(ps.length:Int):=by omega
   have hmI0:(0:Int)≤(m:Int):=by omega
   have hdm:decide ((m:Int)<0)=false:=by simp
   have hdm2:decide ((ps.length:Int)≤(m:Int))=false:=by simp;omega
   obtain ⟨gp,op,uk,ck,ea,k0,k1,k2,hKW,hrI⟩:=zBq HU.out hget
   subst ea
   simp only at k0 k1 k2 hKW hrI
   have k0:=zAA S0.below k0
   have k1:=zAA S0.below k1
   have k2:=zAA S0.below k2
   have HKW:=Zh hKW
   have HGET:=Zh hget
   have TP:=T0.alloc (.cells #[.bool false,.int .i64 r,.slice uk K.length ck] 62)
   have x0:(w0.alloc (.cells #[.bool false,.int .i64 r,.slice uk K.length ck] 62)).cell? ⟨w0.heap.size,0,none⟩=some (.bool false):=by go_simp
   have x1:(w0.alloc (.cells #[.bool false,.int .i64 r,.slice uk K.length ck] 62)).cell? ⟨w0.heap.size,1,none⟩=some (.int .i64 r):=by go_simp
   have x2:(w0.alloc (.cells #[.bool false,.int .i64 r,.slice uk K.length ck] 62)).cell? ⟨w0.heap.size,2,none⟩=some (.slice uk K.length ck):=by go_simp
   have xf0:(w0.alloc (.cells #[.bool false,.int .i64 r,.slice uk K.length ck] 62)).frozen? ⟨w0.heap.size,0,none⟩=false:=by go_simp
   have xf2:(w0.alloc (.cells #[.bool false,.int .i64 r,.slice uk K.length ck] 62)).frozen? ⟨w0.heap.size,2,none⟩=false:=by go_simp
   have hzp:w0.heap.size<(w0.alloc (.cells #[.bool false,.int .i64 r,.slice uk K.length ck] 62)).heap.size:=by simp
   clear hin hKW hget d2 e2 mb mb1
   go_upto_region 26 with (go_at_call 37;go_fit (zCS 3 2 5 w0);rintro e w1 ⟨rfl,rfl⟩;rw[HIN.out])
   clear k0 k1 k2 d0 d1 g0 g1 g2 g3 g4 g5 g6 e0 e1 f0 f1
   generalize w0.alloc (.cells #[.bool false,.int .i64 r,.slice uk K.length ck] 62)=wp at *
   obtain ⟨Bp,hBp⟩:∃Bp,Bp=w0.heap.size:=⟨_,rfl⟩
   rw[←hBp] at x0 x1 x2 xf0 xf2 hzp ⊢
   have hBp0:w0.heap.size≤Bp:=by omega
   have hBpW:W.heap.size≤Bp:=by have:=S0.2;omega
   have hBpB:¬Bp=B:=by omega
   have hBBp:¬B=Bp:=by omega
   have hB1p:¬B1=Bp:=by omega
   have hB2p:¬B2=Bp:=by omega
   clear hBp
   obtain ⟨⟨d0,d1,d2⟩,⟨g0,g1,g2,g3,g4,g5,g6⟩,e0,e1,e2,mb,mb1⟩:=HF.out wp TP
   have Tq:=TP.setCell (a:=⟨Bp,0,none⟩) hBp0 (.bool true)
   have y0:(wp.setCell ⟨Bp,0,none⟩ (.bool true)).cell? ⟨Bp,0,none⟩=some (.bool true):=by go_simp
   have y1:(wp.setCell ⟨Bp,0,none⟩ (.bool true)).cell? ⟨Bp,1,none⟩=some (.int .i64 r):=by go_simp
   have y2:(wp.setCell ⟨Bp,0,none⟩ (.bool true)).cell? ⟨Bp,2,none⟩=some (.slice uk K.length ck):=by go_simp
   go_upto_region 41 with fail
   clear x0 x1 x2 xf0 xf2 TP d0 d1 d2 g0 g1 g2 g3 g4 g5 g6 e0 e1 e2 mb mb1
   generalize wp.setCell ⟨Bp,0,none⟩ (.bool true)=wq at *
   have HEL:Hid (∀w',zAF (fun j=>j=B∨wq.heap.size≤j) wq w'→RPF W w' [.bool true,.int .i64 r,.slice uk K.length ck] ((true,r,K),true)):=Zh (fun w' hw'=>⟨_,rfl,hrI,by simp only[if_true];exact HKW.out⟩)
   have SQ:=S0.step Tq.below
   obtain ⟨⟨d0,d1,d2⟩,⟨_,g1,_⟩,e0,e1,e2,mb,mb1⟩:=HF.out wq Tq
   have hBq:B<wq.heap.size:=zAH d0
   have hB1q:B1<wq.heap.size:=zAH e0
   have hB2q:B2<wq.heap.size:=zAH g1
   have hBpq:Bp<wq.heap.size:=zAH y0
   have d21:=d2 1
   have HCL:=Zh (zBT RPF.stays RPF.one (.slice (some ⟨gp,op,none⟩) ps.length c') (ps.map fun p=>(p,true)) W wq (zAF.old SQ.below _) (zIz HU.out) (by simp;omega))
   clear d2
   go_upto_region 42 with (go_at_call 35;go_fit HCL.out;rintro e w3 ⟨⟨v2,rfl,ho3⟩,hb3⟩;obtain ⟨a2,c2,rfl,hc2,⟨hm2,hk2,_⟩,_⟩:=ho3.isRow.opened;have d21:=zAE hb3 d1 d21;have d0:=zAA hb3 d0;have d1:=zAA hb3 d1)
   rw[show (ps.map fun p=>(p,true)).length=ps.length by simp] at ho3 hc2 hm2
   have hmq:(ps.map fun p=>(p,true))[m]?=some ((false,r,K),true):=by rw[List.getElem?_map,HGET.out];rfl
   obtain ⟨rr,g,hg,_,_,_,_⟩:=ho3.get hmq
   have hgl:=ho3.lt g hg
   obtain rfl:a2=some ⟨g,0,none⟩:=by
    rcases ho3.shape with ⟨_,e⟩|⟨g',cap,cur,e,_⟩
    ·rw[e] at hmq;simp at hmq
    ·simp only[Value.slice.injEq] at e
     obtain ⟨e1,_⟩:=e
     subst e1
     simp only[Value.ownBlock,Option.some.injEq] at hg
     rw[hg]
   have hBg:¬B=g:=fun e=>by have:=hgl.1;omega
   have hB1g:¬B1=g:=fun e=>by have:=hgl.1;omega
   have hB2g:¬B2=g:=fun e=>by have:=hgl.1;omega
   have hBpg:¬Bp=g:=fun e=>by have:=hgl.1;omega
   have hgW:W.heap.size≤g:=Nat.le_trans SQ.2 hgl.1
   have ho4:=(ho3.kept (zAC w3 ⟨B,1,none⟩ (.slice (some ⟨g,0,none⟩) ps.length c2)) (fun j h=>by cases h;exact hBW) (Or.inr (fun e=>hBg (Option.some.inj e).symm))).weaken (E':=fun j=>j=B) (fun j _ e=>Or.inl (by rw[e];exact hBW))
   have hd4:=zAn w3 B 1 (.slice (some ⟨g,0,none⟩) ps.length c2)
   have S4:=(SQ.step hb3).setCell (a:=⟨B,1,none⟩) hBW (.slice (some ⟨g,0,none⟩) ps.length c2)
   have mb4:=(mb1.stays hb3 hB1q).off hd4 (Nat.lt_of_lt_of_le hB1q hb3.size) (fun e=>hBB e)
   have hEL:∀w',zAF (fun j=>j=B∨j=g) (w3.setCell ⟨B,1,none⟩ (.slice (some ⟨g,0,none⟩) ps.length c2)) w'→RPF W w' [.bool true,.int .i64 r,.slice uk K.length ck] ((true,r,K),true):=fun w' hw'=>HEL.out w' (((zAF.old hb3 _).trans (hd4.mono fun j _ h=>Or.inl h)).trans (hw'.mono fun j _ h=>h.elim Or.inl (fun h=>Or.inr (by rw[h];exact hgl.1))))
   have HEL4:=Zh hEL
   have c0:(w3.setCell ⟨B,1,none⟩ (.slice (some ⟨g,0,none⟩) ps.length c2)).cell? ⟨B,0,none⟩=some (.slice a b.length c):=by go_simp
   have c1:(w3.setCell ⟨B,1,none⟩ (.slice (some ⟨g,0,none⟩) ps.length c2)).cell? ⟨B,1,none⟩=some (.slice (some ⟨g,0,none⟩) ps.length c2):=by go_simp
   have g1:=hd4.cell (zAA hb3 g1) hB2B
   have y0:=hd4.cell (zAA hb3 y0) hBpB
   have y1:=hd4.cell (zAA hb3 y1) hBpB
   have y2:=hd4.cell (zAA hb3 y2) hBpB
   have i0:=hd4.cell (zAA hb3 e0) hBB
   have i1:=hd4.cell (zAA hb3 e1) hBB
   have i2:∀j,(w3.setCell ⟨B,1,none⟩ (.slice (some ⟨g,0,none⟩) ps.length c2)).frozen? ⟨B1,j,none⟩=false:=fun j=>by rw[World.frozen?_setCell];exact (hb3.frozen (p:=⟨B1,j,none⟩) hB1q).trans (e2 j)
   obtain ⟨_,g9,hg9,_,_,hcell,hf4⟩:=ho4.get hmq
   obtain rfl:g9=g:=Option.some.inj (hg9.symm.trans rfl)
   obtain ⟨_,rfl,_⟩:=hf4.now
   have l0:(w3.setCell ⟨B,1,none⟩ (.slice (some ⟨g9,0,none⟩) ps.length c2)).cell? ⟨g9,m*3,none⟩=some (.bool false):=hcell 0 _ rfl
   have l1:(w3.setCell ⟨B,1,none⟩ (.slice (some ⟨g9,0,none⟩) ps.length c2)).cell? ⟨g9,m*3+1,none⟩=some (.int .i64 r):=hcell 1 _ rfl
   have l2:=hcell 2 _ rfl
   have l3:∀j,(w3.setCell ⟨B,1,none⟩ (.slice (some ⟨g9,0,none⟩) ps.length c2)).frozen? ⟨g9,j,none⟩=false:=fun j=>ho4.free rfl j
   have HX:=Zh (And.intro ho4 (And.intro hd4 (And.intro S4 (And.intro mb4 hmq))))
   clear hEL ho3 hc2 hm2 ho4 hd4 S4 mb4 hmq hcell hf4 d0 d1 d21 e0 e1 e2 mb mb1 hg9 hg hb3
   generalize (w3.setCell ⟨B,1,none⟩ (.slice (some ⟨g9,0,none⟩) ps.length c2))=w4 at *
   have n0:=zAE (Below.refl w4.heap.size w4) l0 (l3 _)
   have n1:=zAE (Below.refl w4.heap.size w4) l1 (l3 _)
   have n2:=zAE (Below.refl w4.heap.size w4) l2 (l3 _)
   go_upto_region 43 with fail
   clear l0 l1 l2 n0 n1 n2 g1
   have hDg:zAF (fun j=>j=g9) w4 (((w4.setCell ⟨g9,m*3,none⟩ (.bool true)).setCell ⟨g9,m*3+1,none⟩ (.int .i64 r)).setCell ⟨g9,m*3+1+1,none⟩ (.slice uk K.length ck)):=(zAF.of_grown (zAQ g9 [.bool true,.int .i64 r,.slice uk K.length ck] (m*3) w4)).mono (fun j _ hj=>by cases hj;rfl)
   have S6:=((HX.out.2.2.1.setCell (a:=⟨g9,m*3,none⟩) hgW (.bool true)).setCell (a:=⟨g9,m*3+1,none⟩) hgW (.int .i64 r)).setCell (a:=⟨g9,m*3+1+1,none⟩) hgW (.slice uk K.length ck)
   have ho8:zAK 3 (RPF W) (fun j=>j=B) (((w4.setCell ⟨g9,m*3,none⟩ (.bool true)).setCell ⟨g9,m*3+1,none⟩ (.int .i64 r)).setCell ⟨g9,m*3+1+1,none⟩ (.slice uk K.length ck)) 62 wq.heap.size (.slice (some ⟨g9,0,none⟩) ps.length c2) ((ps.map fun p=>(p,true)).set m ((true,r,K),true)):=
    HX.out.1.setElem (r:=[.bool true,.int .i64 r,.slice uk K.length ck]) (by simpa using hml) rfl (by intro z hz;simp at hz;rcases hz with rfl | rfl | rfl<;>rfl) (fun w' hw'=>HEL4.out w' (hw'.mono fun j _ h=>h.elim (fun e=>Or.inr (Option.some.inj e).symm) Or.inl))
   have hP8:=zEE ho8.isRow S6.below
   rw[List.map_set,show (ps.map fun p=>(p,true)).map (·.1)=ps by simp[Function.comp_def]] at hP8
   have HP8:=Zh (show zAT (((w4.setCell ⟨g9,m*3,none⟩ (.bool true)).setCell ⟨g9,m*3+1,none⟩ (.int .i64 r)).setCell ⟨g9,m*3+1+1,none⟩ (.slice uk K.length ck)) (.slice (some ⟨g9,0,none⟩) ps.length c2) (ps.set m (true,r,K)) from hP8)
   have HV8:=Zh (show zAR (((w4.setCell ⟨g9,m*3,none⟩ (.bool true)).setCell ⟨g9,m*3+1,none⟩ (.int .i64 r)).setCell ⟨g9,m*3+1+1,none⟩ (.slice uk K.length ck)) (.slice a b.length c) b from HB.out.stays zAz.stays S6.below)
   have hB1w:B1<w4.heap.size:=zAH i0
   have c0:=hDg.cell c0 hBg
   have c1:=hDg.cell c1 hBg
   have i0:=hDg.cell i0 hB1g
   have i1:=hDg.cell i1 hB1g
   have i2:∀j,(((w4.setCell ⟨g9,m*3,none⟩ (.bool true)).setCell ⟨g9,m*3+1,none⟩ (.int .i64 r)).setCell ⟨g9,m*3+1+1,none⟩ (.slice uk K.length ck)).frozen? ⟨B1,j,none⟩=false:=fun j=>by rw[World.frozen?_setCell,World.frozen?_setCell,World.frozen?_setCell];exact i2 j
   have HMB:=Zh (HX.out.2.2.2.1.off hDg hB1w (fun e=>hB1g e))
   clear hDg ho8 hP8
   have HS6:=Zh S6
   clear S6
   generalize (((w4.setCell ⟨g9,m*3,none⟩ (.bool true)).setCell ⟨g9,m*3+1,none⟩ (.int .i64 r)).setCell ⟨g9,m*3+1+1,none⟩ (.slice uk K.length ck))=wf at *
   have j0:=i2 0
   have j1:=i2 1
   have v0:((wf.setCell ⟨B1,0,none⟩ (.slice a b.length c)).setCell ⟨B1,1,none⟩ (.slice (some ⟨g9,0,none⟩) ps.length c2)).cell? ⟨B1,0,none⟩=some (.slice a b.length c):=by go_simp
   have v1:((wf.setCell ⟨B1,0,none⟩ (.slice a b.length c)).setCell ⟨B1,1,none⟩ (.slice (some ⟨g9,0,none⟩) ps.length c2)).cell? ⟨B1,1,none⟩=some (.slice (some ⟨g9,0,none⟩) ps.length c2):=by go_simp
   go_wp2_with fail
   have hd9:=(zAn wf B1 0 (.slice a b.length c)).trans (zAn _ B1 1 (.slice (some ⟨g9,0,none⟩) ps.length c2))
   have S9:=(HS6.out.setCell (a:=⟨B1,0,none⟩) hBW1 (.slice a b.length c)).setCell (a:=⟨B1,1,none⟩) hBW1 (.slice (some ⟨g9,0,none⟩) ps.length c2)
   exact bodyPost_ret (v:=.tuple #[.agg #[.slice a b.length c,.slice (some ⟨g9,0,none⟩) ps.length c2],.int .i64 0]) (by simp[results,Tryz.results10,go_sem,v0,v1]) rfl ⟨⟨_,_,rfl,HV8.out.offBox HMB.out hd9,HP8.out.offBox HMB.out hd9⟩,S9.below⟩
end Go.Proofs.YthgmphbkkojaoaaGreat
