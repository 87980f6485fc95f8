/-
  Any happening does to any mesh what the reference says. (What a closed fact answers is given as a contract.)
-/
import Derived.Test.YthgmphbkkojaoaaGreatHappened
import Derived.Test.YthgmphbkkojaoaaGreatSameMesh
import Derived.Test.YthgmphbkkojaoaaGreatDoAny
import Derived.Test.YthgmphbkkojaoaaGreatDoMaths
import Derived.Test.YthgmphbkkojaoaaGreatTheres
set_option linter.unusedSimpArgs false
set_option maxHeartbeats 8000000
namespace Go.Proofs.YthgmphbkkojaoaaGreat
open Go.RowKit
set_option maxRecDepth 100000 in
theorem zJu(hdn:∀W,Calls Tryz.prog 8 #[] W fun e w'=>e=.returned (.bool true)∧Below W.heap.size W w')(vm:Value)(m:Me)(vx:Value)(x:Hp)(W:World)(hm:zRN W vm m)(hx:zVL W vx x) :
  Calls Tryz.prog 5 #[vm,vx] W fun e w'=>e=.returned (.bool true)∧Below W.heap.size W w':=by
 obtain ⟨vb,u,rfl,hb,hu⟩:=hm
 obtain ⟨vd,vp,rfl,hd,hp,hx1,hx2,hx3,hx4,hx5⟩:=hx
 obtain ⟨b,ps⟩:=m
 obtain ⟨k,n,i,data,pr,ne,of⟩:=x
 simp only at hb hu hd hp hx1 hx2 hx3 hx4 hx5
 obtain ⟨a,c,rfl,_⟩:=hb.opened
 obtain ⟨a',c',rfl,_⟩:=hu.opened
 obtain ⟨ad,cd,rfl,_⟩:=hd.opened
 obtain ⟨ap,cp,rfl,_⟩:=hp.opened
 have HT:=Lib.hid hdn
 obtain ⟨w0,hw0⟩:∃w0,w0=((W.alloc (.cells #[.slice a b.length c,.slice a' ps.length c'] 27)).alloc (.cells #[.int .i64 k,.int .i64 n,.int .i64 i,.slice ad data.length cd,.slice ap pr.length cp,.int .i64 ne,.int .i64 of] 38)):=⟨_,rfl⟩
 have S0:zAD W.heap.size W w0:=by rw[hw0];exact ((zAD.refl W).alloc _).alloc _
 have c0:w0.cell? ⟨W.heap.size,0,none⟩=some (.slice a b.length c):=by rw[hw0];go_simp
 have c1:w0.cell? ⟨W.heap.size,1,none⟩=some (.slice a' ps.length c'):=by rw[hw0];go_simp
 have h0:w0.cell? ⟨W.heap.size+1,0,none⟩=some (.int .i64 k):=by rw[hw0];go_simp
 have h1:w0.cell? ⟨W.heap.size+1,1,none⟩=some (.int .i64 n):=by rw[hw0];go_simp
 have h2:w0.cell? ⟨W.heap.size+1,2,none⟩=some (.int .i64 i):=by rw[hw0];go_simp
 have h3:w0.cell? ⟨W.heap.size+1,3,none⟩=some (.slice ad data.length cd):=by rw[hw0];go_simp
 have h4:w0.cell? ⟨W.heap.size+1,4,none⟩=some (.slice ap pr.length cp):=by rw[hw0];go_simp
 have h5:w0.cell? ⟨W.heap.size+1,5,none⟩=some (.int .i64 ne):=by rw[hw0];go_simp
 have h6:w0.cell? ⟨W.heap.size+1,6,none⟩=some (.int .i64 of):=by rw[hw0];go_simp
 have HW:=Lib.hid hw0
 clear hw0
 obtain ⟨B,hB⟩:∃B,B=W.heap.size:=⟨_,rfl⟩
 obtain ⟨B2,hB2⟩:∃B,B=W.heap.size+1:=⟨_,rfl⟩
 rw[←hB2] at h0 h1 h2 h3 h4 h5 h6
 rw[←hB] at c0 c1
 have HB:=Lib.hid hB
 have HB2:=Lib.hid hB2
 clear hB hB2
 have HF:Hid (∀w',zAD w0.heap.size w0 w'→(w'.cell? ⟨B,0,none⟩=some (.slice a b.length c)∧w'.cell? ⟨B,1,none⟩=some (.slice a' ps.length c'))∧(w'.cell? ⟨B2,0,none⟩=some (.int .i64 k)∧w'.cell? ⟨B2,1,none⟩=some (.int .i64 n)∧w'.cell? ⟨B2,2,none⟩=some (.int .i64 i)∧w'.cell? ⟨B2,3,none⟩=some (.slice ad data.length cd)∧w'.cell? ⟨B2,4,none⟩=some (.slice ap pr.length cp)∧w'.cell? ⟨B2,5,none⟩=some (.int .i64 ne)∧w'.cell? ⟨B2,6,none⟩=some (.int .i64 of))):=Lib.hid (fun w' q=>⟨⟨zAA q.below c0,zAA q.below c1⟩,zAA q.below h0,zAA q.below h1,zAA q.below h2,zAA q.below h3,zAA q.below h4,zAA q.below h5,zAA q.below h6⟩)
 have HV:Hid (∀w',zAD w0.heap.size w0 w'→zAR w' (.slice a b.length c) b∧zAT w' (.slice a' ps.length c') ps∧zAG w' (.slice ad data.length cd) data∧zAG w' (.slice ap pr.length cp) pr):=Lib.hid (fun w' q=>⟨hb.stays zAz.stays (S0.step q.below).below,hu.stays zAj.stays (S0.step q.below).below,hd.stays (S0.step q.below).below,hp.stays (S0.step q.below).below⟩)
 clear hb hu hd hp hdn
 go_enter Tryz.func5,Tryz.ntmps5
 go_upto_region 1 with fail
 rw[←HW.out,←HB2.out,←HB.out]
 have T0:=zAD.refl w0
 have HDO:=Lib.hid (zRt _ _ _ _ b ps k n i data pr ne of w0 (HV.out w0 T0).1 (HV.out w0 T0).2.1 (HV.out w0 T0).2.2.1 (HV.out w0 T0).2.2.2 hx2 hx3 hx4 hx5)
 have HDB:Hid (zA2 (b,ps)≠0→doE (b,ps) (k,n,i,data,pr,ne,of)=zA2 (b,ps)∧doC (b,ps) (k,n,i,data,pr,ne,of)=([],[])):=Lib.hid (fun h=>by
  unfold doC doE
  exact ⟨if_pos h,if_pos h⟩)
 have HHP:Hid (∀w',zAD w0.heap.size w0 w'→zA2 (b,ps)=0→Calls Tryz.prog 10 #[.agg #[.slice a b.length c,.slice a' ps.length c'],.agg #[.int .i64 k,.int .i64 n,.int .i64 i,.slice ad data.length cd,.slice ap pr.length cp,.int .i64 ne,.int .i64 of]] w' fun e w''=>(∃u1 u2,e=.returned (.tuple #[.agg #[u1,u2],.int .i64 (doE (b,ps) (k,n,i,data,pr,ne,of))])∧zAR w'' u1 (doC (b,ps) (k,n,i,data,pr,ne,of)).1∧zAT w'' u2 (doC (b,ps) (k,n,i,data,pr,ne,of)).2)∧Below w'.heap.size w' w''):=Lib.hid (fun w' q h=>zLt _ _ _ _ b ps k n i data pr ne of w' (HV.out w' q).1 (HV.out w' q).2.1 (HV.out w' q).2.2.1 (HV.out w' q).2.2.2 hx4 hx5 h)
 clear hx1 hx2 hx3 hx4 hx5
 obtain ⟨E,hE⟩:∃E,E=doE (b,ps) (k,n,i,data,pr,ne,of):=⟨_,rfl⟩
 obtain ⟨C,hC⟩:∃C,C=doC (b,ps) (k,n,i,data,pr,ne,of):=⟨_,rfl⟩
 rw[←hE,←hC] at HDO HDB HHP
 clear hE hC
 go_upto_region 2 with (go_at_call 20;go_fit HDO.out;rintro e w1 ⟨⟨u1,u2,rfl,ho⟩,hb1⟩;have hv1:=ho.vers;have hp1:=ho.peers;obtain ⟨x1,e1,rfl,_⟩:=hv1.opened;obtain ⟨x2,e2,rfl,_⟩:=hp1.opened)
 have BX:=zAB w1 (.cells #[.slice x1 C.1.length e1,.slice x2 C.2.length e2] 27)
 have T2:=(T0.step hb1).alloc (.cells #[.slice x1 C.1.length e1,.slice x2 C.2.length e2] 27)
 have hv2:=hv1.stays zAz.stays BX
 have hp2:=hp1.stays zAj.stays BX
 have f0:(w1.alloc (.cells #[.slice x1 C.1.length e1,.slice x2 C.2.length e2] 27)).cell? ⟨w1.heap.size,0,none⟩=some (.slice x1 C.1.length e1):=by go_simp
 have f1:(w1.alloc (.cells #[.slice x1 C.1.length e1,.slice x2 C.2.length e2] 27)).cell? ⟨w1.heap.size,1,none⟩=some (.slice x2 C.2.length e2):=by go_simp
 clear hv1 hp1 ho hb1 BX c0 c1 h0 h1 h2 h3 h4 h5 h6
 generalize w1.alloc (.cells #[.slice x1 C.1.length e1,.slice x2 C.2.length e2] 27)=w2 at *
 generalize w1.heap.size=B5 at *
 have HO2:=Lib.hid (And.intro hv2 hp2)
 clear hv2 hp2
 obtain ⟨⟨c0,c1⟩,h0,h1,h2,h3,h4,h5,h6⟩:=HF.out w2 T2
 go_upto_region 3 with (go_at_call 7;go_fit (zDv _ b _ ps w2 (HV.out w2 T2).1 (HV.out w2 T2).2.1);rintro e w3 ⟨rfl,hb3⟩)
 have T3:=T2.step hb3
 have HO3:=Lib.hid (And.intro (HO2.out.1.stays zAz.stays hb3) (HO2.out.2.stays zAj.stays hb3))
 have f0:=zAA hb3 f0
 have f1:=zAA hb3 f1
 clear c0 c1 h0 h1 h2 h3 h4 h5 h6 hb3 HO2
 by_cases hm:zA2 (b,ps)=0
 ·rw[hm]
  go_upto_region 5 with (go_at_call 8;go_fit (HT.out w3);rintro e w4 ⟨rfl,hb4⟩)
  have T4:=T3.step hb4
  have HO4:=Lib.hid (And.intro (HO3.out.1.stays zAz.stays hb4) (HO3.out.2.stays zAj.stays hb4))
  have f0:=zAA hb4 f0
  have f1:=zAA hb4 f1
  obtain ⟨⟨c0,c1⟩,h0,h1,h2,h3,h4,h5,h6⟩:=HF.out w4 T4
  clear hb4 HO3
  go_upto_region 6 with (go_at_call 10;go_fit (HHP.out w4 T4 hm);rintro e w5 ⟨⟨y1,y2,rfl,hv5,hp5⟩,hb5⟩;obtain ⟨a5,c5,rfl,_⟩:=hv5.opened;obtain ⟨a6,c6,rfl,_⟩:=hp5.opened)
  have BX:=zAB w5 (.cells #[.slice a5 C.1.length c5,.slice a6 C.2.length c6] 27)
  have b6:=(zAD.refl w4).step hb5 |>.step BX
  have T6:=(T4.step hb5).step BX
  have HO6:=Lib.hid (And.intro (HO4.out.1.stays zAz.stays b6.below) (HO4.out.2.stays zAj.stays b6.below))
  have HY6:=Lib.hid (And.intro (hv5.stays zAz.stays BX) (hp5.stays zAj.stays BX))
  have f0:=zAA b6.below f0
  have f1:=zAA b6.below f1
  have g0:(w5.alloc (.cells #[.slice a5 C.1.length c5,.slice a6 C.2.length c6] 27)).cell? ⟨w5.heap.size,0,none⟩=some (.slice a5 C.1.length c5):=by go_simp
  have g1:(w5.alloc (.cells #[.slice a5 C.1.length c5,.slice a6 C.2.length c6] 27)).cell? ⟨w5.heap.size,1,none⟩=some (.slice a6 C.2.length c6):=by go_simp
  clear hv5 hp5 hb5 BX b6 c0 c1 h0 h1 h2 h3 h4 h5 h6 HO4
  generalize w5.alloc (.cells #[.slice a5 C.1.length c5,.slice a6 C.2.length c6] 27)=w6 at *
  generalize w5.heap.size=B6 at *
  go_wp2_with (go_at_call 9;go_fit (zHz _ _ _ _ C C w6 HO6.out.1 HO6.out.2 HY6.out.1 HY6.out.2);rintro e w7 ⟨rfl,hb7⟩;rw[zJI])
  exact bodyPost_ret (v:=.bool true) (by simp[results,Tryz.results5,go_sem]) rfl ⟨rfl,(S0.step (T6.step hb7).below).below⟩
 ·obtain ⟨rfl,rfl⟩:=HDB.out hm
  have hne:(zA2 (b,ps) != 0)=true:=by simpa using hm
  generalize zA2 (b,ps)=E at *
  go_wp2_with (first
   | (go_at_call 9;go_fit (zHz _ _ _ _ ([],[]) ([],[]) _ (HO3.out.1.stays zAz.stays b5.below) (HO3.out.2.stays zAj.stays b5.below) (zAZ.nil _) (zAZ.nil _));rintro e w7 ⟨rfl,hb7⟩;rw[zJI])
   | (go_at_call 8;go_fit (HT.out w3);rintro e w4 ⟨rfl,hb4⟩)
   | (go_at_call 8;go_fit (HT.out w4);rintro e w5 ⟨rfl,hb5⟩;have b5:=((zAD.refl w3).step hb4).step hb5;have f0:=zAA b5.below f0;have f1:=zAA b5.below f1))
  exact bodyPost_ret (v:=.bool true) (by simp[results,Tryz.results5,go_sem]) rfl ⟨rfl,(S0.step ((T3.step b5.below).step hb7).below).below⟩
end Go.Proofs.YthgmphbkkojaoaaGreat
