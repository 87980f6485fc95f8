/-
  The reference's SavedIn, walked.
-/
import Derived.Test.YthgmphbkkojaoaaGreatQGiven
import Derived.Test.YthgmphbkkojaoaaGreatQOffBox
import Derived.Test.YthgmphbkkojaoaaGreatQTheres
import Derived.Test.YthgmphbkkojaoaaGreatQBook8
set_option linter.unusedSimpArgs false
set_option maxHeartbeats 8000000
namespace Go.Proofs.YthgmphbkkojaoaaGreat
set_option linter.unusedSectionVars false
variable [Zn]
open Go.RowKit
theorem zRE{b:List Ver}{ps:List Pr}{x:Ver}(h:zAp b ps=0)(hx:zBz b x=0):zAp (zFC b x) ps=0:=by
 obtain ⟨h1,h2,h3⟩:=zAU.1 h
 have hb:zAt (b++[x])=0:=by
  unfold zBz at hx
  rw[if_neg (by simpa using h1)] at hx
  split at hx
  ·cases hx
  ·exact hx
 rw[zLa hx]
 refine zAU.2 ⟨hb,h2,fun p hp=>?_⟩
 have hok:=h3 p hp
 refine ⟨hb,hok.room,hok.few,fun y hy=>?_,hok.rise⟩
 obtain ⟨a1,a2,a3⟩:=hok.each y hy
 refine ⟨a1,by simp;omega,?_⟩
 unfold zBt at a3 ⊢
 have e:zAO (b++[x]) y.1=zAO b y.1:=by
  unfold zAO
  rw[List.getElem?_append_left (by omega)]
 rw[e]
 exact a3
set_option maxRecDepth 100000 in
theorem zN8(vb u vd vp:Value)(b:List Ver)(ps:List Pr)(data pr:List Int)(n o:Int)(W:World)(hb:zAR W vb b)(hu:zAT W u ps)(hd:zAG W vd data)(hp:zAG W vp pr)(hn:I64 n)(ho:I64 o) :
  Calls Tryz.prog 30 #[.agg #[vb,u],vd,vp,.int .i64 n,.int .i64 o] W fun e w'=>(∃u1 u2,e=.returned (.tuple #[.agg #[u1,u2],.int .i64 (zEK (b,ps) data pr n o)])∧zAR w' u1 (zD5 (b,ps) data pr n o).1∧zAT w' u2 (zD5 (b,ps) data pr n o).2)∧Below W.heap.size W w':=by
 obtain ⟨a,c,rfl,hcb,⟨hbm,hbc,_⟩,_⟩:=hb.opened
 obtain ⟨a',c',rfl,hcu,⟨hum,huc,_⟩,_⟩:=hu.opened
 obtain ⟨ad,cd,rfl,_,⟨hdm,_,_⟩,_⟩:=hd.opened
 obtain ⟨ap,cp,rfl,_⟩:=hp.opened
 have HB:=Zh hb
 have HU:=Zh hu
 have HD:=Zh hd
 have HP:=Zh hp
 have S0:=((zAD.refl W).alloc (.cells #[.slice a b.length c,.slice a' ps.length c'] 27)).alloc (.cells #[.slice none 0 0,.slice none 0 0] 27)
 have p0:((W.alloc (.cells #[.slice a b.length c,.slice a' ps.length c'] 27)).alloc (.cells #[.slice none 0 0,.slice none 0 0] 27)).cell? ⟨W.heap.size,0,none⟩=some (.slice a b.length c):=by go_simp
 have p1:((W.alloc (.cells #[.slice a b.length c,.slice a' ps.length c'] 27)).alloc (.cells #[.slice none 0 0,.slice none 0 0] 27)).cell? ⟨W.heap.size,1,none⟩=some (.slice a' ps.length c'):=by go_simp
 have p2:∀j,((W.alloc (.cells #[.slice a b.length c,.slice a' ps.length c'] 27)).alloc (.cells #[.slice none 0 0,.slice none 0 0] 27)).frozen? ⟨W.heap.size,j,none⟩=false:=by intro j;go_simp
 have q0:((W.alloc (.cells #[.slice a b.length c,.slice a' ps.length c'] 27)).alloc (.cells #[.slice none 0 0,.slice none 0 0] 27)).cell? ⟨W.heap.size+1,0,none⟩=some (.slice none 0 0):=by go_simp
 have q1:((W.alloc (.cells #[.slice a b.length c,.slice a' ps.length c'] 27)).alloc (.cells #[.slice none 0 0,.slice none 0 0] 27)).cell? ⟨W.heap.size+1,1,none⟩=some (.slice none 0 0):=by go_simp
 have q2:∀j,((W.alloc (.cells #[.slice a b.length c,.slice a' ps.length c'] 27)).alloc (.cells #[.slice none 0 0,.slice none 0 0] 27)).frozen? ⟨W.heap.size+1,j,none⟩=false:=by intro j;go_simp
 have m1:zAm ((W.alloc (.cells #[.slice a b.length c,.slice a' ps.length c'] 27)).alloc (.cells #[.slice none 0 0,.slice none 0 0] 27)) W.heap.size:=(zAm.made W a b.length c a' ps.length c' 27).stays (zAB _ _) (by simp)
 have m2:zAm ((W.alloc (.cells #[.slice a b.length c,.slice a' ps.length c'] 27)).alloc (.cells #[.slice none 0 0,.slice none 0 0] 27)) (W.heap.size+1):=by
  have h:=zAm.made (W.alloc (.cells #[.slice a b.length c,.slice a' ps.length c'] 27)) none 0 0 none 0 0 27
  simpa using h
 have hs0:W.heap.size+2=((W.alloc (.cells #[.slice a b.length c,.slice a' ps.length c'] 27)).alloc (.cells #[.slice none 0 0,.slice none 0 0] 27)).heap.size:=by simp
 clear hb hu hd hp
 go_enter Tryz.func30,Tryz.ntmps30
 go_upto_region 1 with fail
 generalize (W.alloc (.cells #[.slice a b.length c,.slice a' ps.length c'] 27)).alloc (.cells #[.slice none 0 0,.slice none 0 0] 27)=w0 at *
 obtain ⟨B,hB⟩:∃B,B=W.heap.size:=⟨_,rfl⟩
 obtain ⟨B1,hB1⟩:∃B,B=W.heap.size+1:=⟨_,rfl⟩
 rw[←hB1] at q0 q1 q2 m2 ⊢
 rw[←hB] at p0 p1 p2 m1 ⊢
 have hBW:W.heap.size≤B:=by omega
 have hBW1:W.heap.size≤B1:=by omega
 have hBB:¬B1=B:=by omega
 have hBB':¬B=B1:=by omega
 have hBl:B<w0.heap.size:=by omega
 have hB1l:B1<w0.heap.size:=by omega
 clear hB hB1 hs0
 have HF:Hid (∀w',zAD w0.heap.size w0 w'→w'.cell? ⟨B,0,none⟩=some (.slice a b.length c)∧w'.cell? ⟨B,1,none⟩=some (.slice a' ps.length c')∧(∀j,w'.frozen? ⟨B,j,none⟩=false)∧w'.cell? ⟨B1,0,none⟩=some (.slice none 0 0)∧w'.cell? ⟨B1,1,none⟩=some (.slice none 0 0)∧(∀j,w'.frozen? ⟨B1,j,none⟩=false)∧zAm w' B∧zAm w' B1):=Zh (fun w' q=>⟨zAA q.below p0,zAA q.below p1,fun j=>(q.below.frozen (p:=⟨B,j,none⟩) hBl).trans (p2 j),zAA q.below q0,zAA q.below q1,fun j=>(q.below.frozen (p:=⟨B1,j,none⟩) hB1l).trans (q2 j),m1.stays q.below hBl,m2.stays q.below hB1l⟩)
 have HNO:Hid (∀w',zAD w0.heap.size w0 w'→((w'.setCell ⟨B1,0,none⟩ (.slice none 0 0)).setCell ⟨B1,1,none⟩ (.slice none 0 0)).cell? ⟨B1,0,none⟩=some (.slice none 0 0)∧((w'.setCell ⟨B1,0,none⟩ (.slice none 0 0)).setCell ⟨B1,1,none⟩ (.slice none 0 0)).cell? ⟨B1,1,none⟩=some (.slice none 0 0)∧Below W.heap.size W ((w'.setCell ⟨B1,0,none⟩ (.slice none 0 0)).setCell ⟨B1,1,none⟩ (.slice none 0 0))):=Zh (fun w' q=>by
  obtain ⟨_,_,_,z0,z1,_⟩:=HF.out w' q
  exact ⟨by go_simp,by go_simp,(((S0.step q.below).setCell (a:=⟨B1,0,none⟩) hBW1 (.slice none 0 0)).setCell (a:=⟨B1,1,none⟩) hBW1 (.slice none 0 0)).below⟩)
 have hb0:=HB.out.stays zAz.stays S0.below
 have hu0:=HU.out.stays zAj.stays S0.below
 clear q0 q1 q2 m1 m2 p2
 go_upto_region 2 with (go_at_call 7;go_fit (zDv _ b _ ps _ hb0 hu0);rintro e w1 ⟨rfl,hb1⟩)
 have T1:=(zAD.refl w0).step hb1
 clear p0 p1 hb0 hu0 hb1
 obtain ⟨d0,d1,d2,e0,e1,e2,mb,mb1⟩:=HF.out w1 T1
 by_cases h0:zA2 (b,ps)=0
 ·have H0:=Zh h0
  rw[h0]
  obtain ⟨E2,hE2⟩:∃E2,E2=zAe n o data.length data:=⟨_,rfl⟩
  obtain ⟨SL,hSL⟩:∃SL,SL=zA4 n o data.length data:=⟨_,rfl⟩
  have HE2:=Zh hE2
  have HSL:=Zh hSL
  clear h0 hE2 hSL d2 e0 e1 e2
  have BP:=zAB w1 (.cells #[.int .i64 n,.int .i64 o,.int .i64 data.length] 49)
  have g0:(w1.alloc (.cells #[.int .i64 n,.int .i64 o,.int .i64 data.length] 49)).cell? ⟨w1.heap.size,0,none⟩=some (.int .i64 n):=by go_simp
  have g1:(w1.alloc (.cells #[.int .i64 n,.int .i64 o,.int .i64 data.length] 49)).cell? ⟨w1.heap.size,1,none⟩=some (.int .i64 o):=by go_simp
  have g2:(w1.alloc (.cells #[.int .i64 n,.int .i64 o,.int .i64 data.length] 49)).cell? ⟨w1.heap.size,2,none⟩=some (.int .i64 data.length):=by go_simp
  have T2:=T1.step BP
  go_upto_region 5 with fail
  clear d0 d1 BP
  generalize w1.alloc (.cells #[.int .i64 n,.int .i64 o,.int .i64 data.length] 49)=w2 at *
  obtain ⟨Bq,hBq⟩:∃Bq,Bq=w1.heap.size:=⟨_,rfl⟩
  rw[←hBq] at g0 g1 g2 ⊢
  have hqw:w0.heap.size≤Bq:=by rw[hBq];exact T1.2
  clear hBq
  have HG:Hid (∀w',zAD w2.heap.size w2 w'→w'.cell? ⟨Bq,0,none⟩=some (.int .i64 n)∧w'.cell? ⟨Bq,1,none⟩=some (.int .i64 o)∧w'.cell? ⟨Bq,2,none⟩=some (.int .i64 data.length)):=Zh (fun w' q=>⟨zAA q.below g0,zAA q.below g1,zAA q.below g2⟩)
  go_upto_region 6 with (go_at_call 57;go_fit (zPs n o (data.length:Int) _ data w2 (HD.out.stays (S0.step T2.below).below));rintro e w3 ⟨⟨v3,rfl,hi3⟩,hb3⟩;rw[←HE2.out])
  rw[←HSL.out] at hi3
  have T3:=T2.step hb3
  have U3:=(zAD.refl w2).step hb3
  obtain ⟨a3,c3,rfl,hc3,⟨hm3,_,_⟩,_⟩:=hi3.opened
  clear g0 g1 g2 hb3
  obtain ⟨d0,d1,d2,e0,e1,e2,mb,mb1⟩:=HF.out w3 T3
  by_cases h1:E2=0
  ·have H1:Hid (zAe n o data.length data=0):=Zh (by rw[←HE2.out];exact h1)
   subst h1
   obtain ⟨E3,hE3⟩:∃E3,E3=zBz b (zB9 data pr n o):=⟨_,rfl⟩
   have HE3:=Zh hE3
   clear hE3
   go_upto_region 9 with fail
   obtain ⟨r0,r1,r2⟩:=HG.out w3 U3
   have hil:I64 (data.length:Int):=⟨by omega,by omega⟩
   have hvx:zE3 w3 (.agg #[.slice ap pr.length cp,.int .i64 n,.int .i64 o,.int .i64 data.length]) (zB9 data pr n o):=⟨_,rfl,HP.out.stays (S0.step T3.below).below,hn,ho,hil⟩
   have hb3:=HB.out.stays zAz.stays (S0.step T3.below).below
   have f20:=d2 0
   go_upto_region 10 with (go_at_call 58;go_fit (zTl _ _ b (zB9 data pr n o) w3 hb3 hvx);rintro e w4 ⟨⟨v4,rfl,hi4⟩,hb4⟩;rw[←HE3.out];obtain ⟨a4,c4,rfl,_⟩:=hi4.opened;have k0:=zAA hb4 d0;have k1:=zAE hb4 d0 f20)
   have hd5:=zAn w4 B 0 (.slice a4 (zFC b (zB9 data pr n o)).length c4)
   have T4:=T3.step hb4
   have S5:=(S0.step T4.below).setCell (a:=⟨B,0,none⟩) hBW (.slice a4 (zFC b (zB9 data pr n o)).length c4)
   have mb4:=mb.stays hb4 (zAH d0)
   have mb14:=mb1.stays hb4 (zAH e0)
   have mb15:=mb14.off hd5 (Nat.lt_of_lt_of_le (zAH e0) hb4.size) (fun e=>hBB e)
   have hi5:=hi4.offBox mb4 hd5
   have hs5:=(zAs hi3 hb4).offBox mb4 hd5
   have j0:(w4.setCell ⟨B,0,none⟩ (.slice a4 (zFC b (zB9 data pr n o)).length c4)).cell? ⟨B,0,none⟩=some (.slice a4 (zFC b (zB9 data pr n o)).length c4):=by go_simp
   have x1:=zAA hb4 d1
   have x2:=zAA hb4 e0
   have x3:=zAA hb4 e1
   have x4:∀j,w4.frozen? ⟨B1,j,none⟩=false:=fun j=>(hb4.frozen (p:=⟨B1,j,none⟩) (show B1<w3.heap.size from zAH e0)).trans (e2 j)
   have y1:(w4.setCell ⟨B,0,none⟩ (.slice a4 (zFC b (zB9 data pr n o)).length c4)).cell? ⟨B,1,none⟩=some (.slice a' ps.length c'):=by go_simp
   have y2:(w4.setCell ⟨B,0,none⟩ (.slice a4 (zFC b (zB9 data pr n o)).length c4)).cell? ⟨B1,0,none⟩=some (.slice none 0 0):=by go_simp
   have y3:(w4.setCell ⟨B,0,none⟩ (.slice a4 (zFC b (zB9 data pr n o)).length c4)).cell? ⟨B1,1,none⟩=some (.slice none 0 0):=by go_simp
   have y4:∀j,(w4.setCell ⟨B,0,none⟩ (.slice a4 (zFC b (zB9 data pr n o)).length c4)).frozen? ⟨B1,j,none⟩=false:=fun j=>by rw[World.frozen?_setCell];exact x4 j
   have hu5:=HU.out.stays zAj.stays S5.below
   clear d0 d1 d2 e0 e1 e2 r0 r1 r2 k0 k1 x1 x2 x3 x4 hb4 hi4 hb3 hvx mb4 mb14 mb mb1 hd5 T4 hi3
   generalize w4.setCell ⟨B,0,none⟩ (.slice a4 (zFC b (zB9 data pr n o)).length c4)=w5 at *
   have f0:=y4 0
   have f1:=y4 1
   by_cases h3:E3=0
   ·have H3:Hid (zBz b (zB9 data pr n o)=0):=Zh (by rw[←HE3.out];exact h3)
    subst h3
    have HS:Hid (zEK (b,ps) data pr n o=zF8 (zFC b (zB9 data pr n o),ps) b.length SL∧zD5 (b,ps) data pr n o=zGk (zFC b (zB9 data pr n o),ps) b.length SL):=Zh (by rw[HSL.out];exact zI4 H0.out H1.out H3.out)
    have hpl:=zRE (x:=zB9 data pr n o) H0.out H3.out
    have hbl:I64 (b.length:Int):=⟨by omega,by omega⟩
    generalize zFC b (zB9 data pr n o)=b2 at *
    have HGV:=Zh (zMi _ _ _ b2 ps (b.length:Int) SL w5 hi5 hu5 hs5 hbl hpl)
    generalize zF8 (b2,ps) (b.length:Int) SL=E at *
    generalize zGk (b2,ps) (b.length:Int) SL=C at *
    clear hi5 hu5 hs5 hpl
    go_wp2_with (go_at_call 59;go_fit HGV.out;rintro e w6 ⟨⟨u1,u2,rfl,hv6,hp6⟩,hb6⟩;obtain ⟨a6,c6,rfl,_⟩:=hv6.opened;obtain ⟨a7,c7,rfl,_⟩:=hp6.opened;have z0:=zAA hb6 y2;have z1:=zAA hb6 y3;have z2:=zAE hb6 y2 f0;have z3:=zAE hb6 y3 f1;have mb6:=mb15.stays hb6 (zAH y2);have g0:((w6.setCell ⟨B1,0,none⟩ (.slice a6 C.1.length c6)).setCell ⟨B1,1,none⟩ (.slice a7 C.2.length c7)).cell? ⟨B1,0,none⟩=some (.slice a6 C.1.length c6):=(by go_simp);have g1:((w6.setCell ⟨B1,0,none⟩ (.slice a6 C.1.length c6)).setCell ⟨B1,1,none⟩ (.slice a7 C.2.length c7)).cell? ⟨B1,1,none⟩=some (.slice a7 C.2.length c7):=(by go_simp))
    have hd7:=(zAn w6 B1 0 (.slice a6 C.1.length c6)).trans (zAn _ B1 1 (.slice a7 C.2.length c7))
    have S7:=((S5.step hb6).setCell (a:=⟨B1,0,none⟩) hBW1 (.slice a6 C.1.length c6)).setCell (a:=⟨B1,1,none⟩) hBW1 (.slice a7 C.2.length c7)
    have hv7:=hv6.offBox mb6 hd7
    have hp7:=hp6.offBox mb6 hd7
    exact bodyPost_ret (v:=.tuple #[.agg #[.slice a6 C.1.length c6,.slice a7 C.2.length c7],.int .i64 E]) (by simp[results,Tryz.results30,go_sem,g0,g1]) rfl ⟨⟨_,_,zEF HS.out.1.symm,by rw[HS.out.2];exact hv7,by rw[HS.out.2];exact hp7⟩,S7.below⟩
   ·have HS:Hid (zEK (b,ps) data pr n o=E3∧zD5 (b,ps) data pr n o=([],[])):=Zh (by rw[HE3.out];exact zJX H0.out H1.out (by rw[←HE3.out];exact h3))
    have hne:(E3 != 0)=true:=by simpa using h3
    have v0:((w5.setCell ⟨B1,0,none⟩ (.slice none 0 0)).setCell ⟨B1,1,none⟩ (.slice none 0 0)).cell? ⟨B1,0,none⟩=some (.slice none 0 0):=by go_simp
    have v1:((w5.setCell ⟨B1,0,none⟩ (.slice none 0 0)).setCell ⟨B1,1,none⟩ (.slice none 0 0)).cell? ⟨B1,1,none⟩=some (.slice none 0 0):=by go_simp
    have S7:=(S5.setCell (a:=⟨B1,0,none⟩) hBW1 (.slice none 0 0)).setCell (a:=⟨B1,1,none⟩) hBW1 (.slice none 0 0)
    clear hi5 hu5 hs5 y4 h3
    go_wp2_with fail
    exact bodyPost_ret (v:=.tuple #[.agg #[.slice none 0 0,.slice none 0 0],.int .i64 E3]) (by simp[results,Tryz.results30,go_sem,v0,v1]) rfl ⟨⟨_,_,zEF HS.out.1.symm,by rw[HS.out.2];exact zAZ.nil _,by rw[HS.out.2];exact zAZ.nil _⟩,S7.below⟩
  ·have HS:Hid (zEK (b,ps) data pr n o=E2∧zD5 (b,ps) data pr n o=([],[])):=Zh (by
    have h:=HE2.out
    unfold zEK zD5
    rw[if_neg (by simpa using H0.out),if_pos (by rw[←h];exact h1),if_pos (Or.inr (Or.inl (by rw[←h];exact h1)))]
    exact ⟨h.symm,rfl⟩)
   have hne:(E2 != 0)=true:=by simpa using h1
   obtain ⟨z0,z1,z2⟩:=HNO.out w3 T3
   have f0:=e2 0
   have f1:=e2 1
   have HZ:=Zh z2
   clear d0 d1 d2 e2 z2 h1
   go_wp2_with fail
   exact bodyPost_ret (v:=.tuple #[.agg #[.slice none 0 0,.slice none 0 0],.int .i64 E2]) (by simp[results,Tryz.results30,go_sem,z0,z1]) rfl ⟨⟨_,_,zEF HS.out.1.symm,by rw[HS.out.2];exact zAZ.nil _,by rw[HS.out.2];exact zAZ.nil _⟩,HZ.out⟩
 ·have HS:Hid (zEK (b,ps) data pr n o=zA2 (b,ps)∧zD5 (b,ps) data pr n o=([],[])):=Zh (zJo h0)
  have hne:(zA2 (b,ps) != 0)=true:=by simpa using h0
  generalize zA2 (b,ps)=E at *
  obtain ⟨z0,z1,z2⟩:=HNO.out w1 T1
  have f0:=e2 0
  have f1:=e2 1
  have HZ:=Zh z2
  clear d0 d1 d2 e2 z2 h0
  go_wp2_with fail
  exact bodyPost_ret (v:=.tuple #[.agg #[.slice none 0 0,.slice none 0 0],.int .i64 E]) (by simp[results,Tryz.results30,go_sem,z0,z1]) rfl ⟨⟨_,_,zEF HS.out.1.symm,by rw[HS.out.2];exact zAZ.nil _,by rw[HS.out.2];exact zAZ.nil _⟩,HZ.out⟩
end Go.Proofs.YthgmphbkkojaoaaGreat
