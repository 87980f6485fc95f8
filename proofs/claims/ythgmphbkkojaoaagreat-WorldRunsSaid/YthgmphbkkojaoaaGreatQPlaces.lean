/-
  The walks of what checks a peer: the program's and the reference's. The walk of what checks a peer: the reference's. The walks of what checks peers: the program's and the reference's. Who gets a share, in plain lists: sorted, and as the reference gathers them. Meshes: what is there of a version, what is restored.
-/
import Derived.Test.YthgmphbkkojaoaaGreatQPeers
import Derived.Test.YthgmphbkkojaoaaGreatQShares
set_option maxHeartbeats 4000000
namespace Go.Proofs.YthgmphbkkojaoaaGreat
set_option linter.unusedSectionVars false
variable [Zn]
open Go.RowKit
theorem zNR{b:List Ver}{n N:Int}{l:List Int}{k:Nat}{v:Ver}(hn:n=k)(hv:b[k]?=some v):zBt b (n,N,l)=zDy v.2.1 v.2.2.1 v.2.2.2 N l:=by
 subst hn
 simp[zBt,zAO,hv]
def zHi(l:List Kp):Nat→Int
 | 0 => -1
 | m+1=>((l[m]?).map (·.1)).getD 0
theorem zHZ{l:List Kp}{m:Nat}{x:Kp}(h:l[m]?=some x):zHi l (m+1)=x.1:=by simp[zHi,h]
set_option maxRecDepth 100000 in
theorem zC7(vb:Value)(b:List Ver)(u:Value)(p:Pr)(W:World)(hb:zAR W vb b)(hu:zAl W u p.2.2)(hi:I64 p.2.1) :
  Calls Tryz.prog 77 #[.agg #[vb],.agg #[.bool p.1,.int .i64 p.2.1,u]] W fun e w'=>e=.returned (.int .i64 (zBG b p))∧Below W.heap.size W w':=by
 obtain ⟨t,r,l⟩:=p
 obtain ⟨ab,cb,rfl,hcb,⟨hbm,hbc,_⟩,_⟩:=hb.opened
 obtain ⟨al,cl,rfl,hcl,⟨hlm,hlc,_⟩,_⟩:=hu.opened
 have S0:=((zAD.refl W).alloc (.cells #[.slice ab b.length cb] 24)).alloc (.cells #[.bool t,.int .i64 r,.slice al l.length cl] 62)
 have hb0:=hb.stays zAz.stays S0.below
 have hu0:=hu.stays zAf.stays S0.below
 obtain ⟨w0,hw0⟩:∃w0,w0=(W.alloc (.cells #[.slice ab b.length cb] 24)).alloc (.cells #[.bool t,.int .i64 r,.slice al l.length cl] 62):=⟨_,rfl⟩
 have c0:w0.cell? ⟨W.heap.size,0,none⟩=some (.slice ab b.length cb):=by rw[hw0];go_simp
 have c1:w0.cell? ⟨W.heap.size+1,0,none⟩=some (.bool t):=by rw[hw0];go_simp
 have c2:w0.cell? ⟨W.heap.size+1,1,none⟩=some (.int .i64 r):=by rw[hw0];go_simp
 have c3:w0.cell? ⟨W.heap.size+1,2,none⟩=some (.slice al l.length cl):=by rw[hw0];go_simp
 rw[←hw0] at S0 hb0 hu0
 have HW:=Zh hw0
 clear hw0 hb hu
 obtain ⟨B,hB⟩:∃B,B=W.heap.size:=⟨_,rfl⟩
 obtain ⟨B1,hB1⟩:∃B1,B1=W.heap.size+1:=⟨_,rfl⟩
 rw[←hB1] at c1 c2 c3
 rw[←hB] at c0
 have HB:=Zh hB
 have HB1:=Zh hB1
 clear hB hB1
 have l0:=zAH c0
 have l1:=zAH c1
 go_enter Tryz.func77,Tryz.ntmps77
 go_wp2_with fail
 rw[←HW.out,←HB1.out,←HB.out]
 refine (zBQ _ b _ hb0).mono ?_
 rintro e w1 ⟨rfl,hb1⟩
 have T1:=(zAD.refl w0).step hb1
 have HVB:=Zh (hb0.stays zAz.stays hb1)
 have HVK:=Zh (hu0.stays zAf.stays hb1)
 have d0:=zAA hb1 c0
 have d1:=zAA hb1 c1
 have d2:=zAA hb1 c2
 have d3:=zAA hb1 c3
 clear c0 c1 c2 c3 hb1 l0 l1 hb0 hu0
 by_cases h0:zAt b=0
 ·have H0:=Zh h0
  have ht:=(zBj.1 h0).top
  rw[h0]
  clear h0
  by_cases hr:r<0∨20<r
  ·have H:=Zh (show zBG b (t,r,l)=2 by unfold zBG;rw[if_neg (by simpa using H0.out),if_pos hr])
   have hr2:r<0∨(0≤r∧20<r):=by omega
   clear hr
   rcases hr2 with hr|⟨hr,hr'⟩
   all_goals
    go_wp2_with fail
    go_ret
    exact ⟨zAL H.out.symm,(S0.step T1.below).below⟩
  ·have hr0:0≤r:=by omega
   have hr1:r≤20:=by omega
   by_cases hf:r<(l.length:Int)
   ·have H:=Zh (show zBG b (t,r,l)=8 by unfold zBG;rw[if_neg (by simpa using H0.out),if_neg hr,if_pos hf])
    clear hr
    go_wp2_with fail
    go_ret
    exact ⟨zAL H.out.symm,(S0.step T1.below).below⟩
   ·have H:=Zh (show zBG b (t,r,l)=zBh b (-1) l by unfold zBG;rw[if_neg (by simpa using H0.out),if_neg hr,if_neg hf])
    have hl20:l.length≤20:=by omega
    have hf':(l.length:Int)≤r:=by omega
    have HS:Hid (∀w',zAD w1.heap.size w1 w'→w'.cell? ⟨B,0,none⟩=some (.slice ab b.length cb)∧w'.cell? ⟨B1,2,none⟩=some (.slice al l.length cl)):=Zh (fun w' q=>⟨zAA q.below d0,zAA q.below d3⟩)
    clear hr hf
    go_wp2_with fail
    go_loopw[31] (fun i wr=>∃k:Nat,k≤l.length∧i=.int .i64 k∧zAD w1.heap.size w1 wr∧zBh b (zHi l k) (l.drop k)=zBh b (-1) l) (fun i _=>l.length - (intOf i).toNat)
    case atStart=>exact ⟨0,by omega,rfl,zAD.refl w1,rfl⟩
    case round =>
     obtain ⟨k,hk,rfl,hS,hq⟩:=hrel
     have HQ:=Zh hq
     clear hq d0 d1 d2 d3
     by_cases hlt:k<l.length
     ·have hx:l[k]?=some l[k]:=List.getElem?_eq_getElem hlt
      obtain ⟨g,off,u,cu,rfl,k0,k1,k2,hp,i0,i1⟩:=zCK (HVK.out.later zAf.stays (zAF.old hS.below _)) hx
      have HD:=Zh (List.drop_eq_getElem_cons hlt)
      generalize l[k]=x at *
      have HLK:=Zh (zHZ hx)
      have S1:=hS.alloc (.cells #[.int .i64 x.1,.int .i64 x.2.1,.slice u x.2.2.length cu] 66)
      have S1':=(zAD.refl wr).alloc (.cells #[.int .i64 x.1,.int .i64 x.2.1,.slice u x.2.2.length cu] 66)
      obtain ⟨d0,d3⟩:=HS.out _ S1
      obtain ⟨e0,e3⟩:=HS.out _ hS
      have HPI:=Zh (hp.stays S1'.below)
      clear hp hx
      by_cases hw:x.1<0∨(b.length:Int)≤x.1
      ·have HH:=Zh (show zBh b (-1) l=4 by rw[←HQ.out,HD.out];unfold zBh;rw[if_pos hw])
       have hw2:x.1<0∨(0≤x.1∧(b.length:Int)≤x.1):=by omega
       clear hw
       rcases hw2 with hw|⟨hw,hw'⟩
       all_goals
        go_wp2_with fail
        go_ret
        exact ⟨zAL (by rw[H.out,HH.out]),(S0.step (T1.step S1.below).below).below⟩
      ·have hn0:0≤x.1:=by omega
       have hn1:x.1<(b.length:Int):=by omega
       have HW2:=Zh hw
       clear hw
       have hs1:(k:Int)<(l.length:Int):=by omega
       obtain ⟨f0,f1,f2⟩:(wr.alloc (.cells #[.int .i64 x.1,.int .i64 x.2.1,.slice u x.2.2.length cu] 66)).cell? ⟨wr.heap.size,0,none⟩=some (.int .i64 x.1)∧(wr.alloc (.cells #[.int .i64 x.1,.int .i64 x.2.1,.slice u x.2.2.length cu] 66)).cell? ⟨wr.heap.size,1,none⟩=some (.int .i64 x.2.1)∧(wr.alloc (.cells #[.int .i64 x.1,.int .i64 x.2.1,.slice u x.2.2.length cu] 66)).cell? ⟨wr.heap.size,2,none⟩=some (.slice u x.2.2.length cu):=⟨by go_simp,by go_simp,by go_simp⟩
       go_upto_region 13 with fail
       clear k0 k1 k2 e0 e3 hS
       obtain ⟨Bk,hBk⟩:∃Bk,Bk=wr.heap.size:=⟨_,rfl⟩
       rw[←hBk] at f0 f1 f2 ⊢
       clear hBk S1'
       generalize wr.alloc (.cells #[.int .i64 x.1,.int .i64 x.2.1,.slice u x.2.2.length cu] 66)=w2 at *
       obtain ⟨n,hn⟩:=Int.eq_ofNat_of_zero_le hn0
       have hnb:n<b.length:=by omega
       have hv:b[n]?=some b[n]:=List.getElem?_eq_getElem hnb
       obtain ⟨gv,ov,uv,cv,hab,m0,m1,m2,m3,hpv,iv0,iv1,iv2⟩:=zB1 (HVB.out.later zAz.stays (zAF.old S1.below _)) hv
       have HSV:=Zh (show zBt b x=zDy (b[n]).2.1 (b[n]).2.2.1 (b[n]).2.2.2 x.2.1 x.2.2 from zNR hn hv)
       generalize b[n]=y at *
       subst hab
       clear hv hpv m0
       have HSQ:Hid (∀w',zAD w2.heap.size w2 w'→w'.cell? ⟨B,0,none⟩=some (.slice (some ⟨gv,ov,none⟩) b.length cb)∧w'.cell? ⟨Bk,0,none⟩=some (.int .i64 (n:Int))∧w'.cell? ⟨Bk,1,none⟩=some (.int .i64 x.2.1)∧w'.cell? ⟨Bk,2,none⟩=some (.slice u x.2.2.length cu)∧w'.cell? ⟨gv,ov+n*4+1,none⟩=some (.int .i64 y.2.1)∧w'.cell? ⟨gv,ov+n*4+1+1,none⟩=some (.int .i64 y.2.2.1)∧w'.cell? ⟨gv,ov+n*4+1+2,none⟩=some (.int .i64 y.2.2.2)):=
        Zh (fun w' q=>⟨zAA q.below d0,by rw[←hn];exact zAA q.below f0,zAA q.below f1,zAA q.below f2,zAA q.below m1,zAA q.below m2,zAA q.below m3⟩)
       clear m1 m2 m3
       have hcase:(k=0∧Hid (¬x.1≤zHi l k))∨∃m z,k=m+1∧w2.cell? ⟨g,off+m*3,none⟩=some (.int .i64 z)∧I64 z∧Hid (zHi l k=z):=by
        cases k with
        | zero=>exact Or.inl ⟨rfl,Zh (by simp[zHi];omega)⟩
        | succ m =>
         have hy:l[m]?=some l[m]:=List.getElem?_eq_getElem (by omega)
         obtain ⟨g',off',u',cu',e1,j0,_,_,_,j1,_⟩:=zCK (HVK.out.later zAf.stays (zAF.old S1.below _)) hy
         cases e1
         exact Or.inr ⟨m,_,rfl,j0,j1,Zh (zHZ hy)⟩
       have hgo:(Hid (x.1≤zHi l k)∧∃m z,k=m+1∧w2.cell? ⟨g,off+m*3,none⟩=some (.int .i64 z)∧x.1≤z)∨(Hid (¬x.1≤zHi l k)∧(k=0∨∃m z,k=m+1∧w2.cell? ⟨g,off+m*3,none⟩=some (.int .i64 z)∧z<x.1)):=by
        rcases hcase with ⟨h1,h2⟩|⟨m,z,h1,h2,_,h4⟩
        ·exact Or.inr ⟨h2,Or.inl h1⟩
        ·by_cases hz:x.1≤z
         ·exact Or.inl ⟨Zh (by rw[h4.out];exact hz),m,z,h1,h2,hz⟩
         ·exact Or.inr ⟨Zh (by rw[h4.out];exact hz),Or.inr ⟨m,z,h1,h2,by omega⟩⟩
       clear hcase
       rcases hgo with ⟨HLE,m,z,rfl,j0,hle⟩|⟨HGT,hgo⟩
       ·have HH:=Zh (show zBh b (-1) l=5 by rw[←HQ.out,HD.out];unfold zBh;rw[if_neg HW2.out,if_pos HLE.out])
        have hw1:IntKind.i64.wrap (((m+1:Nat):Int) - 1)=(m:Int):=by rw[IntWalk.i64_in _ (by omega)];omega
        have hw3:(0:Int)≤(m:Int):=by omega
        have hw4:(m:Int)<(l.length:Int):=by omega
        have hw5:(0:Int)<((m+1:Nat):Int):=by omega
        go_wp2_with (go_quiet (fail))
        go_ret
        exact ⟨zAL (by rw[H.out,HH.out]),(S0.step (T1.step (zBL S1 nq).below).below).below⟩
       ·have HH:=Zh (show zBt b x=0→zBh b (zHi l (k+1)) (l.drop (k+1))=zBh b (-1) l from fun h=>by rw[←HQ.out,HD.out,HLK.out];conv=>rhs;unfold zBh;rw[if_neg HW2.out,if_neg HGT.out,if_neg (by simpa using h)])
        have HN:=Zh (show zBt b x≠0→zBh b (-1) l=zBt b x from fun h=>by rw[←HQ.out,HD.out];unfold zBh;rw[if_neg HW2.out,if_neg HGT.out,if_pos h])
        rcases hgo with hk0|⟨m,z,hkm,j0,hle⟩
        case' inl=>have hk1:¬(0<(k:Int)):=by omega
        case' inr =>
         have hw1:IntKind.i64.wrap ((k:Int) - 1)=(m:Int):=by rw[IntWalk.i64_in _ (by omega)];omega
         have hw3:(0:Int)≤(m:Int):=by omega
         have hw4:(m:Int)<(l.length:Int):=by omega
         have hw5:(0:Int)<(k:Int):=by omega
         have hle':¬x.1≤z:=by omega
        all_goals
         go_upto_region 13 with fail
         go_wp2_with (go_quiet (fail))
         have q2:=zBL (zAD.refl w2) nq
         have S3:=zBL S1 nq
         generalize w2.drewN nq=wq at *
         have sq:=HSQ.out wq.drew q2.drew
         clear d0 d3 f0 f1 f2
         go_upto_region 15 with fail
         go_region_held3 (fun w'=>w'.cell? ⟨B,0,none⟩=some (.slice (some ⟨gv,ov,none⟩) b.length cb)∧w'.cell? ⟨Bk,0,none⟩=some (.int .i64 (n:Int))∧w'.cell? ⟨Bk,1,none⟩=some (.int .i64 x.2.1)∧w'.cell? ⟨Bk,2,none⟩=some (.slice u x.2.2.length cu)∧w'.cell? ⟨gv,ov+n*4+1,none⟩=some (.int .i64 y.2.1)∧w'.cell? ⟨gv,ov+n*4+1+1,none⟩=some (.int .i64 y.2.2.1)∧w'.cell? ⟨gv,ov+n*4+1+2,none⟩=some (.int .i64 y.2.2.2)) (first | exact sq | exact s5) (first
          | (go_at_call 101;refine (zI1 _ _ _ _ _ x.2.2 _ (HPI.out.stays q2.drew.below)).mono ?_;rintro e w5 ⟨rfl,hb5⟩;rw[←HSV.out];have q5:=q2.drew.step hb5;have s5:=HSQ.out w5 q5))
         all_goals
          have S5:=S3.drew.step hb5
          clear sq s5 hb5
          by_cases hz:zBt b x=0
          ·have HK2:=Zh (HH.out hz)
           rw[hz]
           clear hz
           go_wp2_with fail
           go_roundw
           case rel=>exact ⟨k+1,by omega,by go_num,S5,HK2.out⟩
           case measure=>simp[intOf];omega
          ·have HK2:=Zh (HN.out hz)
           have hne:(zBt b x != 0)=true:=by simpa using hz
           clear hz
           go_wp2_with fail
           go_ret
           exact ⟨zAL (by rw[H.out,HK2.out]),(S0.step (T1.step S5.below).below).below⟩
     ·obtain rfl:l.length=k:=by omega
      go_wp2_with fail
      go_ret
      refine ⟨zAL ?_,(S0.step (T1.step hS.below).below).below⟩
      rw[H.out,←HQ.out,List.drop_length]
      rfl
 ·have H:=Zh (show zBG b (t,r,l)=zAt b by unfold zBG;rw[if_pos h0])
  have hne:(zAt b != 0)=true:=by simpa using h0
  clear h0
  go_wp2_with fail
  go_ret
  exact ⟨zAL H.out.symm,(S0.step T1.below).below⟩
set_option maxRecDepth 100000 in
theorem zEw(vb:Value)(b:List Ver)(u:Value)(p:Pr)(W:World)(hb:zAR W vb b)(hu:zAl W u p.2.2)(hi:I64 p.2.1) :
  Calls Tryz.prog 51 #[.agg #[vb],.agg #[.bool p.1,.int .i64 p.2.1,u]] W fun e w'=>e=.returned (.int .i64 (zBG b p))∧Below W.heap.size W w':=by
 obtain ⟨t,r,l⟩:=p
 obtain ⟨ab,cb,rfl,hcb,⟨hbm,hbc,_⟩,_⟩:=hb.opened
 obtain ⟨al,cl,rfl,hcl,⟨hlm,hlc,_⟩,_⟩:=hu.opened
 have S0:=((zAD.refl W).alloc (.cells #[.slice ab b.length cb] 24)).alloc (.cells #[.bool t,.int .i64 r,.slice al l.length cl] 62)
 have hb0:=hb.stays zAz.stays S0.below
 have hu0:=hu.stays zAf.stays S0.below
 obtain ⟨w0,hw0⟩:∃w0,w0=(W.alloc (.cells #[.slice ab b.length cb] 24)).alloc (.cells #[.bool t,.int .i64 r,.slice al l.length cl] 62):=⟨_,rfl⟩
 have c0:w0.cell? ⟨W.heap.size,0,none⟩=some (.slice ab b.length cb):=by rw[hw0];go_simp
 have c1:w0.cell? ⟨W.heap.size+1,0,none⟩=some (.bool t):=by rw[hw0];go_simp
 have c2:w0.cell? ⟨W.heap.size+1,1,none⟩=some (.int .i64 r):=by rw[hw0];go_simp
 have c3:w0.cell? ⟨W.heap.size+1,2,none⟩=some (.slice al l.length cl):=by rw[hw0];go_simp
 rw[←hw0] at S0 hb0 hu0
 have HW:=Zh hw0
 clear hw0 hb hu
 obtain ⟨B,hB⟩:∃B,B=W.heap.size:=⟨_,rfl⟩
 obtain ⟨B1,hB1⟩:∃B1,B1=W.heap.size+1:=⟨_,rfl⟩
 rw[←hB1] at c1 c2 c3
 rw[←hB] at c0
 have HB:=Zh hB
 have HB1:=Zh hB1
 clear hB hB1
 have l0:=zAH c0
 have l1:=zAH c1
 go_enter Tryz.func51,Tryz.ntmps51
 go_wp2_with fail
 rw[←HW.out,←HB1.out,←HB.out]
 refine (zDs _ b _ hb0).mono ?_
 rintro e w1 ⟨rfl,hb1⟩
 have T1:=(zAD.refl w0).step hb1
 have HVB:=Zh (hb0.stays zAz.stays hb1)
 have HVK:=Zh (hu0.stays zAf.stays hb1)
 have d0:=zAA hb1 c0
 have d1:=zAA hb1 c1
 have d2:=zAA hb1 c2
 have d3:=zAA hb1 c3
 clear c0 c1 c2 c3 hb1 l0 l1 hb0 hu0
 by_cases h0:zAt b=0
 ·have H0:=Zh h0
  have ht:=(zBj.1 h0).top
  rw[h0]
  clear h0
  by_cases hr:r<0∨20<r
  ·have H:=Zh (show zBG b (t,r,l)=2 by unfold zBG;rw[if_neg (by simpa using H0.out),if_pos hr])
   have hin:=zHJ (n:=r) (a:=0) (b:=20) hr
   clear hr
   go_wp2_with (go_at_call 37;refine (zCS _ _ _ _).mono ?_;rintro e w' ⟨rfl,rfl⟩;rw[hin])
   go_ret
   exact ⟨zAL H.out.symm,(S0.step T1.below).below⟩
  ·have hr0:0≤r:=by omega
   have hr1:r≤20:=by omega
   have hin:=zB5 (n:=r) (a:=0) (b:=20) hr0 hr1
   by_cases hf:r<(l.length:Int)
   ·have H:=Zh (show zBG b (t,r,l)=8 by unfold zBG;rw[if_neg (by simpa using H0.out),if_neg hr,if_pos hf])
    clear hr
    go_wp2_with (go_at_call 37;refine (zCS _ _ _ _).mono ?_;rintro e w' ⟨rfl,rfl⟩;rw[hin])
    go_ret
    exact ⟨zAL H.out.symm,(S0.step T1.below).below⟩
   ·have H:=Zh (show zBG b (t,r,l)=zBh b (-1) l by unfold zBG;rw[if_neg (by simpa using H0.out),if_neg hr,if_neg hf])
    have hl20:l.length≤20:=by omega
    have hf':(l.length:Int)≤r:=by omega
    have HS:Hid (∀w',zAD w1.heap.size w1 w'→w'.cell? ⟨B,0,none⟩=some (.slice ab b.length cb)∧w'.cell? ⟨B1,2,none⟩=some (.slice al l.length cl)):=Zh (fun w' q=>⟨zAA q.below d0,zAA q.below d3⟩)
    clear hr hf
    go_wp2_with (go_at_call 37;refine (zCS _ _ _ _).mono ?_;rintro e w' ⟨rfl,rfl⟩;rw[hin])
    go_loopw[28,6] (fun i z wr=>∃k:Nat,k≤l.length∧i=.int .i64 k∧z=.int .i64 (zHi l k)∧zAD w1.heap.size w1 wr∧zBh b (zHi l k) (l.drop k)=zBh b (-1) l) (fun i _ _=>l.length - (intOf i).toNat)
    case atStart=>exact ⟨0,by omega,rfl,rfl,zAD.refl w1,rfl⟩
    case round =>
     obtain ⟨k,hk,rfl,rfl,hS,hq⟩:=hrel
     have HQ:=Zh hq
     clear hq d0 d1 d2 d3
     by_cases hlt:k<l.length
     ·have hx:l[k]?=some l[k]:=List.getElem?_eq_getElem hlt
      obtain ⟨g,off,u,cu,rfl,k0,k1,k2,hp,i0,i1⟩:=zCK (HVK.out.later zAf.stays (zAF.old hS.below _)) hx
      have HD:=Zh (List.drop_eq_getElem_cons hlt)
      generalize l[k]=x at *
      have HLK:=Zh (zHZ hx)
      have S1:=hS.alloc (.cells #[.int .i64 x.1,.int .i64 x.2.1,.slice u x.2.2.length cu] 66)
      have S1':=(zAD.refl wr).alloc (.cells #[.int .i64 x.1,.int .i64 x.2.1,.slice u x.2.2.length cu] 66)
      obtain ⟨d0,d3⟩:=HS.out _ S1
      obtain ⟨e0,e3⟩:=HS.out _ hS
      have HPI:=Zh (hp.stays S1'.below)
      clear hp hx
      by_cases hw:x.1<0∨(b.length:Int)≤x.1
      ·have HH:=Zh (show zBh b (-1) l=4 by rw[←HQ.out,HD.out];unfold zBh;rw[if_pos hw])
       have hw2:x.1<0∨(0≤x.1∧(b.length:Int)≤x.1):=by omega
       clear hw
       rcases hw2 with hw|⟨hw,hw'⟩
       all_goals
        go_wp2_with fail
        go_ret
        exact ⟨zAL (by rw[H.out,HH.out]),(S0.step (T1.step S1.below).below).below⟩
      ·have hn0:0≤x.1:=by omega
       have hn1:x.1<(b.length:Int):=by omega
       have HW2:=Zh hw
       clear hw
       have hs1:(k:Int)<(l.length:Int):=by omega
       obtain ⟨f0,f1,f2⟩:(wr.alloc (.cells #[.int .i64 x.1,.int .i64 x.2.1,.slice u x.2.2.length cu] 66)).cell? ⟨wr.heap.size,0,none⟩=some (.int .i64 x.1)∧(wr.alloc (.cells #[.int .i64 x.1,.int .i64 x.2.1,.slice u x.2.2.length cu] 66)).cell? ⟨wr.heap.size,1,none⟩=some (.int .i64 x.2.1)∧(wr.alloc (.cells #[.int .i64 x.1,.int .i64 x.2.1,.slice u x.2.2.length cu] 66)).cell? ⟨wr.heap.size,2,none⟩=some (.slice u x.2.2.length cu):=⟨by go_simp,by go_simp,by go_simp⟩
       go_upto_region 14 with fail
       clear k0 k1 k2 e0 e3 hS
       obtain ⟨Bk,hBk⟩:∃Bk,Bk=wr.heap.size:=⟨_,rfl⟩
       rw[←hBk] at f0 f1 f2 ⊢
       clear hBk S1'
       generalize wr.alloc (.cells #[.int .i64 x.1,.int .i64 x.2.1,.slice u x.2.2.length cu] 66)=w2 at *
       obtain ⟨n,hn⟩:=Int.eq_ofNat_of_zero_le hn0
       have hnb:n<b.length:=by omega
       have hv:b[n]?=some b[n]:=List.getElem?_eq_getElem hnb
       obtain ⟨gv,ov,uv,cv,hab,m0,m1,m2,m3,hpv,iv0,iv1,iv2⟩:=zB1 (HVB.out.later zAz.stays (zAF.old S1.below _)) hv
       have HSV:=Zh (show zBt b x=zDy (b[n]).2.1 (b[n]).2.2.1 (b[n]).2.2.2 x.2.1 x.2.2 from zNR hn hv)
       generalize b[n]=y at *
       subst hab
       clear hv hpv m0
       have HSQ:Hid (∀w',zAD w2.heap.size w2 w'→w'.cell? ⟨B,0,none⟩=some (.slice (some ⟨gv,ov,none⟩) b.length cb)∧w'.cell? ⟨Bk,0,none⟩=some (.int .i64 (n:Int))∧w'.cell? ⟨Bk,1,none⟩=some (.int .i64 x.2.1)∧w'.cell? ⟨Bk,2,none⟩=some (.slice u x.2.2.length cu)∧w'.cell? ⟨gv,ov+n*4+1,none⟩=some (.int .i64 y.2.1)∧w'.cell? ⟨gv,ov+n*4+1+1,none⟩=some (.int .i64 y.2.2.1)∧w'.cell? ⟨gv,ov+n*4+1+2,none⟩=some (.int .i64 y.2.2.2)):=
        Zh (fun w' q=>⟨zAA q.below d0,by rw[←hn];exact zAA q.below f0,zAA q.below f1,zAA q.below f2,zAA q.below m1,zAA q.below m2,zAA q.below m3⟩)
       clear m1 m2 m3
       by_cases hle:x.1≤zHi l k
       ·have HH:=Zh (show zBh b (-1) l=5 by rw[←HQ.out,HD.out];unfold zBh;rw[if_neg HW2.out,if_pos hle])
        go_wp2_with fail
        go_ret
        exact ⟨zAL (by rw[H.out,HH.out]),(S0.step (T1.step S1.below).below).below⟩
       ·have HH:=Zh (show zBt b x=0→zBh b (zHi l (k+1)) (l.drop (k+1))=zBh b (-1) l from fun h=>by rw[←HQ.out,HD.out,HLK.out];conv=>rhs;unfold zBh;rw[if_neg HW2.out,if_neg hle,if_neg (by simpa using h)])
        have HN:=Zh (show zBt b x≠0→zBh b (-1) l=zBt b x from fun h=>by rw[←HQ.out,HD.out];unfold zBh;rw[if_neg HW2.out,if_neg hle,if_pos h])
        go_upto_region 17 with fail
        have q2:=zAD.refl w2
        have S3:=S1
        have sq:=HSQ.out w2.drew q2.drew
        clear d0 d3 f0 f1 f2 hle
        go_region_held3 (fun w'=>w'.cell? ⟨B,0,none⟩=some (.slice (some ⟨gv,ov,none⟩) b.length cb)∧w'.cell? ⟨Bk,0,none⟩=some (.int .i64 (n:Int))∧w'.cell? ⟨Bk,1,none⟩=some (.int .i64 x.2.1)∧w'.cell? ⟨Bk,2,none⟩=some (.slice u x.2.2.length cu)∧w'.cell? ⟨gv,ov+n*4+1,none⟩=some (.int .i64 y.2.1)∧w'.cell? ⟨gv,ov+n*4+1+1,none⟩=some (.int .i64 y.2.2.1)∧w'.cell? ⟨gv,ov+n*4+1+2,none⟩=some (.int .i64 y.2.2.2)) (first | exact sq | exact s5) (first
         | (go_at_call 81;refine (zGC _ _ _ _ _ x.2.2 _ (HPI.out.stays q2.drew.below)).mono ?_;rintro e w5 ⟨rfl,hb5⟩;rw[←HSV.out];have q5:=q2.drew.step hb5;have s5:=HSQ.out w5 q5))
        all_goals
         have S5:=S3.drew.step hb5
         clear sq s5 hb5
         by_cases hz:zBt b x=0
         ·have HK2:=Zh (HH.out hz)
          rw[hz]
          clear hz
          go_wp2_with fail
          go_roundw
          case rel=>exact ⟨k+1,by omega,by go_num,by rw[HLK.out,hn],S5,HK2.out⟩
          case measure=>simp[intOf];omega
         ·have HK2:=Zh (HN.out hz)
          have hne:(zBt b x != 0)=true:=by simpa using hz
          clear hz
          go_wp2_with fail
          go_ret
          exact ⟨zAL (by rw[H.out,HK2.out]),(S0.step (T1.step S5.below).below).below⟩
     ·obtain rfl:l.length=k:=by omega
      go_wp2_with fail
      go_ret
      refine ⟨zAL ?_,(S0.step (T1.step hS.below).below).below⟩
      rw[H.out,←HQ.out,List.drop_length]
      rfl
 ·have H:=Zh (show zBG b (t,r,l)=zAt b by unfold zBG;rw[if_pos h0])
  have hne:(zAt b != 0)=true:=by simpa using h0
  clear h0
  go_wp2_with fail
  go_ret
  exact ⟨zAL H.out.symm,(S0.step T1.below).below⟩
def zCM(b:List Ver):List Pr→Int
 | []=>0
 | p::r=>if zBG b p≠0 then zBG b p else zCM b r
def zAp(b:List Ver)(l:List Pr):Int:=if zAt b≠0 then zAt b else if 8<(l.length:Int) then 1 else zCM b l
theorem zME{b:List Ver}:∀{l:List Pr},zCM b l=0↔∀p∈l,zBk b p
 | []=>by simp[zCM]
 | p::r=>by
  unfold zCM
  by_cases h:zBG b p=0
  ·rw[if_neg (by simpa using h),zME (l:=r)]
   exact ⟨fun h2 q hq=>by rcases List.mem_cons.1 hq with rfl | hq;exact zDD.1 h;exact h2 q hq,fun h2 q hq=>h2 q (by simp[hq])⟩
  ·rw[if_pos h]
   exact ⟨fun h2=>absurd h2 h,fun h2=>absurd (zDD.2 (h2 p (by simp))) h⟩
theorem zAU{b:List Ver}{l:List Pr}:zAp b l=0↔zAt b=0∧l.length≤8∧∀p∈l,zBk b p:=by
 unfold zAp
 by_cases h:zAt b=0
 ·rw[if_neg (by simpa using h)]
  by_cases h2:8<(l.length:Int)
  ·rw[if_pos h2]
   exact ⟨fun e=>by simp at e,fun h3=>by omega⟩
  ·rw[if_neg h2,zME]
   exact ⟨fun h3=>⟨h,by omega,h3⟩,fun h3=>h3.2.2⟩
 ·rw[if_pos h]
  exact ⟨fun e=>absurd e h,fun h2=>absurd h2.1 h⟩
set_option maxRecDepth 100000 in
theorem zGD(vb:Value)(b:List Ver)(u:Value)(l:List Pr)(W:World)(hb:zAR W vb b)(hu:zAT W u l) :
  Calls Tryz.prog 47 #[.agg #[vb],u] W fun e w'=>e=.returned (.int .i64 (zAp b l))∧Below W.heap.size W w':=by
 obtain ⟨ab,cb,rfl,hcb,⟨hbm,hbc,_⟩,_⟩:=hb.opened
 obtain ⟨al,cl,rfl,hcl,⟨hlm,hlc,_⟩,_⟩:=hu.opened
 have S0:=(zAD.refl W).alloc (.cells #[.slice ab b.length cb] 24)
 have hb0:=hb.stays zAz.stays S0.below
 have hu0:=hu.stays zAj.stays S0.below
 have c0:(W.alloc (.cells #[.slice ab b.length cb] 24)).cell? ⟨W.heap.size,0,none⟩=some (.slice ab b.length cb):=by go_simp
 clear hb hu
 go_enter Tryz.func47,Tryz.ntmps47
 go_wp2_with fail
 generalize W.alloc (.cells #[.slice ab b.length cb] 24)=w0 at *
 obtain ⟨B,hB⟩:∃B,B=W.heap.size:=⟨_,rfl⟩
 rw[←hB] at c0 ⊢
 have HB:=Zh hB
 clear hB
 refine (zBQ _ b _ hb0).mono ?_
 rintro e w1 ⟨rfl,hb1⟩
 have T1:=(zAD.refl w0).step hb1
 have HVB:=Zh (hb0.stays zAz.stays hb1)
 have HVK:=Zh (hu0.stays zAj.stays hb1)
 have d0:=zAA hb1 c0
 clear c0 hb1 hb0 hu0
 by_cases h0:zAt b=0
 ·have H0:=Zh h0
  rw[h0]
  clear h0
  by_cases hr:8<(l.length:Int)
  ·have H:=Zh (show zAp b l=1 by unfold zAp;rw[if_neg (by simpa using H0.out),if_pos hr])
   go_wp2_with fail
   go_ret
   exact ⟨zAL H.out.symm,(S0.step T1.below).below⟩
  ·have H:=Zh (show zAp b l=zCM b l by unfold zAp;rw[if_neg (by simpa using H0.out),if_neg hr])
   have hr':(l.length:Int)≤8:=by omega
   have HS:Hid (∀w',zAD w1.heap.size w1 w'→w'.cell? ⟨B,0,none⟩=some (.slice ab b.length cb)):=Zh (fun w' q=>zAA q.below d0)
   clear hr
   go_wp2_with fail
   go_loopw[19] (fun i wr=>∃k:Nat,k≤l.length∧i=.int .i64 k∧zAD w1.heap.size w1 wr∧zCM b (l.drop k)=zCM b l) (fun i _=>l.length - (intOf i).toNat)
   case atStart=>exact ⟨0,by omega,rfl,zAD.refl w1,rfl⟩
   case round =>
    obtain ⟨k,hk,rfl,hS,hq⟩:=hrel
    have HQ:=Zh hq
    clear hq d0
    by_cases hlt:k<l.length
    ·obtain ⟨g,off,u,cu,rfl,k0,k1,k2,hp,i1⟩:=zBq (HVK.out.later zAj.stays (zAF.old hS.below _)) (List.getElem?_eq_getElem hlt)
     have HD:=Zh (List.drop_eq_getElem_cons hlt)
     generalize l[k]=p at *
     have S1:=hS.alloc (.cells #[.bool p.1,.int .i64 p.2.1,.slice u p.2.2.length cu] 62)
     have S1':=(zAD.refl wr).alloc (.cells #[.bool p.1,.int .i64 p.2.1,.slice u p.2.2.length cu] 62)
     have d0:=HS.out _ S1
     have HPI:=Zh (hp.stays zAf.stays S1'.below)
     have HVB1:=Zh (HVB.out.later zAz.stays (zAF.old S1.below _))
     clear hp S1'
     go_wp2_with fail
     refine (zC7 _ b _ p _ HVB1.out HPI.out i1).mono ?_
     rintro e w2 ⟨rfl,hb2⟩
     have S2:=S1.step hb2
     clear k0 k1 k2 hb2 d0
     by_cases hz:zBG b p=0
     ·have HH:=Zh (show zCM b (l.drop (k+1))=zCM b l by rw[←HQ.out,HD.out];conv=>rhs;unfold zCM;rw[if_neg (by simpa using hz)])
      rw[hz]
      clear hz
      go_wp2_with fail
      go_roundw
      case rel=>exact ⟨k+1,by omega,by go_num,S2,HH.out⟩
      case measure=>simp[intOf];omega
     ·have HH:=Zh (show zCM b l=zBG b p by rw[←HQ.out,HD.out];unfold zCM;rw[if_pos hz])
      have hne:(zBG b p != 0)=true:=by simpa using hz
      clear hz
      go_wp2_with fail
      go_ret
      exact ⟨zAL (by rw[H.out,HH.out]),(S0.step (T1.step S2.below).below).below⟩
    ·obtain rfl:l.length=k:=by omega
     go_wp2_with fail
     go_ret
     refine ⟨zAL ?_,(S0.step (T1.step hS.below).below).below⟩
     rw[H.out,←HQ.out,List.drop_length]
     rfl
 ·have H:=Zh (show zAp b l=zAt b by unfold zAp;rw[if_pos h0])
  have hne:(zAt b != 0)=true:=by simpa using h0
  clear h0
  go_wp2_with fail
  go_ret
  exact ⟨zAL H.out.symm,(S0.step T1.below).below⟩
set_option maxRecDepth 100000 in
theorem zJv(vb:Value)(b:List Ver)(u:Value)(l:List Pr)(W:World)(hb:zAR W vb b)(hu:zAT W u l) :
  Calls Tryz.prog 23 #[.agg #[vb],u] W fun e w'=>e=.returned (.int .i64 (zAp b l))∧Below W.heap.size W w':=by
 obtain ⟨ab,cb,rfl,hcb,⟨hbm,hbc,_⟩,_⟩:=hb.opened
 obtain ⟨al,cl,rfl,hcl,⟨hlm,hlc,_⟩,_⟩:=hu.opened
 have S0:=(zAD.refl W).alloc (.cells #[.slice ab b.length cb] 24)
 have hb0:=hb.stays zAz.stays S0.below
 have hu0:=hu.stays zAj.stays S0.below
 have c0:(W.alloc (.cells #[.slice ab b.length cb] 24)).cell? ⟨W.heap.size,0,none⟩=some (.slice ab b.length cb):=by go_simp
 clear hb hu
 go_enter Tryz.func23,Tryz.ntmps23
 go_wp2_with fail
 generalize W.alloc (.cells #[.slice ab b.length cb] 24)=w0 at *
 obtain ⟨B,hB⟩:∃B,B=W.heap.size:=⟨_,rfl⟩
 rw[←hB] at c0 ⊢
 have HB:=Zh hB
 clear hB
 refine (zDs _ b _ hb0).mono ?_
 rintro e w1 ⟨rfl,hb1⟩
 have T1:=(zAD.refl w0).step hb1
 have HVB:=Zh (hb0.stays zAz.stays hb1)
 have HVK:=Zh (hu0.stays zAj.stays hb1)
 have d0:=zAA hb1 c0
 clear c0 hb1 hb0 hu0
 by_cases h0:zAt b=0
 ·have H0:=Zh h0
  rw[h0]
  clear h0
  by_cases hr:8<(l.length:Int)
  ·have H:=Zh (show zAp b l=1 by unfold zAp;rw[if_neg (by simpa using H0.out),if_pos hr])
   go_wp2_with fail
   go_ret
   exact ⟨zAL H.out.symm,(S0.step T1.below).below⟩
  ·have H:=Zh (show zAp b l=zCM b l by unfold zAp;rw[if_neg (by simpa using H0.out),if_neg hr])
   have hr':(l.length:Int)≤8:=by omega
   have HS:Hid (∀w',zAD w1.heap.size w1 w'→w'.cell? ⟨B,0,none⟩=some (.slice ab b.length cb)):=Zh (fun w' q=>zAA q.below d0)
   clear hr
   go_wp2_with fail
   go_loopw[19] (fun i wr=>∃k:Nat,k≤l.length∧i=.int .i64 k∧zAD w1.heap.size w1 wr∧zCM b (l.drop k)=zCM b l) (fun i _=>l.length - (intOf i).toNat)
   case atStart=>exact ⟨0,by omega,rfl,zAD.refl w1,rfl⟩
   case round =>
    obtain ⟨k,hk,rfl,hS,hq⟩:=hrel
    have HQ:=Zh hq
    clear hq d0
    by_cases hlt:k<l.length
    ·obtain ⟨g,off,u,cu,rfl,k0,k1,k2,hp,i1⟩:=zBq (HVK.out.later zAj.stays (zAF.old hS.below _)) (List.getElem?_eq_getElem hlt)
     have HD:=Zh (List.drop_eq_getElem_cons hlt)
     generalize l[k]=p at *
     have S1:=hS.alloc (.cells #[.bool p.1,.int .i64 p.2.1,.slice u p.2.2.length cu] 62)
     have S1':=(zAD.refl wr).alloc (.cells #[.bool p.1,.int .i64 p.2.1,.slice u p.2.2.length cu] 62)
     have d0:=HS.out _ S1
     have HPI:=Zh (hp.stays zAf.stays S1'.below)
     have HVB1:=Zh (HVB.out.later zAz.stays (zAF.old S1.below _))
     clear hp S1'
     go_wp2_with fail
     refine (zEw _ b _ p _ HVB1.out HPI.out i1).mono ?_
     rintro e w2 ⟨rfl,hb2⟩
     have S2:=S1.step hb2
     clear k0 k1 k2 hb2 d0
     by_cases hz:zBG b p=0
     ·have HH:=Zh (show zCM b (l.drop (k+1))=zCM b l by rw[←HQ.out,HD.out];conv=>rhs;unfold zCM;rw[if_neg (by simpa using hz)])
      rw[hz]
      clear hz
      go_wp2_with fail
      go_roundw
      case rel=>exact ⟨k+1,by omega,by go_num,S2,HH.out⟩
      case measure=>simp[intOf];omega
     ·have HH:=Zh (show zCM b l=zBG b p by rw[←HQ.out,HD.out];unfold zCM;rw[if_pos hz])
      have hne:(zBG b p != 0)=true:=by simpa using hz
      clear hz
      go_wp2_with fail
      go_ret
      exact ⟨zAL (by rw[H.out,HH.out]),(S0.step (T1.step S2.below).below).below⟩
    ·obtain rfl:l.length=k:=by omega
     go_wp2_with fail
     go_ret
     refine ⟨zAL ?_,(S0.step (T1.step hS.below).below).below⟩
     rw[H.out,←HQ.out,List.drop_length]
     rfl
 ·have H:=Zh (show zAp b l=zAt b by unfold zAp;rw[if_pos h0])
  have hne:(zAt b != 0)=true:=by simpa using h0
  clear h0
  go_wp2_with fail
  go_ret
  exact ⟨zAL H.out.symm,(S0.step T1.below).below⟩
def zDh(p:Pr):Int:=p.2.1 - (p.2.2.length:Int)
def zD2(l:List Pr)(k:Int):Int:=((l[k.toNat]?).map zDh).getD 0
theorem zFs{l:List Pr}{k:Nat}{p:Pr}(h:l[k]?=some p):zD2 l (k:Int)=zDh p:=by simp[zD2,h]
def zG1(v:Int)(p:Pr):Bool:=p.1&&(decide ((p.2.2.length:Int)<p.2.1)&&decide (zBy v p.2.2 0<0))
def zLA(v:Int)(l:List Pr)(k:Int):Bool:=((l[k.toNat]?).map (zG1 v)).getD false
theorem zFX{v:Int}{l:List Pr}{k:Nat}{p:Pr}(h:l[k]?=some p):zLA v l (k:Int)=zG1 v p:=by simp[zLA,h]
def zHL(n:Nat):List Int:=(List.range n).map fun (j:Nat)=>(j:Int)
theorem zKM(n:Nat):zHL (n+1)=zHL n++[(n:Int)]:=by simp[zHL,List.range_succ]
theorem zIj{n:Nat}{z:Int}:z∈zHL n↔0≤z∧z<n:=by
 simp only[zHL,List.mem_map,List.mem_range]
 exact ⟨fun ⟨a,h1,h2⟩=>by omega,fun h=>⟨z.toNat,by omega,by omega⟩⟩
theorem zFZ(n:Nat):(zHL n).Pairwise (· < ·):=zFW n
def zDR(v:Int)(l:List Pr)(n:Nat):List Int:=(zHL n).filter (zLA v l)
theorem zPf(v:Int)(l:List Pr){k:Nat}{p:Pr}(h:l[k]?=some p):zDR v l (k+1)=zDR v l k++(if zG1 v p=true then [(k:Int)] else []):=by
 unfold zDR
 rw[zKM,List.filter_append]
 congr 1
 rw[←zFX h]
 by_cases hc:zLA v l (k:Int)=true<;>simp[hc]
theorem zJE(v:Int)(l:List Pr)(n:Nat):(zDR v l n).length≤n:=Nat.le_trans (List.length_filter_le _ _) (by simp[zHL])
theorem zD3{v:Int}{l:List Pr}{n:Nat}{z:Int}:z∈zDR v l n↔(0≤z∧z<n)∧zLA v l z=true:=by unfold zDR;rw[List.mem_filter,zIj]
theorem zFT(v:Int)(l:List Pr)(n:Nat):(zDR v l n).Pairwise (· < ·):=(zFZ n).filter _
def cfP(l:List Pr)(i j:Int):Int:=zD2 l j - zD2 l i
def zOs(v:Int)(l:List Pr):List Int:=zSz (fun i j=>decide (cfP l i j<0)) (zDR v l l.length)
def zEm(l:List Pr)(x y:Int):Prop:=zD2 l y<zD2 l x∨(zD2 l x=zD2 l y∧x<y)
theorem zKa(l:List Pr){x:Int}:∀{r:List Int},r.Pairwise (fun a b=>zEm l b a)→(∀y∈r,y<x)→(zLr (fun i j=>decide (cfP l i j<0)) x r).Pairwise (fun a b=>zEm l b a)
 | [],_,_=>by simp[zLr]
 | y::r,hp,hx=>by
  have hp':=List.pairwise_cons.1 hp
  unfold zLr
  by_cases h:cfP l x y<0
  ·rw[if_pos (by simpa using h),List.pairwise_cons]
   refine ⟨fun z hz=>?_,zKa l hp'.2 (fun z hz=>hx z (by simp[hz]))⟩
   rcases List.mem_cons.1 ((zFQ x r).mem_iff.1 hz) with rfl|hz
   ·unfold cfP at h;exact Or.inl (by omega)
   ·exact hp'.1 z hz
  ·rw[if_neg (by simpa using h),List.pairwise_cons]
   refine ⟨fun z hz=>?_,hp⟩
   have hy:=hx y (by simp)
   have hzx:=hx z hz
   unfold cfP at h
   rcases List.mem_cons.1 hz with rfl|hz
   ·unfold zEm;omega
   ·have:=hp'.1 z hz
    unfold zEm at this ⊢
    omega
theorem zIt(l:List Pr):∀(c acc:List Int),acc.Pairwise (fun a b=>zEm l b a)→c.Pairwise (· < ·)→(∀a∈acc,∀b∈c,a<b)→(c.foldl (fun acc x=>zLr (fun i j=>decide (cfP l i j<0)) x acc) acc).Pairwise (fun a b=>zEm l b a)
 | [],acc,h,_,_=>h
 | x::c,acc,h,hc,hb=>by
  have hc':=List.pairwise_cons.1 hc
  rw[List.foldl_cons]
  refine zIt l c _ (zKa l h (fun y hy=>hb y hy x (by simp))) hc'.2 ?_
  intro a ha b hbb
  rcases List.mem_cons.1 ((zFQ x acc).mem_iff.1 ha) with rfl|ha
  ·exact hc'.1 b hbb
  ·exact hb a ha b (by simp[hbb])
theorem zL2(v:Int)(l:List Pr):(zOs v l).Pairwise (zEm l):=by
 unfold zOs zSz zNW
 rw[List.pairwise_reverse]
 exact zIt l _ [] List.Pairwise.nil (zFT v l _) (by simp)
theorem zE6(v:Int)(l:List Pr):(zOs v l).Perm (zDR v l l.length):=zMl _
theorem zFt(v:Int)(l:List Pr):(zOs v l).length=(zDR v l l.length).length:=zSm _
theorem zLz{l:List Pr}:∀{c r:List Int},c.Pairwise (zEm l)→r.Pairwise (zEm l)→(∀x,x∈c↔x∈r)→c=r
 | [],[],_,_,_=>rfl
 | [],y::r,_,_,h=>by have:=(h y).2 (by simp);simp at this
 | x::c,[],_,_,h=>by have:=(h x).1 (by simp);simp at this
 | x::c,y::r,hc,hr,h=>by
  have hc':=List.pairwise_cons.1 hc
  have hr':=List.pairwise_cons.1 hr
  have hxy:x=y:=by
   have h1:x=y∨x∈r:=by simpa using (h x).1 (by simp)
   have h2:y=x∨y∈c:=by simpa using (h y).2 (by simp)
   rcases h1 with h1|h1
   ·exact h1
   ·rcases h2 with h2|h2
    ·exact h2.symm
    ·have a1:=hr'.1 x h1
     have a2:=hc'.1 y h2
     unfold zEm at a1 a2
     omega
  subst hxy
  rw[zLz hc'.2 hr'.2 (fun z=>?_)]
  have hz:=h z
  simp only[List.mem_cons] at hz
  constructor
  ·intro hzc
   rcases hz.1 (Or.inr hzc) with rfl|hh
   ·have:=hc'.1 z hzc;unfold zEm at this;omega
   ·exact hh
  ·intro hzr
   rcases hz.2 (Or.inr hzr) with rfl|hh
   ·have:=hr'.1 z hzr;unfold zEm at this;omega
   ·exact hh
def zGa(v:Int)(l:List Pr)(left:Int)(n:Nat):List Int:=(zHL n).filter fun k=>zLA v l k&&decide (zD2 l k=left)
theorem zP9(v:Int)(l:List Pr)(left:Int){k:Nat}{p:Pr}(h:l[k]?=some p):zGa v l left (k+1)=zGa v l left k++(if zG1 v p=true∧zDh p=left then [(k:Int)] else []):=by
 unfold zGa
 rw[zKM,List.filter_append]
 congr 1
 rw[←zFX h,←zFs h]
 by_cases hc:zLA v l (k:Int)=true<;>by_cases hl:zD2 l (k:Int)=left<;>simp[hc,hl]
def zFM(v:Int)(l:List Pr):Nat→List Int
 | 0=>[]
 | n+1=>zFM v l n++zGa v l (20 - (n:Int)) l.length
theorem zGn{v:Int}{l:List Pr}{left:Int}{n:Nat}{z:Int}:z∈zGa v l left n↔((0≤z∧z<n)∧zLA v l z=true)∧zD2 l z=left:=by
 unfold zGa
 rw[List.mem_filter,zIj]
 simp[and_assoc]
theorem zIp{v:Int}{l:List Pr}{z:Int}:∀{n:Nat},z∈zFM v l n↔z∈zDR v l l.length∧20 - (n:Int)<zD2 l z∧zD2 l z≤20
 | 0=>by simp[zFM]
 | n+1=>by
  unfold zFM
  rw[List.mem_append,zIp (n:=n),zGn,zD3]
  constructor
  ·rintro (⟨h1,h2,h3⟩|⟨h1,h2⟩)
   ·exact ⟨h1,by omega,h3⟩
   ·exact ⟨h1,by omega,by omega⟩
  ·rintro ⟨h1,h2,h3⟩
   by_cases h:zD2 l z=20 - (n:Int)
   ·exact Or.inr ⟨h1,h⟩
   ·exact Or.inl ⟨h1,by omega,h3⟩
theorem zN1(v:Int)(l:List Pr)(left:Int)(n:Nat):(zGa v l left n).Pairwise (zEm l):=by
 have h:=(zFZ n).filter (fun k=>zLA v l k&&decide (zD2 l k=left))
 refine List.Pairwise.imp_of_mem (fun {a b} ha hb hab=>?_) h
 have h1:=(zGn (v:=v) (l:=l) (left:=left) (n:=n)).1 ha
 have h2:=(zGn (v:=v) (l:=l) (left:=left) (n:=n)).1 hb
 exact Or.inr ⟨by rw[h1.2,h2.2],hab⟩
theorem zIc(v:Int)(l:List Pr):∀n,(zFM v l n).Pairwise (zEm l)
 | 0=>List.Pairwise.nil
 | n+1=>by
  unfold zFM
  rw[List.pairwise_append]
  refine ⟨zIc v l n,zN1 v l _ _,fun a ha b hb=>?_⟩
  have h1:=zIp.1 ha
  have h2:=zGn.1 hb
  exact Or.inl (by omega)
theorem zSL{v:Int}{p:Pr}(h:zG1 v p=true):1≤zDh p:=by
 simp[zG1] at h
 unfold zDh
 omega
theorem zOa{v:Int}{l:List Pr}(h:∀p∈l,zDh p≤20):zFM v l 20=zOs v l:=by
 refine zLz (zIc v l 20) (zL2 v l) (fun z=>?_)
 rw[zIp,(zE6 v l).mem_iff]
 constructor
 ·exact fun h=>h.1
 ·intro hz
  have hz':=zD3.1 hz
  obtain ⟨k,rfl⟩:=Int.eq_ofNat_of_zero_le hz'.1.1
  have hk:k<l.length:=by omega
  have hg:l[k]?=some l[k]:=List.getElem?_eq_getElem hk
  have hc:=hz'.2
  rw[zFX hg] at hc
  have h1:=zSL hc
  have h2:=h _ (List.getElem_mem hk)
  rw[zFs hg]
  exact ⟨hz,by omega,by omega⟩
theorem zNS{b:List Ver}{p:Pr}(h:zBk b p):0≤zDh p∧zDh p≤20:=by
 have h1:=h.room
 have h2:=h.few
 unfold zDh
 omega
def zGh(b:List Ver)(l:List Pr)(v many:Int):Int:=if zAp b l≠0 then zAp b l else if many<0∨8<many then 2 else if ((zDR v l l.length).length:Int)<many then 7 else 0
def zIQ(b:List Ver)(l:List Pr)(v many:Int):List Int:=if zGh b l v many=0 then (zOs v l).take many.toNat else []
theorem zOv{b:List Ver}{l:List Pr}(v many:Int)(h:zAp b l≠0):zGh b l v many=zAp b l:=by unfold zGh;rw[if_pos h]
theorem zKC{b:List Ver}{l:List Pr}{v many:Int}(h:zAp b l=0)(hm:many<0∨8<many):zGh b l v many=2:=by unfold zGh;rw[if_neg (by simpa using h),if_pos hm]
theorem zKs{b:List Ver}{l:List Pr}{v many:Int}(h:zAp b l=0)(hm:¬(many<0∨8<many))(hs:((zDR v l l.length).length:Int)<many):zGh b l v many=7:=by unfold zGh;rw[if_neg (by simpa using h),if_neg hm,if_pos hs]
theorem zLJ{b:List Ver}{l:List Pr}{v many:Int}(h:zAp b l=0)(hm:¬(many<0∨8<many))(hs:¬((zDR v l l.length).length:Int)<many):zGh b l v many=0:=by unfold zGh;rw[if_neg (by simpa using h),if_neg hm,if_neg hs]
theorem zGb{b:List Ver}{l:List Pr}{v many:Int}(h:zGh b l v many≠0):zIQ b l v many=[]:=by unfold zIQ;rw[if_neg h]
theorem zFA{b:List Ver}{l:List Pr}{v many:Int}(h:zGh b l v many=0):zIQ b l v many=(zOs v l).take many.toNat:=by unfold zIQ;rw[if_pos h]
abbrev Me:=List Ver × List Pr
def zA2(m:Me):Int:=zAp m.1 m.2
def zAh(m:Me)(v:Int):Int:=if zA2 m≠0 then zA2 m else if v<0∨(m.1.length:Int)≤v then 4 else 0
def zA9(v:Int)(l:List Kp):Option Kp:=l.find? fun x=>decide (x.1=v)
theorem zB0(v:Int):∀(l:List Kp) (k:Nat),(zA9 v l=none∧zBy v l k = -1)∨∃(m:Nat) (x:Kp),l[m]?=some x∧x.1=v∧zA9 v l=some x∧zBy v l k=((k+m:Nat):Int)
 | [],_=>Or.inl ⟨rfl,rfl⟩
 | x::r,k=>by
  unfold zA9 zBy
  by_cases h:x.1=v
  ·right
   exact ⟨0,x,rfl,h,by simp[h],by rw[if_pos h];rfl⟩
  ·rw[if_neg h,List.find?_cons_of_neg (by simpa using h)]
   rcases zB0 v r (k+1) with ⟨h1,h2⟩|⟨m,y,h1,h2,h3,h4⟩
   ·exact Or.inl ⟨h1,h2⟩
   ·exact Or.inr ⟨m+1,y,by simpa using h1,h2,h3,by rw[h4];congr 1;omega⟩
def zAk(v:Int)(p:Pr):Option Sh:=if p.1 then (zA9 v p.2.2).map (·.2) else none
def zFL(l:List Sh):Option Sh→List Sh
 | none=>l
 | some s=>if l.any (fun t=>decide (t.1=s.1)) then l else l++[s]
def zAS(v:Int)(ps:List Pr):List Sh:=ps.foldl (fun l p=>zFL l (zAk v p)) []
theorem zH9(v:Int){ps:List Pr}{k:Nat}{p:Pr}(h:ps[k]?=some p):zAS v (ps.take (k+1))=zFL (zAS v (ps.take k)) (zAk v p):=by
 unfold zAS
 rw[zAv h,List.foldl_append]
 rfl
theorem zOz(l:List Sh)(o:Option Sh):(zFL l o).length≤l.length+1:=by
 unfold zFL
 repeat' split
 all_goals simp
theorem zMc(v:Int):∀(ps:List Pr) (l:List Sh),(ps.foldl (fun l p=>zFL l (zAk v p)) l).length≤l.length+ps.length
 | [],l=>by simp
 | p::ps,l=>by
  rw[List.foldl_cons]
  have h1:=zMc v ps (zFL l (zAk v p))
  have h2:=zOz l (zAk v p)
  simp only[List.length_cons]
  omega
theorem zJS(v:Int)(ps:List Pr):(zAS v ps).length≤ps.length:=by
 have:=zMc v ps []
 simpa[zAS] using this
def zBI(m:Me)(v:Int):Int:=if zAh m v≠0 then zAh m v else zCF (zAO m.1 v).1 (zAO m.1 v).2.1 (zAO m.1 v).2.2 (zAS v m.2)
def zBa(m:Me)(v:Int):List Int:=if zAh m v≠0 then [] else zEs (zAO m.1 v).1 (zAO m.1 v).2.1 (zAO m.1 v).2.2 (zAS v m.2)
def zDg(m:Me)(v:Int):List Int:=if zAh m v≠0 then [] else zEq (zAO m.1 v).1 (zAO m.1 v).2.1 (zAO m.1 v).2.2 (zAS v m.2)
theorem zCo{m:Me}{v:Int}(h:zAh m v=0):zA2 m=0∧0≤v∧v<m.1.length:=by
 unfold zAh at h
 split at h
 ·rename_i h1;exact absurd h h1
 ·rename_i h1
  split at h
  ·simp at h
  ·exact ⟨by simpa using h1,by omega,by omega⟩
end Go.Proofs.YthgmphbkkojaoaaGreat
