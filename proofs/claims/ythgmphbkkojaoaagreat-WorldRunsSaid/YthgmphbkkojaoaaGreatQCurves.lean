/-
  The walks of package share's checks and of the reference's. Closures of share.Join; slices.IndexFunc and slices.ContainsFunc at shares and at ints, with them. The walks of division and of the reference's first functions: each contract says what the call answers, and that the world is as it was. The walks of package curve and of the reference's CheckPoints and ValueAt. Curves modulo 31: a curve of low degree is known by its points; the program's way of telling its value and the reference's way are one. The program's way of telling a curve's value and the reference's way, as curves modulo 31: both go through the points, so they are one. The walks of At where the points or the place are wrong.
-/
import Derived.Test.YthgmphbkkojaoaaGreatQBase
import Derived.StillTailTactics
set_option maxHeartbeats 2000000
namespace Go.Proofs.YthgmphbkkojaoaaGreat
set_option linter.unusedSectionVars false
variable [Zn]
open Go.RowKit
def zAx(n o s:Int):Int:=if n<1∨4<n∨o<n∨8<o∨s<1∨24<s then 2 else 0
theorem zCr{n o s:Int}(h:n<1∨4<n∨o<n∨8<o∨s<1∨24<s):zAx n o s=2:=if_pos h
theorem zMk{n o s:Int}(h:¬(n<1∨4<n∨o<n∨8<o∨s<1∨24<s)):zAx n o s=0:=if_neg h
theorem zAu(n o s:Int)(w:World) :
  Calls Tryz.prog 90 #[.agg #[.int .i64 n,.int .i64 o,.int .i64 s]] w fun e w'=>e=.returned (.int .i64 (zAx n o s))∧Below w.heap.size w w':=by
 by_cases h1:n<1
 ·have H:=Zh (zCr (n:=n) (o:=o) (s:=s) (by omega))
  go_enter Tryz.func90,Tryz.ntmps90
  go_wp2
  go_ret
  exact ⟨zAL H.out.symm,zAB _ _⟩
 ·by_cases h2:4<n
  ·have H:=Zh (zCr (n:=n) (o:=o) (s:=s) (by omega))
   go_enter Tryz.func90,Tryz.ntmps90
   go_wp2
   go_ret
   exact ⟨zAL H.out.symm,zAB _ _⟩
  ·by_cases h3:o<n
   ·have H:=Zh (zCr (n:=n) (o:=o) (s:=s) (by omega))
    go_enter Tryz.func90,Tryz.ntmps90
    go_wp2
    go_ret
    exact ⟨zAL H.out.symm,zAB _ _⟩
   ·by_cases h4:8<o
    ·have H:=Zh (zCr (n:=n) (o:=o) (s:=s) (by omega))
     go_enter Tryz.func90,Tryz.ntmps90
     go_wp2
     go_ret
     exact ⟨zAL H.out.symm,zAB _ _⟩
    ·by_cases h5:s<1
     ·have H:=Zh (zCr (n:=n) (o:=o) (s:=s) (by omega))
      go_enter Tryz.func90,Tryz.ntmps90
      go_wp2
      go_ret
      exact ⟨zAL H.out.symm,zAB _ _⟩
     ·by_cases h6:24<s
      ·have H:=Zh (zCr (n:=n) (o:=o) (s:=s) (by omega))
       go_enter Tryz.func90,Tryz.ntmps90
       go_wp2
       go_ret
       exact ⟨zAL H.out.symm,zAB _ _⟩
      ·have H:=Zh (zMk (n:=n) (o:=o) (s:=s) (by omega))
       go_enter Tryz.func90,Tryz.ntmps90
       go_wp2
       go_ret
       exact ⟨zAL H.out.symm,zAB _ _⟩
theorem zBB(n o s:Int)(w:World) :
  Calls Tryz.prog 80 #[.agg #[.int .i64 n,.int .i64 o,.int .i64 s]] w fun e w'=>e=.returned (.int .i64 (zAx n o s))∧Below w.heap.size w w':=by
 by_cases h1:n<1
 ·have H:=Zh (zCr (n:=n) (o:=o) (s:=s) (by omega))
  have b0:=zHJ (n:=n) (a:=1) (b:=4) (by omega)
  go_enter Tryz.func80,Tryz.ntmps80
  go_wp2_with (go_at_call 37;refine (zCS _ _ _ _).mono ?_;rintro e w' ⟨rfl,rfl⟩)
  go_ret
  exact ⟨zAL H.out.symm,zAB _ _⟩
 ·by_cases h2:4<n
  ·have H:=Zh (zCr (n:=n) (o:=o) (s:=s) (by omega))
   have b0:=zHJ (n:=n) (a:=1) (b:=4) (by omega)
   go_enter Tryz.func80,Tryz.ntmps80
   go_wp2_with (go_at_call 37;refine (zCS _ _ _ _).mono ?_;rintro e w' ⟨rfl,rfl⟩)
   go_ret
   exact ⟨zAL H.out.symm,zAB _ _⟩
  ·by_cases h3:o<n
   ·have H:=Zh (zCr (n:=n) (o:=o) (s:=s) (by omega))
    have b0:=zB5 (n:=n) (a:=1) (b:=4) (by omega) (by omega)
    have b1:=zHJ (n:=o) (a:=n) (b:=8) (by omega)
    go_enter Tryz.func80,Tryz.ntmps80
    go_wp2_with (go_at_call 37;refine (zCS _ _ _ _).mono ?_;rintro e w' ⟨rfl,rfl⟩)
    go_ret
    exact ⟨zAL H.out.symm,zAB _ _⟩
   ·by_cases h4:8<o
    ·have H:=Zh (zCr (n:=n) (o:=o) (s:=s) (by omega))
     have b0:=zB5 (n:=n) (a:=1) (b:=4) (by omega) (by omega)
     have b1:=zHJ (n:=o) (a:=n) (b:=8) (by omega)
     go_enter Tryz.func80,Tryz.ntmps80
     go_wp2_with (go_at_call 37;refine (zCS _ _ _ _).mono ?_;rintro e w' ⟨rfl,rfl⟩)
     go_ret
     exact ⟨zAL H.out.symm,zAB _ _⟩
    ·by_cases h5:s<1
     ·have H:=Zh (zCr (n:=n) (o:=o) (s:=s) (by omega))
      have b0:=zB5 (n:=n) (a:=1) (b:=4) (by omega) (by omega)
      have b1:=zB5 (n:=o) (a:=n) (b:=8) (by omega) (by omega)
      have b2:=zHJ (n:=s) (a:=1) (b:=24) (by omega)
      go_enter Tryz.func80,Tryz.ntmps80
      go_wp2_with (go_at_call 37;refine (zCS _ _ _ _).mono ?_;rintro e w' ⟨rfl,rfl⟩)
      go_ret
      exact ⟨zAL H.out.symm,zAB _ _⟩
     ·by_cases h6:24<s
      ·have H:=Zh (zCr (n:=n) (o:=o) (s:=s) (by omega))
       have b0:=zB5 (n:=n) (a:=1) (b:=4) (by omega) (by omega)
       have b1:=zB5 (n:=o) (a:=n) (b:=8) (by omega) (by omega)
       have b2:=zHJ (n:=s) (a:=1) (b:=24) (by omega)
       go_enter Tryz.func80,Tryz.ntmps80
       go_wp2_with (go_at_call 37;refine (zCS _ _ _ _).mono ?_;rintro e w' ⟨rfl,rfl⟩)
       go_ret
       exact ⟨zAL H.out.symm,zAB _ _⟩
      ·have H:=Zh (zMk (n:=n) (o:=o) (s:=s) (by omega))
       have b0:=zB5 (n:=n) (a:=1) (b:=4) (by omega) (by omega)
       have b1:=zB5 (n:=o) (a:=n) (b:=8) (by omega) (by omega)
       have b2:=zB5 (n:=s) (a:=1) (b:=24) (by omega) (by omega)
       go_enter Tryz.func80,Tryz.ntmps80
       go_wp2_with (go_at_call 37;refine (zCS _ _ _ _).mono ?_;rintro e w' ⟨rfl,rfl⟩)
       go_ret
       exact ⟨zAL H.out.symm,zAB _ _⟩
theorem zAg{n o s:Int}(h:zAx n o s=0):1≤n∧n≤4∧n≤o∧o≤8∧1≤s∧s≤24:=by
 unfold zAx at h
 split at h
 ·simp at h
 ·omega
def zEg(n o s:Int):Int:=if zAx n o s=0 then (s+n - 1) / n else 0
theorem zRu{n s k:Int}(h1:1≤n)(h2:n≤4)(hk:s≤k*n)(hk':k*n<s+n):(s+n - 1) / n=k:=by
 rcases (by omega:n=1∨n=2∨n=3∨n=4) with rfl|rfl|rfl|rfl<;>omega
def zEn:List Int→Int
 | []=>0
 | z::l=>if zI2 z then zEn l else 2
theorem zFj:∀l:List Int,zEn l=0↔∀z∈l,0≤z∧z<31
 | []=>by simp[zEn]
 | z::l=>by
  by_cases h:zI2 z=true
  ·have h':=zCW.1 h
   simp[zEn,h,zFj l]
   intro _
   exact h'
  ·simp only[Bool.not_eq_true] at h
   have h':=zDn.1 h
   simp[zEn,h]
   intro hh
   omega
def zDy(n o s N:Int)(l:List Int):Int:=
 if zAx n o s≠0 then zAx n o s else if N<0∨o≤N then 4 else if (l.length:Int)≠zEg n o s then 3 else zEn l
def zCm(N M:Int)(l r:List Int):Bool:=decide (N=M)&&zBV l r
theorem zLP(n o s:Int)(w:World) :
  Calls Tryz.prog 122 #[.agg #[.int .i64 n,.int .i64 o,.int .i64 s]] w fun e w'=>e=.returned (.int .i64 (zEg n o s))∧Below w.heap.size w w':=by
 by_cases h:zAx n o s=0
 ·obtain ⟨p1,p2,p3,p4,p5,p6⟩:=zAg h
  have H:=Zh (show zEg n o s=(s+n - 1) / n by unfold zEg;rw[if_pos h])
  have HP:=Zh h
  clear h
  go_enter Tryz.func122,Tryz.ntmps122
  go_wp2_with fail
  have S0:=(zAD.refl w).alloc (.cells #[.int .i64 n,.int .i64 o,.int .i64 s] 49)
  have c0:(w.alloc (.cells #[.int .i64 n,.int .i64 o,.int .i64 s] 49)).cell? ⟨w.heap.size,0,none⟩=some (.int .i64 n):=by go_simp
  have c2:(w.alloc (.cells #[.int .i64 n,.int .i64 o,.int .i64 s] 49)).cell? ⟨w.heap.size,2,none⟩=some (.int .i64 s):=by go_simp
  generalize w.alloc (.cells #[.int .i64 n,.int .i64 o,.int .i64 s] 49)=w0 at *
  refine (zAu _ _ _ _).mono ?_
  rintro e w1 ⟨rfl,hb1⟩
  rw[HP.out]
  have d0:=(hb1.cell (p:=⟨w.heap.size,0,none⟩) (zAH c0)).trans c0
  have d2:=(hb1.cell (p:=⟨w.heap.size,2,none⟩) (zAH c2)).trans c2
  have S1:=S0.step hb1
  have hnz:¬n=0:=by omega
  clear c0 c2
  go_wp2_with fail
  go_ret
  exact ⟨zAL H.out.symm,S1.below⟩
 ·have H:=Zh (show zEg n o s=0 by unfold zEg;rw[if_neg h])
  have hne:(zAx n o s != 0)=true:=by simpa using h
  clear h
  go_enter Tryz.func122,Tryz.ntmps122
  go_wp2_with fail
  refine (zAu _ _ _ _).mono ?_
  rintro e w1 ⟨rfl,hb1⟩
  have S1:=((zAD.refl w).alloc (.cells #[.int .i64 n,.int .i64 o,.int .i64 s] 49)).step hb1
  go_wp2_with fail
  go_ret
  exact ⟨zAL H.out.symm,S1.below⟩
theorem zFr(n o s:Int)(w:World) :
  Calls Tryz.prog 86 #[.agg #[.int .i64 n,.int .i64 o,.int .i64 s]] w fun e w'=>e=.returned (.int .i64 (zEg n o s))∧Below w.heap.size w w':=by
 by_cases h:zAx n o s=0
 ·obtain ⟨p1,p2,p3,p4,p5,p6⟩:=zAg h
  have H:=Zh (show zEg n o s=(s+n - 1) / n by unfold zEg;rw[if_pos h])
  have HP:=Zh h
  clear h
  go_enter Tryz.func86,Tryz.ntmps86
  go_wp2_with fail
  have S0:=(zAD.refl w).alloc (.cells #[.int .i64 n,.int .i64 o,.int .i64 s] 49)
  have c0:(w.alloc (.cells #[.int .i64 n,.int .i64 o,.int .i64 s] 49)).cell? ⟨w.heap.size,0,none⟩=some (.int .i64 n):=by go_simp
  have c2:(w.alloc (.cells #[.int .i64 n,.int .i64 o,.int .i64 s] 49)).cell? ⟨w.heap.size,2,none⟩=some (.int .i64 s):=by go_simp
  generalize w.alloc (.cells #[.int .i64 n,.int .i64 o,.int .i64 s] 49)=w0 at *
  refine (zBB _ _ _ _).mono ?_
  rintro e w1 ⟨rfl,hb1⟩
  rw[HP.out]
  have d0:=(hb1.cell (p:=⟨w.heap.size,0,none⟩) (zAH c0)).trans c0
  have d2:=(hb1.cell (p:=⟨w.heap.size,2,none⟩) (zAH c2)).trans c2
  have S1:=S0.step hb1
  clear c0 c2
  go_wp2_with fail
  go_loop [3,4] (fun r h=>∃k q:Int,0≤k∧k≤24∧r=.int .i64 k∧h=.int .i64 q∧q=k*n∧0≤q∧q<s+n∧k≤q) (fun _ h=>(100 - intOf h).toNat)
  case atStart=>exact ⟨0,0,by omega,by omega,rfl,rfl,by omega,by omega,by omega,by omega⟩
  case round =>
   obtain ⟨k,q,hk0,hk,rfl,rfl,hq,hq0,hq1,hkq⟩:=hrel
   have HQ:=Zh hq
   clear hq
   by_cases hlt:q<s
   ·go_wp2_with fail
    go_round
    case rel =>
     refine ⟨k+1,q+n,by omega,by omega,by go_num,by go_num,?_,by omega,by omega,by omega⟩
     rw[HQ.out,Int.add_mul];omega
    case measure=>simp[intOf];omega
   ·go_wp2_with fail
    go_ret
    refine ⟨zAL ?_,S1.below⟩
    rw[H.out]
    exact (zRu p1 p2 (by rw[←HQ.out];omega) (by rw[←HQ.out];omega)).symm
 ·have H:=Zh (show zEg n o s=0 by unfold zEg;rw[if_neg h])
  have hne:(zAx n o s != 0)=true:=by simpa using h
  clear h
  go_enter Tryz.func86,Tryz.ntmps86
  go_wp2_with fail
  refine (zBB _ _ _ _).mono ?_
  rintro e w1 ⟨rfl,hb1⟩
  have S1:=((zAD.refl w).alloc (.cells #[.int .i64 n,.int .i64 o,.int .i64 s] 49)).step hb1
  go_wp2_with fail
  go_ret
  exact ⟨zAL H.out.symm,S1.below⟩
theorem zGs(N M:Int)(v u:Value)(l r:List Int)(W:World)(hv:zAG W v l)(hu:zAG W u r) :
  Calls Tryz.prog 72 #[.agg #[.int .i64 N,v],.agg #[.int .i64 M,u]] W fun e w'=>e=.returned (.bool (zCm N M l r))∧Below W.heap.size W w':=by
 obtain ⟨a,c,rfl,_⟩:=hv.opened
 obtain ⟨a2,c2,rfl,_⟩:=hu.opened
 by_cases hN:N=M
 ·have hNM:(N == M)=true:=by simpa using hN
  have H:=Zh (show zCm N M l r=zBV l r by simp[zCm,hN])
  clear hN
  go_enter Tryz.func72,Tryz.ntmps72
  go_wp2_with fail
  refine (zB8 _ _ l r _ ((hv.stays (zAB _ _)).stays (zAB _ _)) ((hu.stays (zAB _ _)).stays (zAB _ _))).mono ?_
  rintro e w1 ⟨rfl,hb1⟩
  go_wp2_with fail
  go_ret
  exact ⟨zAX H.out.symm,((zAD.refl W).alloc _).alloc _ |>.step hb1 |>.below⟩
 ·have hNM:(N == M)=false:=by simpa using hN
  have H:=Zh (show zCm N M l r=false by simp[zCm,hN])
  clear hN
  go_enter Tryz.func72,Tryz.ntmps72
  go_wp2_with fail
  go_ret
  exact ⟨zAX H.out.symm,(((zAD.refl W).alloc _).alloc _).below⟩
theorem zBo(N M:Int)(v u:Value)(l r:List Int)(W:World)(hv:zAG W v l)(hu:zAG W u r) :
  Calls Tryz.prog 56 #[.agg #[.int .i64 N,v],.agg #[.int .i64 M,u]] W fun e w'=>e=.returned (.bool (zCm N M l r))∧Below W.heap.size W w':=by
 obtain ⟨a,c,rfl,_⟩:=hv.opened
 obtain ⟨a2,c2,rfl,_⟩:=hu.opened
 by_cases hN:N=M
 ·have hNM:(N == M)=true:=by simpa using hN
  have H:=Zh (show zCm N M l r=zBV l r by simp[zCm,hN])
  clear hN
  go_enter Tryz.func56,Tryz.ntmps56
  go_wp2_with fail
  refine (zB8 _ _ l r _ ((hv.stays (zAB _ _)).stays (zAB _ _)) ((hu.stays (zAB _ _)).stays (zAB _ _))).mono ?_
  rintro e w1 ⟨rfl,hb1⟩
  go_wp2_with fail
  go_ret
  exact ⟨zAX H.out.symm,((zAD.refl W).alloc _).alloc _ |>.step hb1 |>.below⟩
 ·have hNM:(N == M)=false:=by simpa using hN
  have H:=Zh (show zCm N M l r=false by simp[zCm,hN])
  clear hN
  go_enter Tryz.func56,Tryz.ntmps56
  go_wp2_with fail
  go_ret
  exact ⟨zAX H.out.symm,(((zAD.refl W).alloc _).alloc _).below⟩
set_option maxRecDepth 100000 in
theorem zI1(n o s N:Int)(v:Value)(l:List Int)(W:World)(hv:zAG W v l) :
  Calls Tryz.prog 101 #[.agg #[.int .i64 n,.int .i64 o,.int .i64 s],.agg #[.int .i64 N,v]] W fun e w'=>e=.returned (.int .i64 (zDy n o s N l))∧Below W.heap.size W w':=by
 obtain ⟨a,c,rfl,hc,⟨hm,_⟩,_⟩:=hv.opened
 have S0:=((zAD.refl W).alloc (.cells #[.int .i64 n,.int .i64 o,.int .i64 s] 49)).alloc (.cells #[.int .i64 N,.slice a l.length c] 64)
 have hv0:=(hv.stays (zAB _ (.cells #[.int .i64 n,.int .i64 o,.int .i64 s] 49))).stays (zAB _ (.cells #[.int .i64 N,.slice a l.length c] 64))
 obtain ⟨w0,hw0⟩:∃w0,w0=(W.alloc (.cells #[.int .i64 n,.int .i64 o,.int .i64 s] 49)).alloc (.cells #[.int .i64 N,.slice a l.length c] 64):=⟨_,rfl⟩
 have c0:w0.cell? ⟨W.heap.size,0,none⟩=some (.int .i64 n):=by rw[hw0];go_simp
 have c1:w0.cell? ⟨W.heap.size,1,none⟩=some (.int .i64 o):=by rw[hw0];go_simp
 have c2:w0.cell? ⟨W.heap.size,2,none⟩=some (.int .i64 s):=by rw[hw0];go_simp
 have c3:w0.cell? ⟨W.heap.size+1,0,none⟩=some (.int .i64 N):=by rw[hw0];go_simp
 have c4:w0.cell? ⟨W.heap.size+1,1,none⟩=some (.slice a l.length c):=by rw[hw0];go_simp
 rw[←hw0] at S0 hv0
 have HW:=Zh hw0
 clear hw0 hv
 have l0:=zAH c0
 have l3:=zAH c3
 by_cases hp:zAx n o s=0
 ·have HP:=Zh hp
  obtain ⟨p1,p2,p3,p4,p5,p6⟩:=zAg hp
  clear hp
  have G:Hid (∀w1,Below w0.heap.size w0 w1→w1.cell? ⟨W.heap.size,0,none⟩=some (.int .i64 n)∧w1.cell? ⟨W.heap.size,1,none⟩=some (.int .i64 o)∧w1.cell? ⟨W.heap.size,2,none⟩=some (.int .i64 s)∧w1.cell? ⟨W.heap.size+1,0,none⟩=some (.int .i64 N)∧w1.cell? ⟨W.heap.size+1,1,none⟩=some (.slice a l.length c)):=
   Zh (fun w1 hb=>⟨(hb.cell (p:=⟨W.heap.size,0,none⟩) l0).trans c0,(hb.cell (p:=⟨W.heap.size,1,none⟩) l0).trans c1,(hb.cell (p:=⟨W.heap.size,2,none⟩) l0).trans c2,(hb.cell (p:=⟨W.heap.size+1,0,none⟩) l3).trans c3,(hb.cell (p:=⟨W.heap.size+1,1,none⟩) l3).trans c4⟩)
  by_cases hN:N<0∨o≤N
  ·have H:=Zh (show zDy n o s N l=4 by unfold zDy;rw[if_neg (by simpa using HP.out),if_pos hN])
   go_enter Tryz.func101,Tryz.ntmps101
   go_wp2_with fail
   rw[←HW.out]
   refine (zAu _ _ _ _).mono ?_
   rintro e w1 ⟨rfl,hb1⟩
   rw[HP.out]
   obtain ⟨d0,d1,d2,d3,d4⟩:=G.out w1 hb1
   have S1:=S0.step hb1
   clear c0 c1 c2 c3 c4 hb1
   rcases hN with hN|hN
   ·go_wp2_with fail
    go_ret
    exact ⟨zAL H.out.symm,S1.below⟩
   ·have hN2:0≤N:=by omega
    go_wp2_with fail
    go_ret
    exact ⟨zAL H.out.symm,S1.below⟩
  ·have HN:=Zh hN
   have hN0:0≤N:=by omega
   have hN1:N<o:=by omega
   clear hN
   by_cases hl:(l.length:Int)=zEg n o s
   ·have hl1:((l.length:Int) != zEg n o s)=false:=by simpa using hl
    have HO:=Zh (show zDy n o s N l=zEn l by unfold zDy;rw[if_neg (by simpa using HP.out),if_neg HN.out,if_neg (by simpa using hl)])
    clear hl
    go_enter Tryz.func101,Tryz.ntmps101
    go_wp2_with fail
    rw[←HW.out]
    refine (zAu _ _ _ _).mono ?_
    rintro e w1 ⟨rfl,hb1⟩
    rw[HP.out]
    obtain ⟨d0,d1,d2,d3,d4⟩:=G.out w1 hb1
    have S1:=S0.step hb1
    have T1:=(zAD.refl w0).step hb1
    clear c0 c1 c2 c3 c4 hb1
    go_wp2_with fail
    have L:=Zh (zLP n o s w1.drew)
    go_region_law (go_simp;go_at_call 122;refine L.out.mono ?_;rintro e w2 ⟨rfl,hb2⟩;have T2:=T1.drew.step hb2;obtain ⟨e0,e1,e2,e3,e4⟩:=G.out w2 T2.below)
    all_goals
     have S2:=S1.drew.step hb2
     clear d0 d1 d2 d3 d4
     go_wp2_with fail
     have hl2:=hv0.stays T2.below
     clear e0 e1 e2 e3 e4
     obtain ⟨a',c',ee,_,_,hi⟩:=hl2.opened
     simp only[Value.slice.injEq] at ee
     obtain ⟨rfl,_,rfl⟩:=ee
     go_loop [33] (fun i=>∃k:Nat,k≤l.length∧i=.int .i64 k∧zEn (l.drop k)=zEn l) (fun i=>l.length - (intOf i).toNat)
     case atStart=>exact ⟨0,by omega,rfl,rfl⟩
     case round =>
      obtain ⟨k,hk,rfl,hq⟩:=hrel
      have HQ:=Zh hq
      clear hq
      by_cases hlt:k<l.length
      ·obtain ⟨b1,o1,z1,rfl,hc1,hz1,hi1⟩:=hi k hlt
       have HZ:=Zh (zAr hz1)
       clear hz1
       by_cases n1:0≤z1∧z1<31
       ·obtain ⟨n10,n11⟩:=n1
        go_wp2_with (go_at_call 91;refine (zCa _ _ (by omega) (by omega)).mono ?_;rintro e w' ⟨rfl,rfl⟩)
        go_round
        case rel =>
         refine ⟨k+1,by omega,by go_num,?_⟩
         rw[←HQ.out,HZ.out]
         simp[zEn,zCW.2 ⟨n10,n11⟩]
        case measure=>simp[intOf];omega
       ·go_wp2_with (go_at_call 91;refine (zE2 _ _ (by omega)).mono ?_;rintro e w' ⟨rfl,rfl⟩)
        go_ret
        refine ⟨zAL ?_,S2.below⟩
        rw[HO.out,←HQ.out,HZ.out]
        simp[zEn,zDn.2 (show z1<0∨31≤z1 by omega)]
      ·obtain rfl:k=l.length:=by omega
       go_wp2_with fail
       go_ret
       refine ⟨zAL ?_,S2.below⟩
       rw[HO.out,←HQ.out]
       simp[zEn]
   ·have hl1:((l.length:Int) != zEg n o s)=true:=by simpa using hl
    have HO:=Zh (show zDy n o s N l=3 by unfold zDy;rw[if_neg (by simpa using HP.out),if_neg HN.out,if_pos hl])
    clear hl
    go_enter Tryz.func101,Tryz.ntmps101
    go_wp2_with fail
    rw[←HW.out]
    refine (zAu _ _ _ _).mono ?_
    rintro e w1 ⟨rfl,hb1⟩
    rw[HP.out]
    obtain ⟨d0,d1,d2,d3,d4⟩:=G.out w1 hb1
    have S1:=S0.step hb1
    have T1:=(zAD.refl w0).step hb1
    clear c0 c1 c2 c3 c4 hb1
    go_wp2_with fail
    have L:=Zh (zLP n o s w1.drew)
    go_region_law (go_simp;go_at_call 122;refine L.out.mono ?_;rintro e w2 ⟨rfl,hb2⟩;have T2:=T1.drew.step hb2;obtain ⟨e0,e1,e2,e3,e4⟩:=G.out w2 T2.below)
    all_goals
     have S2:=S1.drew.step hb2
     clear d0 d1 d2 d3 d4
     go_wp2_with fail
     go_ret
     exact ⟨zAL HO.out.symm,S2.below⟩
 ·have H:=Zh (show zDy n o s N l=zAx n o s by unfold zDy;rw[if_pos hp])
  have hne:(zAx n o s != 0)=true:=by simpa using hp
  clear hp
  go_enter Tryz.func101,Tryz.ntmps101
  go_wp2_with fail
  rw[←HW.out]
  refine (zAu _ _ _ _).mono ?_
  rintro e w1 ⟨rfl,hb1⟩
  have S1:=S0.step hb1
  go_wp2_with fail
  go_ret
  exact ⟨zAL H.out.symm,S1.below⟩
set_option maxRecDepth 100000 in
theorem zGC(n o s N:Int)(v:Value)(l:List Int)(W:World)(hv:zAG W v l) :
  Calls Tryz.prog 81 #[.agg #[.int .i64 n,.int .i64 o,.int .i64 s],.agg #[.int .i64 N,v]] W fun e w'=>e=.returned (.int .i64 (zDy n o s N l))∧Below W.heap.size W w':=by
 obtain ⟨a,c,rfl,hc,⟨hm,_⟩,_⟩:=hv.opened
 have S0:=((zAD.refl W).alloc (.cells #[.int .i64 n,.int .i64 o,.int .i64 s] 49)).alloc (.cells #[.int .i64 N,.slice a l.length c] 64)
 have hv0:=(hv.stays (zAB _ (.cells #[.int .i64 n,.int .i64 o,.int .i64 s] 49))).stays (zAB _ (.cells #[.int .i64 N,.slice a l.length c] 64))
 obtain ⟨w0,hw0⟩:∃w0,w0=(W.alloc (.cells #[.int .i64 n,.int .i64 o,.int .i64 s] 49)).alloc (.cells #[.int .i64 N,.slice a l.length c] 64):=⟨_,rfl⟩
 have c0:w0.cell? ⟨W.heap.size,0,none⟩=some (.int .i64 n):=by rw[hw0];go_simp
 have c1:w0.cell? ⟨W.heap.size,1,none⟩=some (.int .i64 o):=by rw[hw0];go_simp
 have c2:w0.cell? ⟨W.heap.size,2,none⟩=some (.int .i64 s):=by rw[hw0];go_simp
 have c3:w0.cell? ⟨W.heap.size+1,0,none⟩=some (.int .i64 N):=by rw[hw0];go_simp
 have c4:w0.cell? ⟨W.heap.size+1,1,none⟩=some (.slice a l.length c):=by rw[hw0];go_simp
 rw[←hw0] at S0 hv0
 have HW:=Zh hw0
 clear hw0 hv
 have l0:=zAH c0
 have l3:=zAH c3
 by_cases hp:zAx n o s=0
 ·have HP:=Zh hp
  obtain ⟨p1,p2,p3,p4,p5,p6⟩:=zAg hp
  clear hp
  have G:Hid (∀w1,Below w0.heap.size w0 w1→w1.cell? ⟨W.heap.size,0,none⟩=some (.int .i64 n)∧w1.cell? ⟨W.heap.size,1,none⟩=some (.int .i64 o)∧w1.cell? ⟨W.heap.size,2,none⟩=some (.int .i64 s)∧w1.cell? ⟨W.heap.size+1,0,none⟩=some (.int .i64 N)∧w1.cell? ⟨W.heap.size+1,1,none⟩=some (.slice a l.length c)):=
   Zh (fun w1 hb=>⟨(hb.cell (p:=⟨W.heap.size,0,none⟩) l0).trans c0,(hb.cell (p:=⟨W.heap.size,1,none⟩) l0).trans c1,(hb.cell (p:=⟨W.heap.size,2,none⟩) l0).trans c2,(hb.cell (p:=⟨W.heap.size+1,0,none⟩) l3).trans c3,(hb.cell (p:=⟨W.heap.size+1,1,none⟩) l3).trans c4⟩)
  by_cases hN:N<0∨o≤N
  ·have H:=Zh (show zDy n o s N l=4 by unfold zDy;rw[if_neg (by simpa using HP.out),if_pos hN])
   go_enter Tryz.func81,Tryz.ntmps81
   go_wp2_with fail
   rw[←HW.out]
   refine (zBB _ _ _ _).mono ?_
   rintro e w1 ⟨rfl,hb1⟩
   rw[HP.out]
   obtain ⟨d0,d1,d2,d3,d4⟩:=G.out w1 hb1
   have S1:=S0.step hb1
   clear c0 c1 c2 c3 c4 hb1
   rcases hN with hN|hN
   ·go_wp2_with fail
    go_ret
    exact ⟨zAL H.out.symm,S1.below⟩
   ·have hN2:0≤N:=by omega
    go_wp2_with fail
    go_ret
    exact ⟨zAL H.out.symm,S1.below⟩
  ·have HN:=Zh hN
   have hN0:0≤N:=by omega
   have hN1:N<o:=by omega
   clear hN
   by_cases hl:(l.length:Int)=zEg n o s
   ·have hl1:((l.length:Int) != zEg n o s)=false:=by simpa using hl
    have HO:=Zh (show zDy n o s N l=zEn l by unfold zDy;rw[if_neg (by simpa using HP.out),if_neg HN.out,if_neg (by simpa using hl)])
    clear hl
    go_enter Tryz.func81,Tryz.ntmps81
    go_wp2_with fail
    rw[←HW.out]
    refine (zBB _ _ _ _).mono ?_
    rintro e w1 ⟨rfl,hb1⟩
    rw[HP.out]
    obtain ⟨d0,d1,d2,d3,d4⟩:=G.out w1 hb1
    have S1:=S0.step hb1
    have T1:=(zAD.refl w0).step hb1
    clear c0 c1 c2 c3 c4 hb1
    go_wp2_with fail
    have L:=Zh (zFr n o s w1.drew)
    go_region_law (go_simp;go_at_call 86;refine L.out.mono ?_;rintro e w2 ⟨rfl,hb2⟩;have T2:=T1.drew.step hb2;obtain ⟨e0,e1,e2,e3,e4⟩:=G.out w2 T2.below)
    all_goals
     have S2:=S1.drew.step hb2
     clear d0 d1 d2 d3 d4
     go_wp2_with fail
     have hl2:=hv0.stays T2.below
     clear e0 e1 e2 e3 e4
     obtain ⟨a',c',ee,_,_,hi⟩:=hl2.opened
     simp only[Value.slice.injEq] at ee
     obtain ⟨rfl,_,rfl⟩:=ee
     go_loop [35] (fun i=>∃k:Nat,k≤l.length∧i=.int .i64 k∧zEn (l.drop k)=zEn l) (fun i=>l.length - (intOf i).toNat)
     case atStart=>exact ⟨0,by omega,rfl,rfl⟩
     case round =>
      obtain ⟨k,hk,rfl,hq⟩:=hrel
      have HQ:=Zh hq
      clear hq
      by_cases hlt:k<l.length
      ·obtain ⟨b1,o1,z1,rfl,hc1,hz1,hi1⟩:=hi k hlt
       have HZ:=Zh (zAr hz1)
       clear hz1
       by_cases n1:0≤z1∧z1<31
       ·obtain ⟨n10,n11⟩:=n1
        have in1:=zKH n10 n11
        go_wp2_with (go_at_call 82;refine (zFm _ _).mono ?_;rintro e w' ⟨rfl,rfl⟩)
        go_round
        case rel =>
         refine ⟨k+1,by omega,by go_num,?_⟩
         rw[←HQ.out,HZ.out]
         simp[zEn,zCW.2 ⟨n10,n11⟩]
        case measure=>simp[intOf];omega
       ·have in1:=zIq (a:=z1) (by omega)
        go_wp2_with (go_at_call 82;refine (zFm _ _).mono ?_;rintro e w' ⟨rfl,rfl⟩)
        go_ret
        refine ⟨zAL ?_,S2.below⟩
        rw[HO.out,←HQ.out,HZ.out]
        simp[zEn,zDn.2 (show z1<0∨31≤z1 by omega)]
      ·obtain rfl:k=l.length:=by omega
       go_wp2_with fail
       go_ret
       refine ⟨zAL ?_,S2.below⟩
       rw[HO.out,←HQ.out]
       simp[zEn]
   ·have hl1:((l.length:Int) != zEg n o s)=true:=by simpa using hl
    have HO:=Zh (show zDy n o s N l=3 by unfold zDy;rw[if_neg (by simpa using HP.out),if_neg HN.out,if_pos hl])
    clear hl
    go_enter Tryz.func81,Tryz.ntmps81
    go_wp2_with fail
    rw[←HW.out]
    refine (zBB _ _ _ _).mono ?_
    rintro e w1 ⟨rfl,hb1⟩
    rw[HP.out]
    obtain ⟨d0,d1,d2,d3,d4⟩:=G.out w1 hb1
    have S1:=S0.step hb1
    have T1:=(zAD.refl w0).step hb1
    clear c0 c1 c2 c3 c4 hb1
    go_wp2_with fail
    have L:=Zh (zFr n o s w1.drew)
    go_region_law (go_simp;go_at_call 86;refine L.out.mono ?_;rintro e w2 ⟨rfl,hb2⟩;have T2:=T1.drew.step hb2;obtain ⟨e0,e1,e2,e3,e4⟩:=G.out w2 T2.below)
    all_goals
     have S2:=S1.drew.step hb2
     clear d0 d1 d2 d3 d4
     go_wp2_with fail
     go_ret
     exact ⟨zAL HO.out.symm,S2.below⟩
 ·have H:=Zh (show zDy n o s N l=zAx n o s by unfold zDy;rw[if_pos hp])
  have hne:(zAx n o s != 0)=true:=by simpa using hp
  clear hp
  go_enter Tryz.func81,Tryz.ntmps81
  go_wp2_with fail
  rw[←HW.out]
  refine (zBB _ _ _ _).mono ?_
  rintro e w1 ⟨rfl,hb1⟩
  have S1:=S0.step hb1
  go_wp2_with fail
  go_ret
  exact ⟨zAL H.out.symm,S1.below⟩
theorem zRL{a b:Bool}(h:a=b):Ending.returned (.bool a)=.returned (.bool b):=by rw[h]
theorem zG9(N M:Int)(v:Value)(l:List Int)(b:Nat)(W:World)(hv:zAG W v l)(hc:W.cell? ⟨b,0,none⟩=some (.int .i64 M)) :
  Calls Tryz.prog 132 #[.agg #[.int .i64 N,v],.pointer (some ⟨b,0,none⟩)] W fun e w'=>e=.returned (.bool (decide (N=M)))∧Below W.heap.size W w':=by
 obtain ⟨a,c,rfl,_⟩:=hv.opened
 have S0:=(zAD.refl W).alloc (.cells #[.int .i64 N,.slice a l.length c] 64)
 have lc:=zAH hc
 have hc':=(S0.below.cell (p:=⟨b,0,none⟩) lc).trans hc
 have h0:(W.alloc (.cells #[.int .i64 N,.slice a l.length c] 64)).cell? ⟨W.heap.size,0,none⟩=some (.int .i64 N):=by go_simp
 clear hc hv
 go_enter Tryz.func132,Tryz.ntmps132
 go_wp2_with (go_quiet (fail))
 go_ret
 exact ⟨zRL rfl,S0.below⟩
theorem zIB(N:Int)(W:World) :
  Calls Tryz.prog 134 #[.int .i64 N] W fun e w'=>e=.returned (.bool (decide (N≠0)))∧Below W.heap.size W w':=by
 by_cases h:N=0
 ·have hd:decide (N≠0)=false:=by simpa using h
  have hd2:(N != 0)=false:=by simpa using h
  rw[hd]
  go_enter Tryz.func134,Tryz.ntmps134
  go_wp2
  go_ret
  exact ⟨rfl,Below.refl _ _⟩
 ·have hd:decide (N≠0)=true:=by simpa using h
  have hd2:(N != 0)=true:=by simpa using h
  rw[hd]
  go_enter Tryz.func134,Tryz.ntmps134
  go_wp2
  go_ret
  exact ⟨rfl,Below.refl _ _⟩
def zII(ls:List Sh)(M:Int):Bool:=ls.any fun s=>decide (s.1=M)
set_option maxRecDepth 100000 in
theorem zJN(v:Value)(ls:List Sh)(M:Int)(b:Nat)(W:World)(hv:zAN W v ls)(hc:W.cell? ⟨b,0,none⟩=some (.int .i64 M)) :
  Calls Tryz.prog 135 #[v,.func (.func 132) #[] #[.pointer (some ⟨b,0,none⟩)]] W fun e w'=>(∃r:Int,e=.returned (.int .i64 r)∧decide (0≤r)=zII ls M ∧ -1≤r∧r≤9223372036854775807)∧Below W.heap.size W w':=by
 obtain ⟨a,c,rfl,hcap,⟨hm,hcm,_⟩,hi⟩:=hv.opened
 have lc:=zAH hc
 clear hv
 go_enter Tryz.func135,Tryz.ntmps135
 go_wp2_with fail
 go_loopw[8] (fun i wr=>∃k:Nat,k≤ls.length∧i=.int .i64 k∧zAD W.heap.size W wr∧zII (ls.drop k) M=zII ls M) (fun i _=>ls.length - (intOf i).toNat)
 case atStart=>exact ⟨0,by omega,rfl,zAD.refl W,rfl⟩
 case round =>
  obtain ⟨k,hk,rfl,hS,hq⟩:=hrel
  have HQ:=Zh hq
  clear hq
  by_cases hlt:k<ls.length
  ·obtain ⟨b1,o1,v1,s1,rfl,h1,h2,h3,h4,h5⟩:=hi k hlt
   have HD:=Zh (zAr h4)
   clear h4
   obtain ⟨a1,c1,rfl,_⟩:=h3.opened
   have l1:=zAH h1
   have hcr:=(hS.below.cell (p:=⟨b,0,none⟩) lc).trans hc
   have g1:=(hS.below.cell (p:=⟨b1,o1+k*2,none⟩) l1).trans h1
   have g2:=(hS.below.cell (p:=⟨b1,o1+k*2+1,none⟩) l1).trans h2
   have h3r:=h3.stays hS.below
   by_cases hN:s1.1=M
   ·have hd:decide (s1.1=M)=true:=by simpa using hN
    have HH:=Zh (show zII ls M=true by rw[←HQ.out,HD.out];simp[zII,hN])
    clear hN
    go_wp2_with (go_at_call 132;refine (zG9 _ M _ _ b _ h3r hcr).mono ?_;rintro e w' ⟨rfl,hb'⟩;rw[hd])
    go_ret
    refine ⟨⟨k,rfl,?_,by omega,by omega⟩,(hS.step hb').below⟩
    rw[HH.out]
    simp
   ·have hd:decide (s1.1=M)=false:=by simpa using hN
    have HH:=Zh (show zII (ls.drop (k+1)) M=zII ls M by rw[←HQ.out,HD.out];simp[zII,hN])
    clear hN
    go_wp2_with (go_at_call 132;refine (zG9 _ M _ _ b _ h3r hcr).mono ?_;rintro e w' ⟨rfl,hb'⟩;rw[hd])
    go_roundw
    case rel=>exact ⟨k+1,by omega,by go_num,hS.step hb',HH.out⟩
    case measure=>simp[intOf];omega
  ·obtain rfl:ls.length=k:=by omega
   go_wp2_with fail
   go_ret
   refine ⟨⟨-1,rfl,?_,by omega,by omega⟩,hS.below⟩
   rw[←HQ.out]
   simp[zII]
theorem zC9(v:Value)(ls:List Sh)(M:Int)(b:Nat)(W:World)(hv:zAN W v ls)(hc:W.cell? ⟨b,0,none⟩=some (.int .i64 M)) :
  Calls Tryz.prog 120 #[v,.func (.func 132) #[] #[.pointer (some ⟨b,0,none⟩)]] W fun e w'=>e=.returned (.bool (zII ls M))∧Below W.heap.size W w':=by
 have hcall:=zJN v ls M b W hv hc
 obtain ⟨a,c,rfl,_⟩:=hv.opened
 clear hv
 obtain ⟨H,hH⟩:∃H,H=zII ls M:=⟨_,rfl⟩
 rw[←hH] at hcall ⊢
 clear hH
 go_enter Tryz.func120,Tryz.ntmps120
 go_wp2_with fail
 refine hcall.mono ?_
 rintro e w' ⟨⟨r,rfl,hr,_⟩,hb⟩
 cases H with
 | true =>
      go_wp2_with fail
      go_ret
      exact ⟨rfl,hb⟩
 | false =>
       go_wp2_with fail
       go_ret
       exact ⟨rfl,hb⟩
def zBl(l:List Int):Bool:=l.any fun z=>decide (z≠0)
set_option maxRecDepth 100000 in
theorem zLZ(v:Value)(l:List Int)(W:World)(hv:zAG W v l) :
  Calls Tryz.prog 167 #[v,.func (.func 134) #[] #[]] W fun e w'=>(∃r:Int,e=.returned (.int .i64 r)∧decide (0≤r)=zBl l ∧ -1≤r∧r≤9223372036854775807)∧Below W.heap.size W w':=by
 obtain ⟨a,c,rfl,hcap,⟨hm,hcm,_⟩,hi⟩:=hv.opened
 clear hv
 go_enter Tryz.func167,Tryz.ntmps167
 go_wp2_with fail
 go_loopw[8] (fun i wr=>∃k:Nat,k≤l.length∧i=.int .i64 k∧zAD W.heap.size W wr∧zBl (l.drop k)=zBl l) (fun i _=>l.length - (intOf i).toNat)
 case atStart=>exact ⟨0,by omega,rfl,zAD.refl W,rfl⟩
 case round =>
  obtain ⟨k,hk,rfl,hS,hq⟩:=hrel
  have HQ:=Zh hq
  clear hq
  by_cases hlt:k<l.length
  ·obtain ⟨b1,o1,z1,rfl,h1,h4,h5⟩:=hi k hlt
   have HD:=Zh (zAr h4)
   clear h4
   have l1:=zAH h1
   have g1:=(hS.below.cell (p:=⟨b1,o1+k,none⟩) l1).trans h1
   by_cases hN:z1=0
   ·have hd:decide (z1≠0)=false:=by simpa using hN
    have HH:=Zh (show zBl (l.drop (k+1))=zBl l by rw[←HQ.out,HD.out];simp[zBl,hN])
    clear hN
    go_wp2_with (go_at_call 134;refine (zIB _ _).mono ?_;rintro e w' ⟨rfl,hb'⟩;rw[hd])
    go_roundw
    case rel=>exact ⟨k+1,by omega,by go_num,hS.step hb',HH.out⟩
    case measure=>simp[intOf];omega
   ·have hd:decide (z1≠0)=true:=by simpa using hN
    have HH:=Zh (show zBl l=true by rw[←HQ.out,HD.out];simp[zBl,hN])
    clear hN
    go_wp2_with (go_at_call 134;refine (zIB _ _).mono ?_;rintro e w' ⟨rfl,hb'⟩;rw[hd])
    go_ret
    refine ⟨⟨k,rfl,?_,by omega,by omega⟩,(hS.step hb').below⟩
    rw[HH.out]
    simp
  ·obtain rfl:l.length=k:=by omega
   go_wp2_with fail
   go_ret
   refine ⟨⟨-1,rfl,?_,by omega,by omega⟩,hS.below⟩
   rw[←HQ.out]
   simp[zBl]
theorem zFE(v:Value)(l:List Int)(W:World)(hv:zAG W v l) :
  Calls Tryz.prog 133 #[v,.func (.func 134) #[] #[]] W fun e w'=>e=.returned (.bool (zBl l))∧Below W.heap.size W w':=by
 have hcall:=zLZ v l W hv
 obtain ⟨a,c,rfl,_⟩:=hv.opened
 clear hv
 obtain ⟨H,hH⟩:∃H,H=zBl l:=⟨_,rfl⟩
 rw[←hH] at hcall ⊢
 clear hH
 go_enter Tryz.func133,Tryz.ntmps133
 go_wp2_with fail
 refine hcall.mono ?_
 rintro e w' ⟨⟨r,rfl,hr,_⟩,hb⟩
 cases H with
 | true =>
      go_wp2_with fail
      go_ret
      exact ⟨rfl,hb⟩
 | false =>
       go_wp2_with fail
       go_ret
       exact ⟨rfl,hb⟩
set_option maxRecDepth 100000 in
theorem zPT(a b:Int)(w:World)(h0:0≤a)(h1:a<31)(h2:0≤b)(h3:b<31) :
  Calls Tryz.prog 128 #[.int .i64 a,.int .i64 b] w fun e w'=>e=.returned (.bool true)∧w=w':=by
 go_enter Tryz.func128,Tryz.ntmps128
 go_wp2_with (go_at_call 91;refine (zCa _ _ (by omega) (by omega)).mono ?_;rintro e w' ⟨rfl,rfl⟩)
 go_ret
 exact ⟨rfl,rfl⟩
set_option maxRecDepth 100000 in
theorem zRX(a b:Int)(w:World)(h:a<0∨31≤a∨b<0∨31≤b) :
  Calls Tryz.prog 128 #[.int .i64 a,.int .i64 b] w fun e w'=>e=.returned (.bool false)∧w=w':=by
 by_cases ha:0≤a∧a<31
 ·go_enter Tryz.func128,Tryz.ntmps128
  go_wp2_with fail
  refine (zCa _ _ (by omega) (by omega)).mono ?_
  rintro e w' ⟨rfl,rfl⟩
  go_wp2_with fail
  refine (zE2 _ _ (by omega)).mono ?_
  rintro e w' ⟨rfl,rfl⟩
  go_wp2_with fail
  go_ret
  exact ⟨rfl,rfl⟩
 ·go_enter Tryz.func128,Tryz.ntmps128
  go_wp2_with fail
  refine (zE2 _ _ (by omega)).mono ?_
  rintro e w' ⟨rfl,rfl⟩
  go_wp2_with fail
  go_ret
  exact ⟨rfl,rfl⟩
set_option maxRecDepth 100000 in
theorem zUu(a b:Int)(w:World)(h0:0≤a)(h1:a<31)(h2:0<b)(h3:b<31) :
  Calls Tryz.prog 112 #[.int .i64 a,.int .i64 b] w fun e w'=>e=.returned (.tuple #[.int .i64 (zJp a b),.int .i64 0])∧w=w':=by
 have hb:(b == 0)=false:=by simp;omega
 go_enter Tryz.func112,Tryz.ntmps112
 go_wp2_with (go_at_call 128;refine (zPT _ _ _ (by omega) (by omega) (by omega) (by omega)).mono ?_;rintro e w' ⟨rfl,rfl⟩)
 go_loop [0,14] (fun x i=>∃k:Nat,k≤29∧i=.int .i64 k∧x=.int .i64 (zTU b k a)) (fun _ i=>29 - (intOf i).toNat)
 case atStart=>exact ⟨0,by omega,rfl,rfl⟩
 case round =>
  obtain ⟨k,hk,rfl,rfl⟩:=hrel
  have hp:=zSN (b:=b) k a h0 h1
  have hm:=zRK hp.1 hp.2 (Int.le_of_lt h2) h3
  obtain ⟨p0,p1⟩:=hp
  obtain ⟨m0,m1⟩:=hm
  have hs:=zRg b k a
  have HS:=Zh hs
  clear hs
  by_cases hlt:k<29
  ·go_wp2
   go_round
   case rel=>exact ⟨k+1,by omega,by go_num,by rw[HS.out]⟩
   case measure=>simp[intOf];omega
  ·obtain rfl:k=29:=by omega
   go_wp2
   go_ret2
   exact ⟨rfl,rfl⟩
set_option maxRecDepth 100000 in
theorem zVj(a b:Int)(w:World)(h:a<0∨31≤a∨b≤0∨31≤b) :
  Calls Tryz.prog 112 #[.int .i64 a,.int .i64 b] w fun e w'=>e=.returned (.tuple #[.int .i64 0,.int .i64 2])∧w=w':=by
 by_cases hb:b=0
 ·subst hb
  by_cases ha:0≤a∧a<31
  ·go_enter Tryz.func112,Tryz.ntmps112
   go_wp2_with (go_at_call 128;refine (zPT _ _ _ (by omega) (by omega) (by omega) (by omega)).mono ?_;rintro e w' ⟨rfl,rfl⟩)
   go_ret2
   exact ⟨rfl,rfl⟩
  ·go_enter Tryz.func112,Tryz.ntmps112
   go_wp2_with (go_at_call 128;refine (zRX _ _ _ (by omega)).mono ?_;rintro e w' ⟨rfl,rfl⟩)
   go_ret2
   exact ⟨rfl,rfl⟩
 ·go_enter Tryz.func112,Tryz.ntmps112
  go_wp2_with (go_at_call 128;refine (zRX _ _ _ (by omega)).mono ?_;rintro e w' ⟨rfl,rfl⟩)
  go_ret2
  exact ⟨rfl,rfl⟩
theorem zUf(a b:Int)(w:World)(h0:0≤a)(h1:a<31)(h2:0≤b)(h3:b<31) :
  Calls Tryz.prog 112 #[.int .i64 a,.int .i64 b] w fun e w'=>e=.returned (.tuple #[.int .i64 (zQW a b),.int .i64 (zWX b)])∧w=w':=by
 unfold zQW zWX
 by_cases h:b=0
 ·rw[if_pos h,if_pos h]
  exact zVj a b w (by omega)
 ·rw[if_neg h,if_neg h]
  exact zUu a b w h0 h1 (by omega) h3
set_option maxRecDepth 100000 in
theorem zMD(a b:Int)(w:World)(h2:0≤b)(h3:b<31) :
  Calls Tryz.prog 109 #[.int .i64 a,.int .i64 b] w fun e w'=>e=.returned (.int .i64 (zSZ a b))∧w=w':=by
 go_enter Tryz.func109,Tryz.ntmps109
 go_wp2
 go_loop [6] (fun i=>∃k:Nat,k≤31∧i=.int .i64 k∧zEv a b k (31 - k)=zSZ a b) (fun i=>31 - (intOf i).toNat)
 case atStart=>exact ⟨0,by omega,rfl,rfl⟩
 case round =>
  obtain ⟨k,hk,rfl,hq⟩:=hrel
  have HQ:=Zh hq
  clear hq
  by_cases hlt:k<31
  ·have hm:=zRK (a:=(k:Int)) (b:=b) (by omega) (by omega) h2 h3
   obtain ⟨m0,m1⟩:=hm
   have hn:31 - k=(31 - (k+1))+1:=by omega
   have HN:=Zh hn
   clear hn
   by_cases he:((k:Int)*b % 31 == a)=true
   ·go_wp2
    go_ret
    refine ⟨zAL ?_,rfl⟩
    rw[←HQ.out,HN.out]
    simp only[zEv]
    rw[if_pos he]
   ·have he':((k:Int)*b % 31 == a)=false:=by simpa using he
    go_wp2
    go_round
    case rel =>
     refine ⟨k+1,by omega,by go_num,?_⟩
     rw[←HQ.out,HN.out]
     simp only[zEv]
     rw[if_neg he]
    case measure=>simp[intOf];omega
  ·obtain rfl:k=31:=by omega
   go_wp2
   go_ret
   exact ⟨zAL HQ.out,rfl⟩
set_option maxRecDepth 100000 in
theorem zLX(a b:Int)(w:World)(h0:0≤a)(h1:a<31)(h2:0≤b)(h3:b<31) :
  Calls Tryz.prog 110 #[.int .i64 a,.int .i64 b] w fun e w'=>e=.returned (.int .i64 (zCk a b))∧w=w':=by
 go_enter Tryz.func110,Tryz.ntmps110
 go_wp2
 go_ret
 exact ⟨rfl,rfl⟩
theorem zL8(w:World):(zeroValue 4).run Tryz.prog w=.ok (.bool false) w:=by kernel_rfl
set_option maxRecDepth 100000 in
theorem zFO(vx vy:Value)(x y:List Int)(w:World)(hx:zAG w vx x)(hy:zAG w vy y) :
  Calls Tryz.prog 111 #[vx,vy] w fun e w'=>e=.returned (.int .i64 (zOD x y))∧Below w.heap.size w w':=by
 obtain ⟨ax,cx,rfl,hcx,hmx,hx⟩:=hx.opened
 obtain ⟨ay,cy,rfl,hcy,hmy,hy⟩:=hy.opened
 have hmm:=@run_makeMap Tryz.prog
 by_cases hl:x.length=y.length
 ·have hl1:((x.length:Int) != (y.length:Int))=false:=by simp[hl]
  have hl2:y.length≤x.length:=by omega
  have hl3:x.length≤y.length:=by omega
  have HL:=Zh hl
  clear hl
  by_cases h0:x.length=0∨8<x.length
  ·have H:=Zh (show zOD x y=1 by unfold zOD;rw[if_neg (by simpa using HL.out),if_pos h0])
   rcases h0 with h0|h0
   ·have h1:((x.length:Int) == 0)=true:=by simpa using h0
    clear h0
    go_enter Tryz.func111,Tryz.ntmps111
    go_wp2
    go_ret
    exact ⟨zAL H.out.symm,Below.refl _ _⟩
   ·have h1:((x.length:Int) == 0)=false:=by simp;intro e;subst e;simp at h0
    go_enter Tryz.func111,Tryz.ntmps111
    go_wp2
    go_ret
    exact ⟨zAL H.out.symm,Below.refl _ _⟩
  ·have h1:((x.length:Int) == 0)=false:=by simp;intro e;subst e;simp at h0
   have h2:x.length≤8:=by omega
   have H:=Zh (show zOD x y=zDb x y [] by unfold zOD;rw[if_neg (by simpa using HL.out),if_neg h0])
   clear h0
   have h3:decide ((8:Int)<(x.length:Int))=false:=by simp;omega
   have Hl:1≤x.length:=by cases x with | nil=>simp at h1 | cons=>simp
   go_enter Tryz.func111,Tryz.ntmps111
   go_wp2
   go_loopw[24] (fun i wr=>∃k:Nat,k≤x.length∧i=.int .i64 k∧zAo Tryz.prog 3 4 wr w.heap.size (x.take k)∧Below w.heap.size w wr∧zDb (x.drop k) (y.drop k) (x.take k)=zOD x y) (fun i _=>x.length - (intOf i).toNat)
   case atStart=>exact ⟨0,by omega,rfl,zAo.made w,(Below.refl _ _).alloc (Nat.le_refl _) _,H.out.symm⟩
   case round =>
    rename_i wr
    obtain ⟨k,hk,rfl,hown,hb,hq⟩:=hrel
    have HQ:=Zh hq
    clear hq H
    by_cases hlt:k<x.length
    ·obtain ⟨b1,o1,z1,rfl,hc1,hz1,hi1⟩:=(hx.stays hb) k hlt
     obtain ⟨b2,o2,z2,rfl,hc2,hz2,hi2⟩:=(hy.stays hb) k (by omega)
     have HQ2:Hid (x.drop k=z1::x.drop (k+1)):=Zh (zAr hz1)
     have HQ3:Hid (y.drop k=z2::y.drop (k+1)):=Zh (zAr hz2)
     have HQ4:Hid (x.take (k+1)=x.take k++[z1]):=Zh (zAv hz1)
     have hlk:(x.take k).length≤8:=by simp;omega
     clear hz1 hz2
     by_cases n1:0≤z1∧z1<31
     ·by_cases n2:0≤z2∧z2<31
      ·by_cases hm:z1∈x.take k
       ·go_wp2_with fail
        refine (zCa _ _ (by omega) (by omega)).mono ?_
        rintro e w' ⟨rfl,rfl⟩
        go_wp2_with fail
        refine (zCa _ _ (by omega) (by omega)).mono ?_
        rintro e w' ⟨rfl,rfl⟩
        go_wp2_with (at_lookup;refine zCg _ rfl _ _ 81 rfl Tryz.underlying3 Tryz.underlying4 Tryz.underlying81 (zL8 _) _ _ rfl hown _ rfl hi1 true (decide_eq_true hm) ?_)
        go_ret
        refine ⟨zAL ?_,hb⟩
        rw[←HQ.out,HQ2.out,HQ3.out]
        simp only[zDb]
        rw[zCW.2 n1,zCW.2 n2,Bool.and_self,if_pos rfl,if_pos hm]
       ·go_wp2_with fail
        refine (zCa _ _ (by omega) (by omega)).mono ?_
        rintro e w' ⟨rfl,rfl⟩
        go_wp2_with fail
        refine (zCa _ _ (by omega) (by omega)).mono ?_
        rintro e w' ⟨rfl,rfl⟩
        go_wp2_with (first | (at_lookup;refine zCg _ rfl _ _ 81 rfl Tryz.underlying3 Tryz.underlying4 Tryz.underlying81 (zL8 _) _ _ rfl hown _ rfl hi1 false (decide_eq_false hm) ?_) | (at_mapUpdate;refine zB7 _ rfl _ _ _ 81 rfl Tryz.underlying3 Tryz.underlying4 Tryz.underlying81 _ _ rfl hown (by omega) _ rfl rfl hi1 ?_;intro w1 hown1 hg1))
        go_roundw
        case rel =>
         refine ⟨k+1,by omega,by go_num,by rw[HQ4.out];exact hown1,hb.grown hg1 hb.size (fun k hk=>by cases hk;omega),?_⟩
         rw[←HQ.out,HQ2.out,HQ3.out,HQ4.out]
         simp only[zDb]
         rw[zCW.2 n1,zCW.2 n2,Bool.and_self,if_pos rfl,if_neg hm]
        case measure=>simp[intOf];omega
      ·go_wp2_with fail
       refine (zCa _ _ (by omega) (by omega)).mono ?_
       rintro e w' ⟨rfl,rfl⟩
       go_wp2_with fail
       refine (zE2 _ _ (by omega)).mono ?_
       rintro e w' ⟨rfl,rfl⟩
       go_wp2_with fail
       go_ret
       refine ⟨zAL ?_,hb⟩
       rw[←HQ.out,HQ2.out,HQ3.out]
       simp[zDb,zDn.2 (show z2<0∨31≤z2 by omega)]
     ·go_wp2_with fail
      refine (zE2 _ _ (by omega)).mono ?_
      rintro e w' ⟨rfl,rfl⟩
      go_wp2_with fail
      go_ret
      refine ⟨zAL ?_,hb⟩
      rw[←HQ.out,HQ2.out,HQ3.out]
      simp[zDb,zDn.2 (show z1<0∨31≤z1 by omega)]
    ·obtain rfl:k=x.length:=by omega
     go_wp2
     go_ret
     refine ⟨zAL ?_,hb⟩
     rw[←HQ.out]
     simp[zDb]
 ·have hl1:((x.length:Int) != (y.length:Int))=true:=by simp;omega
  have H:=Zh (show zOD x y=3 by simp[zOD,hl])
  clear hl
  go_enter Tryz.func111,Tryz.ntmps111
  go_wp2
  go_ret
  exact ⟨zAL H.out.symm,Below.refl _ _⟩
set_option maxRecDepth 100000 in
theorem zUi(vx vy:Value)(x y:List Int)(p:Int)(w:World)(hx:zAG w vx x)(hy:zAG w vy y)(hok:zOD x y=0)(hp0:0≤p)(hp1:p<31) :
  Calls Tryz.prog 92 #[vx,vy,.int .i64 p] w fun e w'=>e=.returned (.tuple #[.int .i64 (atV x y p),.int .i64 0])∧Below w.heap.size w w':=by
 have HO:=Zh (zNq.1 hok)
 have HK:=Zh hok
 clear hok
 have hx0:=hx
 have hy0:=hy
 obtain ⟨ax,cx,rfl,hcx,hmx,hx⟩:=hx.opened
 obtain ⟨ay,cy,rfl,hcy,hmy,hy⟩:=hy.opened
 have h8:=HO.out.top
 have hl1:x.length≤y.length:=by rw[HO.out.len];exact Nat.le_refl _
 clear hmx hmy
 go_enter Tryz.func92,Tryz.ntmps92
 go_wp2_with fail
 refine (zFO _ _ x y _ hx0 hy0).mono ?_
 rintro e w1 ⟨rfl,hb1⟩
 rw[HK.out]
 have hx1:=hx.stays hb1
 have hy1:=hy.stays hb1
 clear hx0 hy0 hx hy
 go_wp2_with fail
 refine (zCa _ _ (by omega) (by omega)).mono ?_
 rintro e w' ⟨rfl,rfl⟩
 go_wp2_with fail
 go_loop [29,10] (fun i s=>∃k:Nat,∃s':Int,k≤x.length∧i=.int .i64 k∧s=.int .i64 s'∧0≤s'∧s'<31∧zEC x p (x.drop k) (y.drop k) k s'=atV x y p) (fun i _=>x.length - (intOf i).toNat)
 case atStart=>exact ⟨0,0,by omega,rfl,rfl,by omega,by omega,rfl⟩
 case round =>
  obtain ⟨k,s,hk,rfl,rfl,hs0,hs1,hq⟩:=hrel
  have HQ:=Zh hq
  clear hq
  by_cases hlt:k<x.length
  ·obtain ⟨b1,o1,z1,rfl,hc1,hz1,hi1⟩:=hx1 k hlt
   obtain ⟨b2,o2,z2,rfl,hc2,hz2,hi2⟩:=hy1 k (by omega)
   have n1:=HO.out.numx z1 (List.mem_of_getElem? hz1)
   have n2:=HO.out.numy z2 (List.mem_of_getElem? hz2)
   have HZ1:=Zh hz1
   have HZ2:=Zh hz2
   clear hz1 hz2
   go_wp2_with fail
   go_loop [40,13] (fun j t=>∃m:Nat,∃t':Int,m≤x.length∧j=.int .i64 m∧t=.int .i64 t'∧0≤t'∧t'<31∧zBR k z1 p (x.drop m) m t'=zBR k z1 p x 0 z2) (fun j _=>x.length - (intOf j).toNat)
   case atStart=>exact ⟨0,z2,by omega,rfl,rfl,n2.1,n2.2,rfl⟩
   case round =>
    obtain ⟨m,t,hm,rfl,rfl,ht0,ht1,hq⟩:=hrel
    have HR:=Zh hq
    clear hq
    by_cases hlt2:m<x.length
    ·obtain ⟨b3,o3,z3,e3,hc3,hz3,hi3⟩:=hx1 m hlt2
     cases e3
     have n3:=HO.out.numx z3 (List.mem_of_getElem? hz3)
     have HZ3:=Zh hz3
     clear hz3
     by_cases hmk:m=k
     ·have hne:((m:Int) != (k:Int))=false:=by simp[hmk]
      have HM:=Zh hmk
      clear hmk
      go_wp2_with fail
      go_round
      case rel =>
       refine ⟨m+1,t,by omega,by go_num,rfl,ht0,ht1,?_⟩
       rw[←HR.out,zAr HZ3.out]
       simp only[zBR]
       rw[if_pos HM.out]
      case measure=>simp[intOf];omega
     ·have hne:((m:Int) != (k:Int))=true:=by simp;omega
      have HM:=Zh hmk
      clear hmk
      have hmb:0≤t*(p+31 - z3)∧t*(p+31 - z3)≤1900:=by
       have e1:t*(p+31 - z3)≤30*(p+31 - z3):=Int.mul_le_mul_of_nonneg_right (by omega) (by omega)
       exact ⟨Int.mul_nonneg ht0 (by omega),by omega⟩
      obtain ⟨hmb0,hmb1⟩:=hmb
      have hd:=zNc (a:=t*(p+31 - z3) % 31) ((z1+31 - z3) % 31) (by omega) (by omega)
      go_wp2_with (go_at_call 112;refine (zUf _ _ _ (by omega) (by omega) (by omega) (by omega)).mono ?_;rintro e w' ⟨rfl,rfl⟩)
      go_round
      case rel =>
       refine ⟨m+1,_,by omega,by go_num,rfl,hd.1,hd.2,?_⟩
       rw[←HR.out,zAr HZ3.out]
       simp only[zBR]
       rw[if_neg HM.out]
      case measure=>simp[intOf];omega
    ·obtain rfl:m=x.length:=by omega
     go_wp2_with fail
     go_round
     case rel =>
      refine ⟨k+1,(s+t) % 31,by omega,by go_num,rfl,by omega,by omega,?_⟩
      rw[←HQ.out,zAr HZ1.out,zAr HZ2.out]
      simp only[zEC]
      rw[←HR.out]
      simp[zBR]
     case measure=>simp[intOf];omega
  ·obtain rfl:k=x.length:=by omega
   go_wp2_with fail
   go_ret2
   refine ⟨zS1 ?_ rfl,hb1⟩
   rw[←HQ.out]
   simp[zEC]
theorem zHD:Tryz.prog.follows .mixedOrders=true:=by kernel_rfl
theorem zIT{e:Ending}{v:Value}{w w':World}(h:e=.returned v∧w=w'):e=.returned v∧w'=w:=⟨h.1,h.2.symm⟩
theorem zUs{z:Int}(h:0≤z∧z<31):I64 z:=⟨by omega,by omega⟩
theorem zAJ.drew{w:World}{e:TypeId}{base:Nat}{v:Value}{l:List Int}(h:zAJ w e base v l):zAJ w.drew e base v l:=h
theorem zDj.drew{w:World}{a:Option Addr}{l:List Int}(h:zDj w a l):zDj w.drew a l:=h
set_option maxRecDepth 100000 in
theorem zI6(vx vy:Value)(x y:List Int)(p:Int)(w:World)(hx:zAG w vx x)(hy:zAG w vy y)(hok:zC8 x y)(hp0:0≤p)(hp1:p<31) :
  Calls Tryz.prog 87 #[vx,vy,.int .i64 p] w fun e w'=>e=.returned (.int .i64 (zUn x y p))∧Below w.heap.size w w':=by
 have HO:=Zh hok
 have hpos:=hok.pos
 have htop:=hok.top
 have hx0:=hx
 obtain ⟨ax,cx,rfl,hcx,hmx,hx⟩:=hx.opened
 clear hmx hok
 go_enter Tryz.func87,Tryz.ntmps87
 go_wp2_with fail
 refine (zD0 _ y _ hy).mono ?_
 rintro e w1 ⟨⟨vc,rfl,hown⟩,hb1⟩
 have hx1:=hx.stays hb1
 have hyl:y.length≤x.length:=by rw[HO.out.len];exact Nat.le_refl _
 have hyl2:x.length≤y.length:=by rw[HO.out.len];exact Nat.le_refl _
 obtain ⟨g,cap,rfl,hg1,hg2,hcap1,hcap2⟩:=hown.shape (by omega)
 clear hx0 hy hx1
 go_wp2_with fail
 go_loopw[8] (fun i wr=>∃k:Nat,∃c:List Int,1≤k∧k≤x.length∧i=.int .i64 k∧zAJ wr 3 w.heap.size (.slice (some ⟨g,0,none⟩) y.length cap) c∧c.length=y.length∧zCD c∧Below w.heap.size w wr∧w1.grownBy wr (some g)∧zHh x (x.length - k) k c=zHh x (x.length - 1) 1 y) (fun i _=>x.length - (intOf i).toNat)
 case atStart=>exact ⟨1,y,by omega,by omega,rfl,hown,rfl,HO.out.numy,hb1,⟨rfl,rfl,rfl,Nat.le_refl _,fun _ _ _=>rfl⟩,rfl⟩
 case round =>
  obtain ⟨wo,rfl⟩:∃wo:World,wo=wr:=⟨_,rfl⟩
  obtain ⟨k,c,hk1,hk2,rfl,ho,hcl,hnum,hb,hg,hq⟩:=hrel
  have HQ:=Zh hq
  have HC:=Zh hcl
  clear hq hcl
  by_cases hlt:k<x.length
  ·go_wp2_with fail
   go_loopw[9] (fun i wr'=>∃m:Nat,∃c':List Int,m≤x.length - k∧i=.int .i64 ((k:Int)+m - 1)∧zAJ wr' 3 w.heap.size (.slice (some ⟨g,0,none⟩) y.length cap) c'∧c'.length=y.length∧zCD c'∧Below w.heap.size w wr'∧w1.grownBy wr' (some g)∧zQj x k m c'=zQj x k (x.length - k) c) (fun i _=>(intOf i+1 - k).toNat)
   case atStart=>exact ⟨x.length - k,c,by omega,by go_num,ho,HC.out,hnum,hb,hg,rfl⟩
   case round =>
    obtain ⟨m,c',hm,rfl,ho',hcl',hnum',hb',hg',hq'⟩:=hrel
    have HR:=Zh hq'
    have HC':=Zh hcl'
    clear hq' hcl'
    by_cases hm0:1≤m
    ·obtain ⟨m,rfl⟩:∃m',m=m'+1:=⟨m - 1,by omega⟩
     have hcl2:c'.length≤y.length:=by rw[HC'.out];exact Nat.le_refl _
     have hcl3:y.length≤c'.length:=by rw[HC'.out];exact Nat.le_refl _
     rw[show ((k:Int)+((m+1:Nat):Int) - 1)=((k+m:Nat):Int) by omega]
     obtain ⟨i,hi⟩:∃i,i=k+m:=⟨_,rfl⟩
     rw[←hi]
     have hik:i - k=m:=by omega
     have hi1:k≤i:=by omega
     have hi2:i<x.length:=by omega
     have hi3:i<y.length:=by omega
     have hc1:=ho'.cell i (by omega)
     have hc2:=ho'.cell (i - 1) (by omega)
     have hfz:=ho'.free i
     have hn1:=hnum'.getD i
     have hn2:=hnum'.getD (i - 1)
     obtain ⟨u1,hu1⟩:∃u,u=c'.getD i 0:=⟨_,rfl⟩
     obtain ⟨u2,hu2⟩:∃u,u=c'.getD (i - 1) 0:=⟨_,rfl⟩
     rw[←hu1] at hc1 hn1
     rw[←hu2] at hc2 hn2
     obtain ⟨b1,o1,z1,e1,hc3,hz1,hi4⟩:=(hx.stays hb') i hi2
     obtain ⟨b2,o2,z2,e2,hc4,hz2,hi5⟩:=(hx.stays hb') (i - k) (by omega)
     subst e1
     cases e2
     have n1:=HO.out.numx z1 (List.mem_of_getElem? hz1)
     have n2:=HO.out.numx z2 (List.mem_of_getElem? hz2)
     have HX1:=Zh (show x.getD (k+m) 0=z1 by rw[←hi];simp[List.getD_eq_getElem?_getD,hz1])
     have HX2:=Zh (show x.getD m 0=z2 by rw[←hik];simp[List.getD_eq_getElem?_getD,hz2])
     have HU1:=Zh (show c'.getD (k+m) 0=u1 by rw[←hi,hu1])
     have HU2:=Zh (show c'.getD (k+m - 1) 0=u2 by rw[←hi,hu2])
     have HI:=Zh hi
     clear hu1 hu2 hz1 hz2 hi hik
     have l1:=zHM u1 u2
     have l2:=zHM z1 z2
     have q1:=zOb (zCk u1 u2) (zCk z1 z2)
     have C1:=Zh (fun w=>zLX u1 u2 w (by omega) (by omega) (by omega) (by omega))
     have C2:=Zh (fun w=>zLX z1 z2 w (by omega) (by omega) (by omega) (by omega))
     have C3:=Zh (fun w=>zMD (zCk u1 u2) (zCk z1 z2) w (by omega) (by omega))
     go_wp2_with fail
     have s2:(0:Int)≤(i:Int) - 1:=by omega
     have s3:(i:Int) - 1<(y.length:Int):=by omega
     have s11:(1:Int)≤(i:Int):=by omega
     have s12:(k:Int)≤(i:Int):=by omega
     have s6:(0:Int)≤(i:Int) - (k:Int):=by omega
     have s7:(i:Int) - (k:Int)<(x.length:Int):=by omega
     have s9:(i:Int)<(x.length:Int):=by omega
     have s10:(i:Int)<(y.length:Int):=by omega
     have s4:((i:Int) - 1).toNat=i - 1:=by omega
     have s8:((i:Int) - (k:Int)).toNat=i - k:=by omega
     have s1:IntKind.i64.wrap ((i:Int) - 1)=(i:Int) - 1:=IntWalk.i64_in _ (by omega)
     have s5:IntKind.i64.wrap ((i:Int) - (k:Int))=(i:Int) - (k:Int):=IntWalk.i64_in _ (by omega)
     refine wp_region_still_tail 25 zHD (by kernel_rfl) ?_
     simp only[List.take_succ_cons,List.take_zero,List.drop_succ_cons,List.drop_zero]
     repeat still_step
     still_call ((C1.out _).mono fun _ _ h=>zIT h)
     repeat still_step
     still_call ((C2.out _).mono fun _ _ h=>zIT h)
     repeat still_step
     still_call ((C3.out _).mono fun _ _ h=>zIT h)
     repeat still_step
     clear s1 s2 s3 s4 s5 s6 s7 s8 s9 s10 s11 s12
     try refine wpStill_nil ?_
     change wpList _ _ _ _ _ wr.drew
     have ho2:=(ho'.drew).stored i (zSZ (zCk u1 u2) (zCk z1 z2)) (zUs q1)
     have hfz2:wr.drew.frozen? ⟨g,i,none⟩=false:=hfz
     have hcd:wr.drew.cell? ⟨g,i,none⟩=some (.int .i64 u1):=hc1
     have hbd:Below w.heap.size w wr.drew:=hb'.drew
     have hgd:w1.grownBy wr.drew (some g):=⟨hg'.os,hg'.tape,hg'.output,hg'.size,hg'.block⟩
     generalize wr.drew=w2 at *
     clear hc1 hc2 hc3 hc4 hfz
     go_wp2_with fail
     go_roundw
     case rel =>
      refine ⟨m,c'.set i (zSZ (zCk u1 u2) (zCk z1 z2)),by omega,by rw[HI.out];go_num,ho2,by simp[HC'.out],hnum'.set _ q1.1 q1.2,hbd.setCell hg1 _,⟨hgd.os,hgd.tape,hgd.output,by simpa using hgd.size,fun j hj hne=>(Below.heap_setCell _ _ _ _ (by intro e;exact hne (by rw[e]))).trans (hgd.block j hj hne)⟩,?_⟩
      rw[←HR.out]
      simp only[zQj]
      rw[HX1.out,HX2.out,HU1.out,HU2.out,HI.out]
     case measure=>simp[intOf];omega
    ·obtain rfl:m=0:=by omega
     go_wp2_with fail
     go_roundw
     case rel =>
      refine ⟨k+1,c',by omega,by omega,by go_num,ho',HC'.out,hnum',hb',hg',?_⟩
      rw[←HQ.out,show x.length - k=(x.length - (k+1))+1 by omega]
      simp only[zHh]
      have:=HR.out
      simp only[zQj] at this
      rw[←this]
     case measure=>simp[intOf];omega
  ·obtain rfl:k=x.length:=by omega
   have hq2:=HQ.out
   rw[Nat.sub_self] at hq2
   simp only[zHh] at hq2
   have HQ2:=Zh hq2
   clear hq2
   go_wp2_with fail
   go_loopw[10,11] (fun v i wr=>∃m:Nat,∃v':Int,m≤x.length∧i=.int .i64 ((m:Int) - 1)∧v=.int .i64 v'∧0≤v'∧v'<31∧zAJ wr 3 w.heap.size (.slice (some ⟨g,0,none⟩) y.length cap) c∧Below w.heap.size w wr∧zGu x c p m v'=zUn x y p) (fun _ i _=>(intOf i+1).toNat)
   case atStart=>exact ⟨x.length,0,by omega,by go_num,rfl,by omega,by omega,ho,hb,by unfold zUn;rw[HQ2.out]⟩
   case round =>
    obtain ⟨m,v,hm,rfl,rfl,hv0,hv1,ho',hb',hq'⟩:=hrel
    have HR:=Zh hq'
    clear hq'
    by_cases hm0:1≤m
    ·obtain ⟨m,rfl⟩:∃m',m=m'+1:=⟨m - 1,by omega⟩
     rw[show (((m+1:Nat):Int) - 1)=(m:Int) by omega]
     have hcl3:y.length≤c.length:=by rw[HC.out];exact Nat.le_refl _
     have hm2:m<y.length:=by omega
     have hc1:=ho'.cell m (by omega)
     have hn1:=hnum.getD m
     obtain ⟨u1,hu1⟩:∃u,u=c.getD m 0:=⟨_,rfl⟩
     rw[←hu1] at hc1 hn1
     obtain ⟨b1,o1,z1,e1,hc3,hz1,hi4⟩:=(hx.stays hb') m (by omega)
     subst e1
     have n1:=HO.out.numx z1 (List.mem_of_getElem? hz1)
     have HX1:=Zh (show x.getD m 0=z1 by simp[List.getD_eq_getElem?_getD,hz1])
     have HU1:=Zh hu1
     clear hu1 hz1
     have l1:=zHM p z1
     have C1:=Zh (fun w=>zLX p z1 w (by omega) (by omega) (by omega) (by omega))
     have hmb:0≤v*zCk p z1∧v*zCk p z1≤900:=zRK hv0 hv1 l1.1 l1.2
     obtain ⟨mb0,mb1⟩:=hmb
     go_wp2_with fail
     have s2:(0:Int)≤(m:Int):=by omega
     have s3:(m:Int)<(y.length:Int):=by omega
     have s4:(m:Int)<(x.length:Int):=by omega
     have s6:0≤v*zCk p z1+u1:=by omega
     have s1:IntKind.i64.wrap (v*zCk p z1)=v*zCk p z1:=IntWalk.i64_in _ (by omega)
     have s5:IntKind.i64.wrap (v*zCk p z1+u1)=v*zCk p z1+u1:=IntWalk.i64_in _ (by omega)
     have s7:(v*zCk p z1+u1).tmod 31=(v*zCk p z1+u1) % 31:=IntWalk.rem_in _ _ s6
     refine wp_region_still_tail 14 zHD (by kernel_rfl) ?_
     simp only[List.take_succ_cons,List.take_zero,List.drop_succ_cons,List.drop_zero]
     repeat still_step
     still_call ((C1.out _).mono fun _ _ h=>zIT h)
     repeat still_step
     clear s1 s2 s3 s4 s5 s6 s7
     try refine wpStill_nil ?_
     change wpList _ _ _ _ _ wr.drew
     have hod:zAJ wr.drew 3 w.heap.size (.slice (some ⟨g,0,none⟩) y.length cap) c:=ho'
     have hbd:Below w.heap.size w wr.drew:=hb'.drew
     generalize wr.drew=w2 at *
     clear hc1 hc3
     go_wp2_with fail
     go_roundw
     case rel =>
      refine ⟨m,_,by omega,by go_num,rfl,by omega,by omega,hod,hbd,?_⟩
      rw[←HR.out]
      simp only[zGu]
      rw[HX1.out,←HU1.out]
     case measure=>simp[intOf]
    ·obtain rfl:m=0:=by omega
     go_wp2_with fail
     go_ret
     exact ⟨zAL HR.out,hb'⟩
abbrev F:=Fin 31
def inv(a:F):F:=a ^ 29
theorem zLi:∀a:F,a≠0→a*inv a=1:=by decide +kernel
theorem zPX(a b:F)(h:a*b=0):a=0∨b=0:=by
 by_cases ha:a=0
 ·exact Or.inl ha
 ·have hi:=zLi a ha
  right
  have:b=(a*inv a)*b:=by rw[hi];grind
  rw[this];grind
def pv:List F→F→F
 | [],_=>0
 | a::c,x=>a+x*pv c x
theorem zVa(c:List F)(r:F):∀a,∃q,q.length=c.length∧∀x,pv (a::c) x=pv (a::c) r+(x - r)*pv q x:=by
 induction c with
 | nil=>intro a;exact ⟨[],rfl,fun x=>by simp only[pv];grind⟩
 | cons b c ih =>
  intro a
  obtain ⟨q,hq,h⟩:=ih b
  refine ⟨pv (b::c) r::q,by simp[hq],fun x=>?_⟩
  have e:=h x
  simp only[pv] at *
  grind
theorem zVs:∀(xs:List F) (c:List F),xs.Nodup→c.length≤xs.length→(∀x∈xs,pv c x=0)→∀x,pv c x=0
 | [],c,_,hl,_,x=>by
  have:c=[]:=List.eq_nil_of_length_eq_zero (by simpa using hl)
  rw[this];rfl
 | r::xs,[],_,_,_,x=>rfl
 | r::xs,a::c,hn,hl,hz,x=>by
  obtain ⟨q,hq,h⟩:=zVa c r a
  have hr:=hz r (by simp)
  have hn':=List.nodup_cons.1 hn
  have hq0:=zVs xs q hn'.2 (by simp at hl;omega) (fun y hy=>by
   have h1:=hz y (by simp[hy])
   rw[h y,hr] at h1
   have h2:(y - r)*pv q y=0:=by grind
   rcases zPX _ _ h2 with h3|h3
   ·exact absurd (show y=r by grind) (fun e=>hn'.1 (e ▸ hy))
   ·exact h3)
  rw[h x,hr,hq0 x];grind
def Deg(n:Nat)(f:F→F):Prop:=∃c:List F,c.length≤n∧∀x,f x=pv c x
def zRn:List F→List F→List F
 | [],d=>d
 | c,[]=>c
 | a::c,b::d=>(a+b)::zRn c d
theorem zLl:∀c d:List F,(zRn c d).length=max c.length d.length
 | [],d=>by simp[zRn]
 | a::c,[]=>by simp[zRn]
 | a::c,b::d=>by simp[zRn,zLl c d]
theorem zNv:∀(c d:List F) (x:F),pv (zRn c d) x=pv c x+pv d x
 | [],d,x=>by simp only[zRn,pv];grind
 | a::c,[],x=>by simp only[zRn,pv];grind
 | a::c,b::d,x=>by simp only[zRn,pv,zNv c d x];grind
theorem zOE(k:F):∀(c:List F) (x:F),pv (c.map (k * ·)) x=k*pv c x
 | [],x=>by simp only[List.map_nil,pv];grind
 | a::c,x=>by simp only[List.map_cons,pv,zOE k c x];grind
theorem Deg.mono{n m:Nat}{f:F→F}(h:Deg n f)(hm:n≤m):Deg m f:=let ⟨c,hc,e⟩:=h;⟨c,Nat.le_trans hc hm,e⟩
theorem Deg.congr{n:Nat}{f g:F→F}(h:Deg n f)(e:∀x,g x=f x):Deg n g:=let ⟨c,hc,e'⟩:=h;⟨c,hc,fun x=>(e x).trans (e' x)⟩
theorem Deg.add{n:Nat}{f g:F→F}(h:Deg n f)(k:Deg n g):Deg n (fun x=>f x+g x):=by
 obtain ⟨c,hc,e⟩:=h
 obtain ⟨d,hd,e'⟩:=k
 exact ⟨zRn c d,by rw[zLl];omega,fun x=>by dsimp only;rw[zNv,e,e']⟩
theorem Deg.smul{n:Nat}{f:F→F}(k:F)(h:Deg n f):Deg n (fun x=>k*f x):=by
 obtain ⟨c,hc,e⟩:=h
 exact ⟨c.map (k * ·),by simpa using hc,fun x=>by dsimp only;rw[zOE,e]⟩
theorem Deg.sub{n:Nat}{f g:F→F}(h:Deg n f)(k:Deg n g):Deg n (fun x=>f x - g x):=
 (h.add (k.smul (-1))).congr fun x=>by grind
theorem Deg.const(a:F):Deg 1 (fun _=>a):=⟨[a],by simp,fun x=>by simp only[pv];grind⟩
theorem Deg.zero(n:Nat):Deg n (fun _=>0):=⟨[],by simp,fun x=>rfl⟩
theorem Deg.lin{n:Nat}{f:F→F}(a:F)(h:Deg n f):Deg (n+1) (fun x=>(x - a)*f x):=by
 obtain ⟨c,hc,e⟩:=h
 refine ⟨zRn (0::c) (c.map ((-a) * ·)),by rw[zLl];simp;omega,fun x=>?_⟩
 dsimp only
 rw[zNv,zOE,e]
 simp only[pv]
 grind
theorem Deg.uniq{n:Nat}{f g:F→F}(h:Deg n f)(k:Deg n g){xs:List F}(hn:xs.Nodup)(hl:n≤xs.length)(he:∀x∈xs,f x=g x):∀x,f x=g x:=by
 obtain ⟨c,hc,e⟩:=h.sub k
 intro x
 have:=zVs xs c hn (by omega) (fun y hy=>by rw[←e y];dsimp only;rw[he y hy];grind) x
 rw[←e x] at this
 grind
def zHO(n:Nat)(a:F)(f:F→F):Prop:=Deg n (fun x=>f x - a*x ^ n)
theorem zHO.deg{n:Nat}{a:F}{f:F→F}(h:zHO n a f):Deg (n+1) f:=by
 have hp:∀m:Nat,Deg (m+1) (fun x=>x ^ m):=by
  intro m
  induction m with
  | zero=>exact (Deg.const 1).congr fun x=>by grind
  | succ m ih=>exact (ih.lin 0).congr fun x=>by grind
 exact ((h.mono (Nat.le_succ n)).add ((hp n).smul a)).congr fun x=>by grind
theorem zHO.of_deg{n:Nat}{f:F→F}(h:Deg n f):zHO n 0 f:=h.congr fun x=>by grind
theorem zHO.const(a:F):zHO 0 a (fun _=>a):=(Deg.zero 0).congr fun x=>by grind
theorem zHO.add{n:Nat}{a b:F}{f g:F→F}(h:zHO n a f)(k:zHO n b g):zHO n (a+b) (fun x=>f x+g x):=
 (Deg.add h k).congr fun x=>by grind
theorem zHO.smul{n:Nat}{a:F}{f:F→F}(k:F)(h:zHO n a f):zHO n (k*a) (fun x=>k*f x):=
 (Deg.smul k h).congr fun x=>by grind
theorem zHO.lin{n:Nat}{a:F}{f:F→F}(r:F)(h:zHO n a f):zHO (n+1) a (fun x=>(x - r)*f x):=by
 have h2:Deg (n+1) (fun x=>(x - r)*(f x - a*x ^ n)):=Deg.lin r h
 have h3:Deg (n+1) (fun x=>(-r*a)*x ^ n):=by
  have:zHO n 1 (fun x=>x ^ n):=(Deg.zero n).congr fun x=>by grind
  exact this.deg.smul (-r*a)
 exact (h2.add h3).congr fun x=>by grind
theorem zHO.eq_deg{n:Nat}{a:F}{f g:F→F}(h:zHO n a f)(k:zHO n a g):Deg n (fun x=>f x - g x):=
 (Deg.sub h k).congr fun x=>by grind
section
variable (x y : Nat → F)
def dd:Nat→Nat→F
 | i,0=>y i
 | i,k+1=>(dd i k - dd (i - 1) k)*inv (x i - x (i - 1 - k))
def zF5(i:Nat):Nat→F→F
 | 0,_=>1
 | k+1,p=>(p - x (i - 1 - k))*zF5 i k p
def zNY:Nat→Nat→F→F
 | i,0,_=>y i
 | i,k+1,p=>zNY (i - 1) k p+dd x y i (k+1)*zF5 x i (k+1) p
variable {x y}
theorem zKB(i:Nat):∀k,zHO k 1 (zF5 x i k)
 | 0=>zHO.const 1
 | k+1=>(zKB i k).lin (x (i - 1 - k))
theorem zKg(i:Nat):∀(k j:Nat),j<k→zF5 x i k (x (i - 1 - j))=0
 | 0,_,h=>absurd h (Nat.not_lt_zero _)
 | k+1,j,h=>by
  simp only[zF5]
  rcases Nat.lt_succ_iff_lt_or_eq.1 h with h'|rfl
  ·rw[zKg i k j h'];grind
  ·grind
theorem zJP(n:Nat)(hinj:∀i j,i<n→j<n→x i=x j→i=j):∀(k i:Nat),k≤i→i<n →
  zHO k (dd x y i k) (zNY x y i k)∧∀j,j≤k→zNY x y i k (x (i - j))=y (i - j)
 | 0,i,_,_=>⟨zHO.const _,fun j hj=>by
                        obtain rfl:j=0:=by omega
                        rfl⟩
 | k+1,i,hk,hi=>by
  obtain ⟨l1,p1⟩:=zJP n hinj k i (by omega) hi
  obtain ⟨l2,p2⟩:=zJP n hinj k (i - 1) (by omega) (by omega)
  have hd:x i - x (i - 1 - k)≠0:=fun h=>by
   have:=hinj i (i - 1 - k) hi (by omega) (by grind)
   omega
  have hu:=zLi _ hd
  obtain ⟨u,hu'⟩:∃u,u=inv (x i - x (i - 1 - k)):=⟨_,rfl⟩
  rw[←hu'] at hu
  let R:F→F:=fun p=>u*((p - x (i - 1 - k))*zNY x y i k p+(-1)*((p - x i)*zNY x y (i - 1) k p))
  have lR:zHO (k+1) (u*(dd x y i k+(-1)*dd x y (i - 1) k)) R:=((l1.lin _).add ((l2.lin _).smul (-1))).smul u
  have pR:∀j,j≤k+1→R (x (i - j))=y (i - j):=by
   intro j hj
   show u*((x (i - j) - x (i - 1 - k))*zNY x y i k (x (i - j))+(-1)*((x (i - j) - x i)*zNY x y (i - 1) k (x (i - j))))=y (i - j)
   rcases Nat.eq_zero_or_pos j with rfl|hj0
   ·rw[p1 0 (by omega)]
    simp only[Nat.sub_zero]
    grind
   ·have e2:=p2 (j - 1) (by omega)
    rw[show i - 1 - (j - 1)=i - j by omega] at e2
    rw[e2]
    by_cases hjk:j≤k
    ·rw[p1 j hjk]
     grind
    ·obtain rfl:j=k+1:=by omega
     rw[show i - (k+1)=i - 1 - k by omega]
     grind
  have lQ:zHO (k+1) (dd x y i (k+1)) (zNY x y i (k+1)):=by
   have h1:zHO (k+1) 0 (zNY x y (i - 1) k):=zHO.of_deg l2.deg
   have h2:=h1.add ((zKB (x:=x) i (k+1)).smul (dd x y i (k+1)))
   exact Deg.congr h2 fun p=>by
    show zNY x y (i - 1) k p+dd x y i (k+1)*zF5 x i (k+1) p - _=_
    grind
  have hdd:u*(dd x y i k+(-1)*dd x y (i - 1) k)=dd x y i (k+1):=by
   simp only[dd]
   rw[←hu']
   grind
  rw[hdd] at lR
  have hne:∀a b,a<n→b<n→a≠b→x a≠x b:=fun a b ha hb hab e=>hab (hinj a b ha hb e)
  have hsame:∀p,zNY x y i (k+1) p - R p=0:=by
   have hd:=lQ.eq_deg lR
   refine Deg.uniq hd (Deg.zero (k+1)) (xs:=(List.range (k+1)).map fun j=>x (i - 1 - j)) ?_ (by simp) ?_
   ·refine List.pairwise_map.2 (List.Pairwise.imp_of_mem ?_ List.pairwise_lt_range)
    intro a b ha hb hab
    simp at ha hb
    exact hne _ _ (by omega) (by omega) (by omega)
   ·intro z hz
    obtain ⟨j,hj,rfl⟩:=List.mem_map.1 hz
    simp at hj
    have e1:=pR (j+1) (by omega)
    rw[show i - (j+1)=i - 1 - j by omega] at e1
    have e2:=p2 j (by omega)
    rw[e1]
    show zNY x y (i - 1) k (x (i - 1 - j))+dd x y i (k+1)*zF5 x i (k+1) (x (i - 1 - j)) - _=_
    rw[zKg i (k+1) j (by omega),e2]
    grind
  refine ⟨lQ,fun j hj=>?_⟩
  have h1:=hsame (x (i - j))
  rw[pR j hj] at h1
  grind
end
def toF(x:Int):F:=⟨(x % 31).toNat,by omega⟩
theorem zHd(a b:Int):toF (a+b)=toF a+toF b:=by
 apply Fin.ext
 simp only[toF,Fin.val_add]
 omega
theorem zJT(a b:Int):toF (a*b)=toF a*toF b:=by
 apply Fin.ext
 simp only[toF,Fin.val_mul]
 have ha:=Int.emod_nonneg a (show (31:Int)≠0 by omega)
 have hb:=Int.emod_nonneg b (show (31:Int)≠0 by omega)
 rw[Int.mul_emod]
 generalize a % 31=x at *
 generalize b % 31=z at *
 obtain ⟨m,rfl⟩:=Int.eq_ofNat_of_zero_le ha
 obtain ⟨n,rfl⟩:=Int.eq_ofNat_of_zero_le hb
 simp only[Int.toNat_natCast]
 show ((m*n:Nat) % 31:Int).toNat=m*n % 31
 generalize m*n=q
 omega
theorem zDm(a:Int):toF (a % 31)=toF a:=by apply Fin.ext;simp only[toF];omega
theorem zGi:toF 0=0:=by decide
theorem zV0:toF 31=0:=by decide
theorem zGY{a b:Int}(h0:0≤a)(h1:a<31)(h2:0≤b)(h3:b<31)(h:toF a=toF b):a=b:=by
 have:=congrArg Fin.val h
 simp only[toF] at this
 omega
theorem zLS(p b:Int):toF (p+31 - b)=toF p - toF b:=by
 have h:=zHd (p+31 - b) b
 rw[show p+31 - b+b=p+31 by omega,zHd,zV0] at h
 grind
theorem zG0(p b:Int):toF (zCk p b)=toF p - toF b:=by unfold zCk;rw[zDm,zLS]
theorem zT4{a b:Int}(h0:0≤a)(h1:a<31)(h2:0≤b)(h3:b<31)(h:a≠b):toF a - toF b≠0:=fun e=>h (zGY h0 h1 h2 h3 (by grind))
theorem zOo{a b:Int}(h0:0≤a)(h1:a<31)(h2:0<b)(h3:b<31):toF (zJp a b)=toF a*inv (toF b):=by
 have e:=(zJC h0 h1 h2 h3).2
 have hb:toF b≠0:=fun e=>by
  have:=zGY (Int.le_of_lt h2) h3 (show (0:Int)≤0 by omega) (by omega) (by rw[e,zGi])
  omega
 have hi:=zLi _ hb
 have h:toF (zJp a b*b % 31)=toF a:=by rw[e]
 rw[zDm,zJT] at h
 rw[←h]
 grind
theorem zS7:inv 0=0:=by decide
theorem zOk{a b:Int}(h0:0≤a)(h1:a<31)(h2:0≤b)(h3:b<31):toF (zQW a b)=toF a*inv (toF b):=by
 unfold zQW
 split
 ·rename_i h;subst h;rw[zGi,zS7];grind
 ·exact zOo h0 h1 (by omega) h3
theorem zTE{a b:Int}(h0:0≤a)(h1:a<31)(h2:0<b)(h3:b<31):toF (zSZ a b)=toF a*inv (toF b):=by
 rw[←(zJC h0 h1 h2 h3).1,zOo h0 h1 h2 h3]
def zUo(n:Nat)(f:Int→Int):Prop:=∃g:F→F,Deg n g∧∀p,toF (f p)=g (toF p)
def cnt(i:Nat):List Int→Nat→Nat
 | [],_=>0
 | _::l,j=>(if j=i then 0 else 1)+cnt i l (j+1)
theorem zPN(i:Nat):∀(l:List Int) (j:Nat),i<j→cnt i l j=l.length
 | [],_,_=>rfl
 | _::l,j,h=>by simp only[cnt];rw[if_neg (by omega),zPN i l (j+1) (by omega)];simp;omega
theorem zT7(i:Nat):∀(l:List Int) (j:Nat),j≤i→i<j+l.length→cnt i l j=l.length - 1
 | [],_,_,h=>by simp at h;omega
 | _::l,j,h,h'=>by
  simp only[cnt]
  by_cases e:j=i
  ·rw[if_pos e,zPN i l (j+1) (by omega)];simp
  ·rw[if_neg e,zT7 i l (j+1) (by omega) (by simp at h';omega)];simp at h' ⊢;omega
theorem zLQ(i:Nat)(a:Int):∀(l:List Int) (j n:Nat) (t:Int→Int),zUo n t→zUo (n+cnt i l j) (fun p=>zBR i a p l j (t p))
 | [],_,_,_,h=>h
 | b::l,j,n,t,h=>by
  by_cases e:j=i
  ·have:=zLQ i a l (j+1) n t h
   simpa[cnt,zBR,e] using this
  ·have h2:zUo (n+1) (fun p=>zQW (t p*(p+31 - b) % 31) ((a+31 - b) % 31)):=by
    obtain ⟨g,hg,eg⟩:=h
    refine ⟨fun x=>inv (toF ((a+31 - b) % 31))*((x - toF b)*g x),(hg.lin _).smul _,fun p=>?_⟩
    dsimp only
    rw[zOk (by omega) (by omega) (by omega) (by omega),zDm,zJT,zLS,eg]
    grind
   have:=zLQ i a l (j+1) (n+1) _ h2
   simp only[cnt,zBR,e,if_false]
   rw[show n+(1+cnt i l (j+1))=n+1+cnt i l (j+1) by omega]
   exact this
theorem zUA(full:List Int):∀(x y:List Int) (i:Nat) (s:Int→Int),i+x.length≤full.length→1≤full.length→zUo full.length s→zUo full.length (fun p=>zEC full p x y i (s p))
 | [],_,_,_,_,_,h=>h
 | _::_,[],_,_,_,_,h=>h
 | a::x,y::ys,i,s,hi,hl,h=>by
  simp only[zEC]
  have ht:=zLQ i a full 0 1 (fun _=>y) ⟨fun _=>toF y,Deg.const _,fun _=>rfl⟩
  rw[zT7 i full 0 (by omega) (by simp at hi;omega)] at ht
  refine zUA full x ys (i+1) (fun p=>(s p+zBR i a p full 0 y) % 31) (by simp at hi;omega) hl ?_
  obtain ⟨g,hg,eg⟩:=h
  obtain ⟨k,hk,ek⟩:=ht
  refine ⟨fun z=>g z+k z,hg.add (hk.mono (by omega)),fun p=>?_⟩
  dsimp only
  rw[zDm,zHd,eg,ek]
theorem zGM{x y:List Int}(h:1≤x.length):zUo x.length (atV x y):=zUA x x y 0 (fun _=>0) (by omega) h ⟨fun _=>0,Deg.zero _,fun _=>zGi⟩
theorem zMz(d:Int):zQW 0 d=0:=by
 unfold zQW
 split
 ·rfl
 ·have:∀n,zTU d n 0=0:=by
   intro n
   induction n with
   | zero=>rfl
   | succ n ih=>simp[zTU,ih]
  exact this 29
theorem zJB(i:Nat)(a p:Int):∀(l:List Int) (j:Nat),zBR i a p l j 0=0
 | [],_=>rfl
 | b::l,j=>by
  simp only[zBR]
  split
  ·exact zJB i a p l (j+1)
  ·rw[Int.zero_mul,Int.zero_emod,zMz];exact zJB i a p l (j+1)
theorem zKb(i:Nat)(a p:Int):∀(l:List Int) (j k:Nat) (t:Int),l[k]?=some p→j+k≠i→zBR i a p l j t=0
 | [],_,_,_,h,_=>by simp at h
 | b::l,j,0,t,h,hne=>by
  simp only[List.getElem?_cons_zero,Option.some.injEq] at h
  subst h
  simp only[zBR]
  rw[if_neg (by omega),show b+31 - b=31 by omega,show t*31 % 31=0 by omega,zMz]
  exact zJB i a b l (j+1)
 | b::l,j,k+1,t,h,hne=>by
  simp only[List.getElem?_cons_succ] at h
  simp only[zBR]
  exact zKb i a p l (j+1) k _ h (by omega)
theorem zI9(i:Nat)(a:Int)(ha:0≤a∧a<31):∀(l:List Int) (j:Nat) (t:Int),0≤t→t<31→(∀b∈l,0≤b∧b<31)→(∀k b,l[k]?=some b→j+k≠i→b≠a)→zBR i a a l j t=t
 | [],_,_,_,_,_,_=>rfl
 | b::l,j,t,h0,h1,hr,hd=>by
  have hd':∀k c,l[k]?=some c→j+1+k≠i→c≠a:=fun k c hc hne=>hd (k+1) c (by simpa using hc) (by omega)
  have hr':∀c∈l,0≤c∧c<31:=fun c hc=>hr c (by simp[hc])
  simp only[zBR]
  split
  ·exact zI9 i a ha l (j+1) t h0 h1 hr' hd'
  ·rename_i hne
   have hb:=hr b (by simp)
   have hba:=hd 0 b (by simp) (by omega)
   have e:zQW (t*(a+31 - b) % 31) ((a+31 - b) % 31)=t:=by
    have hq:=zNc (a:=t*(a+31 - b) % 31) ((a+31 - b) % 31) (by omega) (by omega)
    refine zGY hq.1 hq.2 h0 h1 ?_
    rw[zOk (by omega) (by omega) (by omega) (by omega),zDm,zJT,zDm,zLS]
    have:=zLi _ (zT4 ha.1 ha.2 hb.1 hb.2 (Ne.symm hba))
    grind
   rw[e]
   exact zI9 i a ha l (j+1) t h0 h1 hr' hd'
theorem zLk{l:List Int}(h:l.Nodup){i j:Nat}{a b:Int}(ha:l[i]?=some a)(hb:l[j]?=some b)(hij:i≠j):a≠b:=by
 intro e
 subst e
 obtain ⟨h1,e1⟩:=List.getElem?_eq_some_iff.1 ha
 obtain ⟨h2,e2⟩:=List.getElem?_eq_some_iff.1 hb
 exact hij ((List.getElem_inj h).1 (e1.trans e2.symm))
theorem zHQ{x y:List Int}(h:zC8 x y){m:Nat}{p v:Int}(hp:x[m]?=some p)(hv:y[m]?=some v):∀(r i:Nat) (s:Int),0≤s→s<31→r=x.length - i→i≤x.length →
  zEC x p (x.drop i) (y.drop i) i s=if i≤m then (s+v) % 31 else s
 | 0,i,s,h0,h1,hr,hi=>by
  obtain rfl:i=x.length:=by omega
  have hm:=(List.getElem?_eq_some_iff.1 hp).1
  simp[zEC];omega
 | r+1,i,s,h0,h1,hr,hi=>by
  have hlt:i<x.length:=by omega
  have hlt':i<y.length:=by have:=h.len;omega
  have ea:x[i]?=some x[i]:=by simp[hlt]
  have eb:y[i]?=some y[i]:=by simp[hlt']
  rw[List.drop_eq_getElem_cons hlt,List.drop_eq_getElem_cons hlt']
  simp only[zEC]
  have hy:=h.numy y[i] (List.getElem_mem hlt')
  by_cases hmi:i=m
  ·subst hmi
   rw[hp] at ea
   rw[hv] at eb
   cases ea;cases eb
   rw[zI9 i x[i] (h.numx _ (List.getElem_mem hlt)) x 0 y[i] hy.1 hy.2 h.numx (fun k b hb hne=>(zLk h.nodup hb hp (by omega)))]
   rw[zHQ h hp hv r (i+1) _ (by omega) (by omega) (by omega) (by omega),if_neg (by omega),if_pos (by omega)]
  ·rw[zKb i x[i] p x 0 m y[i] hp (by omega),Int.add_zero,Int.emod_eq_of_lt h0 h1]
   rw[zHQ h hp hv r (i+1) s h0 h1 (by omega) (by omega)]
   by_cases hle:i≤m
   ·rw[if_pos (by omega),if_pos hle]
   ·rw[if_neg (by omega),if_neg hle]
theorem zCv{x y:List Int}(h:zC8 x y){m:Nat}{p v:Int}(hp:x[m]?=some p)(hv:y[m]?=some v):atV x y p=v:=by
 have hy:=h.numy v (List.mem_of_getElem? hv)
 have:=zHQ h hp hv x.length 0 0 (by omega) (by omega) (by omega) (by omega)
 simp only[List.drop_zero] at this
 unfold atV
 rw[this,if_pos (by omega)]
 omega
theorem zES{x y:List Int}(h:zC8 x y){f:Int→Int}(hf:zUo x.length f)(hb:∀p,0≤f p∧f p<31)(ht:∀(m:Nat) (p v:Int),x[m]?=some p→y[m]?=some v→f p=v)(p:Int):f p=atV x y p:=by
 obtain ⟨g,hg,eg⟩:=hf
 obtain ⟨k,hk,ek⟩:=zGM (y:=y) h.pos
 have hd:(x.map toF).Nodup:=by
  refine List.pairwise_map.2 (List.Pairwise.imp_of_mem ?_ h.nodup)
  intro a b ha hb hab
  have h1:=h.numx a ha
  have h2:=h.numx b hb
  exact fun e=>hab (zGY h1.1 h1.2 h2.1 h2.2 e)
 have hs:=Deg.uniq hg hk hd (by simp) (by
  intro z hz
  obtain ⟨a,ha,rfl⟩:=List.mem_map.1 hz
  obtain ⟨m,hm,rfl⟩:=List.getElem_of_mem ha
  have hm':m<y.length:=by have:=h.len;omega
  rw[←eg,←ek,ht m x[m] y[m] (by simp[hm]) (by simp[hm']),zCv h (m:=m) (v:=y[m]) (by simp[hm]) (by simp[hm'])])
 have ha:=zEk x y p
 have hb':=hb p
 refine zGY hb'.1 hb'.2 ha.1 ha.2 ?_
 rw[eg,ek]
 exact hs _
theorem zSk(c:List Int)(i j:Nat)(z:Int)(hi:i<c.length):(c.set i z).getD j 0=if j=i then z else c.getD j 0:=by
 simp only[List.getD_eq_getElem?_getD,List.getElem?_set]
 by_cases h:i=j
 ·subst h;simp[hi]
 ·simp[h,Ne.symm h]
section
variable {x y : List Int}
theorem zNT(h:zC8 x y)(k:Nat)(hk:1≤k):∀(m:Nat) (c:List Int),k+m≤x.length→c.length=x.length→zCD c →
  (∀i,i<x.length→toF (c.getD i 0)=dd (fun i=>toF (x.getD i 0)) (fun i=>toF (y.getD i 0)) i (if k+m≤i then k else min i (k - 1))) →
  ∀i,i<x.length→toF ((zQj x k m c).getD i 0)=dd (fun i=>toF (x.getD i 0)) (fun i=>toF (y.getD i 0)) i (if k≤i then k else min i (k - 1))
 | 0,c,_,_,_,hc=>hc
 | m+1,c,hm,hl,hn,hc=>by
  simp only[zQj]
  have hx:∀i,i<x.length→0≤x.getD i 0∧x.getD i 0<31:=fun i _=>zCD.getD h.numx i
  have l1:=zHM (c.getD (k+m) 0) (c.getD (k+m - 1) 0)
  have l2:=zHM (x.getD (k+m) 0) (x.getD m 0)
  have hq:=zOb (zCk (c.getD (k+m) 0) (c.getD (k+m - 1) 0)) (zCk (x.getD (k+m) 0) (x.getD m 0))
  have hne:x.getD (k+m) 0≠x.getD m 0:=by
   have e1:x[k+m]?=some (x.getD (k+m) 0):=by simp[show k+m<x.length by omega]
   have e2:x[m]?=some (x.getD m 0):=by simp[show m<x.length by omega]
   exact zLk h.nodup e1 e2 (by omega)
  have hf:=zT4 (hx (k+m) (by omega)).1 (hx (k+m) (by omega)).2 (hx m (by omega)).1 (hx m (by omega)).2 hne
  have hpos:0<zCk (x.getD (k+m) 0) (x.getD m 0):=by
   rcases Int.lt_or_le 0 (zCk (x.getD (k+m) 0) (x.getD m 0)) with h'|h'
   ·exact h'
   ·have e0:zCk (x.getD (k+m) 0) (x.getD m 0)=0:=by omega
    have:=zG0 (x.getD (k+m) 0) (x.getD m 0)
    rw[e0,zGi] at this
    exact absurd this.symm hf
  refine zNT h k hk m _ (by omega) (by simpa using hl) (hn.set _ hq.1 hq.2) ?_
  intro i hi
  rw[zSk _ _ _ _ (by omega)]
  by_cases hi2:i=k+m
  ·subst hi2
   rw[if_pos rfl,if_pos (Nat.le_refl _),zTE l1.1 l1.2 hpos l2.2,zG0,zG0]
   rw[hc (k+m) (by omega),hc (k+m - 1) (by omega),if_neg (by omega),if_neg (by omega)]
   obtain ⟨k',rfl⟩:∃k',k=k'+1:=⟨k - 1,by omega⟩
   simp only[dd]
   rw[show min (k'+1+m) (k'+1 - 1)=k' by omega,show min (k'+1+m - 1) (k'+1 - 1)=k' by omega,show k'+1+m - 1 - k'=m by omega]
  ·rw[if_neg hi2,hc i hi]
   by_cases hle:k+m≤i
   ·rw[if_pos hle,if_pos (show k+(m+1)≤i by omega)]
   ·rw[if_neg hle,if_neg (show ¬k+(m+1)≤i by omega)]
theorem zKt(h:zC8 x y):∀(r k:Nat) (c:List Int),1≤k→k+r=x.length→c.length=x.length→zCD c →
  (∀i,i<x.length→toF (c.getD i 0)=dd (fun i=>toF (x.getD i 0)) (fun i=>toF (y.getD i 0)) i (min i (k - 1))) →
  ∀i,i<x.length→toF ((zHh x r k c).getD i 0)=dd (fun i=>toF (x.getD i 0)) (fun i=>toF (y.getD i 0)) i i
 | 0,k,c,hk,hkr,_,_,hc=>fun i hi=>by
  rw[show zHh x 0 k c=c from rfl,hc i hi,show min i (k - 1)=i by omega]
 | r+1,k,c,hk,hkr,hl,hn,hc=>by
  simp only[zHh]
  refine zKt h r (k+1) _ (by omega) (by omega) (by rw[zK9];exact hl) (zCD.ddIn _ hn) ?_
  intro i hi
  rw[zNT h k hk (x.length - k) c (by omega) hl hn (fun i hi=>by rw[hc i hi,if_neg (by omega)]) i hi]
  by_cases hle:k≤i
  ·rw[if_pos hle,show min i (k+1 - 1)=k by omega]
  ·rw[if_neg hle,show min i (k+1 - 1)=min i (k - 1) by omega]
theorem zIi(xf:Nat→F)(i:Nat):∀(k:Nat) (p:F),k≤i→zF5 xf (i+1) (k+1) p=(p - xf i)*zF5 xf i k p
 | 0,p,_=>by simp only[zF5];rw[show i+1 - 1 - 0=i by omega]
 | k+1,p,h=>by
  rw[zF5,zIi xf i k p (by omega)]
  simp only[zF5]
  rw[show i+1 - 1 - (k+1)=i - 1 - k by omega]
  grind
def zON(xf yf:Nat→F)(p:F):Nat→F
 | 0=>0
 | m+1=>zNY xf yf m m p
theorem zPm(xf yf:Nat→F)(p:F):∀m,zON xf yf p (m+1)=zON xf yf p m+dd xf yf m m*zF5 xf m m p
 | 0=>by simp only[zON,zNY,dd,zF5];grind
 | m+1=>by simp only[zON,zNY];rw[show m+1 - 1=m by omega]
theorem zQt(c:List Int)(p:Int)(hc:∀i,i<x.length→toF (c.getD i 0)=dd (fun i=>toF (x.getD i 0)) (fun i=>toF (y.getD i 0)) i i):∀(m:Nat) (v:Int),m≤x.length →
  toF (zGu x c p m v)=zON (fun i=>toF (x.getD i 0)) (fun i=>toF (y.getD i 0)) (toF p) m+toF v*zF5 (fun i=>toF (x.getD i 0)) m m (toF p)
 | 0,v,_=>by simp only[zGu,zON,zF5];grind
 | m+1,v,hm=>by
  simp only[zGu]
  rw[zQt c p hc m _ (by omega),zDm,zHd,zJT,zG0,hc m (by omega),zPm,zIi _ m m _ (Nat.le_refl _)]
  grind
theorem zId(x c:List Int)(p:Int):∀(m:Nat) (v:Int),0≤v→v<31→0≤zGu x c p m v∧zGu x c p m v<31
 | 0,v,h0,h1=>⟨h0,h1⟩
 | m+1,v,_,_=>zId x c p m _ (by omega) (by omega)
theorem zRd(h:zC8 x y)(p:Int):zUn x y p=atV x y p:=by
 have hl:=h.len
 have hp:=h.pos
 have hdd:=zKt h (x.length - 1) 1 y (by omega) (by omega) hl.symm h.numy (fun i hi=>by rw[show min i (1 - 1)=0 by omega];rfl)
 have hval:∀q,toF (zUn x y q)=zNY (fun i=>toF (x.getD i 0)) (fun i=>toF (y.getD i 0)) (x.length - 1) (x.length - 1) (toF q):=by
  intro q
  unfold zUn
  rw[zQt (y:=y) _ q hdd x.length 0 (Nat.le_refl _),zGi]
  obtain ⟨n,hn⟩:∃n,x.length=n+1:=⟨x.length - 1,by omega⟩
  rw[hn]
  simp only[zON,Nat.add_sub_cancel]
  grind
 have hinj:∀i j,i<x.length→j<x.length→toF (x.getD i 0)=toF (x.getD j 0)→i=j:=by
  intro i j hi hj e
  by_cases hij:i=j
  ·exact hij
  ·have e1:x[i]?=some (x.getD i 0):=by simp[hi]
   have e2:x[j]?=some (x.getD j 0):=by simp[hj]
   have b1:=zCD.getD h.numx i
   have b2:=zCD.getD h.numx j
   exact absurd (zGY b1.1 b1.2 b2.1 b2.2 e) (zLk h.nodup e1 e2 hij)
 obtain ⟨ld,thr⟩:=zJP (y:=fun i=>toF (y.getD i 0)) x.length hinj (x.length - 1) (x.length - 1) (Nat.le_refl _) (by omega)
 refine zES h ⟨_,ld.deg.mono (by omega),hval⟩ (fun q=>zId _ _ _ _ _ (by omega) (by omega)) ?_ p
 intro m q v hq hv
 have hm:=(List.getElem?_eq_some_iff.1 hq).1
 have hvn:=h.numy v (List.mem_of_getElem? hv)
 have hb:=zId x (zHh x (x.length - 1) 1 y) q x.length 0 (by omega) (by omega)
 refine zGY hb.1 hb.2 hvn.1 hvn.2 ?_
 have e:=thr (x.length - 1 - m) (by omega)
 rw[show x.length - 1 - (x.length - 1 - m)=m by omega] at e
 have eq:x.getD m 0=q:=by simp[List.getD_eq_getElem?_getD,hq]
 have ev:y.getD m 0=v:=by simp[List.getD_eq_getElem?_getD,hv]
 rw[eq,ev] at e
 exact (hval q).trans e
end
theorem zTa{x y a:List Int}(h:zC8 x y)(hn:a.Nodup)(hr:∀k∈a,0≤k∧k<31)(hl:a.length=x.length) :
  zC8 a (a.map (atV x y))∧∀p,atV a (a.map (atV x y)) p=atV x y p:=by
 have hs:zC8 a (a.map (atV x y)):=⟨by simp,by rw[hl];exact h.pos,by rw[hl];exact h.top,hr,by intro z hz;obtain ⟨k,_,rfl⟩:=List.mem_map.1 hz;exact zEk x y k,hn⟩
 refine ⟨hs,fun p=>(zES hs (f:=atV x y) (by rw[hl];exact zGM h.pos) (fun p=>zEk x y p) ?_ p).symm⟩
 intro m q v hq hv
 rw[List.getElem?_map,hq] at hv
 simpa using hv
end Go.Proofs.YthgmphbkkojaoaaGreat
