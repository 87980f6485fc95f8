/-
  The walk of the reference's Adds.
-/
import Derived.Test.YthgmphbkkojaoaaGreatQSames
set_option maxHeartbeats 4000000
namespace Go.Proofs.YthgmphbkkojaoaaGreat
set_option linter.unusedSectionVars false
variable [Zn]
open Go.RowKit
theorem zQG{b:List Ver}(x:Ver)(h:zAt b=0):zBz b x=zAt (b++[x]):=by rw[zMm,if_neg (by simpa using h)]
def AdS(B0 B1 B2:Nat)(a:Option Addr)(n c:Nat)(ap:Option Addr)(m cp:Nat)(x0 x1 x2:Int)(w':World):Prop:=
 w'.cell? ⟨B0,0,none⟩=some (.slice a n c)∧w'.cell? ⟨B1,0,none⟩=some (.slice ap m cp)∧w'.cell? ⟨B1,1,none⟩=some (.int .i64 x0)∧w'.cell? ⟨B1,2,none⟩=some (.int .i64 x1)∧w'.cell? ⟨B1,3,none⟩=some (.int .i64 x2)∧w'.cell? ⟨B2,0,none⟩=some (.slice none 0 0)∧w'.frozen? ⟨B2,0,none⟩=false
section
variable {B0 B1 B2 : Nat} {a : Option Addr} {n c : Nat} {ap : Option Addr} {m cp : Nat} {x0 x1 x2 : Int} {w w' : World}
theorem AdS.below(h:AdS B0 B1 B2 a n c ap m cp x0 x1 x2 w)(hb:Below w.heap.size w w'):AdS B0 B1 B2 a n c ap m cp x0 x1 x2 w':=by
 obtain ⟨h0,h1,h2,h3,h4,h5,h6⟩:=h
 exact ⟨zAA hb h0,zAA hb h1,zAA hb h2,zAA hb h3,zAA hb h4,zAA hb h5,zAE hb h5 h6⟩
theorem AdS.alloc(h:AdS B0 B1 B2 a n c ap m cp x0 x1 x2 w)(o:Obj):AdS B0 B1 B2 a n c ap m cp x0 x1 x2 (w.alloc o):=h.below (zAB w o)
theorem AdS.grown{row:Option Nat}(h:AdS B0 B1 B2 a n c ap m cp x0 x1 x2 w)(hg:w.grownBy w' row)(n0:some B0≠row)(n1:some B1≠row)(n2:some B2≠row):AdS B0 B1 B2 a n c ap m cp x0 x1 x2 w':=by
 obtain ⟨h0,h1,h2,h3,h4,h5,h6⟩:=h
 exact ⟨hg.cell h0 n0,hg.cell h1 n1,hg.cell h2 n1,hg.cell h3 n1,hg.cell h4 n1,hg.cell h5 n2,zAW hg h5 h6 n2⟩
theorem AdS.set{g:Nat}(h:AdS B0 B1 B2 a n c ap m cp x0 x1 x2 w)(v:Value)(n0:B0≠g)(n1:B1≠g)(n2:B2≠g):AdS B0 B1 B2 a n c ap m cp x0 x1 x2 (w.setCell ⟨g,0,none⟩ v):=
 h.grown (zAC w ⟨g,0,none⟩ v) (by simpa using n0) (by simpa using n1) (by simpa using n2)
end
set_option maxRecDepth 100000 in
theorem zTl(v vx:Value)(b:List Ver)(x:Ver)(W:World)(hv:zAR W v b)(hx:zE3 W vx x) :
  Calls Tryz.prog 58 #[.agg #[v],vx] W fun e w'=>(∃v',e=.returned (.tuple #[.agg #[v'],.int .i64 (zBz b x)])∧zAR w' v' (zFC b x))∧Below W.heap.size W w':=by
 obtain ⟨vp,rfl,hp,ip⟩:=hx
 obtain ⟨ap,cp,rfl,_⟩:=hp.opened
 have HXR:Hid (zAz W [.slice ap x.1.length cp,.int .i64 x.2.1,.int .i64 x.2.2.1,.int .i64 x.2.2.2] x):=Zh ⟨_,rfl,hp,ip⟩
 obtain ⟨a,c,rfl,hc,⟨hm,hcm,_⟩,_⟩:=hv.opened
 have HV:=Zh hv
 obtain ⟨w0,hw0⟩:∃w0,w0=((W.alloc (.cells #[.slice a b.length c] 24)).alloc (.cells #[.slice ap x.1.length cp,.int .i64 x.2.1,.int .i64 x.2.2.1,.int .i64 x.2.2.2] 51)).alloc (.cells #[.slice none 0 0] 24):=⟨_,rfl⟩
 have S0:zAD W.heap.size W w0:=by rw[hw0];exact (((zAD.refl W).alloc _).alloc _).alloc _
 have c0:w0.cell? ⟨W.heap.size,0,none⟩=some (.slice a b.length c):=by rw[hw0];go_simp
 have q0:w0.cell? ⟨W.heap.size+1,0,none⟩=some (.slice ap x.1.length cp):=by rw[hw0];go_simp
 have q1:w0.cell? ⟨W.heap.size+1,1,none⟩=some (.int .i64 x.2.1):=by rw[hw0];go_simp
 have q2:w0.cell? ⟨W.heap.size+1,2,none⟩=some (.int .i64 x.2.2.1):=by rw[hw0];go_simp
 have q3:w0.cell? ⟨W.heap.size+1,3,none⟩=some (.int .i64 x.2.2.2):=by rw[hw0];go_simp
 have c2:w0.cell? ⟨W.heap.size+2,0,none⟩=some (.slice none 0 0):=by rw[hw0];go_simp
 have f2:w0.frozen? ⟨W.heap.size+2,0,none⟩=false:=by rw[hw0];go_simp
 have hv0:=hv.later zAz.stays (zAF.old S0.below _)
 have HW:=Zh hw0
 obtain ⟨B0,hB0⟩:∃B,B=W.heap.size:=⟨_,rfl⟩
 obtain ⟨B1,hB1⟩:∃B,B=W.heap.size+1:=⟨_,rfl⟩
 obtain ⟨B2,hB2⟩:∃B,B=W.heap.size+2:=⟨_,rfl⟩
 have hBW2:W.heap.size≤B2:=by omega
 rw[←hB0] at c0
 rw[←hB1] at q0 q1 q2 q3
 rw[←hB2] at c2 f2
 have HB0:=Zh hB0
 have HB1:=Zh hB1
 have HB2:=Zh hB2
 have l0:=zAH c0
 have l1:=zAH q0
 have l2:=zAH c2
 clear hw0 hv hB0 hB1 hB2
 go_enter Tryz.func58,Tryz.ntmps58
 go_wp2_with fail
 rw[←HW.out,←HB2.out,←HB1.out,←HB0.out]
 refine (zDs _ b _ hv0).mono ?_
 rintro e w1 ⟨rfl,hb1⟩
 have S1:=S0.step hb1
 have T1:=(zAD.refl w0).step hb1
 have d0:=(T1.below.cell (p:=⟨B0,0,none⟩) l0).trans c0
 have d2:=(T1.below.cell (p:=⟨B2,0,none⟩) l2).trans c2
 have g2:=(T1.below.frozen (p:=⟨B2,0,none⟩) l2).trans f2
 by_cases h0:zAt b=0
 ·have ht:=(zBj.1 h0).top
  have HE:=Zh (zQG x h0)
  have e0:=(T1.below.cell (p:=⟨B1,0,none⟩) l1).trans q0
  have e1:=(T1.below.cell (p:=⟨B1,1,none⟩) l1).trans q1
  have e2:=(T1.below.cell (p:=⟨B1,2,none⟩) l1).trans q2
  have e3:=(T1.below.cell (p:=⟨B1,3,none⟩) l1).trans q3
  have hs1:=T1.2
  have hs2:=S1.2
  have DW:zAF (fun _=>False) W w1.drew:=zAF.old S1.drew.below _
  rw[h0]
  clear h0 c0 q0 q1 q2 q3 c2 f2 hv0
  go_upto_region 4 with fail
  have lt0:=zAH d0
  have lt1:=zAH e0
  have lt2:=zAH d2
  go_cut[7] (fun s7 wx=>∃B7 a6 c6,s7=.pointer (some ⟨B7,0,none⟩)∧zAD W.heap.size W wx∧wx.cell? ⟨B7,0,none⟩=some (.slice a6 (b.length+1) c6)∧wx.cell? ⟨B2,0,none⟩=some (.slice none 0 0)∧wx.frozen? ⟨B2,0,none⟩=false∧zAK 4 zAz (fun k=>W.heap.size≤k) wx 51 w1.heap.size (.slice a6 (b.length+1) c6) (b++[x]))
  case first =>
   have hs0:AdS B0 B1 B2 a b.length c ap x.1.length cp x.2.1 x.2.2.1 x.2.2.2 w1.drew:=⟨d0,e0,e1,e2,e3,d2,g2⟩
   go_region_held3 (fun w'=>w'.cell? ⟨B0,0,none⟩=some (.slice a b.length c)∧w'.cell? ⟨B1,0,none⟩=some (.slice ap x.1.length cp)∧w'.cell? ⟨B1,1,none⟩=some (.int .i64 x.2.1)∧w'.cell? ⟨B1,2,none⟩=some (.int .i64 x.2.2.1)∧w'.cell? ⟨B1,3,none⟩=some (.int .i64 x.2.2.2)∧w'.cell? ⟨B2,0,none⟩=some (.slice none 0 0)∧w'.frozen? ⟨B2,0,none⟩=false) (first | exact hs0 | exact hs0.alloc _ | exact (hs0.alloc _).alloc _ | exact hs5 | exact hs5.alloc _ | exact (hs5.alloc _).alloc _ | exact hs6 | exact hs6.alloc _ | exact hs6.set _ (by omega) (by omega) (by omega)) (first
    | (go_simp;go_at_call 78;refine (zCc _ b W w1.drew (DW.trans (zAF.old ((zAD.refl w1.drew)).below _)) HV.out (by omega)).mono ?_;rintro e w5 ⟨⟨v5,rfl,ho5⟩,hb5⟩;have q5:=((zAD.refl w1.drew)).step hb5;have hs5:=hs0.below q5.below;have hs55:=hs5;obtain ⟨k0,k1,k2,k3,k4,k5,k6⟩:=hs55;have ll0:=zAH k0;have ll1:=zAH k1;have ll2:=zAH k5;have DW5:=DW.trans (zAF.old q5.below _);have S5:zAD W.heap.size W w5:=S1.drew.step q5.below;have hlt5:∀k,v5.ownBlock=some k→w1.heap.size+0≤k∧k<w5.heap.size:=(fun k hk=>by have:=ho5.lt k hk;simpa using this);have hz5:w1.heap.size+0≤w5.heap.size:=(by simpa using hb5.size))
    | (go_simp;go_at_call 78;refine (zCc _ b W (w1.drew.alloc (.cells #[.slice none 0 0] 24)) (DW.trans (zAF.old ((zAD.refl w1.drew).alloc (.cells #[.slice none 0 0] 24)).below _)) HV.out (by omega)).mono ?_;rintro e w5 ⟨⟨v5,rfl,ho5⟩,hb5⟩;have q5:=((zAD.refl w1.drew).alloc (.cells #[.slice none 0 0] 24)).step hb5;have hs5:=hs0.below q5.below;have hs55:=hs5;obtain ⟨k0,k1,k2,k3,k4,k5,k6⟩:=hs55;have ll0:=zAH k0;have ll1:=zAH k1;have ll2:=zAH k5;have DW5:=DW.trans (zAF.old q5.below _);have S5:zAD W.heap.size W w5:=S1.drew.step q5.below;have hlt5:∀k,v5.ownBlock=some k→w1.heap.size+1≤k∧k<w5.heap.size:=(fun k hk=>by have:=ho5.lt k hk;simpa using this);have hz5:w1.heap.size+1≤w5.heap.size:=(by simpa using hb5.size);have z7:w5.cell? ⟨w1.heap.size,0,none⟩=some (.slice none 0 0):=(hb5.cell (p:=⟨w1.heap.size,0,none⟩) (by simp<;>omega)).trans (show ((w1.drew.alloc (.cells #[.slice none 0 0] 24))).cell? ⟨w1.heap.size,0,none⟩=some (.slice none 0 0) by go_simp);have z8:w5.frozen? ⟨w1.heap.size,0,none⟩=false:=(hb5.frozen (p:=⟨w1.heap.size,0,none⟩) (by simp<;>omega)).trans (show ((w1.drew.alloc (.cells #[.slice none 0 0] 24))).frozen? ⟨w1.heap.size,0,none⟩=false by go_simp))
    | (go_simp;go_at_call 78;refine (zCc _ b W (w1.drew.alloc (.cells #[.slice ap x.1.length cp,.int .i64 x.2.1,.int .i64 x.2.2.1,.int .i64 x.2.2.2] 51)) (DW.trans (zAF.old ((zAD.refl w1.drew).alloc (.cells #[.slice ap x.1.length cp,.int .i64 x.2.1,.int .i64 x.2.2.1,.int .i64 x.2.2.2] 51)).below _)) HV.out (by omega)).mono ?_;rintro e w5 ⟨⟨v5,rfl,ho5⟩,hb5⟩;have q5:=((zAD.refl w1.drew).alloc (.cells #[.slice ap x.1.length cp,.int .i64 x.2.1,.int .i64 x.2.2.1,.int .i64 x.2.2.2] 51)).step hb5;have hs5:=hs0.below q5.below;have hs55:=hs5;obtain ⟨k0,k1,k2,k3,k4,k5,k6⟩:=hs55;have ll0:=zAH k0;have ll1:=zAH k1;have ll2:=zAH k5;have DW5:=DW.trans (zAF.old q5.below _);have S5:zAD W.heap.size W w5:=S1.drew.step q5.below;have hlt5:∀k,v5.ownBlock=some k→w1.heap.size+1≤k∧k<w5.heap.size:=(fun k hk=>by have:=ho5.lt k hk;simpa using this);have hz5:w1.heap.size+1≤w5.heap.size:=(by simpa using hb5.size);have fO:∀j u,([.slice ap x.1.length cp,.int .i64 x.2.1,.int .i64 x.2.2.1,.int .i64 x.2.2.2]:List Value)[j]?=some u→w5.cell? ((⟨w1.heap.size,0,none⟩:Addr).add j)=some u:=(fun j u h=>zAA hb5 (show ((w1.drew.alloc (.cells #[.slice ap x.1.length cp,.int .i64 x.2.1,.int .i64 x.2.2.1,.int .i64 x.2.2.2] 51))).cell? ((⟨w1.heap.size,0,none⟩:Addr).add j)=some u from zCu w1.drew [.slice ap x.1.length cp,.int .i64 x.2.1,.int .i64 x.2.2.1,.int .i64 x.2.2.2] 51 _ rfl j u h)))
    | (go_simp;go_at_call 78;refine (zCc _ b W ((w1.drew.alloc (.cells #[.slice ap x.1.length cp,.int .i64 x.2.1,.int .i64 x.2.2.1,.int .i64 x.2.2.2] 51)).alloc (.cells #[.slice none 0 0] 24)) (DW.trans (zAF.old (((zAD.refl w1.drew).alloc (.cells #[.slice ap x.1.length cp,.int .i64 x.2.1,.int .i64 x.2.2.1,.int .i64 x.2.2.2] 51)).alloc (.cells #[.slice none 0 0] 24)).below _)) HV.out (by omega)).mono ?_;rintro e w5 ⟨⟨v5,rfl,ho5⟩,hb5⟩;have q5:=(((zAD.refl w1.drew).alloc (.cells #[.slice ap x.1.length cp,.int .i64 x.2.1,.int .i64 x.2.2.1,.int .i64 x.2.2.2] 51)).alloc (.cells #[.slice none 0 0] 24)).step hb5;have hs5:=hs0.below q5.below;have hs55:=hs5;obtain ⟨k0,k1,k2,k3,k4,k5,k6⟩:=hs55;have ll0:=zAH k0;have ll1:=zAH k1;have ll2:=zAH k5;have DW5:=DW.trans (zAF.old q5.below _);have S5:zAD W.heap.size W w5:=S1.drew.step q5.below;have hlt5:∀k,v5.ownBlock=some k→w1.heap.size+2≤k∧k<w5.heap.size:=(fun k hk=>by have:=ho5.lt k hk;simpa using this);have hz5:w1.heap.size+2≤w5.heap.size:=(by simpa using hb5.size);have z7:w5.cell? ⟨w1.heap.size+1,0,none⟩=some (.slice none 0 0):=(hb5.cell (p:=⟨w1.heap.size+1,0,none⟩) (by simp)).trans (show (((w1.drew.alloc (.cells #[.slice ap x.1.length cp,.int .i64 x.2.1,.int .i64 x.2.2.1,.int .i64 x.2.2.2] 51)).alloc (.cells #[.slice none 0 0] 24))).cell? ⟨w1.heap.size+1,0,none⟩=some (.slice none 0 0) by go_simp);have z8:w5.frozen? ⟨w1.heap.size+1,0,none⟩=false:=(hb5.frozen (p:=⟨w1.heap.size+1,0,none⟩) (by simp)).trans (show (((w1.drew.alloc (.cells #[.slice ap x.1.length cp,.int .i64 x.2.1,.int .i64 x.2.2.1,.int .i64 x.2.2.2] 51)).alloc (.cells #[.slice none 0 0] 24))).frozen? ⟨w1.heap.size+1,0,none⟩=false by go_simp);have fO:∀j u,([.slice ap x.1.length cp,.int .i64 x.2.1,.int .i64 x.2.2.1,.int .i64 x.2.2.2]:List Value)[j]?=some u→w5.cell? ((⟨w1.heap.size,0,none⟩:Addr).add j)=some u:=(fun j u h=>zAA hb5 (show (((w1.drew.alloc (.cells #[.slice ap x.1.length cp,.int .i64 x.2.1,.int .i64 x.2.2.1,.int .i64 x.2.2.2] 51)).alloc (.cells #[.slice none 0 0] 24))).cell? ((⟨w1.heap.size,0,none⟩:Addr).add j)=some u from zA0 (zCu w1.drew [.slice ap x.1.length cp,.int .i64 x.2.1,.int .i64 x.2.2.1,.int .i64 x.2.2.2] 51 _ rfl j u h) _)))
    | (go_simp;go_at_call 78;refine (zCc _ b W ((w1.drew.alloc (.cells #[.slice none 0 0] 24)).alloc (.cells #[.slice ap x.1.length cp,.int .i64 x.2.1,.int .i64 x.2.2.1,.int .i64 x.2.2.2] 51)) (DW.trans (zAF.old (((zAD.refl w1.drew).alloc (.cells #[.slice none 0 0] 24)).alloc (.cells #[.slice ap x.1.length cp,.int .i64 x.2.1,.int .i64 x.2.2.1,.int .i64 x.2.2.2] 51)).below _)) HV.out (by omega)).mono ?_;rintro e w5 ⟨⟨v5,rfl,ho5⟩,hb5⟩;have q5:=(((zAD.refl w1.drew).alloc (.cells #[.slice none 0 0] 24)).alloc (.cells #[.slice ap x.1.length cp,.int .i64 x.2.1,.int .i64 x.2.2.1,.int .i64 x.2.2.2] 51)).step hb5;have hs5:=hs0.below q5.below;have hs55:=hs5;obtain ⟨k0,k1,k2,k3,k4,k5,k6⟩:=hs55;have ll0:=zAH k0;have ll1:=zAH k1;have ll2:=zAH k5;have DW5:=DW.trans (zAF.old q5.below _);have S5:zAD W.heap.size W w5:=S1.drew.step q5.below;have hlt5:∀k,v5.ownBlock=some k→w1.heap.size+2≤k∧k<w5.heap.size:=(fun k hk=>by have:=ho5.lt k hk;simpa using this);have hz5:w1.heap.size+2≤w5.heap.size:=(by simpa using hb5.size);have z7:w5.cell? ⟨w1.heap.size,0,none⟩=some (.slice none 0 0):=(hb5.cell (p:=⟨w1.heap.size,0,none⟩) (by simp<;>omega)).trans (show (((w1.drew.alloc (.cells #[.slice none 0 0] 24)).alloc (.cells #[.slice ap x.1.length cp,.int .i64 x.2.1,.int .i64 x.2.2.1,.int .i64 x.2.2.2] 51))).cell? ⟨w1.heap.size,0,none⟩=some (.slice none 0 0) by go_simp);have z8:w5.frozen? ⟨w1.heap.size,0,none⟩=false:=(hb5.frozen (p:=⟨w1.heap.size,0,none⟩) (by simp<;>omega)).trans (show (((w1.drew.alloc (.cells #[.slice none 0 0] 24)).alloc (.cells #[.slice ap x.1.length cp,.int .i64 x.2.1,.int .i64 x.2.2.1,.int .i64 x.2.2.2] 51))).frozen? ⟨w1.heap.size,0,none⟩=false by go_simp);have fO:∀j u,([.slice ap x.1.length cp,.int .i64 x.2.1,.int .i64 x.2.2.1,.int .i64 x.2.2.2]:List Value)[j]?=some u→w5.cell? ((⟨w1.heap.size+1,0,none⟩:Addr).add j)=some u:=(fun j u h=>zAA hb5 (show (((w1.drew.alloc (.cells #[.slice none 0 0] 24)).alloc (.cells #[.slice ap x.1.length cp,.int .i64 x.2.1,.int .i64 x.2.2.1,.int .i64 x.2.2.2] 51))).cell? ((⟨w1.heap.size+1,0,none⟩:Addr).add j)=some u from zCu (w1.drew.alloc (.cells #[.slice none 0 0] 24)) [.slice ap x.1.length cp,.int .i64 x.2.1,.int .i64 x.2.2.1,.int .i64 x.2.2.2] 51 _ (by simp) j u h)))
    | (refine zCR rfl _ _ 22 rfl 4 (fun k=>W.heap.size≤k) 51 Tryz.underlying22 _ 48 zLH rfl (by omega) (by omega) w1.heap.size v5 b rfl (by have h5:=ho5.mono (b:=w1.heap.size) (by first | exact Nat.le_refl _ | (simp;try omega));first | exact h5 | exact h5.stays (zAB _ _) | exact (h5.stays (zAB _ _)).stays (zAB _ _)) _ _ [.slice ap x.1.length cp,.int .i64 x.2.1,.int .i64 x.2.2.1,.int .i64 x.2.2.2] x rfl rfl (by intro u hu;simp at hu;rcases hu with rfl | rfl | rfl | rfl<;>rfl) (by first | exact fO | exact (fun j u h=>zA0 (fO j u h) _) | exact zCu w5 [.slice ap x.1.length cp,.int .i64 x.2.1,.int .i64 x.2.2.1,.int .i64 x.2.2.2] 51 _ rfl | exact zCu (w5.alloc (.cells #[.slice none 0 0] 24)) [.slice ap x.1.length cp,.int .i64 x.2.1,.int .i64 x.2.2.1,.int .i64 x.2.2.2] 51 _ (by simp) | exact fun j u h=>zA0 (zCu w5 [.slice ap x.1.length cp,.int .i64 x.2.1,.int .i64 x.2.2.1,.int .i64 x.2.2.2] 51 _ rfl j u h) _) (zAz.stays.framed HXR.out (by first | exact DW5 | exact DW5.trans (zAF.old (zAB _ _) _) | exact (DW5.trans (zAF.old (zAB _ _) _)).trans (zAF.old (zAB _ _) _)) (by intro k hk;rcases hk with hk | hk;(have:=(hlt5 k hk).1;omega);exact hk)) (by omega) (by first | omega | (simp;omega)) ?_;intro v6 w6 ho6 hg6 hat6;obtain ⟨a6,c6,rfl,hcap6,⟨hl6,hcm6,_⟩,_⟩:=ho6.isRow.opened;have z2:=hg6.cell (by first | exact k5 | exact zA0 k5 _ | exact zA0 (zA0 k5 _) _) (a:=⟨B2,0,none⟩) (v:=.slice none 0 0) (fun e=>by have:=(hlt5 B2 e.symm).1;omega);have z3:w6.frozen? ⟨B2,0,none⟩=false:=(by first | exact zAW hg6 k5 k6 (fun e=>by have:=(hlt5 B2 e.symm).1;omega) | exact zAW hg6 (zA0 k5 _) (zCf k5 k6 _) (fun e=>by have:=(hlt5 B2 e.symm).1;omega) | exact zAW hg6 (zA0 (zA0 k5 _) _) (zCf (zA0 k5 _) (zCf k5 k6 _) _) (fun e=>by have:=(hlt5 B2 e.symm).1;omega));have hs6:=(by first | exact hs5.grown hg6 (fun e=>by have:=(hlt5 B0 e.symm).1;omega) (fun e=>by have:=(hlt5 B1 e.symm).1;omega) (fun e=>by have:=(hlt5 B2 e.symm).1;omega) | exact (hs5.alloc _).grown hg6 (fun e=>by have:=(hlt5 B0 e.symm).1;omega) (fun e=>by have:=(hlt5 B1 e.symm).1;omega) (fun e=>by have:=(hlt5 B2 e.symm).1;omega) | exact ((hs5.alloc _).alloc _).grown hg6 (fun e=>by have:=(hlt5 B0 e.symm).1;omega) (fun e=>by have:=(hlt5 B1 e.symm).1;omega) (fun e=>by have:=(hlt5 B2 e.symm).1;omega):AdS B0 B1 B2 a b.length c ap x.1.length cp x.2.1 x.2.2.1 x.2.2.2 w6);have y9:zAD W.heap.size W w6:=(by first | exact S5.grown hg6 (fun k hk=>by have:=hlt5 k hk;omega) | exact (S5.alloc _).grown hg6 (fun k hk=>by have:=hlt5 k hk;omega) | exact ((S5.alloc _).alloc _).grown hg6 (fun k hk=>by have:=hlt5 k hk;omega));first
     | (have y7:=hg6.cell (show w5.cell? ⟨w1.heap.size,0,none⟩=_ from z7) (fun e=>by have:=hlt5 (w1.heap.size) e.symm;omega);have y8:=zAW hg6 (show w5.cell? ⟨w1.heap.size,0,none⟩=_ from z7) (z8) (fun e=>by have:=hlt5 (w1.heap.size) e.symm;omega);have y10:(Value.slice a6 (b++[x]).length c6).ownBlock≠some (w1.heap.size):=(by rcases hat6 with h | h;(rw[h];intro e;have:=hlt5 _ e;omega);(rw[h];simp;try omega)))
     | (have y7:=hg6.cell (zA0 (show w5.cell? ⟨w1.heap.size,0,none⟩=_ from z7) (.cells #[.slice ap x.1.length cp,.int .i64 x.2.1,.int .i64 x.2.2.1,.int .i64 x.2.2.2] 51)) (fun e=>by have:=hlt5 (w1.heap.size) e.symm;omega);have y8:=zAW hg6 (zA0 (show w5.cell? ⟨w1.heap.size,0,none⟩=_ from z7) (.cells #[.slice ap x.1.length cp,.int .i64 x.2.1,.int .i64 x.2.2.1,.int .i64 x.2.2.2] 51)) (zCf z7 z8 (.cells #[.slice ap x.1.length cp,.int .i64 x.2.1,.int .i64 x.2.2.1,.int .i64 x.2.2.2] 51)) (fun e=>by have:=hlt5 (w1.heap.size) e.symm;omega);have y10:(Value.slice a6 (b++[x]).length c6).ownBlock≠some (w1.heap.size):=(by rcases hat6 with h | h;(rw[h];intro e;have:=hlt5 _ e;omega);(rw[h];simp;try omega)))
     | (have y7:=hg6.cell (show w5.cell? ⟨w1.heap.size+1,0,none⟩=_ from z7) (fun e=>by have:=hlt5 (w1.heap.size+1) e.symm;omega);have y8:=zAW hg6 (show w5.cell? ⟨w1.heap.size+1,0,none⟩=_ from z7) (z8) (fun e=>by have:=hlt5 (w1.heap.size+1) e.symm;omega);have y10:(Value.slice a6 (b++[x]).length c6).ownBlock≠some (w1.heap.size+1):=(by rcases hat6 with h | h;(rw[h];intro e;have:=hlt5 _ e;omega);(rw[h];simp;try omega)))
     | (have y7:=hg6.cell (zA0 (show w5.cell? ⟨w1.heap.size+1,0,none⟩=_ from z7) (.cells #[.slice ap x.1.length cp,.int .i64 x.2.1,.int .i64 x.2.2.1,.int .i64 x.2.2.2] 51)) (fun e=>by have:=hlt5 (w1.heap.size+1) e.symm;omega);have y8:=zAW hg6 (zA0 (show w5.cell? ⟨w1.heap.size+1,0,none⟩=_ from z7) (.cells #[.slice ap x.1.length cp,.int .i64 x.2.1,.int .i64 x.2.2.1,.int .i64 x.2.2.2] 51)) (zCf z7 z8 (.cells #[.slice ap x.1.length cp,.int .i64 x.2.1,.int .i64 x.2.2.1,.int .i64 x.2.2.2] 51)) (fun e=>by have:=hlt5 (w1.heap.size+1) e.symm;omega);have y10:(Value.slice a6 (b++[x]).length c6).ownBlock≠some (w1.heap.size+1):=(by rcases hat6 with h | h;(rw[h];intro e;have:=hlt5 _ e;omega);(rw[h];simp;try omega)))
     | (have y7:=hg6.cell (zA0 (show (w5.alloc (.cells #[.slice none 0 0] 24)).cell? ⟨w5.heap.size,0,none⟩=some (.slice none 0 0) by go_simp) (.cells #[.slice ap x.1.length cp,.int .i64 x.2.1,.int .i64 x.2.2.1,.int .i64 x.2.2.2] 51)) (fun e=>by have:=hlt5 (w5.heap.size) e.symm;omega);have y8:=zAW hg6 (zA0 (show (w5.alloc (.cells #[.slice none 0 0] 24)).cell? ⟨w5.heap.size,0,none⟩=some (.slice none 0 0) by go_simp) (.cells #[.slice ap x.1.length cp,.int .i64 x.2.1,.int .i64 x.2.2.1,.int .i64 x.2.2.2] 51)) (zCf (show (w5.alloc (.cells #[.slice none 0 0] 24)).cell? ⟨w5.heap.size,0,none⟩=some (.slice none 0 0) by go_simp) (by go_simp) (.cells #[.slice ap x.1.length cp,.int .i64 x.2.1,.int .i64 x.2.2.1,.int .i64 x.2.2.2] 51)) (fun e=>by have:=hlt5 (w5.heap.size) e.symm;omega);have y10:(Value.slice a6 (b++[x]).length c6).ownBlock≠some (w5.heap.size):=(by rcases hat6 with h | h;(rw[h];intro e;have:=hlt5 _ e;omega);(rw[h];simp;try omega)))
     | (have y7:=hg6.cell (show ((w5.alloc (.cells #[.slice ap x.1.length cp,.int .i64 x.2.1,.int .i64 x.2.2.1,.int .i64 x.2.2.2] 51)).alloc (.cells #[.slice none 0 0] 24)).cell? ⟨w5.heap.size+1,0,none⟩=some (.slice none 0 0) by go_simp) (fun e=>by have:=hlt5 (w5.heap.size+1) e.symm;omega);have y8:=zAW hg6 (show ((w5.alloc (.cells #[.slice ap x.1.length cp,.int .i64 x.2.1,.int .i64 x.2.2.1,.int .i64 x.2.2.2] 51)).alloc (.cells #[.slice none 0 0] 24)).cell? ⟨w5.heap.size+1,0,none⟩=some (.slice none 0 0) by go_simp) (by go_simp) (fun e=>by have:=hlt5 (w5.heap.size+1) e.symm;omega);have y10:(Value.slice a6 (b++[x]).length c6).ownBlock≠some (w5.heap.size+1):=(by rcases hat6 with h | h;(rw[h];intro e;have:=hlt5 _ e;omega);(rw[h];simp;try omega)))
     | (have y7:=hg6.cell (show (w5.alloc (.cells #[.slice none 0 0] 24)).cell? ⟨w5.heap.size,0,none⟩=some (.slice none 0 0) by go_simp) (fun e=>by have:=hlt5 (w5.heap.size) e.symm;omega);have y8:=zAW hg6 (show (w5.alloc (.cells #[.slice none 0 0] 24)).cell? ⟨w5.heap.size,0,none⟩=some (.slice none 0 0) by go_simp) (by go_simp) (fun e=>by have:=hlt5 (w5.heap.size) e.symm;omega);have y10:(Value.slice a6 (b++[x]).length c6).ownBlock≠some (w5.heap.size):=(by rcases hat6 with h | h;(rw[h];intro e;have:=hlt5 _ e;omega);(rw[h];simp;try omega)))
     | skip))
   all_goals
    have hl6:(b++[x]).length=b.length+1:=by simp
    rw[hl6] at ho6
    go_wp2_with fail
    go_meet
    first
     | (exact ⟨_,_,_,rfl,y9.alloc _,by go_simp,zA0 z2 _,zCf z2 z3 _,ho6.stays (zAB _ _)⟩)
     | (
       rw[hl6] at y10
       exact ⟨_,_,_,rfl,y9.setCell (a:=⟨_,0,none⟩) (by first | omega | (dsimp only;omega)) _,by go_simp,(zAI _ _ _ _ (by first | omega | (dsimp only;omega))).trans z2,(zA1 _ _ _ _ (by first | omega | (dsimp only;omega))).trans z3,ho6.kept (zAC _ _ _) (by intro k hk;cases hk;first | omega | (dsimp only;omega)) (Or.inr y10)⟩)
  case rest =>
   obtain ⟨B7,a6,c6,rfl,S6,y7,z2,z3,ho6⟩:=hcut
   have hi6:=ho6.isRow
   have hl6:(b++[x]).length=b.length+1:=by simp
   have HL6:=Zh hl6
   have HO6:=Zh ho6
   clear ho6 hl6
   go_wp2_with fail
   refine (zDs _ (b++[x]) _ hi6).mono ?_
   rintro e w8 ⟨rfl,hb8⟩
   rw[←HE.out]
   have S8:=S6.step hb8
   have o7:=zAA hb8 y7
   have o2:=zAA hb8 z2
   have o3:=zAE hb8 z2 z3
   by_cases hz:zBz b x=0
   ·have HC:=Zh (zLa hz)
    have HZ:=Zh hz
    rw[hz]
    have S9:=S8.setCell (a:=⟨B2,0,none⟩) hBW2 (.slice a6 (b.length+1) c6)
    have m2:(w8.setCell ⟨B2,0,none⟩ (.slice a6 (b.length+1) c6)).cell? ⟨B2,0,none⟩=some (.slice a6 (b.length+1) c6):=by go_simp
    have hi9:=((HO6.out.stays hb8).kept (zAC w8 ⟨B2,0,none⟩ (.slice a6 (b.length+1) c6)) (by intro k hk;cases hk;exact hBW2) (by
     cases hk:(Value.slice a6 (b.length+1) c6).ownBlock with
     | none=>exact Or.inl rfl
     | some k=>right;intro e;cases e;have:=(HO6.out.lt B2 hk).1;omega)).isRow
    clear y7 z2 z3 hz
    go_wp2_with fail
    exact bodyPost_ret (v:=.tuple #[.agg #[.slice a6 (b.length+1) c6],.int .i64 0]) (by simp[results,Tryz.results58,go_sem,m2]) rfl ⟨⟨_,by rw[HZ.out],by rw[HC.out];exact hi9⟩,S9.below⟩
   ·have hne:(zBz b x != 0)=true:=by simpa using hz
    have HC:=Zh (zLM hz)
    have S9:=S8.setCell (a:=⟨B2,0,none⟩) hBW2 (.slice none 0 0)
    have m2:(w8.setCell ⟨B2,0,none⟩ (.slice none 0 0)).cell? ⟨B2,0,none⟩=some (.slice none 0 0):=by go_simp
    clear y7 z2 z3 hz
    go_wp2_with fail
    exact bodyPost_ret (v:=.tuple #[.agg #[.slice none 0 0],.int .i64 (zBz b x)]) (by simp[results,Tryz.results58,go_sem,m2]) rfl ⟨⟨_,rfl,by rw[HC.out];exact zAZ.nil _⟩,S9.below⟩
 ·have hz:zBz b x=zAt b:=zJd x h0
  have HC:=Zh (zLM (b:=b) (v:=x) (by rw[hz];exact h0))
  have HE:=Zh hz
  have hne:(zAt b != 0)=true:=by simpa using h0
  have S9:=S1.setCell (a:=⟨B2,0,none⟩) hBW2 (.slice none 0 0)
  have m2:(w1.setCell ⟨B2,0,none⟩ (.slice none 0 0)).cell? ⟨B2,0,none⟩=some (.slice none 0 0):=by go_simp
  clear hz h0
  go_wp2_with fail
  exact bodyPost_ret (v:=.tuple #[.agg #[.slice none 0 0],.int .i64 (zAt b)]) (by simp[results,Tryz.results58,go_sem,m2]) rfl ⟨⟨_,by rw[HE.out],by rw[HC.out];exact zAZ.nil _⟩,S9.below⟩
end Go.Proofs.YthgmphbkkojaoaaGreat
