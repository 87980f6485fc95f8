/-
  The reference's Restored and LackingIn, walked.
-/
import Derived.Test.YthgmphbkkojaoaaGreatQTheres
import Derived.Test.YthgmphbkkojaoaaGreatQElect
set_option linter.unusedSimpArgs false
set_option maxHeartbeats 4000000
namespace Go.Proofs.YthgmphbkkojaoaaGreat
set_option linter.unusedSectionVars false
variable [Zn]
open Go.RowKit
theorem zOl{x y:Value}{a b:Int}(h:a=b):Ending.returned (.tuple #[x,y,.int .i64 a])=.returned (.tuple #[x,y,.int .i64 b]):=by rw[h]
set_option maxRecDepth 100000 in
theorem zHy(vb u:Value)(b:List Ver)(ps:List Pr)(v:Int)(W:World)(hb:zAR W vb b)(hu:zAT W u ps) :
  Calls Tryz.prog 60 #[.agg #[vb,u],.int .i64 v] W fun e w'=>(∃y1 y2,e=.returned (.tuple #[y1,y2,.int .i64 (zBI (b,ps) v)])∧zAG w' y1 (zBa (b,ps) v)∧zAG w' y2 (zDg (b,ps) v))∧Below W.heap.size W w':=by
 obtain ⟨a,c,rfl,hcb,⟨hbm,hbc,_⟩,_⟩:=hb.opened
 obtain ⟨a',c',rfl,hcu,⟨hum,huc,_⟩,_⟩:=hu.opened
 have S0:=(zAD.refl W).alloc (.cells #[.slice a b.length c,.slice a' ps.length c'] 27)
 have hb0:=hb.stays zAz.stays S0.below
 have hu0:=hu.stays zAj.stays S0.below
 have c0:(W.alloc (.cells #[.slice a b.length c,.slice a' ps.length c'] 27)).cell? ⟨W.heap.size,0,none⟩=some (.slice a b.length c):=by go_simp
 have c1:(W.alloc (.cells #[.slice a b.length c,.slice a' ps.length c'] 27)).cell? ⟨W.heap.size,1,none⟩=some (.slice a' ps.length c'):=by go_simp
 clear hb hu
 go_enter Tryz.func60,Tryz.ntmps60
 go_upto_region 1 with fail
 generalize W.alloc (.cells #[.slice a b.length c,.slice a' ps.length c'] 27)=w0 at *
 obtain ⟨B,hB⟩:∃B,B=W.heap.size:=⟨_,rfl⟩
 rw[←hB] at c0 c1 ⊢
 clear hB
 go_upto_region 2 with (go_at_call 32;go_fit (zEG _ b _ ps v _ hb0 hu0);rintro e w1 ⟨rfl,hb1⟩)
 have S1:=S0.step hb1
 have d0:=zAA hb1 c0
 have d1:=zAA hb1 c1
 have HB1:=Zh (hb0.stays zAz.stays hb1)
 have HU1:=Zh (hu0.stays zAj.stays hb1)
 clear c0 c1 hb1 hb0 hu0
 by_cases h0:zAh (b,ps) v=0
 ·obtain ⟨hm0,hv0,hvb⟩:=zCo h0
  have hp8:ps.length≤8:=(zAU.1 hm0).2.1
  have HPK:Hid (∀p∈ps,zBk b p):=Zh (zAU.1 hm0).2.2
  rw[h0]
  obtain ⟨kv,rfl⟩:=Int.eq_ofNat_of_zero_le hv0
  have hkv:kv<b.length:=by simpa using hvb
  have hget:=List.getElem?_eq_getElem hkv
  have hpl:zAO b (kv:Int)=b[kv].2:=by unfold zAO;simp[hget]
  have HE:Hid (zBI (b,ps) (kv:Int)=zCF b[kv].2.1 b[kv].2.2.1 b[kv].2.2.2 (zAS (kv:Int) ps)):=Zh (by unfold zBI;rw[if_neg (by simpa using h0)];rw[show zAO (b,ps).1 (kv:Int)=b[kv].2 from hpl])
  have HBB:Hid (zBa (b,ps) (kv:Int)=zEs b[kv].2.1 b[kv].2.2.1 b[kv].2.2.2 (zAS (kv:Int) ps)):=Zh (by unfold zBa;rw[if_neg (by simpa using h0)];rw[show zAO (b,ps).1 (kv:Int)=b[kv].2 from hpl])
  have HWW:Hid (zDg (b,ps) (kv:Int)=zEq b[kv].2.1 b[kv].2.2.1 b[kv].2.2.2 (zAS (kv:Int) ps)):=Zh (by unfold zDg;rw[if_neg (by simpa using h0)];rw[show zAO (b,ps).1 (kv:Int)=b[kv].2 from hpl])
  obtain ⟨gv,ov,uv,cv,ea,k0,k1,k2,k3,_,i1,i2,i3⟩:=zB1 HB1.out hget
  subst ea
  generalize b[kv]=x at *
  have hkI:(kv:Int)<(b.length:Int):=by omega
  have hkI0:(0:Int)≤(kv:Int):=by omega
  have HS:Hid (∀w',zAD w1.heap.size w1 w'→w'.cell? ⟨B,0,none⟩=some (.slice (some ⟨gv,ov,none⟩) b.length c)∧w'.cell? ⟨B,1,none⟩=some (.slice a' ps.length c')∧w'.cell? ⟨gv,ov+kv*4+1,none⟩=some (.int .i64 x.2.1)∧w'.cell? ⟨gv,ov+kv*4+2,none⟩=some (.int .i64 x.2.2.1)∧w'.cell? ⟨gv,ov+kv*4+3,none⟩=some (.int .i64 x.2.2.2)):=Zh (fun w' q=>⟨zAA q.below d0,zAA q.below d1,zAA q.below k1,zAA q.below k2,zAA q.below k3⟩)
  have s3:=HS.out w1.drew (zAD.refl w1).drew
  clear h0 hm0 hv0 hvb hget hpl d0 d1 k0 k1 k2 k3
  go_upto_region 4 with fail
  go_region_held3 (fun w'=>w'.cell? ⟨B,0,none⟩=some (.slice (some ⟨gv,ov,none⟩) b.length c)∧w'.cell? ⟨B,1,none⟩=some (.slice a' ps.length c')∧w'.cell? ⟨gv,ov+kv*4+1,none⟩=some (.int .i64 x.2.1)∧w'.cell? ⟨gv,ov+kv*4+2,none⟩=some (.int .i64 x.2.2.1)∧w'.cell? ⟨gv,ov+kv*4+3,none⟩=some (.int .i64 x.2.2.2)) (first | exact s3 | exact s4 | exact s5) (first
   | (go_at_call 41;refine (zL1 _ _ b ps (kv:Int) _ (HB1.out.stays zAz.stays (zAD.refl w1).drew.below) (HU1.out.stays zAj.stays (zAD.refl w1).drew.below) HPK.out hp8).mono ?_;rintro e w4 ⟨⟨v4,rfl,hi4⟩,hb4⟩;have p4:=(zAD.refl w1).drew.step hb4;have s4:=HS.out w4 p4)
   | (go_at_call 85;refine (zRJ x.2.1 x.2.2.1 x.2.2.2 _ (zAS (kv:Int) ps) _ hi4).mono ?_;rintro e w5 ⟨⟨y1,y2,rfl,hi5,hi6⟩,hb5⟩;have p5:=p4.step hb5;have s5:=HS.out w5 p5;have HI5:=Zh hi5;have HI6:=Zh hi6))
  all_goals
   clear s3 s4 s5
   go_wp2_with fail
   go_ret3
   exact ⟨⟨_,_,zOl HE.out.symm,by rw[HBB.out];exact HI5.out,by rw[HWW.out];exact HI6.out⟩,(S1.step p5.below).below⟩
 ·have HE:Hid (zBI (b,ps) v=zAh (b,ps) v):=Zh (by unfold zBI;rw[if_pos h0])
  have HBB:Hid (zBa (b,ps) v=[]):=Zh (by unfold zBa;rw[if_pos h0])
  have HWW:Hid (zDg (b,ps) v=[]):=Zh (by unfold zDg;rw[if_pos h0])
  have hne:(zAh (b,ps) v != 0)=true:=by simpa using h0
  clear h0 d0 d1
  go_wp2_with fail
  go_ret3
  exact ⟨⟨_,_,zOl HE.out.symm,by rw[HBB.out];exact zAG.nil _,by rw[HWW.out];exact zAG.nil _⟩,S1.below⟩
end Go.Proofs.YthgmphbkkojaoaaGreat
