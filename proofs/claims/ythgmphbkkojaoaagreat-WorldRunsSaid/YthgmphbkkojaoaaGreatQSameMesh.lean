/-
  The reference's SameMesh and FreshMesh, walked.
-/
import Derived.Test.YthgmphbkkojaoaaGreatQTheres
import Derived.Test.YthgmphbkkojaoaaGreatQWovens
set_option maxHeartbeats 2000000
namespace Go.Proofs.YthgmphbkkojaoaaGreat
set_option linter.unusedSectionVars false
variable [Zn]
open Go.RowKit
set_option maxRecDepth 100000 in
theorem zHz(v1 v2 u1 u2:Value)(m o:Me)(W:World)(h1:zAR W v1 m.1)(h2:zAT W v2 m.2)(g1:zAR W u1 o.1)(g2:zAT W u2 o.2) :
  Calls Tryz.prog 9 #[.agg #[v1,v2],.agg #[u1,u2]] W fun e w'=>e=.returned (.bool (zS2 m o))∧Below W.heap.size W w':=by
 obtain ⟨b,p⟩:=m
 obtain ⟨c,q⟩:=o
 simp only at h1 h2 g1 g2
 obtain ⟨a,n,rfl,_⟩:=h1.opened
 obtain ⟨a1,n1,rfl,_⟩:=h2.opened
 obtain ⟨a2,n2,rfl,_⟩:=g1.opened
 obtain ⟨a3,n3,rfl,_⟩:=g2.opened
 have S0:=((zAD.refl W).alloc (.cells #[.slice a b.length n,.slice a1 p.length n1] 27)).alloc (.cells #[.slice a2 c.length n2,.slice a3 q.length n3] 27)
 obtain ⟨w0,hw0⟩:∃w0,w0=(W.alloc (.cells #[.slice a b.length n,.slice a1 p.length n1] 27)).alloc (.cells #[.slice a2 c.length n2,.slice a3 q.length n3] 27):=⟨_,rfl⟩
 have c0:w0.cell? ⟨W.heap.size,0,none⟩=some (.slice a b.length n):=by rw[hw0];go_simp
 have c1:w0.cell? ⟨W.heap.size,1,none⟩=some (.slice a1 p.length n1):=by rw[hw0];go_simp
 have d0:w0.cell? ⟨W.heap.size+1,0,none⟩=some (.slice a2 c.length n2):=by rw[hw0];go_simp
 have d1:w0.cell? ⟨W.heap.size+1,1,none⟩=some (.slice a3 q.length n3):=by rw[hw0];go_simp
 rw[←hw0] at S0
 have HW:=Zh hw0
 clear hw0
 have h1:=h1.later zAz.stays (zAF.old S0.below _)
 have h2:=h2.later zAj.stays (zAF.old S0.below _)
 have g1:=g1.later zAz.stays (zAF.old S0.below _)
 have g2:=g2.later zAj.stays (zAF.old S0.below _)
 obtain ⟨T,hT⟩:∃T,T=zEp zDd b c:=⟨_,rfl⟩
 have HV:=Zh (show zS2 (b,p) (c,q)=(T&&zEp zHv p q) by rw[hT];rfl)
 have HT:=Zh hT
 clear hT
 cases T with
 | true =>
  go_enter Tryz.func9,Tryz.ntmps9
  go_upto_region 1 with fail
  rw[←HW.out]
  go_wp2_with (first
   | (go_at_call 26;refine (zHq _ _ b c w0 h1 g1).mono ?_;rintro e w1 ⟨rfl,hb1⟩;rw[←HT.out];have e0:=zAA hb1 c1;have e1:=zAA hb1 d1;have k2:=h2.later zAj.stays (zAF.old hb1 _);have k3:=g2.later zAj.stays (zAF.old hb1 _))
   | (go_at_call 27;refine (zGB 28 (fun _ _=>rfl) zLn _ _ p q w1 k2 k3).mono ?_;rintro e w2 ⟨rfl,hb2⟩))
  go_ret
  exact ⟨zAX (by rw[HV.out];rfl),((S0.step hb1).step hb2).below⟩
 | false =>
  go_enter Tryz.func9,Tryz.ntmps9
  go_upto_region 1 with fail
  rw[←HW.out]
  go_wp2_with (first
   | (go_at_call 26;refine (zHq _ _ b c w0 h1 g1).mono ?_;rintro e w1 ⟨rfl,hb1⟩;rw[←HT.out]))
  go_ret
  exact ⟨zAX (by rw[HV.out];rfl),(S0.step hb1).below⟩
end Go.Proofs.YthgmphbkkojaoaaGreat
