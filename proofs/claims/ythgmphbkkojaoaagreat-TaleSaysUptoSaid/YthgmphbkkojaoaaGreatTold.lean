/-
  told, a closed fact of tales, walked.
-/
import Derived.Test.YthgmphbkkojaoaaGreatSaved
import Derived.Test.YthgmphbkkojaoaaGreatWovens
import Derived.Test.YthgmphbkkojaoaaGreatSpare
set_option linter.unusedSimpArgs false
set_option maxHeartbeats 4000000
namespace Go.Proofs.YthgmphbkkojaoaaGreat
open Go.RowKit
def tlG:Me:=([([],2,4,3)],[(false,2,[(0,0,[5,9])]),(true,2,[(0,1,[7,0])]),(true,2,[(0,2,[9,22])]),(true,2,[(0,3,[11,13])]),(true,2,[])])
theorem zQ0:zAh tlG 0=0∧zFI tlG 0=1∧zAh tlG 1=4:=by decide +kernel
set_option maxRecDepth 100000 in
theorem zWB(W:World):Calls Tryz.prog 15 #[] W fun e w'=>e=.returned (.bool true)∧Below W.heap.size W w':=by
 have E1:=Lib.hid zPZ
 have E2:=Lib.hid zQ0
 have E8:Hid (zBV [3] [3]=true):=Lib.hid (by decide)
 go_enter Tryz.func15,Tryz.ntmps15
 go_upto_region 2 with fail
 obtain ⟨w4,hw4⟩:∃w4,w4=(((W.alloc (.cells #[.int .i64 1,.int .i64 2] 3)).alloc (.cells #[.int .i64 9] 3)).alloc (.cells #[.int .i64 3] 3)).alloc (.cells #[.int .i64 0] 3):=⟨_,rfl⟩
 have S4:=((((zAD.refl W).alloc (.cells #[.int .i64 1,.int .i64 2] 3)).alloc (.cells #[.int .i64 9] 3)).alloc (.cells #[.int .i64 3] 3)).alloc (.cells #[.int .i64 0] 3)
 have h1:zAG w4 (.slice (some ⟨W.heap.size,0,none⟩) 2 2) [1,2]:=by rw[hw4];exact (((zAG.fresh W 3 [1,2] (by decide) (zDB _ (by decide)) _ rfl).stays (zAB _ _)).stays (zAB _ _)).stays (zAB _ _)
 have h2:zAG w4 (.slice (some ⟨W.heap.size+1,0,none⟩) 1 1) [9]:=by rw[hw4];exact ((zAG.fresh (W.alloc (.cells #[.int .i64 1,.int .i64 2] 3)) 3 [9] (by decide) (zDB _ (by decide)) _ (by simp)).stays (zAB _ _)).stays (zAB _ _)
 have h3:zAG w4 (.slice (some ⟨W.heap.size+1+1,0,none⟩) 1 1) [3]:=by rw[hw4];exact (zAG.fresh ((W.alloc (.cells #[.int .i64 1,.int .i64 2] 3)).alloc (.cells #[.int .i64 9] 3)) 3 [3] (by decide) (zDB _ (by decide)) _ (by simp)).stays (zAB _ _)
 have h4:zAG w4 (.slice (some ⟨W.heap.size+1+1+1,0,none⟩) 1 1) [0]:=by rw[hw4];exact zAG.fresh (((W.alloc (.cells #[.int .i64 1,.int .i64 2] 3)).alloc (.cells #[.int .i64 9] 3)).alloc (.cells #[.int .i64 3] 3)) 3 [0] (by decide) (zDB _ (by decide)) _ (by simp)
 have hz4:W.heap.size+1+1+1+1=w4.heap.size:=by rw[hw4];simp
 rw[←hw4] at S4 ⊢
 have BB:=zAB w4 (.cells #[.int .i64 1,.int .i64 0,.int .i64 0,.slice (some ⟨W.heap.size,0,none⟩) 2 2,.slice none 0 0,.int .i64 1,.int .i64 2,.int .i64 1,.int .i64 0,.int .i64 0,.slice (some ⟨W.heap.size+1,0,none⟩) 1 1,.slice none 0 0,.int .i64 3,.int .i64 4,.int .i64 1,.int .i64 0,.int .i64 0,.slice (some ⟨W.heap.size+1+1,0,none⟩) 1 1,.slice (some ⟨W.heap.size+1+1+1,0,none⟩) 1 1,.int .i64 1,.int .i64 1] 38)
 have HU:Hid (zGj (w4.alloc (.cells #[.int .i64 1,.int .i64 0,.int .i64 0,.slice (some ⟨W.heap.size,0,none⟩) 2 2,.slice none 0 0,.int .i64 1,.int .i64 2,.int .i64 1,.int .i64 0,.int .i64 0,.slice (some ⟨W.heap.size+1,0,none⟩) 1 1,.slice none 0 0,.int .i64 3,.int .i64 4,.int .i64 1,.int .i64 0,.int .i64 0,.slice (some ⟨W.heap.size+1+1,0,none⟩) 1 1,.slice (some ⟨W.heap.size+1+1+1,0,none⟩) 1 1,.int .i64 1,.int .i64 1] 38)) (.slice (some ⟨W.heap.size+1+1+1+1,0,none⟩) 3 3) zPt):=Lib.hid (zNP [[.int .i64 1,.int .i64 0,.int .i64 0,.slice (some ⟨W.heap.size,0,none⟩) 2 2,.slice none 0 0,.int .i64 1,.int .i64 2],[.int .i64 1,.int .i64 0,.int .i64 0,.slice (some ⟨W.heap.size+1,0,none⟩) 1 1,.slice none 0 0,.int .i64 3,.int .i64 4],[.int .i64 1,.int .i64 0,.int .i64 0,.slice (some ⟨W.heap.size+1+1,0,none⟩) 1 1,.slice (some ⟨W.heap.size+1+1+1,0,none⟩) 1 1,.int .i64 1,.int .i64 1]] (l:=zPt) rfl hz4 rfl (by decide) (by simp) (by
  intro i r x hr hx
  have hi:i<3:=(List.getElem?_eq_some_iff.1 hx).1
  rcases (by omega:i=0∨i=1∨i=2) with rfl|rfl|rfl<;>simp only[List.getElem?_cons_zero,List.getElem?_cons_succ,Option.some.injEq,zPt] at hr hx<;>subst hr<;>subst hx
  ·exact ⟨_,_,rfl,h1.stays BB,zAG.nil _,⟨by decide,by decide⟩,⟨by decide,by decide⟩,⟨by decide,by decide⟩,⟨by decide,by decide⟩,⟨by decide,by decide⟩⟩
  ·exact ⟨_,_,rfl,h2.stays BB,zAG.nil _,⟨by decide,by decide⟩,⟨by decide,by decide⟩,⟨by decide,by decide⟩,⟨by decide,by decide⟩,⟨by decide,by decide⟩⟩
  ·exact ⟨_,_,rfl,h3.stays BB,h4.stays BB,⟨by decide,by decide⟩,⟨by decide,by decide⟩,⟨by decide,by decide⟩,⟨by decide,by decide⟩,⟨by decide,by decide⟩⟩))
 have S5:=S4.alloc (.cells #[.int .i64 1,.int .i64 0,.int .i64 0,.slice (some ⟨W.heap.size,0,none⟩) 2 2,.slice none 0 0,.int .i64 1,.int .i64 2,.int .i64 1,.int .i64 0,.int .i64 0,.slice (some ⟨W.heap.size+1,0,none⟩) 1 1,.slice none 0 0,.int .i64 3,.int .i64 4,.int .i64 1,.int .i64 0,.int .i64 0,.slice (some ⟨W.heap.size+1+1,0,none⟩) 1 1,.slice (some ⟨W.heap.size+1+1+1,0,none⟩) 1 1,.int .i64 1,.int .i64 1] 38)
 clear hw4 h1 h2 h3 h4 BB
 generalize w4.alloc (.cells #[.int .i64 1,.int .i64 0,.int .i64 0,.slice (some ⟨W.heap.size,0,none⟩) 2 2,.slice none 0 0,.int .i64 1,.int .i64 2,.int .i64 1,.int .i64 0,.int .i64 0,.slice (some ⟨W.heap.size+1,0,none⟩) 1 1,.slice none 0 0,.int .i64 3,.int .i64 4,.int .i64 1,.int .i64 0,.int .i64 0,.slice (some ⟨W.heap.size+1+1,0,none⟩) 1 1,.slice (some ⟨W.heap.size+1+1+1,0,none⟩) 1 1,.int .i64 1,.int .i64 1] 38)=w5 at *
 rw[hz4] at HU ⊢
 clear hz4
 have HV:=Lib.hid (zAG.fresh w5 3 [2,2,2] (by decide) (zDB _ (by decide)) _ rfl)
 have HU6:=Lib.hid (HU.out.stays zUH.stays (zAB w5 (.cells #[.int .i64 2,.int .i64 2,.int .i64 2] 3)))
 have S6:=S5.alloc (.cells #[.int .i64 2,.int .i64 2,.int .i64 2] 3)
 have HSV:=Lib.hid (zRf _ _ [2,2,2] zPt _ HV.out HU6.out (by decide))
 rw[E1.out.1,E1.out.2] at HSV
 clear HV HU6 HU
 go_upto_region 3 with (go_at_call 12;go_fit HSV.out;rintro e w7 ⟨⟨va,rfl,hia⟩,hb7⟩;obtain ⟨aa,ca,eva,_⟩:=hia.opened;rw[show ([[1,2],[3]]:List (List Int)).length=2 from rfl] at eva;subst eva)
 have S7:=S6.step hb7
 obtain ⟨ga,oa,rfl,cs,hcl,hcs,vr,rfl,hir⟩:=hia.at (i:=1) (x:=[3]) rfl
 obtain ⟨ar,cr,evr,_⟩:=hir.opened
 rw[show ([3]:List Int).length=1 from rfl] at evr
 subst evr
 have z0:=hcs 0 _ rfl
 clear hia hb7 HSV hcs hcl S6 S5 S4
 go_upto_region 4 with (go_at_call 42;go_fit (zJb w7);rintro e w1 ⟨⟨y1,y2,rfl,ho1⟩,hb1⟩;obtain ⟨a1,c1,ev1,_⟩:=ho1.vers.opened;rw[show zKY.1.length=1 from rfl] at ev1;subst ev1;obtain ⟨a2,c2,ev2,_⟩:=ho1.peers.opened;rw[show zKY.2.length=5 from rfl] at ev2;subst ev2)
 have S1:=(zAD.refl w7).step hb1
 have SW:=S7.step hb1
 have S2:=S1.alloc (.cells #[.slice a1 1 c1,.slice a2 5 c2] 27)
 have SW2:=SW.alloc (.cells #[.slice a1 1 c1,.slice a2 5 c2] 27)
 have BB:=zAB w1 (.cells #[.slice a1 1 c1,.slice a2 5 c2] 27)
 have ho2:=ho1.toT.stays BB
 have b0:(w1.alloc (.cells #[.slice a1 1 c1,.slice a2 5 c2] 27)).cell? ⟨w1.heap.size,0,none⟩=some (.slice a1 1 c1):=by go_simp
 have b1:(w1.alloc (.cells #[.slice a1 1 c1,.slice a2 5 c2] 27)).cell? ⟨w1.heap.size,1,none⟩=some (.slice a2 5 c2):=by go_simp
 have HK:=Lib.hid (fun w' (q:zAD w7.heap.size w7 w')=>And.intro (zAA q.below z0) (hir.stays q.below))
 clear z0 hir BB
 generalize w1.alloc (.cells #[.slice a1 1 c1,.slice a2 5 c2] 27)=w2 at *
 obtain ⟨B,hB⟩:∃B,B=w1.heap.size:=⟨_,rfl⟩
 have hWB:=S1.2
 rw[←hB] at b0 b1 ho2 hWB ⊢
 clear hB ho1 hb1 S1 SW
 go_upto_region 6 with fail
 obtain ⟨g,cg,u0,c0,ev,hg1,hg2,r0,_,_,_,_,fz,hset,_⟩:=ho2.peer (k:=0) (p:=(true,2,[(0,0,[5,9])])) rfl
 rw[show zKY.2.length=5 from rfl] at ev
 simp only[Value.slice.injEq,true_and] at ev
 obtain ⟨rfl,rfl⟩:=ev
 have r0:w2.cell? ⟨g,0,none⟩=some (.bool true):=by simpa using r0
 have f0:=fz 0
 have hBg:B≠g:=by omega
 have h6:zE0 (fun k=>k<w7.heap.size) (w2.setCell ⟨g,0,none⟩ (.bool false)) w7.heap.size B (.slice a1 1 c1) (.slice (some ⟨g,0,none⟩) 5 c2) tlG:=(by simpa using hset false:zE0 (fun k=>k<w7.heap.size) (w2.setCell ⟨g,0,none⟩ (.bool false)) w7.heap.size B (.slice a1 1 c1) (.slice (some ⟨g,0,none⟩) 5 c2) (zKY.1,zKY.2.set 0 (false,2,[(0,0,[5,9])])))
 have e1:(w2.setCell ⟨g,0,none⟩ (.bool false)).cell? ⟨B,1,none⟩=some (.slice (some ⟨g,0,none⟩) 5 c2):=(zAI _ _ _ _ hBg).trans b1
 have e0:(w2.setCell ⟨g,0,none⟩ (.bool false)).cell? ⟨B,0,none⟩=some (.slice a1 1 c1):=(zAI _ _ _ _ hBg).trans b0
 have SW6:=SW2.setCell (a:=⟨g,0,none⟩) (Nat.le_trans S7.2 hg1) (.bool false)
 have T6:zAD w7.heap.size w7 (w2.setCell ⟨g,0,none⟩ (.bool false)):=S2.setCell (a:=⟨g,0,none⟩) hg1 (.bool false)
 clear hset fz ho2
 go_upto_region 7 with fail
 clear b0 b1 r0 f0
 generalize w2.setCell ⟨g,0,none⟩ (.bool false)=w6 at *
 go_upto_region 8 with (go_at_call 13;go_fit (zMq _ tlG.1 _ tlG.2 0 w6 h6.vers h6.peers);rintro e w8 ⟨rfl,hb8⟩;rw[show zFI (tlG.1,tlG.2) 0=1 from E2.out.2.1,show zAh (tlG.1,tlG.2) 0=0 from E2.out.1])
 have SW8:=SW6.step hb8
 have T8:=T6.step hb8
 have h8:=h6.stays hb8
 have e0:=zAA hb8 e0
 have e1:=zAA hb8 e1
 clear h6 hb8
 go_upto_region 9 with (go_at_call 13;go_fit (zMq _ tlG.1 _ tlG.2 1 w8 h8.vers h8.peers);rintro e w9 ⟨rfl,hb9⟩;rw[show zAh (tlG.1,tlG.2) 1=4 from E2.out.2.2])
 have SW9:=SW8.step hb9
 have T9:=T8.step hb9
 obtain ⟨z0,hi9⟩:=HK.out _ T9
 have z1:(w9.alloc (.cells #[.int .i64 3] 3)).cell? ⟨ga,oa+1,none⟩=some (.slice ar 1 cr):=zAA (zAB _ _) z0
 have hi10:=hi9.stays (zAB w9 (.cells #[.int .i64 3] 3))
 have S10:=SW9.alloc (.cells #[.int .i64 3] 3)
 have HI:=Lib.hid (zAG.fresh w9 3 [3] (by decide) (zDB _ (by decide)) _ rfl)
 clear h8 hb9 e0 e1
 go_wp2_with fail
 refine (zB8 _ _ [3] [3] _ hi10 HI.out).mono ?_
 rintro e w11 ⟨rfl,hb11⟩
 rw[E8.out]
 go_wp2_with fail
 go_ret
 exact ⟨rfl,(S10.step hb11).below⟩
end Go.Proofs.YthgmphbkkojaoaaGreat
