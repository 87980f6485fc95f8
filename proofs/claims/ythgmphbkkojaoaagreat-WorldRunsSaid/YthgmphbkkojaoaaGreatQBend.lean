/-
  world.bend, walked: at a mesh of one's own.
-/
import Derived.Test.YthgmphbkkojaoaaGreatQDoMaths
set_option linter.unusedSimpArgs false
set_option maxHeartbeats 4000000
namespace Go.Proofs.YthgmphbkkojaoaaGreat
set_option linter.unusedSectionVars false
variable [Zn]
open Go.RowKit
set_option maxRecDepth 100000 in
theorem zOe(X:Nat→Prop)(base top0:Nat)(v1 v2:Value)(m:Me)(n:Nat)(p:Pr)(k:Int)(W:World)(h:zE0 X W base top0 v1 v2 m)(hb:base≤W.heap.size)(ht:top0≤W.heap.size)(hp:m.2[n]?=some p)(hv:∀x∈p.2.2,∃z,x.2.2[0]?=some z∧0≤z∧z<31)(hk:I64 k) :
  Calls Tryz.prog 46 #[.agg #[v1,v2],.int .i64 n,.int .i64 k] W fun e w'=>((zI0 p.2.2 k=0∧e=.returned (.tuple #[.agg #[v1,v2],.int .i64 0])∧zE0 X w' base top0 v1 v2 (m.1,m.2.set n (p.1,p.2.1,zEe k.toNat p.2.2)))∨(zI0 p.2.2 k≠0∧e=.returned (.tuple #[.agg #[.slice none 0 0,.slice none 0 0],.int .i64 (zI0 p.2.2 k)])))∧zAD base W w':=by
 obtain ⟨a,c,rfl,_⟩:=h.vers.opened
 obtain ⟨g,cap,u,cu,rfl,hg1,hg2,c0,c1,c2,hkp,jr,fz,_,_⟩:=h.peer hp
 have hnl:=(List.getElem?_eq_some_iff.1 hp).1
 have HKP:=Zh hkp
 obtain ⟨N,hN1,hN2⟩:∃N,N≤m.2.length∧m.2.length≤N:=⟨_,Nat.le_refl _,Nat.le_refl _⟩
 obtain ⟨vb,hvb⟩:∃vb,vb=m.1.length:=⟨_,rfl⟩
 have S0:=((zAD.refl W).alloc (.cells #[.slice a m.1.length c,.slice (some ⟨g,0,none⟩) m.2.length cap] 27)).alloc (.cells #[.slice none 0 0,.slice none 0 0] 27)
 obtain ⟨w0,hw0⟩:∃w0,w0=(W.alloc (.cells #[.slice a m.1.length c,.slice (some ⟨g,0,none⟩) m.2.length cap] 27)).alloc (.cells #[.slice none 0 0,.slice none 0 0] 27):=⟨_,rfl⟩
 have p0:w0.cell? ⟨W.heap.size,0,none⟩=some (.slice a m.1.length c):=by rw[hw0];go_simp
 have p1:w0.cell? ⟨W.heap.size,1,none⟩=some (.slice (some ⟨g,0,none⟩) m.2.length cap):=by rw[hw0];go_simp
 have q0:w0.cell? ⟨W.heap.size+1,0,none⟩=some (.slice none 0 0):=by rw[hw0];go_simp
 have q1:w0.cell? ⟨W.heap.size+1,1,none⟩=some (.slice none 0 0):=by rw[hw0];go_simp
 have q2:w0.frozen? ⟨W.heap.size+1,0,none⟩=false:=by rw[hw0];go_simp
 have q3:w0.frozen? ⟨W.heap.size+1,1,none⟩=false:=by rw[hw0];go_simp
 rw[←hw0] at S0
 have HW:=Zh hw0
 clear hw0
 obtain ⟨B,hB⟩:∃B,B=W.heap.size:=⟨_,rfl⟩
 obtain ⟨B1,hB1⟩:∃B1,B1=W.heap.size+1:=⟨_,rfl⟩
 have hBW:W.heap.size≤B:=by omega
 have hBW1:W.heap.size≤B1:=by omega
 have hBb:base≤B1:=by omega
 have hBB:¬B1=B:=by omega
 have hBB':¬B=B1:=by omega
 rw[←hB1] at q0 q1 q2 q3
 rw[←hB] at p0 p1
 have HB:=Zh hB
 have HB1:=Zh hB1
 clear hB hB1
 have h0:=h.stays S0.below
 have T0:zAD base W w0:=⟨S0.below.mono hb,Nat.le_trans hb S0.2⟩
 have k2:=zAA S0.below c2
 go_enter Tryz.func46,Tryz.ntmps46
 go_upto_region 1 with fail
 rw[←HW.out,←HB1.out,←HB.out]
 have v0:((w0.setCell ⟨B1,0,none⟩ (.slice none 0 0)).setCell ⟨B1,1,none⟩ (.slice none 0 0)).cell? ⟨B1,0,none⟩=some (.slice none 0 0):=by go_simp
 have v1:((w0.setCell ⟨B1,0,none⟩ (.slice none 0 0)).setCell ⟨B1,1,none⟩ (.slice none 0 0)).cell? ⟨B1,1,none⟩=some (.slice none 0 0):=by go_simp
 by_cases hk0:k<0
 ·have HE:=Zh (zLE (l:=p.2.2) (k:=k) (Or.inl hk0))
  clear c0 c1 c2 k2
  go_wp2_with fail
  have S7:=(T0.setCell (a:=⟨B1,0,none⟩) hBb (.slice none 0 0)).setCell (a:=⟨B1,1,none⟩) hBb (.slice none 0 0)
  exact bodyPost_ret (v:=.tuple #[.agg #[.slice none 0 0,.slice none 0 0],.int .i64 4]) (by simp[results,Tryz.results46,go_sem,v0,v1]) rfl ⟨Or.inr ⟨by rw[HE.out];decide,by rw[HE.out]⟩,S7⟩
 ·by_cases hkl:(p.2.2.length:Int)≤k
  ·have HE:=Zh (zLE (l:=p.2.2) (k:=k) (Or.inr hkl))
   clear c0 c1 c2
   go_wp2_with fail
   have S7:=(T0.setCell (a:=⟨B1,0,none⟩) hBb (.slice none 0 0)).setCell (a:=⟨B1,1,none⟩) hBb (.slice none 0 0)
   exact bodyPost_ret (v:=.tuple #[.agg #[.slice none 0 0,.slice none 0 0],.int .i64 4]) (by simp[results,Tryz.results46,go_sem,v0,v1]) rfl ⟨Or.inr ⟨by rw[HE.out];decide,by rw[HE.out]⟩,S7⟩
  ·have HE:=Zh (zO4 (l:=p.2.2) (k:=k) (by omega))
   obtain ⟨q,rfl⟩:=Int.eq_ofNat_of_zero_le (show 0≤k by omega)
   have hql:q<p.2.2.length:=by omega
   have hyq:=List.getElem?_eq_getElem hql
   obtain ⟨z,hz0,hz1,hz2⟩:=hv _ (List.getElem_mem hql)
   have hne:p.2.2[q].2.2≠[]:=by intro e;rw[e] at hz0;cases hz0
   have hyl:0<p.2.2[q].2.2.length:=List.length_pos_iff.2 hne
   obtain ⟨g',cap',gk,ck,gy,cq,ev2,e2,_,_,e3,hval0,fy,hgy1,hgy2,_,_,_,_,hval⟩:=h0.kept (k:=n) (q:=q) hp hyq hne
   simp only[Value.slice.injEq,Option.some.injEq,Addr.mk.injEq] at ev2
   obtain ⟨⟨rfl,hq9⟩,hq8,hq7⟩:=ev2
   clear hq9 hq8 hq7
   have e4:=(hval0 0 z hz0).1
   have f4:=fy 0
   have iz:I64 ((z+1) % 31):=⟨by omega,by omega⟩
   have HBN:Hid (zEe q p.2.2=p.2.2.set q (p.2.2[q].1,p.2.2[q].2.1,p.2.2[q].2.2.set 0 ((z+1) % 31))):=Zh (by
    rw[zKp hyq]
    unfold zFn zJZ
    rw[List.getD_eq_getElem?_getD,hz0]
    rfl)
   have HOV:=Zh (hval 0 _ iz)
   have hBy:B≠gy:=by omega
   have hB1y:B1≠gy:=by omega
   have s1:IntKind.i64.wrap (z+1)=z+1:=IntWalk.i64_in _ (by omega)
   have s3:(z+1).tmod 31=(z+1) % 31:=IntWalk.rem_in _ _ (by omega)
   generalize hyy:p.2.2[q]=y at *
   generalize (z+1) % 31=zz at *
   have S4:=T0.setCell (a:=⟨gy,0,none⟩) hgy1 (.int .i64 zz)
   have x0:(w0.setCell ⟨gy,0,none⟩ (.int .i64 zz)).cell? ⟨B,0,none⟩=some (.slice a m.1.length c):=(zAI _ _ _ _ hBy).trans p0
   have x1:(w0.setCell ⟨gy,0,none⟩ (.int .i64 zz)).cell? ⟨B,1,none⟩=some (.slice (some ⟨g,0,none⟩) m.2.length cap):=(zAI _ _ _ _ hBy).trans p1
   have y0:(w0.setCell ⟨gy,0,none⟩ (.int .i64 zz)).cell? ⟨B1,0,none⟩=some (.slice none 0 0):=(zAI _ _ _ _ hB1y).trans q0
   have y1:(w0.setCell ⟨gy,0,none⟩ (.int .i64 zz)).cell? ⟨B1,1,none⟩=some (.slice none 0 0):=(zAI _ _ _ _ hB1y).trans q1
   have y2:(w0.setCell ⟨gy,0,none⟩ (.int .i64 zz)).frozen? ⟨B1,0,none⟩=false:=by rw[World.frozen?_setCell];exact q2
   have y3:(w0.setCell ⟨gy,0,none⟩ (.int .i64 zz)).frozen? ⟨B1,1,none⟩=false:=by rw[World.frozen?_setCell];exact q3
   have hyl2:(0:Int)<(y.2.2.length:Int):=by omega
   have hql2:(q:Int)<(p.2.2.length:Int):=by omega
   have HY:=Zh hyq
   clear c0 c1 c2 k2 v0 v1 hval hval0 fy hyq hz0 hne
   go_upto_region 5 with fail
   clear p0 p1 q0 q1 q2 q3 e2 e3 e4 f4
   generalize w0.setCell ⟨gy,0,none⟩ (.int .i64 zz)=w4 at *
   have r0:((w4.setCell ⟨B1,0,none⟩ (.slice a m.1.length c)).setCell ⟨B1,1,none⟩ (.slice (some ⟨g,0,none⟩) m.2.length cap)).cell? ⟨B1,0,none⟩=some (.slice a m.1.length c):=by go_simp
   have r1:((w4.setCell ⟨B1,0,none⟩ (.slice a m.1.length c)).setCell ⟨B1,1,none⟩ (.slice (some ⟨g,0,none⟩) m.2.length cap)).cell? ⟨B1,1,none⟩=some (.slice (some ⟨g,0,none⟩) m.2.length cap):=by go_simp
   have hd9:zAF (fun j=>j=B1) w4 ((w4.setCell ⟨B1,0,none⟩ (.slice a m.1.length c)).setCell ⟨B1,1,none⟩ (.slice (some ⟨g,0,none⟩) m.2.length cap)):=(zAF.of_grown ((zAC w4 ⟨B1,0,none⟩ (.slice a m.1.length c)).trans (zAC _ ⟨B1,1,none⟩ (.slice (some ⟨g,0,none⟩) m.2.length cap)))).mono fun j _ hj=>by cases hj;rfl
   have S9:=(S4.setCell (a:=⟨B1,0,none⟩) hBb (.slice a m.1.length c)).setCell (a:=⟨B1,1,none⟩) hBb (.slice (some ⟨g,0,none⟩) m.2.length cap)
   have HO9:=Zh (HOV.out.frame hd9 (fun j hj=>Or.inr (by rw[hj];omega)))
   go_wp2_with fail
   refine bodyPost_ret (v:=.tuple #[.agg #[.slice a m.1.length c,.slice (some ⟨g,0,none⟩) m.2.length cap],.int .i64 0]) (by simp[results,Tryz.results46,go_sem,r0,r1]) rfl ⟨Or.inl ⟨HE.out,rfl,?_⟩,S9⟩
   rw[HBN.out]
   exact HO9.out
end Go.Proofs.YthgmphbkkojaoaaGreat
