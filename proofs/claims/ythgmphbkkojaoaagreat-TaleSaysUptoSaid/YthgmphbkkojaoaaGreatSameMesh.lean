/-
  The reference's SameMesh and FreshMesh, walked.
-/
import Derived.Test.YthgmphbkkojaoaaGreatTheres
import Derived.Test.YthgmphbkkojaoaaGreatWovens
import Derived.Test.YthgmphbkkojaoaaGreatSames
set_option maxHeartbeats 4000000
set_option linter.unusedSimpArgs false
namespace Go.Proofs.YthgmphbkkojaoaaGreat
open Go.RowKit
set_option maxRecDepth 100000 in
theorem zHz(v1 v2 u1 u2:Value)(m o:Me)(W:World)(h1:zAR W v1 m.1)(h2:zAT W v2 m.2)(g1:zAR W u1 o.1)(g2:zAT W u2 o.2) :
  Calls Tryz.prog 9 #[.agg #[v1,v2],.agg #[u1,u2]] W fun e w'=>e=.returned (.bool (zS2 m o))∧Below W.heap.size W w':=by
 obtain ⟨b,p⟩:=m
 obtain ⟨c,q⟩:=o
 simp only at h1 h2 g1 g2
 obtain ⟨a,n,rfl,_⟩:=h1.opened
 obtain ⟨a1,n1,rfl,_⟩:=h2.opened
 obtain ⟨a2,n2,rfl,_⟩:=g1.opened
 obtain ⟨a3,n3,rfl,_⟩:=g2.opened
 have S0:=((zAD.refl W).alloc (.cells #[.slice a b.length n,.slice a1 p.length n1] 27)).alloc (.cells #[.slice a2 c.length n2,.slice a3 q.length n3] 27)
 obtain ⟨w0,hw0⟩:∃w0,w0=(W.alloc (.cells #[.slice a b.length n,.slice a1 p.length n1] 27)).alloc (.cells #[.slice a2 c.length n2,.slice a3 q.length n3] 27):=⟨_,rfl⟩
 have c0:w0.cell? ⟨W.heap.size,0,none⟩=some (.slice a b.length n):=by rw[hw0];go_simp
 have c1:w0.cell? ⟨W.heap.size,1,none⟩=some (.slice a1 p.length n1):=by rw[hw0];go_simp
 have d0:w0.cell? ⟨W.heap.size+1,0,none⟩=some (.slice a2 c.length n2):=by rw[hw0];go_simp
 have d1:w0.cell? ⟨W.heap.size+1,1,none⟩=some (.slice a3 q.length n3):=by rw[hw0];go_simp
 rw[←hw0] at S0
 have HW:=Lib.hid hw0
 clear hw0
 have h1:=h1.later zAz.stays (zAF.old S0.below _)
 have h2:=h2.later zAj.stays (zAF.old S0.below _)
 have g1:=g1.later zAz.stays (zAF.old S0.below _)
 have g2:=g2.later zAj.stays (zAF.old S0.below _)
 obtain ⟨T,hT⟩:∃T,T=zEp zDd b c:=⟨_,rfl⟩
 have HV:=Lib.hid (show zS2 (b,p) (c,q)=(T&&zEp zHv p q) by rw[hT];rfl)
 have HT:=Lib.hid hT
 clear hT
 cases T with
 | true =>
  go_enter Tryz.func9,Tryz.ntmps9
  go_upto_region 1 with fail
  rw[←HW.out]
  go_wp2_with (first
   | (go_at_call 26;refine (zHq _ _ b c w0 h1 g1).mono ?_;rintro e w1 ⟨rfl,hb1⟩;rw[←HT.out];have e0:=zAA hb1 c1;have e1:=zAA hb1 d1;have k2:=h2.later zAj.stays (zAF.old hb1 _);have k3:=g2.later zAj.stays (zAF.old hb1 _))
   | (go_at_call 27;refine (zGB 28 (fun _ _=>rfl) zLn _ _ p q w1 k2 k3).mono ?_;rintro e w2 ⟨rfl,hb2⟩))
  go_ret
  exact ⟨zAX (by rw[HV.out];rfl),((S0.step hb1).step hb2).below⟩
 | false =>
  go_enter Tryz.func9,Tryz.ntmps9
  go_upto_region 1 with fail
  rw[←HW.out]
  go_wp2_with (first
   | (go_at_call 26;refine (zHq _ _ b c w0 h1 g1).mono ?_;rintro e w1 ⟨rfl,hb1⟩;rw[←HT.out]))
  go_ret
  exact ⟨zAX (by rw[HV.out];rfl),(S0.step hb1).below⟩
set_option maxRecDepth 100000 in
theorem zSh(v:Value)(room:List Int)(W:World)(hv:zAG W v room)(hr:room.length≤1900000) :
  Calls Tryz.prog 16 #[v] W fun e w'=>(∃u1 u2,e=.returned (.tuple #[.agg #[u1,u2],.int .i64 (zQV room)])∧zCl (fun k=>k<W.heap.size) w' W.heap.size u1 u2 (zFo room))∧Below W.heap.size W w':=by
 obtain ⟨a,c,rfl,hcv,⟨hvm,hvc,_⟩,_⟩:=hv.opened
 have S0:=((zAD.refl W).alloc (.cells #[.slice none 0 0,.slice none 0 0] 27)).alloc (.cells #[.slice none 0 0,.slice none 0 0] 27)
 obtain ⟨w0,hw0⟩:∃w0,w0=(W.alloc (.cells #[.slice none 0 0,.slice none 0 0] 27)).alloc (.cells #[.slice none 0 0,.slice none 0 0] 27):=⟨_,rfl⟩
 have p0:w0.cell? ⟨W.heap.size,0,none⟩=some (.slice none 0 0):=by rw[hw0];go_simp
 have p1:w0.cell? ⟨W.heap.size,1,none⟩=some (.slice none 0 0):=by rw[hw0];go_simp
 have p2:∀j,w0.frozen? ⟨W.heap.size,j,none⟩=false:=by intro j;rw[hw0];go_simp
 have q0:w0.cell? ⟨W.heap.size+1,0,none⟩=some (.slice none 0 0):=by rw[hw0];go_simp
 have q1:w0.cell? ⟨W.heap.size+1,1,none⟩=some (.slice none 0 0):=by rw[hw0];go_simp
 have q2:∀j,w0.frozen? ⟨W.heap.size+1,j,none⟩=false:=by intro j;rw[hw0];go_simp
 have hsz0:w0.heap.size=W.heap.size+2:=by rw[hw0];simp
 rw[←hw0] at S0
 have HW:=Lib.hid hw0
 clear hw0
 obtain ⟨B,hB⟩:∃B,B=W.heap.size:=⟨_,rfl⟩
 obtain ⟨B1,hB1⟩:∃B1,B1=W.heap.size+1:=⟨_,rfl⟩
 have hBW:W.heap.size≤B:=by omega
 have hBW1:W.heap.size≤B1:=by omega
 have hBB:¬B1=B:=by omega
 have hBB':¬B=B1:=by omega
 have hB0:B<w0.heap.size:=by omega
 have hB10:B1<w0.heap.size:=by omega
 have hW0:W.heap.size≤w0.heap.size:=by omega
 rw[←hB1] at q0 q1 q2
 rw[←hB] at p0 p1 p2
 have HB:=Lib.hid hB
 have HB1:=Lib.hid hB1
 clear hB hB1 hsz0
 have HV:=Lib.hid hv
 clear hv
 go_enter Tryz.func16,Tryz.ntmps16
 go_upto_region 2 with fail
 rw[←HW.out,←HB1.out,←HB.out]
 go_wp2_with fail
 go_loopw[10] (fun i wr=>∃k:Nat,∃y,k≤room.length∧i=.int .i64 k∧zAD W.heap.size W wr∧w0.heap.size≤wr.heap.size∧(wr.cell? ⟨B,0,none⟩=some (.slice none 0 0)∧wr.cell? ⟨B,1,none⟩=some (.slice none 0 0)∧∀j,wr.frozen? ⟨B,j,none⟩=false)∧(wr.cell? ⟨B1,0,none⟩=some (.slice none 0 0)∧wr.cell? ⟨B1,1,none⟩=some y∧∀j,wr.frozen? ⟨B1,j,none⟩=false)∧zAK 3 RPC (fun j=>j=B1) wr 62 w0.heap.size y (zLh (room.take k))) (fun i _=>room.length - (intOf i).toNat)
 case atStart=>exact ⟨0,_,by omega,rfl,S0,Nat.le_refl _,⟨p0,p1,p2⟩,⟨q0,q1,q2⟩,zAK.nil _ _ _⟩
 case round =>
  obtain ⟨k,y,hk,rfl,hS,hsz,⟨x0,x1,x2⟩,⟨z0,z1,z2⟩,ho⟩:=hrel
  clear p0 p1 p2 q0 q1 q2
  have hoff:∀j,y.ownBlock=some j→w0.heap.size≤j:=fun j hj=>(ho.lt j hj).1
  by_cases hlt:k<room.length
  ·have hget:=List.getElem?_eq_getElem hlt
   obtain ⟨br,orr,rfl,r0,hi⟩:=zC0 (HV.out.stays hS.below) hget
   have HST:=Lib.hid (zMw hget)
   have hlen:(zLh (room.take k)).length≤1900000:=by simp[zLh];omega
   generalize room[k]=r at *
   generalize hM:zLh (room.take k)=M at *
   have BB:=zAB wr (.cells #[.bool true,.int .i64 r,.slice none 0 0] 62)
   have hn0:some (Addr.mk B 0 none).block≠y.ownBlock:=fun e=>by have:=hoff B e.symm;omega
   have hn1:some (Addr.mk B1 0 none).block≠y.ownBlock:=fun e=>by have:=hoff B1 e.symm;omega
   have a0:=zAA BB z0
   have a1:=zAA BB z1
   have a2:=zAE BB z1 (z2 1)
   have S1:=hS.alloc (.cells #[.bool true,.int .i64 r,.slice none 0 0] 62)
   have HX:Hid (wr.cell? ⟨B,0,none⟩=some (.slice none 0 0)∧wr.cell? ⟨B,1,none⟩=some (.slice none 0 0)∧(∀j,wr.frozen? ⟨B,j,none⟩=false)∧∀j,wr.frozen? ⟨B1,j,none⟩=false):=Lib.hid ⟨x0,x1,x2,z2⟩
   have hBr:B<wr.heap.size:=by omega
   have hB1r:B1<wr.heap.size:=by omega
   clear hM hget x0 x1 x2 z2
   go_wp2_with (at_builtin;refine zAd rfl _ _ 25 rfl 3 (fun j=>j=B1) 62 Tryz.underlying25 _ 40 zI7 rfl (by omega) (by omega) w0.heap.size _ M rfl (ho.stays (zAB _ _)) ⟨wr.heap.size,0,none⟩ 1 [.bool true,.int .i64 r,.slice none 0 0] (zUz r) rfl rfl (by intro w hw;simp at hw;rcases hw with rfl | rfl | rfl<;>rfl) (zBp wr [.bool true,.int .i64 r,.slice none 0 0] 62 _ rfl) (fun _ _=>⟨rfl,_,_,_,rfl⟩) (by omega) (by simp;omega) ?_;intro v7 w7 ho7 hg7 hat7;obtain ⟨a7,c7,rfl,_⟩:=ho7.isRow.opened;rw[show (M++[zUz r]).length=M.length+1 by simp] at ho7;have e0:=hg7.cell a0 hn1;have e1:=hg7.cell a1 hn1;have e2:=zAW hg7 a1 a2 hn1)
   have hz7:wr.heap.size≤w7.heap.size:=Nat.le_trans (zAB _ _).size hg7.size
   have S8:=(S1.grown hg7 (fun j hj=>Nat.le_trans hW0 (hoff j hj))).setCell (a:=⟨B1,1,none⟩) hBW1 (.slice a7 (M.length+1) c7)
   have hd8:zAF (fun j=>j=B1) w7 (w7.setCell ⟨B1,1,none⟩ (.slice a7 (M.length+1) c7)):=(zAF.of_grown (zAC w7 ⟨B1,1,none⟩ (.slice a7 (M.length+1) c7))).mono fun j _ hj=>by cases hj;rfl
   have ho8:=ho7.later hd8 (fun j hj=>by have:=(ho7.lt j hj).1;omega)
   have g0:(w7.setCell ⟨B1,1,none⟩ (.slice a7 (M.length+1) c7)).cell? ⟨B1,0,none⟩=some (.slice none 0 0):=by go_simp
   have g1:(w7.setCell ⟨B1,1,none⟩ (.slice a7 (M.length+1) c7)).cell? ⟨B1,1,none⟩=some (.slice a7 (M.length+1) c7):=by go_simp
   obtain ⟨x0,x1,x2,z2⟩:=HX.out
   have hq:(w7.setCell ⟨B1,1,none⟩ (.slice a7 (M.length+1) c7)).heap[B]?=wr.heap[B]?:=(Below.heap_setCell _ _ _ _ (fun e=>hBB e.symm)).trans ((hg7.block B (by simp;omega) hn0).trans (BB.block B hBr))
   have hq1:∀j,(w7.setCell ⟨B1,1,none⟩ (.slice a7 (M.length+1) c7)).frozen? ⟨B1,j,none⟩=false:=fun j=>by
    rw[World.frozen?_setCell]
    exact (World.frozen?_of_block (hg7.block B1 (by simp;omega) hn1)).trans ((BB.frozen (p:=⟨B1,j,none⟩) hB1r).trans (z2 j))
   have HG:Hid ((w7.setCell ⟨B1,1,none⟩ (.slice a7 (M.length+1) c7)).cell? ⟨B1,0,none⟩=some (.slice none 0 0)∧(w7.setCell ⟨B1,1,none⟩ (.slice a7 (M.length+1) c7)).cell? ⟨B1,1,none⟩=some (.slice a7 (M.length+1) c7)∧∀j,(w7.setCell ⟨B1,1,none⟩ (.slice a7 (M.length+1) c7)).frozen? ⟨B1,j,none⟩=false):=Lib.hid ⟨g0,g1,hq1⟩
   have HQ:Hid ((w7.setCell ⟨B1,1,none⟩ (.slice a7 (M.length+1) c7)).cell? ⟨B,0,none⟩=some (.slice none 0 0)∧(w7.setCell ⟨B1,1,none⟩ (.slice a7 (M.length+1) c7)).cell? ⟨B,1,none⟩=some (.slice none 0 0)∧∀j,(w7.setCell ⟨B1,1,none⟩ (.slice a7 (M.length+1) c7)).frozen? ⟨B,j,none⟩=false):=Lib.hid ⟨(World.cell?_of_block hq).trans x0,(World.cell?_of_block hq).trans x1,fun j=>(World.frozen?_of_block hq).trans (x2 j)⟩
   have hsz8:w0.heap.size≤(w7.setCell ⟨B1,1,none⟩ (.slice a7 (M.length+1) c7)).heap.size:=by simp;omega
   clear g0 g1 hq hq1 e0 e1 e2 a0 a1 a2 x0 x1 x2 z0 z1 z2 r0 ho hd8 ho7 hg7 hat7
   generalize w7.setCell ⟨B1,1,none⟩ (.slice a7 (M.length+1) c7)=w8 at *
   go_wp2_with fail
   go_roundw
   case rel=>exact ⟨k+1,_,by omega,by go_num,S8,hsz8,HQ.out,HG.out,by rw[HST.out];exact ho8⟩
   case measure=>simp[intOf];omega
  ·obtain rfl:room.length=k:=by omega
   rw[List.take_length] at ho
   have hdp:=zVO (RPC.anyE (E':=fun _=>False) ho) (fun r hr=>by
    obtain ⟨i,hi⟩:=List.getElem?_of_mem hr
    exact (zC0 HV.out hi).choose_spec.choose_spec.2.2)
   have hps:=hdp.isPeers
   rw[zLe] at hps
   obtain ⟨ay,cy,rfl,_⟩:=hps.opened
   have hE:Hid (zQV room=zA2 ([],zDz room)):=Lib.hid rfl
   have HX:Hid ((∀j,wr.frozen? ⟨B,j,none⟩=false)∧wr.cell? ⟨B,0,none⟩=some (.slice none 0 0)∧wr.cell? ⟨B,1,none⟩=some (.slice none 0 0)):=Lib.hid ⟨x2,x0,x1⟩
   clear x2 z2 ho x0 x1
   go_upto_region 8 with (go_at_call 7;go_fit (zDv _ [] _ (zDz room) wr (zAZ.nil _) hps);rintro e w1 ⟨rfl,hb1⟩)
   have S2:=hS.step hb1
   have hBw1:B<wr.heap.size:=by omega
   obtain ⟨y2,y0,y1⟩:=HX.out
   have f0:=zAE hb1 y0 (y2 0)
   have f1:=zAE hb1 y1 (y2 1)
   have y0:=zAA hb1 y0
   have y1:=zAA hb1 y1
   have z0:=zAA hb1 z0
   have z1:=zAA hb1 z1
   have HD:=Lib.hid (hdp.stays hb1)
   clear y2 hb1 hps hdp hlt
   by_cases h0:zA2 ([],zDz room)=0
   ·rw[h0] at hE ⊢
    have hC:Hid (zFo room=([],zDz room)):=Lib.hid (by unfold zFo;rw[if_pos hE.out])
    have v0:((w1.setCell ⟨B,0,none⟩ (.slice none 0 0)).setCell ⟨B,1,none⟩ (.slice ay (zDz room).length cy)).cell? ⟨B,0,none⟩=some (.slice none 0 0):=by go_simp
    have v1:((w1.setCell ⟨B,0,none⟩ (.slice none 0 0)).setCell ⟨B,1,none⟩ (.slice ay (zDz room).length cy)).cell? ⟨B,1,none⟩=some (.slice ay (zDz room).length cy):=by go_simp
    have S9:=(S2.setCell (a:=⟨B,0,none⟩) hBW (.slice none 0 0)).setCell (a:=⟨B,1,none⟩) hBW (.slice ay (zDz room).length cy)
    have hd9:zAF (fun j=>j=B) w1 ((w1.setCell ⟨B,0,none⟩ (.slice none 0 0)).setCell ⟨B,1,none⟩ (.slice ay (zDz room).length cy)):=(zAF.of_grown ((zAC w1 ⟨B,0,none⟩ (.slice none 0 0)).trans (zAC _ ⟨B,1,none⟩ (.slice ay (zDz room).length cy)))).mono fun j _ hj=>by cases hj;rfl
    have HO:Hid (zCl (fun k=>k<W.heap.size) ((w1.setCell ⟨B,0,none⟩ (.slice none 0 0)).setCell ⟨B,1,none⟩ (.slice ay (zDz room).length cy)) W.heap.size (.slice none 0 0) (.slice ay (zDz room).length cy) ([],zDz room)):=Lib.hid ⟨zLh room,zLe room,(HD.out.frame hd9 (fun j hj e=>by have:=(HD.out.lt hj).1;omega)).mono hW0,fun _ _=>zAZ.nil _⟩
    clear h0
    go_wp2_with fail
    exact bodyPost_ret (v:=.tuple #[.agg #[.slice none 0 0,.slice ay (zDz room).length cy],.int .i64 0]) (by simp[results,Tryz.results16,go_sem,v0,v1]) rfl ⟨⟨_,_,zBM hE.out.symm,by rw[hC.out];exact HO.out⟩,S9.below⟩
   ·have hC:Hid (zFo room=([],[])):=Lib.hid (by unfold zFo;rw[if_neg (by rw[hE.out];exact h0)])
    generalize zA2 ([],zDz room)=E at *
    have v0:((w1.setCell ⟨B,0,none⟩ (.slice none 0 0)).setCell ⟨B,1,none⟩ (.slice none 0 0)).cell? ⟨B,0,none⟩=some (.slice none 0 0):=by go_simp
    have v1:((w1.setCell ⟨B,0,none⟩ (.slice none 0 0)).setCell ⟨B,1,none⟩ (.slice none 0 0)).cell? ⟨B,1,none⟩=some (.slice none 0 0):=by go_simp
    have S9:=(S2.setCell (a:=⟨B,0,none⟩) hBW (.slice none 0 0)).setCell (a:=⟨B,1,none⟩) hBW (.slice none 0 0)
    clear z0 z1
    go_wp2_with fail
    exact bodyPost_ret (v:=.tuple #[.agg #[.slice none 0 0,.slice none 0 0],.int .i64 E]) (by simp[results,Tryz.results16,go_sem,v0,v1]) rfl ⟨⟨_,_,zBM hE.out.symm,by rw[hC.out];exact zCl.nil _ _ _⟩,S9.below⟩
end Go.Proofs.YthgmphbkkojaoaaGreat
