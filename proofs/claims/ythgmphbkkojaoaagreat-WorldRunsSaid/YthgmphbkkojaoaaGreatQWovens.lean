/-
  mesh.New walked. Meshes as the call's own: one cell of a peer, one number of a share is stored. begun, a mesh for closed facts, walked. woven, a closed fact of meshes, walked.
-/
import Derived.Test.YthgmphbkkojaoaaGreatQRepair
import Derived.Test.YthgmphbkkojaoaaGreatQSames
set_option linter.unusedSimpArgs false
set_option maxHeartbeats 4000000
namespace Go.Proofs.YthgmphbkkojaoaaGreat
set_option linter.unusedSectionVars false
variable [Zn]
open Go.RowKit
def zDz(room:List Int):List Pr:=room.map fun r=>(true,r,[])
def zQV(room:List Int):Int:=zA2 ([],zDz room)
def zFo(room:List Int):Me:=if zQV room=0 then ([],zDz room) else ([],[])
def zUz(r:Int):PrD:=((true,r,.slice none 0 0),[])
def zLh(room:List Int):List PrD:=room.map zUz
theorem zLe(room:List Int):(zLh room).map zDK=zDz room:=by simp[zLh,zDz,zUz,zDK]
theorem zMw{room:List Int}{k:Nat}{r:Int}(h:room[k]?=some r):zLh (room.take (k+1))=zLh (room.take k)++[zUz r]:=by unfold zLh;rw[zAv h,List.map_append];rfl
theorem zVO{w:World}{base:Nat}{v:Value}{room:List Int}(h:zAK 3 RPC (fun _=>False) w 62 base v (zLh room))(hi:∀r∈room,I64 r):DP w base v (zLh room):=by
 have hno:∀z∈zLh room,z.2=[]∧z.1.2.2=.slice none 0 0∧I64 z.1.2.1:=by
  intro z hz
  obtain ⟨r,hr,rfl⟩:=List.mem_map.1 hz
  exact ⟨rfl,rfl,hi r hr⟩
 have hf:∀z∈zLh room,∀k,¬zDu z k:=by
  intro z hz k hk
  obtain ⟨h1,h2,_⟩:=hno z hz
  rcases hk with hk|⟨y,hy,_⟩
  ·rw[h2] at hk;cases hk
  ·rw[h1] at hy;simp at hy
 refine ⟨h,fun z hz=>?_,?_⟩
 ·obtain ⟨h1,h2,h3⟩:=hno z hz
  refine ⟨?_,h3,fun k hk=>absurd hk (hf z hz k)⟩
  rw[h1,h2]
  exact DK.nil _ _
 ·rw[List.pairwise_iff_getElem]
  intro i j hi hj _ k hk
  exact absurd hk (hf _ (List.getElem_mem hi) k)
set_option maxRecDepth 100000 in
theorem zOO(v:Value)(room:List Int)(W:World)(hv:zAG W v room)(hr:room.length≤1900000) :
  Calls Tryz.prog 24 #[v] W fun e w'=>(∃u1 u2,e=.returned (.tuple #[.agg #[u1,u2],.int .i64 (zQV room)])∧zCl (fun k=>k<W.heap.size) w' W.heap.size u1 u2 (zFo room))∧Below W.heap.size W w':=by
 obtain ⟨a,c,rfl,hcv,⟨hvm,hvc,_⟩,_⟩:=hv.opened
 have S0:=((zAD.refl W).alloc (.cells #[.slice none 0 0,.slice none 0 0] 27)).alloc (.cells #[.slice none 0 0,.slice none 0 0] 27)
 obtain ⟨w0,hw0⟩:∃w0,w0=(W.alloc (.cells #[.slice none 0 0,.slice none 0 0] 27)).alloc (.cells #[.slice none 0 0,.slice none 0 0] 27):=⟨_,rfl⟩
 have p0:w0.cell? ⟨W.heap.size,0,none⟩=some (.slice none 0 0):=by rw[hw0];go_simp
 have p1:w0.cell? ⟨W.heap.size,1,none⟩=some (.slice none 0 0):=by rw[hw0];go_simp
 have p2:∀j,w0.frozen? ⟨W.heap.size,j,none⟩=false:=by intro j;rw[hw0];go_simp
 have q0:w0.cell? ⟨W.heap.size+1,0,none⟩=some (.slice none 0 0):=by rw[hw0];go_simp
 have q1:w0.cell? ⟨W.heap.size+1,1,none⟩=some (.slice none 0 0):=by rw[hw0];go_simp
 have q2:∀j,w0.frozen? ⟨W.heap.size+1,j,none⟩=false:=by intro j;rw[hw0];go_simp
 have hsz0:w0.heap.size=W.heap.size+2:=by rw[hw0];simp
 rw[←hw0] at S0
 have HW:=Zh hw0
 clear hw0
 obtain ⟨B,hB⟩:∃B,B=W.heap.size:=⟨_,rfl⟩
 obtain ⟨B1,hB1⟩:∃B1,B1=W.heap.size+1:=⟨_,rfl⟩
 have hBW:W.heap.size≤B:=by omega
 have hBW1:W.heap.size≤B1:=by omega
 have hBB:¬B1=B:=by omega
 have hBB':¬B=B1:=by omega
 have hB0:B<w0.heap.size:=by omega
 have hB10:B1<w0.heap.size:=by omega
 have hW0:W.heap.size≤w0.heap.size:=by omega
 rw[←hB1] at q0 q1 q2
 rw[←hB] at p0 p1 p2
 have HB:=Zh hB
 have HB1:=Zh hB1
 clear hB hB1 hsz0
 have HV:=Zh hv
 clear hv
 go_enter Tryz.func24,Tryz.ntmps24
 go_upto_region 2 with fail
 rw[←HW.out,←HB1.out,←HB.out]
 go_wp2_with fail
 go_loopw[11] (fun i wr=>∃k:Nat,∃y,k≤room.length∧i=.int .i64 k∧zAD W.heap.size W wr∧w0.heap.size≤wr.heap.size∧(wr.cell? ⟨B,0,none⟩=some (.slice none 0 0)∧wr.cell? ⟨B,1,none⟩=some (.slice none 0 0)∧∀j,wr.frozen? ⟨B,j,none⟩=false)∧(wr.cell? ⟨B1,0,none⟩=some (.slice none 0 0)∧wr.cell? ⟨B1,1,none⟩=some y∧∀j,wr.frozen? ⟨B1,j,none⟩=false)∧zAK 3 RPC (fun j=>j=B1) wr 62 w0.heap.size y (zLh (room.take k))) (fun i _=>room.length - (intOf i).toNat)
 case atStart=>exact ⟨0,_,by omega,rfl,S0,Nat.le_refl _,⟨p0,p1,p2⟩,⟨q0,q1,q2⟩,zAK.nil _ _ _⟩
 case round =>
  obtain ⟨k,y,hk,rfl,hS,hsz,⟨x0,x1,x2⟩,⟨z0,z1,z2⟩,ho⟩:=hrel
  clear p0 p1 p2 q0 q1 q2
  have hoff:∀j,y.ownBlock=some j→w0.heap.size≤j:=fun j hj=>(ho.lt j hj).1
  by_cases hlt:k<room.length
  ·have hget:=List.getElem?_eq_getElem hlt
   obtain ⟨br,orr,rfl,r0,hi⟩:=zC0 (HV.out.stays hS.below) hget
   have HST:=Zh (zMw hget)
   have hlen:(zLh (room.take k)).length≤1900000:=by simp[zLh];omega
   generalize room[k]=r at *
   generalize hM:zLh (room.take k)=M at *
   have BB:=zAB wr (.cells #[.bool true,.int .i64 r,.slice none 0 0] 62)
   have hn0:some (Addr.mk B 0 none).block≠y.ownBlock:=fun e=>by have:=hoff B e.symm;omega
   have hn1:some (Addr.mk B1 0 none).block≠y.ownBlock:=fun e=>by have:=hoff B1 e.symm;omega
   have a0:=zAA BB z0
   have a1:=zAA BB z1
   have a2:=zAE BB z1 (z2 1)
   have S1:=hS.alloc (.cells #[.bool true,.int .i64 r,.slice none 0 0] 62)
   have HX:Hid (wr.cell? ⟨B,0,none⟩=some (.slice none 0 0)∧wr.cell? ⟨B,1,none⟩=some (.slice none 0 0)∧(∀j,wr.frozen? ⟨B,j,none⟩=false)∧∀j,wr.frozen? ⟨B1,j,none⟩=false):=Zh ⟨x0,x1,x2,z2⟩
   have hBr:B<wr.heap.size:=by omega
   have hB1r:B1<wr.heap.size:=by omega
   clear hM hget x0 x1 x2 z2
   go_wp2_with (at_builtin;refine zAd rfl _ _ 25 rfl 3 (fun j=>j=B1) 62 Tryz.underlying25 _ 40 zI7 rfl (by omega) (by omega) w0.heap.size _ M rfl (ho.stays (zAB _ _)) ⟨wr.heap.size,0,none⟩ 1 [.bool true,.int .i64 r,.slice none 0 0] (zUz r) rfl rfl (by intro w hw;simp at hw;rcases hw with rfl | rfl | rfl<;>rfl) (zBp wr [.bool true,.int .i64 r,.slice none 0 0] 62 _ rfl) (fun _ _=>⟨rfl,_,_,_,rfl⟩) (by omega) (by simp;omega) ?_;intro v7 w7 ho7 hg7 hat7;obtain ⟨a7,c7,rfl,_⟩:=ho7.isRow.opened;rw[show (M++[zUz r]).length=M.length+1 by simp] at ho7;have e0:=hg7.cell a0 hn1;have e1:=hg7.cell a1 hn1;have e2:=zAW hg7 a1 a2 hn1)
   have hz7:wr.heap.size≤w7.heap.size:=Nat.le_trans (zAB _ _).size hg7.size
   have S8:=(S1.grown hg7 (fun j hj=>Nat.le_trans hW0 (hoff j hj))).setCell (a:=⟨B1,1,none⟩) hBW1 (.slice a7 (M.length+1) c7)
   have hd8:zAF (fun j=>j=B1) w7 (w7.setCell ⟨B1,1,none⟩ (.slice a7 (M.length+1) c7)):=(zAF.of_grown (zAC w7 ⟨B1,1,none⟩ (.slice a7 (M.length+1) c7))).mono fun j _ hj=>by cases hj;rfl
   have ho8:=ho7.later hd8 (fun j hj=>by have:=(ho7.lt j hj).1;omega)
   have g0:(w7.setCell ⟨B1,1,none⟩ (.slice a7 (M.length+1) c7)).cell? ⟨B1,0,none⟩=some (.slice none 0 0):=by go_simp
   have g1:(w7.setCell ⟨B1,1,none⟩ (.slice a7 (M.length+1) c7)).cell? ⟨B1,1,none⟩=some (.slice a7 (M.length+1) c7):=by go_simp
   obtain ⟨x0,x1,x2,z2⟩:=HX.out
   have hq:(w7.setCell ⟨B1,1,none⟩ (.slice a7 (M.length+1) c7)).heap[B]?=wr.heap[B]?:=(Below.heap_setCell _ _ _ _ (fun e=>hBB e.symm)).trans ((hg7.block B (by simp;omega) hn0).trans (BB.block B hBr))
   have hq1:∀j,(w7.setCell ⟨B1,1,none⟩ (.slice a7 (M.length+1) c7)).frozen? ⟨B1,j,none⟩=false:=fun j=>by
    rw[World.frozen?_setCell]
    exact (World.frozen?_of_block (hg7.block B1 (by simp;omega) hn1)).trans ((BB.frozen (p:=⟨B1,j,none⟩) hB1r).trans (z2 j))
   have HG:Hid ((w7.setCell ⟨B1,1,none⟩ (.slice a7 (M.length+1) c7)).cell? ⟨B1,0,none⟩=some (.slice none 0 0)∧(w7.setCell ⟨B1,1,none⟩ (.slice a7 (M.length+1) c7)).cell? ⟨B1,1,none⟩=some (.slice a7 (M.length+1) c7)∧∀j,(w7.setCell ⟨B1,1,none⟩ (.slice a7 (M.length+1) c7)).frozen? ⟨B1,j,none⟩=false):=Zh ⟨g0,g1,hq1⟩
   have HQ:Hid ((w7.setCell ⟨B1,1,none⟩ (.slice a7 (M.length+1) c7)).cell? ⟨B,0,none⟩=some (.slice none 0 0)∧(w7.setCell ⟨B1,1,none⟩ (.slice a7 (M.length+1) c7)).cell? ⟨B,1,none⟩=some (.slice none 0 0)∧∀j,(w7.setCell ⟨B1,1,none⟩ (.slice a7 (M.length+1) c7)).frozen? ⟨B,j,none⟩=false):=Zh ⟨(World.cell?_of_block hq).trans x0,(World.cell?_of_block hq).trans x1,fun j=>(World.frozen?_of_block hq).trans (x2 j)⟩
   have hsz8:w0.heap.size≤(w7.setCell ⟨B1,1,none⟩ (.slice a7 (M.length+1) c7)).heap.size:=by simp;omega
   clear g0 g1 hq hq1 e0 e1 e2 a0 a1 a2 x0 x1 x2 z0 z1 z2 r0 ho hd8 ho7 hg7 hat7
   generalize w7.setCell ⟨B1,1,none⟩ (.slice a7 (M.length+1) c7)=w8 at *
   go_wp2_with fail
   go_roundw
   case rel=>exact ⟨k+1,_,by omega,by go_num,S8,hsz8,HQ.out,HG.out,by rw[HST.out];exact ho8⟩
   case measure=>simp[intOf];omega
  ·obtain rfl:room.length=k:=by omega
   rw[List.take_length] at ho
   have hdp:=zVO (RPC.anyE (E':=fun _=>False) ho) (fun r hr=>by
    obtain ⟨i,hi⟩:=List.getElem?_of_mem hr
    exact (zC0 HV.out hi).choose_spec.choose_spec.2.2)
   have hps:=hdp.isPeers
   rw[zLe] at hps
   obtain ⟨ay,cy,rfl,_⟩:=hps.opened
   have hE:Hid (zQV room=zA2 ([],zDz room)):=Zh rfl
   have HX:Hid ((∀j,wr.frozen? ⟨B,j,none⟩=false)∧wr.cell? ⟨B,0,none⟩=some (.slice none 0 0)∧wr.cell? ⟨B,1,none⟩=some (.slice none 0 0)):=Zh ⟨x2,x0,x1⟩
   clear x2 z2 ho x0 x1
   go_upto_region 8 with (go_at_call 21;go_fit (zBb _ [] _ (zDz room) wr (zAZ.nil _) hps);rintro e w1 ⟨rfl,hb1⟩)
   have S2:=hS.step hb1
   have hBw1:B<wr.heap.size:=by omega
   obtain ⟨y2,y0,y1⟩:=HX.out
   have f0:=zAE hb1 y0 (y2 0)
   have f1:=zAE hb1 y1 (y2 1)
   have y0:=zAA hb1 y0
   have y1:=zAA hb1 y1
   have z0:=zAA hb1 z0
   have z1:=zAA hb1 z1
   have HD:=Zh (hdp.stays hb1)
   clear y2 hb1 hps hdp hlt
   by_cases h0:zA2 ([],zDz room)=0
   ·rw[h0] at hE ⊢
    have hC:Hid (zFo room=([],zDz room)):=Zh (by unfold zFo;rw[if_pos hE.out])
    have v0:((w1.setCell ⟨B,0,none⟩ (.slice none 0 0)).setCell ⟨B,1,none⟩ (.slice ay (zDz room).length cy)).cell? ⟨B,0,none⟩=some (.slice none 0 0):=by go_simp
    have v1:((w1.setCell ⟨B,0,none⟩ (.slice none 0 0)).setCell ⟨B,1,none⟩ (.slice ay (zDz room).length cy)).cell? ⟨B,1,none⟩=some (.slice ay (zDz room).length cy):=by go_simp
    have S9:=(S2.setCell (a:=⟨B,0,none⟩) hBW (.slice none 0 0)).setCell (a:=⟨B,1,none⟩) hBW (.slice ay (zDz room).length cy)
    have hd9:zAF (fun j=>j=B) w1 ((w1.setCell ⟨B,0,none⟩ (.slice none 0 0)).setCell ⟨B,1,none⟩ (.slice ay (zDz room).length cy)):=(zAF.of_grown ((zAC w1 ⟨B,0,none⟩ (.slice none 0 0)).trans (zAC _ ⟨B,1,none⟩ (.slice ay (zDz room).length cy)))).mono fun j _ hj=>by cases hj;rfl
    have HO:Hid (zCl (fun k=>k<W.heap.size) ((w1.setCell ⟨B,0,none⟩ (.slice none 0 0)).setCell ⟨B,1,none⟩ (.slice ay (zDz room).length cy)) W.heap.size (.slice none 0 0) (.slice ay (zDz room).length cy) ([],zDz room)):=Zh ⟨zLh room,zLe room,(HD.out.frame hd9 (fun j hj e=>by have:=(HD.out.lt hj).1;omega)).mono hW0,fun _ _=>zAZ.nil _⟩
    clear h0
    go_wp2_with fail
    exact bodyPost_ret (v:=.tuple #[.agg #[.slice none 0 0,.slice ay (zDz room).length cy],.int .i64 0]) (by simp[results,Tryz.results24,go_sem,v0,v1]) rfl ⟨⟨_,_,zBM hE.out.symm,by rw[hC.out];exact HO.out⟩,S9.below⟩
   ·have hC:Hid (zFo room=([],[])):=Zh (by unfold zFo;rw[if_neg (by rw[hE.out];exact h0)])
    generalize zA2 ([],zDz room)=E at *
    have v0:((w1.setCell ⟨B,0,none⟩ (.slice none 0 0)).setCell ⟨B,1,none⟩ (.slice none 0 0)).cell? ⟨B,0,none⟩=some (.slice none 0 0):=by go_simp
    have v1:((w1.setCell ⟨B,0,none⟩ (.slice none 0 0)).setCell ⟨B,1,none⟩ (.slice none 0 0)).cell? ⟨B,1,none⟩=some (.slice none 0 0):=by go_simp
    have S9:=(S2.setCell (a:=⟨B,0,none⟩) hBW (.slice none 0 0)).setCell (a:=⟨B,1,none⟩) hBW (.slice none 0 0)
    clear z0 z1
    go_wp2_with fail
    exact bodyPost_ret (v:=.tuple #[.agg #[.slice none 0 0,.slice none 0 0],.int .i64 E]) (by simp[results,Tryz.results24,go_sem,v0,v1]) rfl ⟨⟨_,_,zBM hE.out.symm,by rw[hC.out];exact zCl.nil _ _ _⟩,S9.below⟩
section
variable {w : World} {base : Nat} {v : Value} {zs : List PrD}
theorem DP.cellSet(h:DP w base v zs){g L cap:Nat}(hv:v=.slice (some ⟨g,0,none⟩) L cap){i:Nat}{z z':PrD}(hz:zs[i]?=some z){j:Nat}{c:Value}(hj:j<3)(hc:c.oneCell'=true)(hcs:[.bool z'.1.1,.int .i64 z'.1.2.1,z'.1.2.2]=([.bool z.1.1,.int .i64 z.1.2.1,z.1.2.2]:List Value).set j c)
  (hd:DK w base z'.1.2.2 z'.2) (hi:I64 z'.1.2.1) (hs:∃a n c,z'.1.2.2=.slice a n c) (hsub:∀k,zDu z' k→zDu z k) :
  DP (w.setCell ⟨g,i*3+j,none⟩ c) base v (zs.set i z')∧∀k,zBu v (zs.set i z') k→zBu v zs k:=by
 subst hv
 obtain ⟨hz1,hz2,hz3⟩:=h.each z (List.mem_of_getElem? hz)
 have hd2:zAF (fun k=>k=g) w (w.setCell ⟨g,i*3+j,none⟩ c):=(zAF.of_grown (zAC w ⟨g,i*3+j,none⟩ c)).mono fun k _ hk=>by cases hk;rfl
 have hset:zAK 3 RPC (fun _=>False) (w.setCell ⟨g,i*3+j,none⟩ c) 62 base (.slice (some ⟨g,0,none⟩) L cap) (zs.set i z'):=by
  obtain ⟨r,g',hg',hl,h1,hcl,hf⟩:=h.row.get hz
  simp only[Value.ownBlock,Option.some.injEq] at hg'
  subst hg'
  obtain ⟨rfl,_⟩:=hf.now
  exact h.row.set hz rfl hl hcl hj hc (fun _ _=>⟨hcs.symm,hs⟩)
 have hil:=(List.getElem?_eq_some_iff.1 hz).1
 refine ⟨⟨hset,fun x hx=>?_,?_⟩,fun k hk=>?_⟩
 ·obtain ⟨q,hq⟩:=List.getElem?_of_mem hx
  rw[List.getElem?_set] at hq
  by_cases hij:i=q
  ·subst hij
   rw[if_pos rfl,if_pos hil] at hq
   cases hq
   exact ⟨hd.frame hd2 (fun k hk e=>hz3 k (hsub k hk) (by rw[e];rfl)),hi,fun k hk=>hz3 k (hsub k hk)⟩
  ·rw[if_neg hij] at hq
   obtain ⟨h1,h2,h3⟩:=h.each x (List.mem_of_getElem? hq)
   exact ⟨h1.frame hd2 (fun k hk e=>h3 k hk (by rw[e];rfl)),h2,h3⟩
 ·refine zC3 zCd h.apart (fun q y hq hy k hk=>?_)
  exact zCQ zCd h.apart hz hy (fun e=>hq e.symm) k (hsub k hk)
 ·rcases hk with hk|⟨y,hy,hk⟩
  ·exact Or.inl hk
  ·rcases List.mem_or_eq_of_mem_set hy with hy|rfl
   ·exact Or.inr ⟨y,hy,hk⟩
   ·exact Or.inr ⟨z,List.mem_of_getElem? hz,hsub k hk⟩
theorem DK.val{ys:List KpD}(h:DK w base v ys){q:Nat}{y:KpD}(hy:ys[q]?=some y){gy n cy:Nat}(hv:y.2=.slice (some ⟨gy,0,none⟩) n cy)(i:Nat)(x:Int)(hx:I64 x) :
  DK (w.setCell ⟨gy,i,none⟩ (.int .i64 x)) base v (ys.set q ((y.1.1,y.1.2.1,y.1.2.2.set i x),y.2)):=by
 have hd:zAF (fun k=>k=gy) w (w.setCell ⟨gy,i,none⟩ (.int .i64 x)):=(zAF.of_grown (zAC w ⟨gy,i,none⟩ (.int .i64 x))).mono fun k _ hk=>by cases hk;rfl
 obtain ⟨h1,h2,h3,h4⟩:=h.vals y (List.mem_of_getElem? hy)
 have hne:v.ownBlock≠some gy:=fun e=>h4 gy gy (by rw[hv];rfl) e rfl
 have hql:=(List.getElem?_eq_some_iff.1 hy).1
 have hrow:zAK 3 RC (fun _=>False) (w.setCell ⟨gy,i,none⟩ (.int .i64 x)) 66 base v (ys.set q ((y.1.1,y.1.2.1,y.1.2.2.set i x),y.2)):=by
  have hr:=RC.anyE (E':=fun _=>False) ((RC.anyE (E':=fun k=>k=gy) h.row).later hd (fun k hk e=>hne (by rw[hk,e])))
  have h5:=(List.getElem?_eq_some_iff.1 hy).2
  obtain ⟨r,g',hg',hl,h1',hc,hf⟩:=hr.get hy
  rcases hr.shape with ⟨rfl,rfl⟩|⟨g2,cap,cur,rfl,_⟩
  ·simp at hy
  ·simp only[Value.ownBlock,Option.some.injEq] at hg'
   subst hg'
   obtain ⟨rfl,ha⟩:=hf.now
   have hw0:(w.setCell ⟨gy,i,none⟩ (.int .i64 x)).cell? ⟨g2,q*3+0,none⟩=some (.int .i64 y.1.1):=hc 0 _ rfl
   have:=hr.set (x':=((y.1.1,y.1.2.1,y.1.2.2.set i x),y.2)) (j:=0) (c:=.int .i64 y.1.1) hy rfl hl hc (by omega) rfl (fun _ _=>⟨rfl,ha⟩)
   rwa [zIG hw0] at this
 refine ⟨hrow,fun u hu=>?_,zC3 (fun a b h=>h.symm) h.apart (fun j u hj hu=>?_)⟩
 ·obtain ⟨j,hj⟩:=List.getElem?_of_mem hu
  rw[List.getElem?_set] at hj
  by_cases hij:q=j
  ·subst hij
   rw[if_pos rfl,if_pos hql] at hj
   cases hj
   refine ⟨?_,h2,h3,h4⟩
   simp only
   rw[hv] at h1 ⊢
   exact h1.stored i x hx
  ·rw[if_neg hij] at hj
   obtain ⟨g1,g2,g3,g4⟩:=h.vals u (List.mem_of_getElem? hj)
   have hap:=zCQ (R:=fun a b:KpD=>zDw a.2 b.2) (fun a b h=>h.symm) h.apart hy hj hij
   exact ⟨g1.same (fun k hk=>hd.2 k (g1.1.lt k hk).2 (fun e=>hap gy k (by rw[hv];rfl) hk e.symm)),g2,g3,g4⟩
 ·have:=zCQ (R:=fun a b:KpD=>zDw a.2 b.2) (fun a b h=>h.symm) h.apart hy hu (fun e=>hj e.symm)
  exact this
end
section
variable {X Y : Nat → Prop} {w w1 : World} {base top0 : Nat} {v1 v2 : Value} {m : Me}
def zE0(X:Nat→Prop)(w:World)(base top0:Nat)(v1 v2:Value)(m:Me):Prop:=∃zs,zs.map zDK=m.2∧DP w base v2 zs∧(∀k,zBu v2 zs k→k<top0)∧∀w',zAF (fun k=>zBu v2 zs k∨X k∨top0≤k) w w'→zAR w' v1 m.1
theorem zCl.toT(h:zCl X w base v1 v2 m):zE0 X w base w.heap.size v1 v2 m:=by
 obtain ⟨zs,h1,h2,h3⟩:=h
 exact ⟨zs,h1,h2,fun k hk=>(h2.lt hk).2,fun w' hw'=>h3 w' (hw'.mono fun k hk hd=>hd.elim Or.inl fun hd=>hd.elim Or.inr fun hd=>by omega)⟩
theorem zE0.own(h:zE0 X w base top0 v1 v2 m):zCl X w base v1 v2 m:=by
 obtain ⟨zs,h1,h2,_,h3⟩:=h
 exact ⟨zs,h1,h2,fun w' hw'=>h3 w' (hw'.mono fun k _ hd=>hd.imp id Or.inl)⟩
theorem zE0.vers(h:zE0 X w base top0 v1 v2 m):zAR w v1 m.1:=h.own.vers
theorem zE0.peers(h:zE0 X w base top0 v1 v2 m):zAT w v2 m.2:=h.own.peers
theorem zE0.frame(h:zE0 X w base top0 v1 v2 m){D:Nat→Prop}(hw:zAF D w w1)(hD:∀k,D k→(X k∧k<base)∨top0≤k):zE0 X w1 base top0 v1 v2 m:=by
 obtain ⟨zs,h1,h2,h0,h3⟩:=h
 exact ⟨zs,h1,h2.frame hw (fun k hk hd=>by have:=(h2.lt hk).1;have:=h0 k hk;rcases hD k hd with ⟨_,h⟩ | h<;>omega),h0,fun w' hw'=>h3 w' ((hw.mono fun k _ hk=>(hD k hk).elim (fun h=>Or.inr (Or.inl h.1)) (fun h=>Or.inr (Or.inr h))).trans hw')⟩
theorem zE0.stays(h:zE0 X w base top0 v1 v2 m)(hb:Below w.heap.size w w1):zE0 X w1 base top0 v1 v2 m:=h.frame (zAF.old hb (fun _=>False)) (fun _ h=>h.elim)
theorem zCl.zs{zs:List PrD}{ps:List Pr}(h:zs.map zDK=ps){k:Nat}{p:Pr}(hp:ps[k]?=some p):∃z,zs[k]?=some z∧zDK z=p:=by
 rw[←h,List.getElem?_map] at hp
 cases hz:zs[k]? with
 | none=>rw[hz] at hp;cases hp
 | some z=>rw[hz] at hp;exact ⟨z,rfl,Option.some.inj hp⟩
theorem zE0.put{zs zs':List PrD}{w':World}(h0:∀k,zBu v2 zs k→k<top0)(h3:∀w',zAF (fun k=>zBu v2 zs k∨X k∨top0≤k) w w'→zAR w' v1 m.1)(hd:zAF (zBu v2 zs) w w')(hp:DP w' base v2 zs')(hf:∀k,zBu v2 zs' k→zBu v2 zs k){ps:List Pr}(hm:zs'.map zDK=ps):zE0 X w' base top0 v1 v2 (m.1,ps):=
 ⟨zs',hm,hp,fun k hk=>h0 k (hf k hk),fun w'' hw=>h3 w'' ((hd.mono fun _ _ h=>Or.inl h).trans (hw.mono fun k _ hk=>hk.imp (hf k) id))⟩
theorem zE0.peer(h:zE0 X w base top0 v1 v2 m){k:Nat}{p:Pr}(hp:m.2[k]?=some p) :
  ∃g cap u c,v2=.slice (some ⟨g,0,none⟩) m.2.length cap∧base≤g∧g<top0∧w.cell? ⟨g,k*3,none⟩=some (.bool p.1)∧w.cell? ⟨g,k*3+1,none⟩=some (.int .i64 p.2.1)∧w.cell? ⟨g,k*3+2,none⟩=some (.slice u p.2.2.length c) ∧
   zAl w (.slice u p.2.2.length c) p.2.2∧I64 p.2.1∧(∀j,w.frozen? ⟨g,j,none⟩=false)∧(∀t,zE0 X (w.setCell ⟨g,k*3,none⟩ (.bool t)) base top0 v1 v2 (m.1,m.2.set k (t,p.2)))∧zE0 X (w.setCell ⟨g,k*3+2,none⟩ (.slice none 0 0)) base top0 v1 v2 (m.1,m.2.set k (p.1,p.2.1,[])):=by
 obtain ⟨zs,h1,h2,h0,h3⟩:=h
 obtain ⟨z,hz,rfl⟩:=zCl.zs h1 hp
 have hl:zs.length=m.2.length:=by rw[←h1,List.length_map]
 obtain ⟨g,cap,a,n,c,hv,ez,c0,c1,c2,hg,fz⟩:=h2.get hz
 obtain ⟨hdk,hi,_⟩:=h2.each z (List.mem_of_getElem? hz)
 have hk:=hdk.isKepts
 rw[ez] at hk
 have hn:n=(zDK z).2.2.length:=by obtain ⟨_,_,e,_⟩:=hk.opened;simp only[Value.slice.injEq] at e;exact e.2.1
 have hfr:∀(o:Nat) (x:Value),zAF (zBu v2 zs) w (w.setCell ⟨g,o,none⟩ x):=fun o x=>(zAF.of_grown (zAC w ⟨g,o,none⟩ x)).mono fun k _ hk=>by cases hk;exact Or.inl (by rw[hv];rfl)
 have hset:∀z',zDK z'=(zDK z')→(zs.set k z').map zDK=m.2.set k (zDK z'):=fun z' _=>by rw[List.map_set,h1]
 refine ⟨g,cap,a,c,by rw[hv,hl],hg,h0 g (Or.inl (by rw[hv];rfl)),c0,c1,by rw[←hn];exact c2,by rw[←hn];exact hk,hi,fz,fun t=>?_,?_⟩
 ·obtain ⟨d1,d2⟩:=h2.cellSet hv hz (z':=((t,z.1.2.1,z.1.2.2),z.2)) (j:=0) (c:=.bool t) (by omega) rfl rfl hdk hi ⟨_,_,_,ez⟩ (fun _ h=>h)
  exact zE0.put h0 h3 (hfr _ _) d1 d2 (by rw[hset _ rfl];rfl)
 ·obtain ⟨d1,d2⟩:=h2.cellSet hv hz (z':=((z.1.1,z.1.2.1,.slice none 0 0),[])) (j:=2) (c:=.slice none 0 0) (by omega) rfl rfl (DK.nil _ _) hi ⟨_,_,_,rfl⟩ (fun q hq=>by rcases hq with hq|⟨y,hy,_⟩;cases hq;simp at hy)
  exact zE0.put h0 h3 (hfr _ _) d1 d2 (by rw[hset _ rfl];rfl)
theorem zE0.kept(h:zE0 X w base top0 v1 v2 m){k q:Nat}{p:Pr}{x:Kp}(hp:m.2[k]?=some p)(hx:p.2.2[q]?=some x)(hne:x.2.2≠[]) :
  ∃g cap gk c gy cy,v2=.slice (some ⟨g,0,none⟩) m.2.length cap∧w.cell? ⟨g,k*3+2,none⟩=some (.slice (some ⟨gk,0,none⟩) p.2.2.length c)∧w.cell? ⟨gk,q*3,none⟩=some (.int .i64 x.1)∧w.cell? ⟨gk,q*3+1,none⟩=some (.int .i64 x.2.1)∧w.cell? ⟨gk,q*3+2,none⟩=some (.slice (some ⟨gy,0,none⟩) x.2.2.length cy) ∧
   (∀(i:Nat) z,x.2.2[i]?=some z→w.cell? ⟨gy,i,none⟩=some (.int .i64 z)∧I64 z)∧(∀j,w.frozen? ⟨gy,j,none⟩=false)∧base≤gy∧gy<top0∧gy≠g∧gy≠gk∧I64 x.1∧I64 x.2.1 ∧
   ∀(i:Nat) (z:Int),I64 z→zE0 X (w.setCell ⟨gy,i,none⟩ (.int .i64 z)) base top0 v1 v2 (m.1,m.2.set k (p.1,p.2.1,p.2.2.set q (x.1,x.2.1,x.2.2.set i z))):=by
 obtain ⟨zs,h1,h2,h0,h3⟩:=h
 obtain ⟨z,hz,rfl⟩:=zCl.zs h1 hp
 have hl:zs.length=m.2.length:=by rw[←h1,List.length_map]
 obtain ⟨g,cap,a,n,c,hv,ez,c0,c1,c2,hg,fz⟩:=h2.get hz
 obtain ⟨hdk,hi,hoff⟩:=h2.each z (List.mem_of_getElem? hz)
 have hx':(z.2.map (·.1))[q]?=some x:=hx
 rw[List.getElem?_map] at hx'
 obtain ⟨y,hy,rfl⟩:∃y,z.2[q]?=some y∧y.1=x:=by
  cases hq:z.2[q]? with
  | none=>rw[hq] at hx';cases hx'
  | some y=>rw[hq] at hx';exact ⟨y,rfl,Option.some.inj hx'⟩
 obtain ⟨gk,ck,ev,hgk,hgk2,_,y0,y1,y2,fy⟩:=zOf hdk.row hy
 obtain ⟨o1,o2,o3,o4⟩:=hdk.vals y (List.mem_of_getElem? hy)
 obtain ⟨gy,cy,ey,hb1,hb2,_⟩:=o1.shape (List.length_pos_iff.2 hne)
 have hcells:∀(i:Nat) u,y.1.2.2[i]?=some u→w.cell? ⟨gy,i,none⟩=some (.int .i64 u)∧I64 u:=fun i u hu=>by
  have hil:=(List.getElem?_eq_some_iff.1 hu).1
  have:=(ey ▸ o1).cell i hil
  rw[List.getD_eq_getElem?_getD,hu] at this
  exact ⟨this,o1.2.1 u (List.mem_of_getElem? hu)⟩
 have hfoot:zDu z gy:=Or.inr ⟨y,List.mem_of_getElem? hy,by rw[ey];rfl⟩
 have hgg:gy≠g:=fun e=>hoff gy hfoot (by rw[hv,e];rfl)
 have hgk':gy≠gk:=fun e=>o4 gy gk (by rw[ey];rfl) (by rw[ev];rfl) e
 have hln:(zDK z).2.2.length=z.2.length:=by unfold zDK;simp
 refine ⟨g,cap,gk,ck,gy,cy,by rw[hv,hl],?_,y0,y1,by rw[y2,ey],hcells,fun j=>(ey ▸ o1).free j,hb1,h0 gy (Or.inr ⟨z,List.mem_of_getElem? hz,hfoot⟩),hgg,hgk',o2,o3,fun i u hu=>?_⟩
 ·rw[c2,←ez,ev,hln]
 ·have hdk':=hdk.val hy ey i u hu
  have hd:zAF (fun j=>j=gy) w (w.setCell ⟨gy,i,none⟩ (.int .i64 u)):=(zAF.of_grown (zAC w ⟨gy,i,none⟩ (.int .i64 u))).mono fun j _ hj=>by cases hj;rfl
  have hfootk:∀j,zMx z.1.2.2 (z.2.set q ((y.1.1,y.1.2.1,y.1.2.2.set i u),y.2)) j→zMx z.1.2.2 z.2 j:=fun j hj=>by
   rcases hj with hj|⟨t,ht,hj⟩
   ·exact Or.inl hj
   ·rcases List.mem_or_eq_of_mem_set ht with ht|rfl
    ·exact Or.inr ⟨t,ht,hj⟩
    ·exact Or.inr ⟨y,List.mem_of_getElem? hy,hj⟩
  have hzl:=(List.getElem?_eq_some_iff.1 hz).1
  have hfz:∀j,zDu (z.1,z.2.set q ((y.1.1,y.1.2.1,y.1.2.2.set i u),y.2)) j→zDu z j:=hfootk
  have hrow:zAK 3 RPC (fun _=>False) (w.setCell ⟨gy,i,none⟩ (.int .i64 u)) 62 base v2 (zs.set k (z.1,z.2.set q ((y.1.1,y.1.2.1,y.1.2.2.set i u),y.2))):=by
   have hr:=RPC.anyE (E':=fun _=>False) ((RPC.anyE (E':=fun j=>j=gy) h2.row).later hd (fun j hj e=>hgg (by rw[hv] at hj;cases hj;exact e.symm)))
   obtain ⟨r,g',hg',hlr,h1',hc,hf⟩:=hr.get hz
   rw[hv] at hg'
   simp only[Value.ownBlock,Option.some.injEq] at hg'
   subst hg'
   obtain ⟨rfl,ha⟩:=hf.now
   have hw0:(w.setCell ⟨gy,i,none⟩ (.int .i64 u)).cell? ⟨g,k*3+0,none⟩=some (.bool z.1.1):=hc 0 _ rfl
   have:=hr.set (x':=(z.1,z.2.set q ((y.1.1,y.1.2.1,y.1.2.2.set i u),y.2))) (j:=0) (c:=.bool z.1.1) hz (by rw[hv];rfl) hlr hc (by omega) rfl (fun _ _=>⟨rfl,ha⟩)
   rwa [zIG hw0] at this
  have hdp:DP (w.setCell ⟨gy,i,none⟩ (.int .i64 u)) base v2 (zs.set k (z.1,z.2.set q ((y.1.1,y.1.2.1,y.1.2.2.set i u),y.2))):=by
   refine ⟨hrow,fun t ht=>?_,zC3 zCd h2.apart (fun j t hj ht e he=>zCQ zCd h2.apart hz ht (fun e=>hj e.symm) e (hfz e he))⟩
   obtain ⟨j,hj⟩:=List.getElem?_of_mem ht
   rw[List.getElem?_set] at hj
   by_cases hij:k=j
   ·subst hij
    rw[if_pos rfl,if_pos hzl] at hj
    cases hj
    exact ⟨hdk',hi,fun e he=>hoff e (hfz e he)⟩
   ·rw[if_neg hij] at hj
    obtain ⟨g1,g2,g3⟩:=h2.each t (List.mem_of_getElem? hj)
    have hap:=zCQ zCd h2.apart hz hj hij
    exact ⟨g1.frame hd (fun e he h=>hap e (by rw[h];exact hfoot) he),g2,g3⟩
  refine zE0.put h0 h3 (hd.mono fun j _ hj=>by rw[hj];exact Or.inr ⟨z,List.mem_of_getElem? hz,hfoot⟩) hdp (fun j hj=>?_) ?_
  ·rcases hj with hj|⟨t,ht,hj⟩
   ·exact Or.inl hj
   ·rcases List.mem_or_eq_of_mem_set ht with ht|rfl
    ·exact Or.inr ⟨t,ht,hj⟩
    ·exact Or.inr ⟨z,List.mem_of_getElem? hz,hfz j hj⟩
  ·rw[List.map_set,h1]
   congr 1
   unfold zDK
   simp only[List.map_set]
end
instance decKp:DecidableEq Kp:=fun a b=>instDecidableEqProd a b
instance decPr:DecidableEq Pr:=fun a b=>instDecidableEqProd a b
instance decMe:DecidableEq Me:=fun a b=>instDecidableEqProd a b
end Go.Proofs.YthgmphbkkojaoaaGreat
