/-
  world.Run, walked. (Printed by wip/tools/mkrun.py.)
-/
import Derived.Test.YthgmphbkkojaoaaGreatQBoxes
import Derived.Test.YthgmphbkkojaoaaGreatQDoAny
set_option linter.unusedSimpArgs false
set_option maxHeartbeats 8000000
namespace Go.Proofs.YthgmphbkkojaoaaGreat
set_option linter.unusedSectionVars false
variable [Zn]
open Go.RowKit
theorem zMJ:(Tryz.prog.info? 30).map (fun i=>(i.zero,i.size,i.bytes))=some (some (.int .i64 0),1,8):=by kernel_rfl
set_option maxRecDepth 100000 in
theorem zUX(vb u v:Value)(b:List Ver)(ps:List Pr)(l:List Hp)(W:World)(hb:zAR W vb b)(hu:zAT W u ps)(hl:zGj W v l) :
  Calls Tryz.prog 6 #[.agg #[vb,u],v] W fun e w'=>(∃u1 u2 us,e=.returned (.tuple #[.agg #[u1,u2],us,.int .i64 (zSY (b,ps) l)])∧(∀w'',zAF (fun j=>j<W.heap.size) w' w''→zAR w'' u1 (zQ6 (b,ps) l).1∧zAT w'' u2 (zQ6 (b,ps) l).2∧zQ0 w'' us (zS5 (b,ps) l)))∧Below W.heap.size W w':=by
 obtain ⟨ab,cb,rfl,hcb,⟨hbm,hbc,_⟩,_⟩:=hb.opened
 obtain ⟨ap,cp,rfl,hcu,⟨hum,huc,_⟩,_⟩:=hu.opened
 obtain ⟨al,cl,rfl,hcl,⟨hlm,hlc,_⟩,_⟩:=hl.opened
 have HL:Hid (∀w',zAD W.heap.size W w'→zGj w' (.slice al l.length cl) l):=Zh (fun w' q=>hl.stays zUH.stays q.below)
 have S0:=((zAD.refl W).alloc (.cells #[.slice ab b.length cb,.slice ap ps.length cp] 27)).alloc (.cells #[.slice none 0 0,.slice none 0 0] 27)
 have hb0:=hb.stays zAz.stays S0.below
 have hu0:=hu.stays zAj.stays S0.below
 have p0:((W.alloc (.cells #[.slice ab b.length cb,.slice ap ps.length cp] 27)).alloc (.cells #[.slice none 0 0,.slice none 0 0] 27)).cell? ⟨W.heap.size,0,none⟩=some (.slice ab b.length cb):=by go_simp
 have p1:((W.alloc (.cells #[.slice ab b.length cb,.slice ap ps.length cp] 27)).alloc (.cells #[.slice none 0 0,.slice none 0 0] 27)).cell? ⟨W.heap.size,1,none⟩=some (.slice ap ps.length cp):=by go_simp
 have p2:∀j,((W.alloc (.cells #[.slice ab b.length cb,.slice ap ps.length cp] 27)).alloc (.cells #[.slice none 0 0,.slice none 0 0] 27)).frozen? ⟨W.heap.size,j,none⟩=false:=by intro j;go_simp
 have q0:((W.alloc (.cells #[.slice ab b.length cb,.slice ap ps.length cp] 27)).alloc (.cells #[.slice none 0 0,.slice none 0 0] 27)).cell? ⟨W.heap.size+1,0,none⟩=some (.slice none 0 0):=by go_simp
 have q1:((W.alloc (.cells #[.slice ab b.length cb,.slice ap ps.length cp] 27)).alloc (.cells #[.slice none 0 0,.slice none 0 0] 27)).cell? ⟨W.heap.size+1,1,none⟩=some (.slice none 0 0):=by go_simp
 have q2:∀j,((W.alloc (.cells #[.slice ab b.length cb,.slice ap ps.length cp] 27)).alloc (.cells #[.slice none 0 0,.slice none 0 0] 27)).frozen? ⟨W.heap.size+1,j,none⟩=false:=by intro j;go_simp
 have hz0:((W.alloc (.cells #[.slice ab b.length cb,.slice ap ps.length cp] 27)).alloc (.cells #[.slice none 0 0,.slice none 0 0] 27)).heap.size=W.heap.size+2:=by simp
 clear hb hu hl
 go_enter Tryz.func6,Tryz.ntmps6
 go_upto_region 1 with fail
 generalize (W.alloc (.cells #[.slice ab b.length cb,.slice ap ps.length cp] 27)).alloc (.cells #[.slice none 0 0,.slice none 0 0] 27)=w0 at *
 obtain ⟨B,hB⟩:∃B,B=W.heap.size:=⟨_,rfl⟩
 obtain ⟨B1,hB1⟩:∃B,B=W.heap.size+1:=⟨_,rfl⟩
 rw[←hB1] at q0 q1 q2 ⊢
 rw[←hB] at p0 p1 p2 ⊢
 have hBW:W.heap.size≤B:=by omega
 have hBW1:W.heap.size≤B1:=by omega
 have hBB:¬B1=B:=by omega
 have hBB':¬B=B1:=by omega
 have hBl:B<w0.heap.size:=by omega
 have hB1l:B1<w0.heap.size:=by omega
 have hW0:W.heap.size≤w0.heap.size:=by omega
 clear hB hB1 hz0
 go_upto_region 2 with (go_at_call 21;go_fit (zBb _ b _ ps _ hb0 hu0);rintro e w1 ⟨rfl,hb1⟩)
 have S1:=S0.step hb1
 have hs1:=hb1.size
 have p2:∀j,w1.frozen? ⟨B,j,none⟩=false:=fun j=>(hb1.frozen (p:=⟨B,j,none⟩) hBl).trans (p2 j)
 have q2:∀j,w1.frozen? ⟨B1,j,none⟩=false:=fun j=>(hb1.frozen (p:=⟨B1,j,none⟩) hB1l).trans (q2 j)
 have p0:=zAA hb1 p0
 have p1:=zAA hb1 p1
 have q0:=zAA hb1 q0
 have q1:=zAA hb1 q1
 have hb1':=hb0.stays zAz.stays hb1
 have hu1':=hu0.stays zAj.stays hb1
 clear hb0 hu0 hb1
 by_cases h0:zA2 (b,ps)=0
 ·rw[h0]
  by_cases hl100:100<l.length
  ·have HE:Hid (zSY (b,ps) l=1):=Zh (by unfold zSY;rw[if_neg (by simpa using h0),if_pos hl100])
   have HM:Hid (zQ6 (b,ps) l=([],[])):=Zh (by unfold zQ6;rw[HE.out];rfl)
   have HSD:Hid (zS5 (b,ps) l=[]):=Zh (by unfold zS5;rw[HE.out];rfl)
   have hl2:(100:Int)<(l.length:Int):=by omega
   clear p2
   have f0:=q2 0
   have f1:=q2 1
   have v0:((w1.setCell ⟨B1,0,none⟩ (.slice none 0 0)).setCell ⟨B1,1,none⟩ (.slice none 0 0)).cell? ⟨B1,0,none⟩=some (.slice none 0 0):=by go_simp
   have v1:((w1.setCell ⟨B1,0,none⟩ (.slice none 0 0)).setCell ⟨B1,1,none⟩ (.slice none 0 0)).cell? ⟨B1,1,none⟩=some (.slice none 0 0):=by go_simp
   have S7:=(S1.setCell (a:=⟨B1,0,none⟩) hBW1 (.slice none 0 0)).setCell (a:=⟨B1,1,none⟩) hBW1 (.slice none 0 0)
   clear q2
   go_wp2_with fail
   exact bodyPost_ret (v:=.tuple #[.agg #[.slice none 0 0,.slice none 0 0],.slice none 0 0,.int .i64 1]) (by simp[results,Tryz.results6,go_sem,v0,v1]) rfl ⟨⟨_,_,_,by rw[HE.out],fun w'' _=>by rw[HM.out,HSD.out];exact ⟨zAZ.nil _,zAZ.nil _,zQ0.nil _⟩⟩,S7.below⟩
  ·have HE:Hid (zSY (b,ps) l=0):=Zh (by unfold zSY;rw[if_neg (by simpa using h0),if_neg hl100])
   have HM:Hid (zQ6 (b,ps) l=(zHP l ((b,ps),[])).1):=Zh (by unfold zQ6;rw[HE.out];rfl)
   have HSD:Hid (zS5 (b,ps) l=(zHP l ((b,ps),[])).2):=Zh (by unfold zS5;rw[HE.out];rfl)
   obtain ⟨hb12,hp8,hk20⟩:=zED h0
   have hl2:¬(100:Int)<(l.length:Int):=by omega
   have e0:=p2 0
   have e1:=p2 1
   go_upto_region 7 with (go_at_call 22;go_fit (zDS _ b _ ps w1 hb1' hu1' (by omega) (by omega) (fun x hx=>Nat.le_trans (hk20 x hx) (by omega)));rintro e w3 ⟨⟨y1,y2,rfl,hom⟩,hb2⟩;obtain ⟨a4,c4,rfl,_⟩:=hom.vers.opened;obtain ⟨a5,c5,rfl,_⟩:=hom.peers.opened;have e0:=zAE hb2 p0 e0;have e1:=zAE hb2 p1 e1;have p0:=zAA hb2 p0;have p1:=zAA hb2 p1)
   have hd3:zAF (fun j=>j=B) w3 ((w3.setCell ⟨B,0,none⟩ (.slice a4 b.length c4)).setCell ⟨B,1,none⟩ (.slice a5 ps.length c5)):=(zAF.of_grown ((zAC w3 ⟨B,0,none⟩ (.slice a4 b.length c4)).trans (zAC _ ⟨B,1,none⟩ (.slice a5 ps.length c5)))).mono fun j _ hj=>by cases hj;rfl
   have hd13:zAF (fun j=>j=B) w1 ((w3.setCell ⟨B,0,none⟩ (.slice a4 b.length c4)).setCell ⟨B,1,none⟩ (.slice a5 ps.length c5)):=(zAF.old hb2 _).trans hd3
   have S3:=((S1.step hb2).setCell (a:=⟨B,0,none⟩) hBW (.slice a4 b.length c4)).setCell (a:=⟨B,1,none⟩) hBW (.slice a5 ps.length c5)
   have t0:((w3.setCell ⟨B,0,none⟩ (.slice a4 b.length c4)).setCell ⟨B,1,none⟩ (.slice a5 ps.length c5)).cell? ⟨B,0,none⟩=some (.slice a4 b.length c4):=by go_simp
   have t1:((w3.setCell ⟨B,0,none⟩ (.slice a4 b.length c4)).setCell ⟨B,1,none⟩ (.slice a5 ps.length c5)).cell? ⟨B,1,none⟩=some (.slice a5 ps.length c5):=by go_simp
   have hB1w:B<w1.heap.size:=by omega
   have hB11:B1<w1.heap.size:=by omega
   have q9:=hd13.2 B1 hB11 hBB
   have HK2:Hid (((w3.setCell ⟨B,0,none⟩ (.slice a4 b.length c4)).setCell ⟨B,1,none⟩ (.slice a5 ps.length c5)).cell? ⟨B,0,none⟩=some (.slice a4 b.length c4)∧((w3.setCell ⟨B,0,none⟩ (.slice a4 b.length c4)).setCell ⟨B,1,none⟩ (.slice a5 ps.length c5)).cell? ⟨B,1,none⟩=some (.slice a5 ps.length c5)∧(∀j,((w3.setCell ⟨B,0,none⟩ (.slice a4 b.length c4)).setCell ⟨B,1,none⟩ (.slice a5 ps.length c5)).frozen? ⟨B,j,none⟩=false)∧((w3.setCell ⟨B,0,none⟩ (.slice a4 b.length c4)).setCell ⟨B,1,none⟩ (.slice a5 ps.length c5)).cell? ⟨B1,0,none⟩=some (.slice none 0 0)∧((w3.setCell ⟨B,0,none⟩ (.slice a4 b.length c4)).setCell ⟨B,1,none⟩ (.slice a5 ps.length c5)).cell? ⟨B1,1,none⟩=some (.slice none 0 0)∧∀j,((w3.setCell ⟨B,0,none⟩ (.slice a4 b.length c4)).setCell ⟨B,1,none⟩ (.slice a5 ps.length c5)).frozen? ⟨B1,j,none⟩=false):=Zh ⟨t0,t1,fun j=>by rw[World.frozen?_setCell,World.frozen?_setCell];exact (hb2.frozen (p:=⟨B,j,none⟩) hB1w).trans (p2 j),(World.cell?_of_block (a:=⟨B1,0,none⟩) q9).trans q0,(World.cell?_of_block (a:=⟨B1,1,none⟩) q9).trans q1,fun j=>(World.frozen?_of_block (a:=⟨B1,j,none⟩) q9).trans (q2 j)⟩
   have HB2:=Zh (zJs.of (hom.toT.frame hd3 (D:=fun j=>j=B) (fun k hk=>Or.inl (by rw[hk];exact ⟨hB1w,hB1w⟩))) (D:=fun j=>j<w0.heap.size∨Value.ownBlock (.slice none 0 0)=some j) (fun k hk=>Or.inl ((fun h=>⟨h,h⟩) (hk.elim (fun e=>Nat.lt_of_lt_of_le e hs1) (fun e=>by cases e)))))
   have hs2:w0.heap.size≤((w3.setCell ⟨B,0,none⟩ (.slice a4 b.length c4)).setCell ⟨B,1,none⟩ (.slice a5 ps.length c5)).heap.size:=by have:=hb2.size;simp;omega
   clear p0 p1 p2 q0 q1 q2 e0 e1 t0 t1 hd3 hd13 q9 hom hb2 hb1' hu1'
   generalize (w3.setCell ⟨B,0,none⟩ (.slice a4 b.length c4)).setCell ⟨B,1,none⟩ (.slice a5 ps.length c5)=w2 at *
   go_wp2_with fail
   go_loopw[27,8] (fun i y wr=>∃(k:Nat) (m1:Option Addr) (n1 q1:Nat) (m2:Option Addr) (n2 q2:Nat),k≤l.length∧i=.int .i64 k∧zAD W.heap.size W wr∧w2.heap.size≤wr.heap.size∧zJs (fun j=>j<w0.heap.size∨y.ownBlock=some j) wr (.slice m1 n1 q1) (.slice m2 n2 q2) (zHP (l.take k) ((b,ps),[])).1∧(wr.cell? ⟨B,0,none⟩=some (.slice m1 n1 q1)∧wr.cell? ⟨B,1,none⟩=some (.slice m2 n2 q2)∧(∀j,wr.frozen? ⟨B,j,none⟩=false)∧wr.cell? ⟨B1,0,none⟩=some (.slice none 0 0)∧wr.cell? ⟨B1,1,none⟩=some (.slice none 0 0)∧∀j,wr.frozen? ⟨B1,j,none⟩=false)∧zAJ wr 30 w2.heap.size y (zHP (l.take k) ((b,ps),[])).2∧(zHP (l.take k) ((b,ps),[])).2.length≤k) (fun i _ _=>l.length - (intOf i).toNat)
   case atStart=>exact ⟨0,_,_,_,_,_,_,by omega,rfl,S3,Nat.le_refl _,HB2.out,HK2.out,zAJ.nil _ _ _,Nat.le_refl _⟩
   case round =>
    obtain ⟨k,m1,n1,q1,m2,n2,q2,hk,rfl,hS,hsz,hbox,hcells,ho,hol⟩:=hrel
    have HCE:=Zh hcells
    clear HB2 HK2
    have hll:=HL.out wr hS
    by_cases hlt:k<l.length
    ·have hget:=List.getElem?_eq_getElem hlt
     obtain ⟨g,off,uu,cu,uv,cv,rfl,h0,h1,h2,h3,h4,h5,h6,hd,hp,i1,i2,i3,i4,i5⟩:=zR2 hll hget
     have HST:=Zh (zST ((b,ps),[]) hget)
     generalize l[k]=x at *
     obtain ⟨kd,n,pl,data,pr,need,of_⟩:=x
     simp only at h0 h1 h2 h3 h4 h5 h6 hd hp i1 i2 i3 i4 i5
     generalize zHP (l.take k) ((b,ps),[])=st at *
     obtain ⟨⟨b',ps'⟩,out⟩:=st
     simp only at hbox ho hol
     have BB:=zAB wr (.cells #[.int .i64 kd,.int .i64 n,.int .i64 pl,.slice uu data.length cu,.slice uv pr.length cv,.int .i64 need,.int .i64 of_] 38)
     have S4:=hS.alloc (.cells #[.int .i64 kd,.int .i64 n,.int .i64 pl,.slice uu data.length cu,.slice uv pr.length cv,.int .i64 need,.int .i64 of_] 38)
     have f0:(wr.alloc (.cells #[.int .i64 kd,.int .i64 n,.int .i64 pl,.slice uu data.length cu,.slice uv pr.length cv,.int .i64 need,.int .i64 of_] 38)).cell? ⟨wr.heap.size,0,none⟩=some (.int .i64 kd):=by go_simp
     have f1:(wr.alloc (.cells #[.int .i64 kd,.int .i64 n,.int .i64 pl,.slice uu data.length cu,.slice uv pr.length cv,.int .i64 need,.int .i64 of_] 38)).cell? ⟨wr.heap.size,1,none⟩=some (.int .i64 n):=by go_simp
     have f2:(wr.alloc (.cells #[.int .i64 kd,.int .i64 n,.int .i64 pl,.slice uu data.length cu,.slice uv pr.length cv,.int .i64 need,.int .i64 of_] 38)).cell? ⟨wr.heap.size,2,none⟩=some (.int .i64 pl):=by go_simp
     have f3:(wr.alloc (.cells #[.int .i64 kd,.int .i64 n,.int .i64 pl,.slice uu data.length cu,.slice uv pr.length cv,.int .i64 need,.int .i64 of_] 38)).cell? ⟨wr.heap.size,3,none⟩=some (.slice uu data.length cu):=by go_simp
     have f4:(wr.alloc (.cells #[.int .i64 kd,.int .i64 n,.int .i64 pl,.slice uu data.length cu,.slice uv pr.length cv,.int .i64 need,.int .i64 of_] 38)).cell? ⟨wr.heap.size,4,none⟩=some (.slice uv pr.length cv):=by go_simp
     have f5:(wr.alloc (.cells #[.int .i64 kd,.int .i64 n,.int .i64 pl,.slice uu data.length cu,.slice uv pr.length cv,.int .i64 need,.int .i64 of_] 38)).cell? ⟨wr.heap.size,5,none⟩=some (.int .i64 need):=by go_simp
     have f6:(wr.alloc (.cells #[.int .i64 kd,.int .i64 n,.int .i64 pl,.slice uu data.length cu,.slice uv pr.length cv,.int .i64 need,.int .i64 of_] 38)).cell? ⟨wr.heap.size,6,none⟩=some (.int .i64 of_):=by go_simp
     have t0:=zAA BB hcells.1
     have t1:=zAA BB hcells.2.1
     have HBA:=Zh (hbox.stays BB)
     have HOA:=Zh (ho.stays BB)
     have HDT:=Zh (hd.stays BB)
     have HPR:=Zh (hp.stays BB)
     have hs4:=BB.size
     have hBr:=zAH hcells.1
     have hB1r:=zAH hcells.2.2.2.1
     simp only at hBr hB1r
     have HKA:Hid (∀w',Below wr.heap.size wr w'→w'.cell? ⟨B,0,none⟩=some (.slice m1 n1 q1)∧w'.cell? ⟨B,1,none⟩=some (.slice m2 n2 q2)∧(∀j,w'.frozen? ⟨B,j,none⟩=false)∧w'.cell? ⟨B1,0,none⟩=some (.slice none 0 0)∧w'.cell? ⟨B1,1,none⟩=some (.slice none 0 0)∧∀j,w'.frozen? ⟨B1,j,none⟩=false):=Zh (fun w' q=>by
      obtain ⟨g1,g2,g3,g4,g5,g6⟩:=HCE.out
      exact ⟨zAA q g1,zAA q g2,fun j=>(q.frozen (p:=⟨B,j,none⟩) hBr).trans (g3 j),zAA q g4,zAA q g5,fun j=>(q.frozen (p:=⟨B1,j,none⟩) hB1r).trans (g6 j)⟩)
     clear hget hcells HCE hll
     go_upto_region 11 with fail
     clear h0 h1 h2 h3 h4 h5 h6 hbox ho hd hp
     have BBW:=Zh BB
     clear BB
     generalize wr.alloc (.cells #[.int .i64 kd,.int .i64 n,.int .i64 pl,.slice uu data.length cu,.slice uv pr.length cv,.int .i64 need,.int .i64 of_] 38)=wa at *
     obtain ⟨Bh,hBh⟩:∃Bh,Bh=wr.heap.size:=⟨_,rfl⟩
     rw[←hBh] at f0 f1 f2 f3 f4 f5 f6 ⊢
     clear hBh
     obtain ⟨hbv,hbp⟩:=HBA.out.now
     have HDO:=Zh (zRt _ _ _ _ b' ps' kd n pl data pr need of_ wa hbv hbp HDT.out HPR.out i2 i3 i4 i5)
     have hEI:=(zVP (b',ps') (kd,n,pl,data,pr,need,of_)).i64
     clear hbv hbp
     go_upto_region 12 with (go_at_call 20;go_fit HDO.out;rintro e w5 ⟨⟨u1,u2,rfl,ho5⟩,hb5⟩;obtain ⟨a6,c6,rfl,_⟩:=ho5.vers.opened;obtain ⟨a7,c7,rfl,_⟩:=ho5.peers.opened)
     generalize hEE:doE (b',ps') (kd,n,pl,data,pr,need,of_)=E at *
     generalize hMM:doC (b',ps') (kd,n,pl,data,pr,need,of_)=M at *
     have BN:=zAB w5 (.cells #[.slice a6 M.1.length c6,.slice a7 M.2.length c7] 27)
     have S6:=(S4.step hb5).alloc (.cells #[.slice a6 M.1.length c6,.slice a7 M.2.length c7] 27)
     have B46:Below wa.heap.size wa (w5.alloc (.cells #[.slice a6 M.1.length c6,.slice a7 M.2.length c7] 27)):=hb5.trans (BN.mono hb5.size)
     have n0:(w5.alloc (.cells #[.slice a6 M.1.length c6,.slice a7 M.2.length c7] 27)).cell? ⟨w5.heap.size,0,none⟩=some (.slice a6 M.1.length c6):=by go_simp
     have n1':(w5.alloc (.cells #[.slice a6 M.1.length c6,.slice a7 M.2.length c7] 27)).cell? ⟨w5.heap.size,1,none⟩=some (.slice a7 M.2.length c7):=by go_simp
     have HK6:=Zh (HKA.out _ (BBW.out.trans (B46.mono hs4)))
     have hws:w0.heap.size≤wa.heap.size:=Nat.le_trans hs2 (Nat.le_trans hsz hs4)
     have HN6:=Zh (zJs.of (ho5.toT.stays BN) (D:=fun j=>j<w0.heap.size∨u8.ownBlock=some j) (fun k hk=>Or.inl ((fun h=>⟨h,h⟩) (hk.elim (fun e=>Nat.lt_of_lt_of_le e hws) (fun e=>(HOA.out.1.lt k e).2)))))
     have HB6:=Zh (HBA.out.stays B46)
     have HO6:=Zh (HOA.out.stays B46)
     have hs6:w2.heap.size≤(w5.alloc (.cells #[.slice a6 M.1.length c6,.slice a7 M.2.length c7] 27)).heap.size:=Nat.le_trans hsz (Nat.le_trans hs4 B46.size)
     have hBW6:B<(w5.alloc (.cells #[.slice a6 M.1.length c6,.slice a7 M.2.length c7] 27)).heap.size:=Nat.lt_of_lt_of_le hBl (Nat.le_trans hws B46.size)
     have HEE:=Zh hEE
     have HMM:=Zh hMM
     have hw5:w0.heap.size≤w5.heap.size:=Nat.le_trans hws hb5.size
     clear ho5 hb5 BN f0 f1 f2 f3 f4 f5 f6 t0 t1 HBA HOA HKA HDT HPR HDO hEE hMM B46
     by_cases hE0:E=0
     ·have HS0:Hid (zHP (l.take (k+1)) ((b,ps),[])=(M,out++[E])):=Zh (by rw[HST.out];unfold zFH;simp only;rw[HEE.out,HMM.out,if_pos hE0])
      obtain ⟨z0,z1,z2,c0,c1,c2⟩:=HK6.out
      have d0:=z2 0
      have d1:=z2 1
      have hBn:¬B=w5.heap.size:=by omega
      generalize w5.alloc (.cells #[.slice a6 M.1.length c6,.slice a7 M.2.length c7] 27)=w6 at *
      have hd7:zAF (fun j=>j=B) w6 ((w6.setCell ⟨B,0,none⟩ (.slice a6 M.1.length c6)).setCell ⟨B,1,none⟩ (.slice a7 M.2.length c7)):=(zAF.of_grown ((zAC w6 ⟨B,0,none⟩ (.slice a6 M.1.length c6)).trans (zAC _ ⟨B,1,none⟩ (.slice a7 M.2.length c7)))).mono fun j _ hj=>by cases hj;rfl
      have S7:=(S6.setCell (a:=⟨B,0,none⟩) hBW (.slice a6 M.1.length c6)).setCell (a:=⟨B,1,none⟩) hBW (.slice a7 M.2.length c7)
      have y0:((w6.setCell ⟨B,0,none⟩ (.slice a6 M.1.length c6)).setCell ⟨B,1,none⟩ (.slice a7 M.2.length c7)).cell? ⟨B,0,none⟩=some (.slice a6 M.1.length c6):=by go_simp
      have y1:((w6.setCell ⟨B,0,none⟩ (.slice a6 M.1.length c6)).setCell ⟨B,1,none⟩ (.slice a7 M.2.length c7)).cell? ⟨B,1,none⟩=some (.slice a7 M.2.length c7):=by go_simp
      have HK7:Hid (((w6.setCell ⟨B,0,none⟩ (.slice a6 M.1.length c6)).setCell ⟨B,1,none⟩ (.slice a7 M.2.length c7)).cell? ⟨B,0,none⟩=some (.slice a6 M.1.length c6)∧((w6.setCell ⟨B,0,none⟩ (.slice a6 M.1.length c6)).setCell ⟨B,1,none⟩ (.slice a7 M.2.length c7)).cell? ⟨B,1,none⟩=some (.slice a7 M.2.length c7)∧(∀j,((w6.setCell ⟨B,0,none⟩ (.slice a6 M.1.length c6)).setCell ⟨B,1,none⟩ (.slice a7 M.2.length c7)).frozen? ⟨B,j,none⟩=false)∧((w6.setCell ⟨B,0,none⟩ (.slice a6 M.1.length c6)).setCell ⟨B,1,none⟩ (.slice a7 M.2.length c7)).cell? ⟨B1,0,none⟩=some (.slice none 0 0)∧((w6.setCell ⟨B,0,none⟩ (.slice a6 M.1.length c6)).setCell ⟨B,1,none⟩ (.slice a7 M.2.length c7)).cell? ⟨B1,1,none⟩=some (.slice none 0 0)∧∀j,((w6.setCell ⟨B,0,none⟩ (.slice a6 M.1.length c6)).setCell ⟨B,1,none⟩ (.slice a7 M.2.length c7)).frozen? ⟨B1,j,none⟩=false):=Zh ⟨y0,y1,fun j=>by rw[World.frozen?_setCell,World.frozen?_setCell];exact z2 j,hd7.cell c0 hBB,hd7.cell c1 hBB,fun j=>by rw[World.frozen?_setCell,World.frozen?_setCell];exact c2 j⟩
      have HB7:=Zh (HN6.out.later (hd7.mono fun j _ hj=>Or.inl (by rw[hj];exact hBl)))
      have HO7:=Zh (HO6.out.kept ((zAC w6 ⟨B,0,none⟩ (.slice a6 M.1.length c6)).trans (zAC _ ⟨B,1,none⟩ (.slice a7 M.2.length c7))) (by
       cases hq:u8.ownBlock with
       | none=>exact Or.inl rfl
       | some j=>right;intro e;cases e;have h9:w2.heap.size≤B:=(HO6.out.1.lt _ hq).1;omega))
      have hs7:w2.heap.size≤((w6.setCell ⟨B,0,none⟩ (.slice a6 M.1.length c6)).setCell ⟨B,1,none⟩ (.slice a7 M.2.length c7)).heap.size:=by simpa using hs6
      have hE0':(E == 0)=true:=by simpa using hE0
      clear z2 c0 c1 c2 HK6 HB6 HN6 hd7
      go_upto_region 14 with fail
      clear z0 z1 d0 d1 y0 y1 n0 n1' hE0 hE0'
      generalize (w6.setCell ⟨B,0,none⟩ (.slice a6 M.1.length c6)).setCell ⟨B,1,none⟩ (.slice a7 M.2.length c7)=w7 at *
      have B8:=zAB w7 (.cells #[.int .i64 E] 30)
      have ho8:=HO7.out.stays B8
      have S8:=S7.alloc (.cells #[.int .i64 E] 30)
      have hs8:w2.heap.size≤(w7.alloc (.cells #[.int .i64 E] 30)).heap.size:=Nat.le_trans hs7 B8.size
      have HB8:=Zh (HB7.out.stays B8)
      have hlo:=fun j hj=>(ho8.1.lt j hj)
      have HK8:Hid (∀w',zAF (fun j=>u8.ownBlock=some j) (w7.alloc (.cells #[.int .i64 E] 30)) w'→w'.cell? ⟨B,0,none⟩=some (.slice a6 M.1.length c6)∧w'.cell? ⟨B,1,none⟩=some (.slice a7 M.2.length c7)∧(∀j,w'.frozen? ⟨B,j,none⟩=false)∧w'.cell? ⟨B1,0,none⟩=some (.slice none 0 0)∧w'.cell? ⟨B1,1,none⟩=some (.slice none 0 0)∧∀j,w'.frozen? ⟨B1,j,none⟩=false):=Zh (fun w' q=>by
       obtain ⟨g1,g2,g3,g4,g5,g6⟩:=HK7.out
       have n0:¬u8.ownBlock=some B:=fun e=>by have:=(hlo _ e).1;omega
       have n1:¬u8.ownBlock=some B1:=fun e=>by have:=(hlo _ e).1;omega
       have l0:=zAH g1
       have l1:=zAH g4
       exact ⟨q.cell (zAA B8 g1) n0,q.cell (zAA B8 g2) n0,fun j=>(World.frozen?_of_block (a:=⟨B,j,none⟩) (q.2 B (Nat.lt_of_lt_of_le l0 B8.size) n0)).trans ((B8.frozen (p:=⟨B,j,none⟩) l0).trans (g3 j)),q.cell (zAA B8 g4) n1,q.cell (zAA B8 g5) n1,fun j=>(World.frozen?_of_block (a:=⟨B1,j,none⟩) (q.2 B1 (Nat.lt_of_lt_of_le l1 B8.size) n1)).trans ((B8.frozen (p:=⟨B1,j,none⟩) l1).trans (g6 j))⟩)
      go_wp2_with (at_builtin;refine zBC rfl _ _ 29 rfl 30 Tryz.underlying29 zMJ w2.heap.size _ out rfl ho8 ⟨w7.heap.size,0,none⟩ 1 E rfl (by simp) hEI (by omega) hs8 ?_;intro v9 w9 ho9 hg9 hat9)
      have hd9:=zAF.of_grown hg9
      have S9:=S8.grown hg9 (fun j hj=>by have:=(hlo j hj).1;omega)
      have hs9:w2.heap.size≤w9.heap.size:=Nat.le_trans hs8 hd9.1
      obtain ⟨g1,g2,g3,g4,g5,g6⟩:=HK8.out w9 hd9
      have hb9:=Zh (HB8.out.next (hd9.mono fun _ _=>Or.inr) (D':=fun j=>j<w0.heap.size∨v9.ownBlock=some j) (fun k hk=>hk.elim (fun e=>Or.inl (Or.inl e)) (fun e=>hat9.elim (fun h=>Or.inl (Or.inr (h ▸ e))) (fun h=>Or.inr (by rw[h] at e;cases e;exact Nat.le_refl _)))))
      have HO9:=Zh ho9
      clear ho9 hlo ho8
      go_roundw
      case rel=>exact ⟨k+1,_,_,_,_,_,_,by omega,by go_num,S9,hs9,by rw[HS0.out];exact hb9.out,⟨g1,g2,g3,g4,g5,g6⟩,by rw[HS0.out];exact HO9.out,by rw[HS0.out];simp;omega⟩
      case measure=>simp[intOf];omega
     ·have HS0:Hid (zHP (l.take (k+1)) ((b,ps),[])=((b',ps'),out++[E])):=Zh (by rw[HST.out];unfold zFH;simp only;rw[HEE.out,if_neg hE0])
      have hE0':(E == 0)=false:=by simpa using hE0
      clear HN6 HMM
      go_upto_region 14 with fail
      clear n0 n1'
      generalize w5.alloc (.cells #[.slice a6 M.1.length c6,.slice a7 M.2.length c7] 27)=w6 at *
      have B8:=zAB w6 (.cells #[.int .i64 E] 30)
      have ho8:=HO6.out.stays B8
      have S8:=S6.alloc (.cells #[.int .i64 E] 30)
      have hs8:w2.heap.size≤(w6.alloc (.cells #[.int .i64 E] 30)).heap.size:=Nat.le_trans hs6 B8.size
      have HB8:=Zh (HB6.out.stays B8)
      have hlo:=fun j hj=>(ho8.1.lt j hj)
      have HK8:Hid (∀w',zAF (fun j=>u8.ownBlock=some j) (w6.alloc (.cells #[.int .i64 E] 30)) w'→w'.cell? ⟨B,0,none⟩=some (.slice m1 n1 q1)∧w'.cell? ⟨B,1,none⟩=some (.slice m2 n2 q2)∧(∀j,w'.frozen? ⟨B,j,none⟩=false)∧w'.cell? ⟨B1,0,none⟩=some (.slice none 0 0)∧w'.cell? ⟨B1,1,none⟩=some (.slice none 0 0)∧∀j,w'.frozen? ⟨B1,j,none⟩=false):=Zh (fun w' q=>by
       obtain ⟨g1,g2,g3,g4,g5,g6⟩:=HK6.out
       have n0:¬u8.ownBlock=some B:=fun e=>by have:=(hlo _ e).1;omega
       have n1:¬u8.ownBlock=some B1:=fun e=>by have:=(hlo _ e).1;omega
       have l0:=zAH g1
       have l1:=zAH g4
       exact ⟨q.cell (zAA B8 g1) n0,q.cell (zAA B8 g2) n0,fun j=>(World.frozen?_of_block (a:=⟨B,j,none⟩) (q.2 B (Nat.lt_of_lt_of_le l0 B8.size) n0)).trans ((B8.frozen (p:=⟨B,j,none⟩) l0).trans (g3 j)),q.cell (zAA B8 g4) n1,q.cell (zAA B8 g5) n1,fun j=>(World.frozen?_of_block (a:=⟨B1,j,none⟩) (q.2 B1 (Nat.lt_of_lt_of_le l1 B8.size) n1)).trans ((B8.frozen (p:=⟨B1,j,none⟩) l1).trans (g6 j))⟩)
      go_wp2_with (at_builtin;refine zBC rfl _ _ 29 rfl 30 Tryz.underlying29 zMJ w2.heap.size _ out rfl ho8 ⟨w6.heap.size,0,none⟩ 1 E rfl (by simp) hEI (by omega) hs8 ?_;intro v9 w9 ho9 hg9 hat9)
      have hd9:=zAF.of_grown hg9
      have S9:=S8.grown hg9 (fun j hj=>by have:=(hlo j hj).1;omega)
      have hs9:w2.heap.size≤w9.heap.size:=Nat.le_trans hs8 hd9.1
      obtain ⟨g1,g2,g3,g4,g5,g6⟩:=HK8.out w9 hd9
      have hb9:=Zh (HB8.out.next (hd9.mono fun _ _=>Or.inr) (D':=fun j=>j<w0.heap.size∨v9.ownBlock=some j) (fun k hk=>hk.elim (fun e=>Or.inl (Or.inl e)) (fun e=>hat9.elim (fun h=>Or.inl (Or.inr (h ▸ e))) (fun h=>Or.inr (by rw[h] at e;cases e;exact Nat.le_refl _)))))
      have HO9:=Zh ho9
      clear ho9 hlo ho8
      go_roundw
      case rel=>exact ⟨k+1,_,_,_,_,_,_,by omega,by go_num,S9,hs9,by rw[HS0.out];exact hb9.out,⟨g1,g2,g3,g4,g5,g6⟩,by rw[HS0.out];exact HO9.out,by rw[HS0.out];simp;omega⟩
      case measure=>simp[intOf];omega
    ·obtain rfl:l.length=k:=by omega
     rw[List.take_length] at ho hbox
     obtain ⟨z0,z1,z2,c0,c1,c2⟩:=hcells
     have d0:=c2 0
     have d1:=c2 1
     obtain ⟨au,cu,rfl,_⟩:=ho.isErrs.opened
     have v0:((wr.setCell ⟨B1,0,none⟩ (.slice m1 n1 q1)).setCell ⟨B1,1,none⟩ (.slice m2 n2 q2)).cell? ⟨B1,0,none⟩=some (.slice m1 n1 q1):=by go_simp
     have v1:((wr.setCell ⟨B1,0,none⟩ (.slice m1 n1 q1)).setCell ⟨B1,1,none⟩ (.slice m2 n2 q2)).cell? ⟨B1,1,none⟩=some (.slice m2 n2 q2):=by go_simp
     have hg7:=(zAC wr ⟨B1,0,none⟩ (.slice m1 n1 q1)).trans (zAC _ ⟨B1,1,none⟩ (.slice m2 n2 q2))
     have hd7:zAF (fun j=>j=B1) wr ((wr.setCell ⟨B1,0,none⟩ (.slice m1 n1 q1)).setCell ⟨B1,1,none⟩ (.slice m2 n2 q2)):=(zAF.of_grown hg7).mono fun j _ hj=>by cases hj;rfl
     have S7:=(hS.setCell (a:=⟨B1,0,none⟩) hBW1 (.slice m1 n1 q1)).setCell (a:=⟨B1,1,none⟩) hBW1 (.slice m2 n2 q2)
     have HFIN:Hid (∀w'',zAF (fun j=>j<W.heap.size) ((wr.setCell ⟨B1,0,none⟩ (.slice m1 n1 q1)).setCell ⟨B1,1,none⟩ (.slice m2 n2 q2)) w''→zAR w'' (.slice m1 n1 q1) (zQ6 (b,ps) l).1∧zAT w'' (.slice m2 n2 q2) (zQ6 (b,ps) l).2∧zQ0 w'' (.slice au (zHP l ((b,ps),[])).2.length cu) (zS5 (b,ps) l)):=Zh (fun w'' hw=>by
      rw[HM.out,HSD.out]
      have hq:=(hd7.mono (D':=fun j=>j<w0.heap.size) fun j _ hj=>by rw[hj];exact hB1l).trans (hw.mono (D':=fun j=>j<w0.heap.size) fun j _ hj=>Nat.lt_of_lt_of_le hj hW0)
      obtain ⟨r1,r2⟩:=hbox w'' (hq.mono fun j _ hj=>Or.inl hj)
      exact ⟨r1,r2,ho.isErrs.framed (fun j hj _ e=>by have:=(ho.lies j hj).1;omega) hq⟩)
     clear hbox ho hg7 hd7 z2 c2
     go_wp2_with fail
     exact bodyPost_ret (v:=.tuple #[.agg #[.slice m1 n1 q1,.slice m2 n2 q2],.slice au (zHP l ((b,ps),[])).2.length cu,.int .i64 0]) (by simp[results,Tryz.results6,go_sem,v0,v1]) rfl ⟨⟨_,_,_,by rw[HE.out],HFIN.out⟩,S7.below⟩
 ·have HE:Hid (zSY (b,ps) l=zA2 (b,ps)):=Zh (by unfold zSY;rw[if_pos h0])
  have HM:Hid (zQ6 (b,ps) l=([],[])):=Zh (by unfold zQ6;rw[HE.out,if_neg h0])
  have HSD:Hid (zS5 (b,ps) l=[]):=Zh (by unfold zS5;rw[HE.out,if_neg h0])
  generalize zA2 (b,ps)=E at *
  clear p2
  have f0:=q2 0
  have f1:=q2 1
  have v0:((w1.setCell ⟨B1,0,none⟩ (.slice none 0 0)).setCell ⟨B1,1,none⟩ (.slice none 0 0)).cell? ⟨B1,0,none⟩=some (.slice none 0 0):=by go_simp
  have v1:((w1.setCell ⟨B1,0,none⟩ (.slice none 0 0)).setCell ⟨B1,1,none⟩ (.slice none 0 0)).cell? ⟨B1,1,none⟩=some (.slice none 0 0):=by go_simp
  have S7:=(S1.setCell (a:=⟨B1,0,none⟩) hBW1 (.slice none 0 0)).setCell (a:=⟨B1,1,none⟩) hBW1 (.slice none 0 0)
  clear q2
  go_wp2_with fail
  exact bodyPost_ret (v:=.tuple #[.agg #[.slice none 0 0,.slice none 0 0],.slice none 0 0,.int .i64 E]) (by simp[results,Tryz.results6,go_sem,v0,v1]) rfl ⟨⟨_,_,_,by rw[HE.out],fun w'' _=>by rw[HM.out,HSD.out];exact ⟨zAZ.nil _,zAZ.nil _,zQ0.nil _⟩⟩,S7.below⟩
end Go.Proofs.YthgmphbkkojaoaaGreat
