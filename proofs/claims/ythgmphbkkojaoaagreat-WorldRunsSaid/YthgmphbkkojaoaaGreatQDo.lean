/-
  world.Do, walked: all kinds but forgetting. (Printed by wip/tools/do.py.)
-/
import Derived.Test.YthgmphbkkojaoaaGreatQBend
set_option linter.unusedSimpArgs false
set_option maxHeartbeats 8000000
namespace Go.Proofs.YthgmphbkkojaoaaGreat
set_option linter.unusedSectionVars false
variable [Zn]
open Go.RowKit
set_option maxRecDepth 100000 in
theorem zUc(vb u vd vp:Value)(b:List Ver)(ps:List Pr)(k n i:Int)(data pr:List Int)(need of_:Int)(W:World)(hb:zAR W vb b)(hu:zAT W u ps)(hd:zAG W vd data)(hp:zAG W vp pr)(hk:k≠7)(hn:I64 n)(hi:I64 i)(hne:I64 need)(hof:I64 of_) :
  Calls Tryz.prog 20 #[.agg #[vb,u],.agg #[.int .i64 k,.int .i64 n,.int .i64 i,vd,vp,.int .i64 need,.int .i64 of_]] W fun e w'=>(∃u1 u2,e=.returned (.tuple #[.agg #[u1,u2],.int .i64 (doE (b,ps) (k,n,i,data,pr,need,of_))])∧zCl (fun k=>k<W.heap.size) w' W.heap.size u1 u2 (doC (b,ps) (k,n,i,data,pr,need,of_)))∧Below W.heap.size W w':=by
 obtain ⟨a,c,rfl,hcb,⟨hbm,hbc,_⟩,_⟩:=hb.opened
 obtain ⟨a',c',rfl,hcu,⟨hum,huc,_⟩,_⟩:=hu.opened
 obtain ⟨ad,cd,rfl,_⟩:=hd.opened
 obtain ⟨ap,cp,rfl,_⟩:=hp.opened
 obtain ⟨w0,hw0⟩:∃w0,w0=((W.alloc (.cells #[.slice a b.length c,.slice a' ps.length c'] 27)).alloc (.cells #[.int .i64 k,.int .i64 n,.int .i64 i,.slice ad data.length cd,.slice ap pr.length cp,.int .i64 need,.int .i64 of_] 38)).alloc (.cells #[.slice none 0 0,.slice none 0 0] 27):=⟨_,rfl⟩
 have S0:=(((zAD.refl W).alloc (.cells #[.slice a b.length c,.slice a' ps.length c'] 27)).alloc (.cells #[.int .i64 k,.int .i64 n,.int .i64 i,.slice ad data.length cd,.slice ap pr.length cp,.int .i64 need,.int .i64 of_] 38)).alloc (.cells #[.slice none 0 0,.slice none 0 0] 27)
 have p0:w0.cell? ⟨W.heap.size,0,none⟩=some (.slice a b.length c):=by rw[hw0];go_simp
 have p1:w0.cell? ⟨W.heap.size,1,none⟩=some (.slice a' ps.length c'):=by rw[hw0];go_simp
 have p2:∀j,w0.frozen? ⟨W.heap.size,j,none⟩=false:=by intro j;rw[hw0];go_simp
 have g0:w0.cell? ⟨W.heap.size+1,0,none⟩=some (.int .i64 k):=by rw[hw0];go_simp
 have g1:w0.cell? ⟨W.heap.size+1,1,none⟩=some (.int .i64 n):=by rw[hw0];go_simp
 have g2:w0.cell? ⟨W.heap.size+1,2,none⟩=some (.int .i64 i):=by rw[hw0];go_simp
 have g3:w0.cell? ⟨W.heap.size+1,3,none⟩=some (.slice ad data.length cd):=by rw[hw0];go_simp
 have g4:w0.cell? ⟨W.heap.size+1,4,none⟩=some (.slice ap pr.length cp):=by rw[hw0];go_simp
 have g5:w0.cell? ⟨W.heap.size+1,5,none⟩=some (.int .i64 need):=by rw[hw0];go_simp
 have g6:w0.cell? ⟨W.heap.size+1,6,none⟩=some (.int .i64 of_):=by rw[hw0];go_simp
 have q0:w0.cell? ⟨W.heap.size+2,0,none⟩=some (.slice none 0 0):=by rw[hw0];go_simp
 have q1:w0.cell? ⟨W.heap.size+2,1,none⟩=some (.slice none 0 0):=by rw[hw0];go_simp
 have q2:∀j,w0.frozen? ⟨W.heap.size+2,j,none⟩=false:=by intro j;rw[hw0];go_simp
 have hsz0:w0.heap.size=W.heap.size+3:=by rw[hw0];simp
 rw[←hw0] at S0
 have HW:=Zh hw0
 clear hw0
 obtain ⟨B,hB⟩:∃B,B=W.heap.size:=⟨_,rfl⟩
 obtain ⟨Bh,hBh⟩:∃Bh,Bh=W.heap.size+1:=⟨_,rfl⟩
 obtain ⟨B1,hB1⟩:∃B1,B1=W.heap.size+2:=⟨_,rfl⟩
 have hBW:W.heap.size≤B:=by omega
 have hBW1:W.heap.size≤B1:=by omega
 have hBB:¬B1=B:=by omega
 have hBB':¬B=B1:=by omega
 have hBhB:¬Bh=B:=by omega
 have hBhB1:¬Bh=B1:=by omega
 have hB0:B<w0.heap.size:=by omega
 have hBh0:Bh<w0.heap.size:=by omega
 have hB10:B1<w0.heap.size:=by omega
 have hW0:W.heap.size≤w0.heap.size:=by omega
 rw[←hB1] at q0 q1 q2
 rw[←hBh] at g0 g1 g2 g3 g4 g5 g6
 rw[←hB] at p0 p1 p2
 have HB:=Zh hB
 have HBh:=Zh hBh
 have HB1:=Zh hB1
 clear hB hBh hB1 hsz0
 have hb0:=hb.stays zAz.stays S0.below
 have hu0:=hu.stays zAj.stays S0.below
 have HD:=Zh hd
 have HP:=Zh hp
 clear hb hu hd hp
 have f0:=q2 0
 have f1:=q2 1
 have e0:=p2 0
 have e1:=p2 1
 clear p2 q2
 go_enter Tryz.func20,Tryz.ntmps20
 go_upto_region 1 with fail
 rw[←HW.out,←HB1.out,←HBh.out,←HB.out]
 go_upto_region 2 with (go_at_call 21;go_fit (zBb _ b _ ps _ hb0 hu0);rintro e w1 ⟨rfl,hb1⟩)
 have T1:=(zAD.refl w0).step hb1
 have hs1:=T1.2
 have e0:=zAE hb1 p0 e0
 have e1:=zAE hb1 p1 e1
 have f0:=zAE hb1 q0 f0
 have f1:=zAE hb1 q1 f1
 have p0:=zAA hb1 p0
 have p1:=zAA hb1 p1
 have q0:=zAA hb1 q0
 have q1:=zAA hb1 q1
 have g0:=zAA hb1 g0
 have g1:=zAA hb1 g1
 have g2:=zAA hb1 g2
 have g3:=zAA hb1 g3
 have g4:=zAA hb1 g4
 have g5:=zAA hb1 g5
 have g6:=zAA hb1 g6
 have S1:=S0.step hb1
 by_cases h0:zA2 (b,ps)=0
 ·obtain ⟨hb12,hp8,hk20⟩:=zED h0
  have hPK:Hid (∀p∈ps,zBk b p):=Zh (zAU.1 h0).2.2
  have H0:=Zh h0
  have hb1':=hb0.stays zAz.stays T1.below
  have hu1':=hu0.stays zAj.stays T1.below
  rw[h0]
  go_upto_region 5 with (go_at_call 22;go_fit (zDS _ b _ ps w1 hb1' hu1' (by omega) (by omega) (fun x hx=>Nat.le_trans (hk20 x hx) (by omega)));rintro e w2 ⟨⟨y1,y2,rfl,hom⟩,hb2⟩;obtain ⟨a4,c4,rfl,hc4,⟨hm4,hcm4,_⟩,_⟩:=hom.vers.opened;obtain ⟨a5,c5,rfl,hc5,⟨hm5,hcm5,_⟩,_⟩:=hom.peers.opened;have e0:=zAE hb2 p0 e0;have e1:=zAE hb2 p1 e1;have p0:=zAA hb2 p0;have p1:=zAA hb2 p1)
  have hd3:zAF (fun j=>j=B) w2 ((w2.setCell ⟨B,0,none⟩ (.slice a4 b.length c4)).setCell ⟨B,1,none⟩ (.slice a5 ps.length c5)):=(zAF.of_grown ((zAC w2 ⟨B,0,none⟩ (.slice a4 b.length c4)).trans (zAC _ ⟨B,1,none⟩ (.slice a5 ps.length c5)))).mono fun j _ hj=>by cases hj;rfl
  have hd13:zAF (fun j=>j=B) w1 ((w2.setCell ⟨B,0,none⟩ (.slice a4 b.length c4)).setCell ⟨B,1,none⟩ (.slice a5 ps.length c5)):=(zAF.old hb2 _).trans hd3
  have S3:=((S1.step hb2).setCell (a:=⟨B,0,none⟩) hBW (.slice a4 b.length c4)).setCell (a:=⟨B,1,none⟩) hBW (.slice a5 ps.length c5)
  have t0:((w2.setCell ⟨B,0,none⟩ (.slice a4 b.length c4)).setCell ⟨B,1,none⟩ (.slice a5 ps.length c5)).cell? ⟨B,0,none⟩=some (.slice a4 b.length c4):=by go_simp
  have t1:((w2.setCell ⟨B,0,none⟩ (.slice a4 b.length c4)).setCell ⟨B,1,none⟩ (.slice a5 ps.length c5)).cell? ⟨B,1,none⟩=some (.slice a5 ps.length c5):=by go_simp
  have hB1w:B<w1.heap.size:=by omega
  have hB11:B1<w1.heap.size:=by omega
  have hW1:W.heap.size≤w1.heap.size:=by omega
  have hom3:=hom.frame hd3 (fun k hk=>by rw[hk];exact ⟨hB1w,hB1w⟩)
  have g0:=hd13.cell g0 hBhB
  have g1:=hd13.cell g1 hBhB
  have g2:=hd13.cell g2 hBhB
  have g3:=hd13.cell g3 hBhB
  have g4:=hd13.cell g4 hBhB
  have g5:=hd13.cell g5 hBhB
  have g6:=hd13.cell g6 hBhB
  have q9:=hd13.2 B1 hB11 hBB
  have f0:=(World.frozen?_of_block (a:=⟨B1,0,none⟩) q9).trans f0
  have f1:=(World.frozen?_of_block (a:=⟨B1,1,none⟩) q9).trans f1
  have q0:=(World.cell?_of_block (a:=⟨B1,0,none⟩) q9).trans q0
  have q1:=(World.cell?_of_block (a:=⟨B1,1,none⟩) q9).trans q1
  have hs2:=hb2.size
  have hs3:w2.heap.size≤((w2.setCell ⟨B,0,none⟩ (.slice a4 b.length c4)).setCell ⟨B,1,none⟩ (.slice a5 ps.length c5)).heap.size:=by simp
  clear p0 p1 e0 e1 q9 hom hd3 hd13 hb0 hu0 hb1' hu1'
  generalize (w2.setCell ⟨B,0,none⟩ (.slice a4 b.length c4)).setCell ⟨B,1,none⟩ (.slice a5 ps.length c5)=w3 at *
  have hW3:W.heap.size≤w3.heap.size:=by omega
  have hB13:B1<w3.heap.size:=by omega
  have HOM:=Zh hom3
  have hd3:=HD.out.stays S3.below
  have hp3:=HP.out.stays S3.below
  clear hom3 hb1 hb2
  by_cases k1:k=1
  ·subst k1
   clear hk g1 g2
   have HE:Hid (doE (b,ps) (1,n,i,data,pr,need,of_)=zEK (b,ps) data pr need of_∧doC (b,ps) (1,n,i,data,pr,need,of_)=zD5 (b,ps) data pr need of_):=Zh ⟨by unfold doE;simp[h0],by unfold doC;simp[h0]⟩
   generalize hE:zEK (b,ps) data pr need of_=E at *
   generalize hC:zD5 (b,ps) data pr need of_=M at *
   have HC:=Zh (zOr _ _ _ _ b ps data pr need of_ w3 HOM.out.vers HOM.out.peers hd3 hp3 hne hof)
   rw[hE,hC] at HC
   clear hE hC
   go_wp2_with (go_at_call 43;go_fit HC.out;rintro e w4 ⟨⟨u1,u2,rfl,ho4⟩,hb4⟩;obtain ⟨a6,c6,rfl,_⟩:=ho4.vers.opened;obtain ⟨a7,c7,rfl,_⟩:=ho4.peers.opened;have f0:=zAE hb4 q0 f0;have f1:=zAE hb4 q1 f1;have q0:=zAA hb4 q0;have q1:=zAA hb4 q1)
   have S9:=((S3.step hb4).setCell (a:=⟨B1,0,none⟩) hBW1 (.slice a6 M.1.length c6)).setCell (a:=⟨B1,1,none⟩) hBW1 (.slice a7 M.2.length c7)
   have hd9:zAF (fun j=>j=B1) w4 ((w4.setCell ⟨B1,0,none⟩ (.slice a6 M.1.length c6)).setCell ⟨B1,1,none⟩ (.slice a7 M.2.length c7)):=(zAF.of_grown ((zAC w4 ⟨B1,0,none⟩ (.slice a6 M.1.length c6)).trans (zAC _ ⟨B1,1,none⟩ (.slice a7 M.2.length c7)))).mono fun j _ hj=>by cases hj;rfl
   have HO9:=Zh (((ho4.frame hd9 (fun k hk=>by rw[hk];exact ⟨hB13,hB13⟩)).less (Y:=fun k=>k<W.heap.size) (fun k hk=>by omega)).mono hW3)
   have v0:((w4.setCell ⟨B1,0,none⟩ (.slice a6 M.1.length c6)).setCell ⟨B1,1,none⟩ (.slice a7 M.2.length c7)).cell? ⟨B1,0,none⟩=some (.slice a6 M.1.length c6):=by go_simp
   have v1:((w4.setCell ⟨B1,0,none⟩ (.slice a6 M.1.length c6)).setCell ⟨B1,1,none⟩ (.slice a7 M.2.length c7)).cell? ⟨B1,1,none⟩=some (.slice a7 M.2.length c7):=by go_simp
   exact bodyPost_ret (v:=.tuple #[.agg #[.slice a6 M.1.length c6,.slice a7 M.2.length c7],.int .i64 E]) (by simp[results,Tryz.results20,go_sem,v0,v1]) rfl ⟨⟨_,_,zBM HE.out.1.symm,by rw[HE.out.2];exact HO9.out⟩,S9.below⟩
  ·by_cases k6:k=6
   ·subst k6
    clear hk k1 g2 g3 g4 g5 g6
    have HE:Hid (doE (b,ps) (6,n,i,data,pr,need,of_)=zBP (b,ps) n∧doC (b,ps) (6,n,i,data,pr,need,of_)=zBU (b,ps) n):=Zh ⟨by unfold doE;simp[h0],by unfold doC;simp[h0]⟩
    generalize hE:zBP (b,ps) n=E at *
    generalize hC:zBU (b,ps) n=M at *
    have HC:=Zh (zHc _ _ b ps n w3 HOM.out.vers HOM.out.peers hn)
    rw[hE,hC] at HC
    clear hE hC
    go_wp2_with (go_at_call 44;go_fit HC.out;rintro e w4 ⟨⟨u1,u2,rfl,ho4⟩,hb4⟩;obtain ⟨a6,c6,rfl,_⟩:=ho4.vers.opened;obtain ⟨a7,c7,rfl,_⟩:=ho4.peers.opened;have f0:=zAE hb4 q0 f0;have f1:=zAE hb4 q1 f1;have q0:=zAA hb4 q0;have q1:=zAA hb4 q1)
    have S9:=((S3.step hb4).setCell (a:=⟨B1,0,none⟩) hBW1 (.slice a6 M.1.length c6)).setCell (a:=⟨B1,1,none⟩) hBW1 (.slice a7 M.2.length c7)
    have hd9:zAF (fun j=>j=B1) w4 ((w4.setCell ⟨B1,0,none⟩ (.slice a6 M.1.length c6)).setCell ⟨B1,1,none⟩ (.slice a7 M.2.length c7)):=(zAF.of_grown ((zAC w4 ⟨B1,0,none⟩ (.slice a6 M.1.length c6)).trans (zAC _ ⟨B1,1,none⟩ (.slice a7 M.2.length c7)))).mono fun j _ hj=>by cases hj;rfl
    have HO9:=Zh (((ho4.frame hd9 (fun k hk=>by rw[hk];exact ⟨hB13,hB13⟩)).less (Y:=fun k=>k<W.heap.size) (fun k hk=>by omega)).mono hW3)
    have v0:((w4.setCell ⟨B1,0,none⟩ (.slice a6 M.1.length c6)).setCell ⟨B1,1,none⟩ (.slice a7 M.2.length c7)).cell? ⟨B1,0,none⟩=some (.slice a6 M.1.length c6):=by go_simp
    have v1:((w4.setCell ⟨B1,0,none⟩ (.slice a6 M.1.length c6)).setCell ⟨B1,1,none⟩ (.slice a7 M.2.length c7)).cell? ⟨B1,1,none⟩=some (.slice a7 M.2.length c7):=by go_simp
    exact bodyPost_ret (v:=.tuple #[.agg #[.slice a6 M.1.length c6,.slice a7 M.2.length c7],.int .i64 E]) (by simp[results,Tryz.results20,go_sem,v0,v1]) rfl ⟨⟨_,_,zBM HE.out.1.symm,by rw[HE.out.2];exact HO9.out⟩,S9.below⟩
   ·have b1:(k == 1)=false:=by simpa using k1
    have b6:(k == 6)=false:=by simpa using k6
    have b7:(k == 7)=false:=by simpa using hk
    clear g3 g4 g5 g6 hd3 hp3
    by_cases ko:k<2∨5<k
    ·have b2:(k == 2)=false:=by rw[beq_eq_false_iff_ne];omega
     have b3:(k == 3)=false:=by rw[beq_eq_false_iff_ne];omega
     have b4:(k == 4)=false:=by rw[beq_eq_false_iff_ne];omega
     have b5:(k == 5)=false:=by rw[beq_eq_false_iff_ne];omega
     have hE:doE (b,ps) (k,n,i,data,pr,need,of_)=3:=by unfold doE;simp[h0,k1,k6,hk,ko]
     have HE:Hid (doE (b,ps) (k,n,i,data,pr,need,of_)=3∧doC (b,ps) (k,n,i,data,pr,need,of_)=([],[])):=Zh ⟨hE,by unfold doC;rw[hE];simp[h0,k1,k6]⟩
     clear hE t0 t1
     have v0:((w3.setCell ⟨B1,0,none⟩ (.slice none 0 0)).setCell ⟨B1,1,none⟩ (.slice none 0 0)).cell? ⟨B1,0,none⟩=some (.slice none 0 0):=by go_simp
     have v1:((w3.setCell ⟨B1,0,none⟩ (.slice none 0 0)).setCell ⟨B1,1,none⟩ (.slice none 0 0)).cell? ⟨B1,1,none⟩=some (.slice none 0 0):=by go_simp
     have S9:=(S3.setCell (a:=⟨B1,0,none⟩) hBW1 (.slice none 0 0)).setCell (a:=⟨B1,1,none⟩) hBW1 (.slice none 0 0)
     go_wp2_with fail
     exact bodyPost_ret (v:=.tuple #[.agg #[.slice none 0 0,.slice none 0 0],.int .i64 3]) (by simp[results,Tryz.results20,go_sem,v0,v1]) rfl ⟨⟨_,_,zBM HE.out.1.symm,by rw[HE.out.2];exact zCl.nil _ _ _⟩,S9.below⟩
    ·have ho4:k=2∨k=3∨k=4∨k=5:=by omega
     clear b1 b6 b7 k1 k6 hk ko h0
     rcases ho4 with rfl|rfl|rfl|rfl
     ·go_upto_region 17 with fail
      by_cases hn0:n<0
      ·have hE:doE (b,ps) (2,n,i,data,pr,need,of_)=4:=by unfold doE;simp[H0.out,hn0]
       have HE:Hid (doE (b,ps) (2,n,i,data,pr,need,of_)=4∧doC (b,ps) (2,n,i,data,pr,need,of_)=([],[])):=Zh ⟨hE,by unfold doC;rw[hE];simp[H0.out]⟩
       clear hE
       clear t0 t1
       have v0:((w3.setCell ⟨B1,0,none⟩ (.slice none 0 0)).setCell ⟨B1,1,none⟩ (.slice none 0 0)).cell? ⟨B1,0,none⟩=some (.slice none 0 0):=by go_simp
       have v1:((w3.setCell ⟨B1,0,none⟩ (.slice none 0 0)).setCell ⟨B1,1,none⟩ (.slice none 0 0)).cell? ⟨B1,1,none⟩=some (.slice none 0 0):=by go_simp
       have S9:=(S3.setCell (a:=⟨B1,0,none⟩) hBW1 (.slice none 0 0)).setCell (a:=⟨B1,1,none⟩) hBW1 (.slice none 0 0)
       go_wp2_with fail
       exact bodyPost_ret (v:=.tuple #[.agg #[.slice none 0 0,.slice none 0 0],.int .i64 4]) (by simp[results,Tryz.results20,go_sem,v0,v1]) rfl ⟨⟨_,_,zBM HE.out.1.symm,by rw[HE.out.2];exact zCl.nil _ _ _⟩,S9.below⟩
      ·by_cases hnl:(ps.length:Int)≤n
       ·have hE:doE (b,ps) (2,n,i,data,pr,need,of_)=4:=by unfold doE;simp[H0.out,hnl]
        have HE:Hid (doE (b,ps) (2,n,i,data,pr,need,of_)=4∧doC (b,ps) (2,n,i,data,pr,need,of_)=([],[])):=Zh ⟨hE,by unfold doC;rw[hE];simp[H0.out]⟩
        clear hE
        clear t0
        have v0:((w3.setCell ⟨B1,0,none⟩ (.slice none 0 0)).setCell ⟨B1,1,none⟩ (.slice none 0 0)).cell? ⟨B1,0,none⟩=some (.slice none 0 0):=by go_simp
        have v1:((w3.setCell ⟨B1,0,none⟩ (.slice none 0 0)).setCell ⟨B1,1,none⟩ (.slice none 0 0)).cell? ⟨B1,1,none⟩=some (.slice none 0 0):=by go_simp
        have S9:=(S3.setCell (a:=⟨B1,0,none⟩) hBW1 (.slice none 0 0)).setCell (a:=⟨B1,1,none⟩) hBW1 (.slice none 0 0)
        go_wp2_with fail
        exact bodyPost_ret (v:=.tuple #[.agg #[.slice none 0 0,.slice none 0 0],.int .i64 4]) (by simp[results,Tryz.results20,go_sem,v0,v1]) rfl ⟨⟨_,_,zBM HE.out.1.symm,by rw[HE.out.2];exact zCl.nil _ _ _⟩,S9.below⟩
       ·have hdn:¬(n<0∨(ps.length:Int)≤n):=by omega
        obtain ⟨nn,rfl⟩:=Int.eq_ofNat_of_zero_le (show 0≤n by omega)
        have hnp:nn<ps.length:=by omega
        have hget:=List.getElem?_eq_getElem hnp
        obtain ⟨g,cap,uu,cu,ev,hg1,hg2,c0,c1,c2,hkp,jr,fz,hset,hnil⟩:=HOM.out.toT.peer (k:=nn) (p:=ps[nn]) hget
        simp only[Value.slice.injEq] at ev
        obtain ⟨rfl,hq9,rfl⟩:=ev
        clear hq9
        have HVL:=Zh (fun x (hx:x∈ps[nn].2.2)=>zFN (hPK.out _ (List.getElem_mem hnp)) hx)
        have HAT:Hid (atP (nn:Int) ps=ps[nn]):=Zh (zGd hget)
        have HSP:Hid (∀f,zTX (nn:Int) ps f=ps.set nn (f ps[nn])):=Zh (fun f=>zE8 hget f)
        have HGT:=Zh hget
        clear hget
        generalize ps[nn]=p at *
        obtain ⟨t,r,ks⟩:=p
        simp only at c0 c1 c2 hkp jr hset hnil
        have hBg:B≠g:=by omega
        have hB1g:B1≠g:=by omega
        have hnc0:¬((nn:Int)<0):=by omega
        cases t with
        | true =>
         have hE:doE (b,ps) (2,(nn:Int),i,data,pr,need,of_)=0:=by unfold doE;simp[H0.out,HAT.out];omega
         have HE:Hid (doE (b,ps) (2,(nn:Int),i,data,pr,need,of_)=0∧doC (b,ps) (2,(nn:Int),i,data,pr,need,of_)=(b,ps.set nn (false,r,ks))):=Zh ⟨hE,by unfold doC;rw[hE];simp[H0.out,HSP.out]⟩
         clear hE
         go_upto_region 23 with (go_quiet (fail))
         have BN:Below w3.heap.size w3 (w3.drewN nq):=(zBL (zAD.refl w3) nq).below
         have f0:=zAE BN q0 f0
         have f1:=zAE BN q1 f1
         have q0:=zAA BN q0
         have q1:=zAA BN q1
         have t0:=zAA BN t0
         have t1:=zAA BN t1
         have g0:=zAA BN g0
         have S4:=S3.step BN
         have HT4:=Zh (HOM.out.toT.stays BN)
         have hs4:=BN.size
         clear BN hset hnil fz c0 c1 c2 hkp
         generalize w3.drewN nq=w4 at *
         obtain ⟨g',cap',uu',cu',ev',hg1',_,d0,d1,d2,_,_,fz',hset',_⟩:=HT4.out.peer (k:=nn) HGT.out
         simp only[Value.slice.injEq,Option.some.injEq,Addr.mk.injEq] at ev'
         obtain ⟨⟨rfl,hq9⟩,hq8,hq7⟩:=ev'
         clear hq9 hq8 hq7
         have HOWN:=Zh (hset' false)
         have f9:=fz' (nn*3)
         have S5:=S4.setCell (a:=⟨g,nn*3,none⟩) (show W.heap.size≤g by omega) (.bool false)
         have x0:(w4.setCell ⟨g,nn*3,none⟩ (.bool false)).cell? ⟨B,0,none⟩=some (.slice a4 b.length c4):=(zAI _ _ _ _ hBg).trans t0
         have x1:(w4.setCell ⟨g,nn*3,none⟩ (.bool false)).cell? ⟨B,1,none⟩=some (.slice (some ⟨g,0,none⟩) ps.length c5):=(zAI _ _ _ _ hBg).trans t1
         have y0:(w4.setCell ⟨g,nn*3,none⟩ (.bool false)).cell? ⟨B1,0,none⟩=some (.slice none 0 0):=(zAI _ _ _ _ hB1g).trans q0
         have y1:(w4.setCell ⟨g,nn*3,none⟩ (.bool false)).cell? ⟨B1,1,none⟩=some (.slice none 0 0):=(zAI _ _ _ _ hB1g).trans q1
         have y2:(w4.setCell ⟨g,nn*3,none⟩ (.bool false)).frozen? ⟨B1,0,none⟩=false:=by rw[World.frozen?_setCell];exact f0
         have y3:(w4.setCell ⟨g,nn*3,none⟩ (.bool false)).frozen? ⟨B1,1,none⟩=false:=by rw[World.frozen?_setCell];exact f1
         have hs5:w4.heap.size≤(w4.setCell ⟨g,nn*3,none⟩ (.bool false)).heap.size:=by simp
         clear hset' fz'
         go_upto_region 28 with fail
         clear t0 t1 q0 q1 f0 f1 d0 d1 d2 f9 g0
         generalize w4.setCell ⟨g,nn*3,none⟩ (.bool false)=w5 at *
         have r0:((w5.setCell ⟨B1,0,none⟩ (.slice a4 b.length c4)).setCell ⟨B1,1,none⟩ (.slice (some ⟨g,0,none⟩) ps.length c5)).cell? ⟨B1,0,none⟩=some (.slice a4 b.length c4):=by go_simp
         have r1:((w5.setCell ⟨B1,0,none⟩ (.slice a4 b.length c4)).setCell ⟨B1,1,none⟩ (.slice (some ⟨g,0,none⟩) ps.length c5)).cell? ⟨B1,1,none⟩=some (.slice (some ⟨g,0,none⟩) ps.length c5):=by go_simp
         have hd9:zAF (fun j=>j=B1) w5 ((w5.setCell ⟨B1,0,none⟩ (.slice a4 b.length c4)).setCell ⟨B1,1,none⟩ (.slice (some ⟨g,0,none⟩) ps.length c5)):=(zAF.of_grown ((zAC w5 ⟨B1,0,none⟩ (.slice a4 b.length c4)).trans (zAC _ ⟨B1,1,none⟩ (.slice (some ⟨g,0,none⟩) ps.length c5)))).mono fun j _ hj=>by cases hj;rfl
         have S9:=(S5.setCell (a:=⟨B1,0,none⟩) hBW1 (.slice a4 b.length c4)).setCell (a:=⟨B1,1,none⟩) hBW1 (.slice (some ⟨g,0,none⟩) ps.length c5)
         have HO9:=Zh (((HOWN.out.frame hd9 (fun k hk=>Or.inl (by rw[hk];exact ⟨hB11,hB11⟩))).own.less (Y:=fun k=>k<W.heap.size) (fun k hk=>by omega)).mono hW1)
         go_wp2_with fail
         exact bodyPost_ret (v:=.tuple #[.agg #[.slice a4 b.length c4,.slice (some ⟨g,0,none⟩) ps.length c5],.int .i64 0]) (by simp[results,Tryz.results20,go_sem,r0,r1]) rfl ⟨⟨_,_,zBM HE.out.1.symm,by rw[HE.out.2];exact HO9.out⟩,S9.below⟩
        | false =>
         have hE:doE (b,ps) (2,(nn:Int),i,data,pr,need,of_)=6:=by unfold doE;simp[H0.out,HAT.out];omega
         have HE:Hid (doE (b,ps) (2,(nn:Int),i,data,pr,need,of_)=6∧doC (b,ps) (2,(nn:Int),i,data,pr,need,of_)=([],[])):=Zh ⟨hE,by unfold doC;rw[hE];simp[H0.out]⟩
         clear hE
         go_upto_region 22 with (go_quiet (fail))
         have BN:Below w3.heap.size w3 (w3.drewN nq):=(zBL (zAD.refl w3) nq).below
         have f0:=zAE BN q0 f0
         have f1:=zAE BN q1 f1
         have q0:=zAA BN q0
         have q1:=zAA BN q1
         have t0:=zAA BN t0
         have t1:=zAA BN t1
         have g0:=zAA BN g0
         have S4:=S3.step BN
         have HT4:=Zh (HOM.out.toT.stays BN)
         have hs4:=BN.size
         clear BN hset hnil fz c0 c1 c2 hkp
         generalize w3.drewN nq=w4 at *
         clear t0 t1
         have v0:((w4.setCell ⟨B1,0,none⟩ (.slice none 0 0)).setCell ⟨B1,1,none⟩ (.slice none 0 0)).cell? ⟨B1,0,none⟩=some (.slice none 0 0):=by go_simp
         have v1:((w4.setCell ⟨B1,0,none⟩ (.slice none 0 0)).setCell ⟨B1,1,none⟩ (.slice none 0 0)).cell? ⟨B1,1,none⟩=some (.slice none 0 0):=by go_simp
         have S9:=(S4.setCell (a:=⟨B1,0,none⟩) hBW1 (.slice none 0 0)).setCell (a:=⟨B1,1,none⟩) hBW1 (.slice none 0 0)
         go_wp2_with fail
         exact bodyPost_ret (v:=.tuple #[.agg #[.slice none 0 0,.slice none 0 0],.int .i64 6]) (by simp[results,Tryz.results20,go_sem,v0,v1]) rfl ⟨⟨_,_,zBM HE.out.1.symm,by rw[HE.out.2];exact zCl.nil _ _ _⟩,S9.below⟩
     ·go_upto_region 17 with fail
      by_cases hn0:n<0
      ·have hE:doE (b,ps) (3,n,i,data,pr,need,of_)=4:=by unfold doE;simp[H0.out,hn0]
       have HE:Hid (doE (b,ps) (3,n,i,data,pr,need,of_)=4∧doC (b,ps) (3,n,i,data,pr,need,of_)=([],[])):=Zh ⟨hE,by unfold doC;rw[hE];simp[H0.out]⟩
       clear hE
       clear t0 t1
       have v0:((w3.setCell ⟨B1,0,none⟩ (.slice none 0 0)).setCell ⟨B1,1,none⟩ (.slice none 0 0)).cell? ⟨B1,0,none⟩=some (.slice none 0 0):=by go_simp
       have v1:((w3.setCell ⟨B1,0,none⟩ (.slice none 0 0)).setCell ⟨B1,1,none⟩ (.slice none 0 0)).cell? ⟨B1,1,none⟩=some (.slice none 0 0):=by go_simp
       have S9:=(S3.setCell (a:=⟨B1,0,none⟩) hBW1 (.slice none 0 0)).setCell (a:=⟨B1,1,none⟩) hBW1 (.slice none 0 0)
       go_wp2_with fail
       exact bodyPost_ret (v:=.tuple #[.agg #[.slice none 0 0,.slice none 0 0],.int .i64 4]) (by simp[results,Tryz.results20,go_sem,v0,v1]) rfl ⟨⟨_,_,zBM HE.out.1.symm,by rw[HE.out.2];exact zCl.nil _ _ _⟩,S9.below⟩
      ·by_cases hnl:(ps.length:Int)≤n
       ·have hE:doE (b,ps) (3,n,i,data,pr,need,of_)=4:=by unfold doE;simp[H0.out,hnl]
        have HE:Hid (doE (b,ps) (3,n,i,data,pr,need,of_)=4∧doC (b,ps) (3,n,i,data,pr,need,of_)=([],[])):=Zh ⟨hE,by unfold doC;rw[hE];simp[H0.out]⟩
        clear hE
        clear t0
        have v0:((w3.setCell ⟨B1,0,none⟩ (.slice none 0 0)).setCell ⟨B1,1,none⟩ (.slice none 0 0)).cell? ⟨B1,0,none⟩=some (.slice none 0 0):=by go_simp
        have v1:((w3.setCell ⟨B1,0,none⟩ (.slice none 0 0)).setCell ⟨B1,1,none⟩ (.slice none 0 0)).cell? ⟨B1,1,none⟩=some (.slice none 0 0):=by go_simp
        have S9:=(S3.setCell (a:=⟨B1,0,none⟩) hBW1 (.slice none 0 0)).setCell (a:=⟨B1,1,none⟩) hBW1 (.slice none 0 0)
        go_wp2_with fail
        exact bodyPost_ret (v:=.tuple #[.agg #[.slice none 0 0,.slice none 0 0],.int .i64 4]) (by simp[results,Tryz.results20,go_sem,v0,v1]) rfl ⟨⟨_,_,zBM HE.out.1.symm,by rw[HE.out.2];exact zCl.nil _ _ _⟩,S9.below⟩
       ·have hdn:¬(n<0∨(ps.length:Int)≤n):=by omega
        obtain ⟨nn,rfl⟩:=Int.eq_ofNat_of_zero_le (show 0≤n by omega)
        have hnp:nn<ps.length:=by omega
        have hget:=List.getElem?_eq_getElem hnp
        obtain ⟨g,cap,uu,cu,ev,hg1,hg2,c0,c1,c2,hkp,jr,fz,hset,hnil⟩:=HOM.out.toT.peer (k:=nn) (p:=ps[nn]) hget
        simp only[Value.slice.injEq] at ev
        obtain ⟨rfl,hq9,rfl⟩:=ev
        clear hq9
        have HVL:=Zh (fun x (hx:x∈ps[nn].2.2)=>zFN (hPK.out _ (List.getElem_mem hnp)) hx)
        have HAT:Hid (atP (nn:Int) ps=ps[nn]):=Zh (zGd hget)
        have HSP:Hid (∀f,zTX (nn:Int) ps f=ps.set nn (f ps[nn])):=Zh (fun f=>zE8 hget f)
        have HGT:=Zh hget
        clear hget
        generalize ps[nn]=p at *
        obtain ⟨t,r,ks⟩:=p
        simp only at c0 c1 c2 hkp jr hset hnil
        have hBg:B≠g:=by omega
        have hB1g:B1≠g:=by omega
        have hnc0:¬((nn:Int)<0):=by omega
        cases t with
        | true =>
         have hE:doE (b,ps) (3,(nn:Int),i,data,pr,need,of_)=6:=by unfold doE;simp[H0.out,HAT.out];omega
         have HE:Hid (doE (b,ps) (3,(nn:Int),i,data,pr,need,of_)=6∧doC (b,ps) (3,(nn:Int),i,data,pr,need,of_)=([],[])):=Zh ⟨hE,by unfold doC;rw[hE];simp[H0.out]⟩
         clear hE
         go_upto_region 22 with (go_quiet (fail))
         have BN:Below w3.heap.size w3 (w3.drewN nq):=(zBL (zAD.refl w3) nq).below
         have f0:=zAE BN q0 f0
         have f1:=zAE BN q1 f1
         have q0:=zAA BN q0
         have q1:=zAA BN q1
         have t0:=zAA BN t0
         have t1:=zAA BN t1
         have g0:=zAA BN g0
         have S4:=S3.step BN
         have HT4:=Zh (HOM.out.toT.stays BN)
         have hs4:=BN.size
         clear BN hset hnil fz c0 c1 c2 hkp
         generalize w3.drewN nq=w4 at *
         clear t0 t1
         have v0:((w4.setCell ⟨B1,0,none⟩ (.slice none 0 0)).setCell ⟨B1,1,none⟩ (.slice none 0 0)).cell? ⟨B1,0,none⟩=some (.slice none 0 0):=by go_simp
         have v1:((w4.setCell ⟨B1,0,none⟩ (.slice none 0 0)).setCell ⟨B1,1,none⟩ (.slice none 0 0)).cell? ⟨B1,1,none⟩=some (.slice none 0 0):=by go_simp
         have S9:=(S4.setCell (a:=⟨B1,0,none⟩) hBW1 (.slice none 0 0)).setCell (a:=⟨B1,1,none⟩) hBW1 (.slice none 0 0)
         go_wp2_with fail
         exact bodyPost_ret (v:=.tuple #[.agg #[.slice none 0 0,.slice none 0 0],.int .i64 6]) (by simp[results,Tryz.results20,go_sem,v0,v1]) rfl ⟨⟨_,_,zBM HE.out.1.symm,by rw[HE.out.2];exact zCl.nil _ _ _⟩,S9.below⟩
        | false =>
         have hE:doE (b,ps) (3,(nn:Int),i,data,pr,need,of_)=0:=by unfold doE;simp[H0.out,HAT.out];omega
         have HE:Hid (doE (b,ps) (3,(nn:Int),i,data,pr,need,of_)=0∧doC (b,ps) (3,(nn:Int),i,data,pr,need,of_)=(b,ps.set nn (true,r,ks))):=Zh ⟨hE,by unfold doC;rw[hE];simp[H0.out,HSP.out]⟩
         clear hE
         go_upto_region 23 with (go_quiet (fail))
         have BN:Below w3.heap.size w3 (w3.drewN nq):=(zBL (zAD.refl w3) nq).below
         have f0:=zAE BN q0 f0
         have f1:=zAE BN q1 f1
         have q0:=zAA BN q0
         have q1:=zAA BN q1
         have t0:=zAA BN t0
         have t1:=zAA BN t1
         have g0:=zAA BN g0
         have S4:=S3.step BN
         have HT4:=Zh (HOM.out.toT.stays BN)
         have hs4:=BN.size
         clear BN hset hnil fz c0 c1 c2 hkp
         generalize w3.drewN nq=w4 at *
         obtain ⟨g',cap',uu',cu',ev',hg1',_,d0,d1,d2,_,_,fz',hset',_⟩:=HT4.out.peer (k:=nn) HGT.out
         simp only[Value.slice.injEq,Option.some.injEq,Addr.mk.injEq] at ev'
         obtain ⟨⟨rfl,hq9⟩,hq8,hq7⟩:=ev'
         clear hq9 hq8 hq7
         have HOWN:=Zh (hset' true)
         have f9:=fz' (nn*3)
         have S5:=S4.setCell (a:=⟨g,nn*3,none⟩) (show W.heap.size≤g by omega) (.bool true)
         have x0:(w4.setCell ⟨g,nn*3,none⟩ (.bool true)).cell? ⟨B,0,none⟩=some (.slice a4 b.length c4):=(zAI _ _ _ _ hBg).trans t0
         have x1:(w4.setCell ⟨g,nn*3,none⟩ (.bool true)).cell? ⟨B,1,none⟩=some (.slice (some ⟨g,0,none⟩) ps.length c5):=(zAI _ _ _ _ hBg).trans t1
         have y0:(w4.setCell ⟨g,nn*3,none⟩ (.bool true)).cell? ⟨B1,0,none⟩=some (.slice none 0 0):=(zAI _ _ _ _ hB1g).trans q0
         have y1:(w4.setCell ⟨g,nn*3,none⟩ (.bool true)).cell? ⟨B1,1,none⟩=some (.slice none 0 0):=(zAI _ _ _ _ hB1g).trans q1
         have y2:(w4.setCell ⟨g,nn*3,none⟩ (.bool true)).frozen? ⟨B1,0,none⟩=false:=by rw[World.frozen?_setCell];exact f0
         have y3:(w4.setCell ⟨g,nn*3,none⟩ (.bool true)).frozen? ⟨B1,1,none⟩=false:=by rw[World.frozen?_setCell];exact f1
         have hs5:w4.heap.size≤(w4.setCell ⟨g,nn*3,none⟩ (.bool true)).heap.size:=by simp
         clear hset' fz'
         go_upto_region 28 with fail
         clear t0 t1 q0 q1 f0 f1 d0 d1 d2 f9 g0
         generalize w4.setCell ⟨g,nn*3,none⟩ (.bool true)=w5 at *
         have r0:((w5.setCell ⟨B1,0,none⟩ (.slice a4 b.length c4)).setCell ⟨B1,1,none⟩ (.slice (some ⟨g,0,none⟩) ps.length c5)).cell? ⟨B1,0,none⟩=some (.slice a4 b.length c4):=by go_simp
         have r1:((w5.setCell ⟨B1,0,none⟩ (.slice a4 b.length c4)).setCell ⟨B1,1,none⟩ (.slice (some ⟨g,0,none⟩) ps.length c5)).cell? ⟨B1,1,none⟩=some (.slice (some ⟨g,0,none⟩) ps.length c5):=by go_simp
         have hd9:zAF (fun j=>j=B1) w5 ((w5.setCell ⟨B1,0,none⟩ (.slice a4 b.length c4)).setCell ⟨B1,1,none⟩ (.slice (some ⟨g,0,none⟩) ps.length c5)):=(zAF.of_grown ((zAC w5 ⟨B1,0,none⟩ (.slice a4 b.length c4)).trans (zAC _ ⟨B1,1,none⟩ (.slice (some ⟨g,0,none⟩) ps.length c5)))).mono fun j _ hj=>by cases hj;rfl
         have S9:=(S5.setCell (a:=⟨B1,0,none⟩) hBW1 (.slice a4 b.length c4)).setCell (a:=⟨B1,1,none⟩) hBW1 (.slice (some ⟨g,0,none⟩) ps.length c5)
         have HO9:=Zh (((HOWN.out.frame hd9 (fun k hk=>Or.inl (by rw[hk];exact ⟨hB11,hB11⟩))).own.less (Y:=fun k=>k<W.heap.size) (fun k hk=>by omega)).mono hW1)
         go_wp2_with fail
         exact bodyPost_ret (v:=.tuple #[.agg #[.slice a4 b.length c4,.slice (some ⟨g,0,none⟩) ps.length c5],.int .i64 0]) (by simp[results,Tryz.results20,go_sem,r0,r1]) rfl ⟨⟨_,_,zBM HE.out.1.symm,by rw[HE.out.2];exact HO9.out⟩,S9.below⟩
     ·go_upto_region 17 with fail
      by_cases hn0:n<0
      ·have hE:doE (b,ps) (4,n,i,data,pr,need,of_)=4:=by unfold doE;simp[H0.out,hn0]
       have HE:Hid (doE (b,ps) (4,n,i,data,pr,need,of_)=4∧doC (b,ps) (4,n,i,data,pr,need,of_)=([],[])):=Zh ⟨hE,by unfold doC;rw[hE];simp[H0.out]⟩
       clear hE
       clear t0 t1
       have v0:((w3.setCell ⟨B1,0,none⟩ (.slice none 0 0)).setCell ⟨B1,1,none⟩ (.slice none 0 0)).cell? ⟨B1,0,none⟩=some (.slice none 0 0):=by go_simp
       have v1:((w3.setCell ⟨B1,0,none⟩ (.slice none 0 0)).setCell ⟨B1,1,none⟩ (.slice none 0 0)).cell? ⟨B1,1,none⟩=some (.slice none 0 0):=by go_simp
       have S9:=(S3.setCell (a:=⟨B1,0,none⟩) hBW1 (.slice none 0 0)).setCell (a:=⟨B1,1,none⟩) hBW1 (.slice none 0 0)
       go_wp2_with fail
       exact bodyPost_ret (v:=.tuple #[.agg #[.slice none 0 0,.slice none 0 0],.int .i64 4]) (by simp[results,Tryz.results20,go_sem,v0,v1]) rfl ⟨⟨_,_,zBM HE.out.1.symm,by rw[HE.out.2];exact zCl.nil _ _ _⟩,S9.below⟩
      ·by_cases hnl:(ps.length:Int)≤n
       ·have hE:doE (b,ps) (4,n,i,data,pr,need,of_)=4:=by unfold doE;simp[H0.out,hnl]
        have HE:Hid (doE (b,ps) (4,n,i,data,pr,need,of_)=4∧doC (b,ps) (4,n,i,data,pr,need,of_)=([],[])):=Zh ⟨hE,by unfold doC;rw[hE];simp[H0.out]⟩
        clear hE
        clear t0
        have v0:((w3.setCell ⟨B1,0,none⟩ (.slice none 0 0)).setCell ⟨B1,1,none⟩ (.slice none 0 0)).cell? ⟨B1,0,none⟩=some (.slice none 0 0):=by go_simp
        have v1:((w3.setCell ⟨B1,0,none⟩ (.slice none 0 0)).setCell ⟨B1,1,none⟩ (.slice none 0 0)).cell? ⟨B1,1,none⟩=some (.slice none 0 0):=by go_simp
        have S9:=(S3.setCell (a:=⟨B1,0,none⟩) hBW1 (.slice none 0 0)).setCell (a:=⟨B1,1,none⟩) hBW1 (.slice none 0 0)
        go_wp2_with fail
        exact bodyPost_ret (v:=.tuple #[.agg #[.slice none 0 0,.slice none 0 0],.int .i64 4]) (by simp[results,Tryz.results20,go_sem,v0,v1]) rfl ⟨⟨_,_,zBM HE.out.1.symm,by rw[HE.out.2];exact zCl.nil _ _ _⟩,S9.below⟩
       ·have hdn:¬(n<0∨(ps.length:Int)≤n):=by omega
        obtain ⟨nn,rfl⟩:=Int.eq_ofNat_of_zero_le (show 0≤n by omega)
        have hnp:nn<ps.length:=by omega
        have hget:=List.getElem?_eq_getElem hnp
        obtain ⟨g,cap,uu,cu,ev,hg1,hg2,c0,c1,c2,hkp,jr,fz,hset,hnil⟩:=HOM.out.toT.peer (k:=nn) (p:=ps[nn]) hget
        simp only[Value.slice.injEq] at ev
        obtain ⟨rfl,hq9,rfl⟩:=ev
        clear hq9
        have HVL:=Zh (fun x (hx:x∈ps[nn].2.2)=>zFN (hPK.out _ (List.getElem_mem hnp)) hx)
        have HAT:Hid (atP (nn:Int) ps=ps[nn]):=Zh (zGd hget)
        have HSP:Hid (∀f,zTX (nn:Int) ps f=ps.set nn (f ps[nn])):=Zh (fun f=>zE8 hget f)
        have HGT:=Zh hget
        clear hget
        generalize ps[nn]=p at *
        obtain ⟨t,r,ks⟩:=p
        simp only at c0 c1 c2 hkp jr hset hnil
        have hBg:B≠g:=by omega
        have hB1g:B1≠g:=by omega
        have hE:doE (b,ps) (4,(nn:Int),i,data,pr,need,of_)=0:=by unfold doE;simp[H0.out];omega
        have HE:Hid (doE (b,ps) (4,(nn:Int),i,data,pr,need,of_)=0∧doC (b,ps) (4,(nn:Int),i,data,pr,need,of_)=(b,ps.set nn (t,r,[]))):=Zh ⟨hE,by unfold doC;rw[hE];simp[H0.out,HSP.out]⟩
        clear hE
        have HOWN:=Zh hnil
        have S5:=S3.setCell (a:=⟨g,nn*3+2,none⟩) (show W.heap.size≤g by omega) (.slice none 0 0)
        have f9:=fz (nn*3+2)
        have x0:(w3.setCell ⟨g,nn*3+2,none⟩ (.slice none 0 0)).cell? ⟨B,0,none⟩=some (.slice a4 b.length c4):=(zAI _ _ _ _ hBg).trans t0
        have x1:(w3.setCell ⟨g,nn*3+2,none⟩ (.slice none 0 0)).cell? ⟨B,1,none⟩=some (.slice (some ⟨g,0,none⟩) ps.length c5):=(zAI _ _ _ _ hBg).trans t1
        have y0:(w3.setCell ⟨g,nn*3+2,none⟩ (.slice none 0 0)).cell? ⟨B1,0,none⟩=some (.slice none 0 0):=(zAI _ _ _ _ hB1g).trans q0
        have y1:(w3.setCell ⟨g,nn*3+2,none⟩ (.slice none 0 0)).cell? ⟨B1,1,none⟩=some (.slice none 0 0):=(zAI _ _ _ _ hB1g).trans q1
        have y2:(w3.setCell ⟨g,nn*3+2,none⟩ (.slice none 0 0)).frozen? ⟨B1,0,none⟩=false:=by rw[World.frozen?_setCell];exact f0
        have y3:(w3.setCell ⟨g,nn*3+2,none⟩ (.slice none 0 0)).frozen? ⟨B1,1,none⟩=false:=by rw[World.frozen?_setCell];exact f1
        have hs5:w3.heap.size≤(w3.setCell ⟨g,nn*3+2,none⟩ (.slice none 0 0)).heap.size:=by simp
        clear hset hnil fz
        go_upto_region 28 with fail
        clear t0 t1 q0 q1 f0 f1 c0 c1 c2 f9 g0 g1 g2
        generalize w3.setCell ⟨g,nn*3+2,none⟩ (.slice none 0 0)=w5 at *
        have r0:((w5.setCell ⟨B1,0,none⟩ (.slice a4 b.length c4)).setCell ⟨B1,1,none⟩ (.slice (some ⟨g,0,none⟩) ps.length c5)).cell? ⟨B1,0,none⟩=some (.slice a4 b.length c4):=by go_simp
        have r1:((w5.setCell ⟨B1,0,none⟩ (.slice a4 b.length c4)).setCell ⟨B1,1,none⟩ (.slice (some ⟨g,0,none⟩) ps.length c5)).cell? ⟨B1,1,none⟩=some (.slice (some ⟨g,0,none⟩) ps.length c5):=by go_simp
        have hd9:zAF (fun j=>j=B1) w5 ((w5.setCell ⟨B1,0,none⟩ (.slice a4 b.length c4)).setCell ⟨B1,1,none⟩ (.slice (some ⟨g,0,none⟩) ps.length c5)):=(zAF.of_grown ((zAC w5 ⟨B1,0,none⟩ (.slice a4 b.length c4)).trans (zAC _ ⟨B1,1,none⟩ (.slice (some ⟨g,0,none⟩) ps.length c5)))).mono fun j _ hj=>by cases hj;rfl
        have S9:=(S5.setCell (a:=⟨B1,0,none⟩) hBW1 (.slice a4 b.length c4)).setCell (a:=⟨B1,1,none⟩) hBW1 (.slice (some ⟨g,0,none⟩) ps.length c5)
        have HO9:=Zh (((HOWN.out.frame hd9 (fun k hk=>Or.inl (by rw[hk];exact ⟨hB11,hB11⟩))).own.less (Y:=fun k=>k<W.heap.size) (fun k hk=>by omega)).mono hW1)
        go_wp2_with fail
        exact bodyPost_ret (v:=.tuple #[.agg #[.slice a4 b.length c4,.slice (some ⟨g,0,none⟩) ps.length c5],.int .i64 0]) (by simp[results,Tryz.results20,go_sem,r0,r1]) rfl ⟨⟨_,_,zBM HE.out.1.symm,by rw[HE.out.2];exact HO9.out⟩,S9.below⟩
     ·go_upto_region 17 with fail
      by_cases hn0:n<0
      ·have hE:doE (b,ps) (5,n,i,data,pr,need,of_)=4:=by unfold doE;simp[H0.out,hn0]
       have HE:Hid (doE (b,ps) (5,n,i,data,pr,need,of_)=4∧doC (b,ps) (5,n,i,data,pr,need,of_)=([],[])):=Zh ⟨hE,by unfold doC;rw[hE];simp[H0.out]⟩
       clear hE
       clear t0 t1
       have v0:((w3.setCell ⟨B1,0,none⟩ (.slice none 0 0)).setCell ⟨B1,1,none⟩ (.slice none 0 0)).cell? ⟨B1,0,none⟩=some (.slice none 0 0):=by go_simp
       have v1:((w3.setCell ⟨B1,0,none⟩ (.slice none 0 0)).setCell ⟨B1,1,none⟩ (.slice none 0 0)).cell? ⟨B1,1,none⟩=some (.slice none 0 0):=by go_simp
       have S9:=(S3.setCell (a:=⟨B1,0,none⟩) hBW1 (.slice none 0 0)).setCell (a:=⟨B1,1,none⟩) hBW1 (.slice none 0 0)
       go_wp2_with fail
       exact bodyPost_ret (v:=.tuple #[.agg #[.slice none 0 0,.slice none 0 0],.int .i64 4]) (by simp[results,Tryz.results20,go_sem,v0,v1]) rfl ⟨⟨_,_,zBM HE.out.1.symm,by rw[HE.out.2];exact zCl.nil _ _ _⟩,S9.below⟩
      ·by_cases hnl:(ps.length:Int)≤n
       ·have hE:doE (b,ps) (5,n,i,data,pr,need,of_)=4:=by unfold doE;simp[H0.out,hnl]
        have HE:Hid (doE (b,ps) (5,n,i,data,pr,need,of_)=4∧doC (b,ps) (5,n,i,data,pr,need,of_)=([],[])):=Zh ⟨hE,by unfold doC;rw[hE];simp[H0.out]⟩
        clear hE
        clear t0
        have v0:((w3.setCell ⟨B1,0,none⟩ (.slice none 0 0)).setCell ⟨B1,1,none⟩ (.slice none 0 0)).cell? ⟨B1,0,none⟩=some (.slice none 0 0):=by go_simp
        have v1:((w3.setCell ⟨B1,0,none⟩ (.slice none 0 0)).setCell ⟨B1,1,none⟩ (.slice none 0 0)).cell? ⟨B1,1,none⟩=some (.slice none 0 0):=by go_simp
        have S9:=(S3.setCell (a:=⟨B1,0,none⟩) hBW1 (.slice none 0 0)).setCell (a:=⟨B1,1,none⟩) hBW1 (.slice none 0 0)
        go_wp2_with fail
        exact bodyPost_ret (v:=.tuple #[.agg #[.slice none 0 0,.slice none 0 0],.int .i64 4]) (by simp[results,Tryz.results20,go_sem,v0,v1]) rfl ⟨⟨_,_,zBM HE.out.1.symm,by rw[HE.out.2];exact zCl.nil _ _ _⟩,S9.below⟩
       ·have hdn:¬(n<0∨(ps.length:Int)≤n):=by omega
        obtain ⟨nn,rfl⟩:=Int.eq_ofNat_of_zero_le (show 0≤n by omega)
        have hnp:nn<ps.length:=by omega
        have hget:=List.getElem?_eq_getElem hnp
        obtain ⟨g,cap,uu,cu,ev,hg1,hg2,c0,c1,c2,hkp,jr,fz,hset,hnil⟩:=HOM.out.toT.peer (k:=nn) (p:=ps[nn]) hget
        simp only[Value.slice.injEq] at ev
        obtain ⟨rfl,hq9,rfl⟩:=ev
        clear hq9
        have HVL:=Zh (fun x (hx:x∈ps[nn].2.2)=>zFN (hPK.out _ (List.getElem_mem hnp)) hx)
        have HAT:Hid (atP (nn:Int) ps=ps[nn]):=Zh (zGd hget)
        have HSP:Hid (∀f,zTX (nn:Int) ps f=ps.set nn (f ps[nn])):=Zh (fun f=>zE8 hget f)
        have HGT:=Zh hget
        clear hget
        generalize ps[nn]=p at *
        obtain ⟨t,r,ks⟩:=p
        simp only at c0 c1 c2 hkp jr hset hnil
        have hBg:B≠g:=by omega
        have hB1g:B1≠g:=by omega
        by_cases hbe:zI0 ks i=0
        ·have hE:doE (b,ps) (5,(nn:Int),i,data,pr,need,of_)=0:=by unfold doE;simp[H0.out,HAT.out,hbe];omega
         have HE:Hid (doE (b,ps) (5,(nn:Int),i,data,pr,need,of_)=0∧doC (b,ps) (5,(nn:Int),i,data,pr,need,of_)=(b,ps.set nn (t,r,zEe i.toNat ks))):=Zh ⟨hE,by unfold doC;rw[hE];simp[H0.out,HSP.out]⟩
         clear hE
         have HC:=Zh ((zOe (fun k=>k<w1.heap.size) w1.heap.size w3.heap.size _ _ (b,ps) nn (t,r,ks) i w3 HOM.out.toT (by omega) (Nat.le_refl _) HGT.out HVL.out hi).mono (R':=fun e w'=>(e=.returned (.tuple #[.agg #[.slice a4 b.length c4,.slice (some ⟨g,0,none⟩) ps.length c5],.int .i64 0])∧zE0 (fun k=>k<w1.heap.size) w' w1.heap.size w3.heap.size (.slice a4 b.length c4) (.slice (some ⟨g,0,none⟩) ps.length c5) (b,ps.set nn (t,r,zEe i.toNat ks)))∧zAD w1.heap.size w3 w') (fun e w' h=>by
          obtain ⟨h1|h1,h2⟩:=h
          ·exact ⟨⟨h1.2.1,h1.2.2⟩,h2⟩
          ·exact absurd hbe h1.1))
         clear hset hnil fz c0 c1 c2 hkp
         go_wp2_with (go_at_call 46;go_fit HC.out;rintro e w5 ⟨⟨rfl,ho5⟩,hS5⟩;have f0:=(hS5.below.frozen (p:=⟨B1,0,none⟩) hB11).trans f0;have f1:=(hS5.below.frozen (p:=⟨B1,1,none⟩) hB11).trans f1;have q0:=(hS5.below.cell (p:=⟨B1,0,none⟩) hB11).trans q0;have q1:=(hS5.below.cell (p:=⟨B1,1,none⟩) hB11).trans q1)
         have S5:zAD W.heap.size W w5:=⟨S3.below.trans (hS5.below.mono hW1),Nat.le_trans hW1 hS5.2⟩
         have r0:((w5.setCell ⟨B1,0,none⟩ (.slice a4 b.length c4)).setCell ⟨B1,1,none⟩ (.slice (some ⟨g,0,none⟩) ps.length c5)).cell? ⟨B1,0,none⟩=some (.slice a4 b.length c4):=by go_simp
         have r1:((w5.setCell ⟨B1,0,none⟩ (.slice a4 b.length c4)).setCell ⟨B1,1,none⟩ (.slice (some ⟨g,0,none⟩) ps.length c5)).cell? ⟨B1,1,none⟩=some (.slice (some ⟨g,0,none⟩) ps.length c5):=by go_simp
         have hd9:zAF (fun j=>j=B1) w5 ((w5.setCell ⟨B1,0,none⟩ (.slice a4 b.length c4)).setCell ⟨B1,1,none⟩ (.slice (some ⟨g,0,none⟩) ps.length c5)):=(zAF.of_grown ((zAC w5 ⟨B1,0,none⟩ (.slice a4 b.length c4)).trans (zAC _ ⟨B1,1,none⟩ (.slice (some ⟨g,0,none⟩) ps.length c5)))).mono fun j _ hj=>by cases hj;rfl
         have S9:=(S5.setCell (a:=⟨B1,0,none⟩) hBW1 (.slice a4 b.length c4)).setCell (a:=⟨B1,1,none⟩) hBW1 (.slice (some ⟨g,0,none⟩) ps.length c5)
         have HO9:=Zh (((ho5.frame hd9 (fun k hk=>Or.inl (by rw[hk];exact ⟨hB11,hB11⟩))).own.less (Y:=fun k=>k<W.heap.size) (fun k hk=>by omega)).mono hW1)
         skip
         exact bodyPost_ret (v:=.tuple #[.agg #[.slice a4 b.length c4,.slice (some ⟨g,0,none⟩) ps.length c5],.int .i64 0]) (by simp[results,Tryz.results20,go_sem,r0,r1]) rfl ⟨⟨_,_,zBM HE.out.1.symm,by rw[HE.out.2];exact HO9.out⟩,S9.below⟩
        ·have hbe4:zI0 ks i=4:=by
           unfold zI0 at hbe ⊢
           by_cases h9:i<0∨(ks.length:Int)≤i
           ·rw[if_pos h9]
           ·rw[if_neg h9] at hbe;exact absurd rfl hbe
         have hE:doE (b,ps) (5,(nn:Int),i,data,pr,need,of_)=4:=by unfold doE;simp[H0.out,HAT.out,hbe4];try omega
         have HE:Hid (doE (b,ps) (5,(nn:Int),i,data,pr,need,of_)=4∧doC (b,ps) (5,(nn:Int),i,data,pr,need,of_)=([],[])):=Zh ⟨hE,by unfold doC;rw[hE];simp[H0.out]⟩
         clear hE
         have HC:=Zh ((zOe (fun k=>k<w1.heap.size) w1.heap.size w3.heap.size _ _ (b,ps) nn (t,r,ks) i w3 HOM.out.toT (by omega) (Nat.le_refl _) HGT.out HVL.out hi).mono (R':=fun e w'=>e=.returned (.tuple #[.agg #[.slice none 0 0,.slice none 0 0],.int .i64 4])∧zAD w1.heap.size w3 w') (fun e w' h=>by
          obtain ⟨h1|h1,h2⟩:=h
          ·exact absurd h1.1 hbe
          ·exact ⟨by rw[h1.2,hbe4],h2⟩))
         clear hset hnil fz c0 c1 c2 hkp
         go_wp2_with (go_at_call 46;go_fit HC.out;rintro e w5 ⟨rfl,hS5⟩;have f0:=(hS5.below.frozen (p:=⟨B1,0,none⟩) hB11).trans f0;have f1:=(hS5.below.frozen (p:=⟨B1,1,none⟩) hB11).trans f1;have q0:=(hS5.below.cell (p:=⟨B1,0,none⟩) hB11).trans q0;have q1:=(hS5.below.cell (p:=⟨B1,1,none⟩) hB11).trans q1)
         have S5:zAD W.heap.size W w5:=⟨S3.below.trans (hS5.below.mono hW1),Nat.le_trans hW1 hS5.2⟩
         have v0:((w5.setCell ⟨B1,0,none⟩ (.slice none 0 0)).setCell ⟨B1,1,none⟩ (.slice none 0 0)).cell? ⟨B1,0,none⟩=some (.slice none 0 0):=by go_simp
         have v1:((w5.setCell ⟨B1,0,none⟩ (.slice none 0 0)).setCell ⟨B1,1,none⟩ (.slice none 0 0)).cell? ⟨B1,1,none⟩=some (.slice none 0 0):=by go_simp
         have S9:=(S5.setCell (a:=⟨B1,0,none⟩) hBW1 (.slice none 0 0)).setCell (a:=⟨B1,1,none⟩) hBW1 (.slice none 0 0)
         skip
         exact bodyPost_ret (v:=.tuple #[.agg #[.slice none 0 0,.slice none 0 0],.int .i64 4]) (by simp[results,Tryz.results20,go_sem,v0,v1]) rfl ⟨⟨_,_,zBM HE.out.1.symm,by rw[HE.out.2];exact zCl.nil _ _ _⟩,S9.below⟩
 ·have HE:Hid (doE (b,ps) (k,n,i,data,pr,need,of_)=zA2 (b,ps)∧doC (b,ps) (k,n,i,data,pr,need,of_)=([],[])):=Zh ⟨by unfold doE;rw[if_pos h0],by unfold doC;rw[if_pos h0]⟩
  generalize zA2 (b,ps)=E at *
  clear p0 p1 g0 g1 g2 g3 g4 g5 g6 hb1 e0 e1
  have v0:((w1.setCell ⟨B1,0,none⟩ (.slice none 0 0)).setCell ⟨B1,1,none⟩ (.slice none 0 0)).cell? ⟨B1,0,none⟩=some (.slice none 0 0):=by go_simp
  have v1:((w1.setCell ⟨B1,0,none⟩ (.slice none 0 0)).setCell ⟨B1,1,none⟩ (.slice none 0 0)).cell? ⟨B1,1,none⟩=some (.slice none 0 0):=by go_simp
  have S9:=(S1.setCell (a:=⟨B1,0,none⟩) hBW1 (.slice none 0 0)).setCell (a:=⟨B1,1,none⟩) hBW1 (.slice none 0 0)
  go_wp2_with fail
  exact bodyPost_ret (v:=.tuple #[.agg #[.slice none 0 0,.slice none 0 0],.int .i64 E]) (by simp[results,Tryz.results20,go_sem,v0,v1]) rfl ⟨⟨_,_,zBM HE.out.1.symm,by rw[HE.out.2];exact zCl.nil _ _ _⟩,S9.below⟩
end Go.Proofs.YthgmphbkkojaoaaGreat
