/-
  peer.Drop: what is dropped is the call's own, all through. The reference's Without, deep.
-/
import Derived.Test.YthgmphbkkojaoaaGreatQDrops
set_option maxHeartbeats 4000000
namespace Go.Proofs.YthgmphbkkojaoaaGreat
set_option linter.unusedSectionVars false
variable [Zn]
open Go.RowKit
set_option maxRecDepth 100000 in
theorem zSS(vb:Value)(b:List Ver)(u:Value)(p:Pr)(v:Int)(W:World)(hb:zAR W vb b)(hu:zAl W u p.2.2)(hi:I64 p.2.1) :
  Calls Tryz.prog 75 #[.agg #[vb],.agg #[.bool p.1,.int .i64 p.2.1,u],.int .i64 v] W fun e w' =>
   (∃v',e=.returned (.tuple #[.agg #[.bool (zF9 b p v).1,.int .i64 (zF9 b p v).2.1,v'],.int .i64 (zBG b p)])∧zF7 w' W.heap.size v' (zF9 b p v).2.2)∧Below W.heap.size W w':=by
 obtain ⟨ab,cb,rfl,hcb,⟨hbm,hbc,_⟩,_⟩:=hb.opened
 obtain ⟨au,cu,rfl,hcu,⟨hum,huc,_⟩,_⟩:=hu.opened
 obtain ⟨t,r,l⟩:=p
 simp only at hu hi hcu hum hcb ⊢
 obtain ⟨w0,hw0⟩:∃w0,w0=(((W.alloc (.cells #[.slice ab b.length cb] 24)).alloc (.cells #[.bool t,.int .i64 r,.slice au l.length cu] 62)).alloc (.cells #[.int .i64 v] 3)).alloc (.cells #[.bool false,.int .i64 0,.slice none 0 0] 62):=⟨_,rfl⟩
 have S0:=((((zAD.refl W).alloc (.cells #[.slice ab b.length cb] 24)).alloc (.cells #[.bool t,.int .i64 r,.slice au l.length cu] 62)).alloc (.cells #[.int .i64 v] 3)).alloc (.cells #[.bool false,.int .i64 0,.slice none 0 0] 62)
 rw[←hw0] at S0
 have a0:w0.cell? ⟨W.heap.size,0,none⟩=some (.slice ab b.length cb):=by rw[hw0];go_simp
 have p0:w0.cell? ⟨W.heap.size+1,0,none⟩=some (.bool t):=by rw[hw0];go_simp
 have p1:w0.cell? ⟨W.heap.size+1,1,none⟩=some (.int .i64 r):=by rw[hw0];go_simp
 have p2:w0.cell? ⟨W.heap.size+1,2,none⟩=some (.slice au l.length cu):=by rw[hw0];go_simp
 have p3:∀j,w0.frozen? ⟨W.heap.size+1,j,none⟩=false:=by intro j;rw[hw0];go_simp
 have k0:w0.cell? ⟨W.heap.size+2,0,none⟩=some (.int .i64 v):=by rw[hw0];go_simp
 have q0:w0.cell? ⟨W.heap.size+3,0,none⟩=some (.bool false):=by rw[hw0];go_simp
 have q1:w0.cell? ⟨W.heap.size+3,1,none⟩=some (.int .i64 0):=by rw[hw0];go_simp
 have q2:w0.cell? ⟨W.heap.size+3,2,none⟩=some (.slice none 0 0):=by rw[hw0];go_simp
 have q3:∀j,w0.frozen? ⟨W.heap.size+3,j,none⟩=false:=by intro j;rw[hw0];go_simp
 have hsz0:w0.heap.size=W.heap.size+4:=by rw[hw0];simp
 have HW:=Zh hw0
 clear hw0
 obtain ⟨B3,hB3⟩:∃B3,B3=W.heap.size:=⟨_,rfl⟩
 obtain ⟨B4,hB4⟩:∃B4,B4=W.heap.size+1:=⟨_,rfl⟩
 obtain ⟨B5,hB5⟩:∃B5,B5=W.heap.size+2:=⟨_,rfl⟩
 obtain ⟨B6,hB6⟩:∃B6,B6=W.heap.size+3:=⟨_,rfl⟩
 rw[←hB6] at q0 q1 q2 q3
 rw[←hB5] at k0
 rw[←hB4] at p0 p1 p2 p3
 rw[←hB3] at a0
 have l3:B3<w0.heap.size:=by omega
 have l4:B4<w0.heap.size:=by omega
 have l5:B5<w0.heap.size:=by omega
 have l6:B6<w0.heap.size:=by omega
 have m4:W.heap.size≤B4:=by omega
 have m6:W.heap.size≤B6:=by omega
 have n34:¬B3=B4:=by omega
 have n46:¬B4=B6:=by omega
 have n54:¬B5=B4:=by omega
 have n64:¬B6=B4:=by omega
 have n56:¬B5=B6:=by omega
 have HB3:=Zh hB3
 have HB4:=Zh hB4
 have HB5:=Zh hB5
 have HB6:=Zh hB6
 clear hB3 hB4 hB5 hB6 hsz0
 have HS0:=Zh S0
 have hvb0:=hb.stays zAz.stays S0.below
 have hvu0:=hu.stays zAf.stays S0.below
 clear S0 hb hu
 go_enter Tryz.func75,Tryz.ntmps75
 go_upto_region 1 with fail
 rw[←HW.out,←HB6.out,←HB5.out,←HB4.out,←HB3.out]
 go_upto_region 2 with (go_at_call 77;refine (zC7 _ b _ (t,r,l) _ hvb0 hvu0 hi).mono ?_;rintro e w1 ⟨rfl,hb1⟩)
 have S1:=(zAD.refl w0).step hb1
 have b40:=zAA hb1 p0
 have b41:=zAA hb1 p1
 have b42:=zAA hb1 p2
 have g40:=zAE hb1 p0 (p3 0)
 have g41:=zAE hb1 p1 (p3 1)
 have g42:=zAE hb1 p2 (p3 2)
 have b5:=zAA hb1 k0
 have b60:=zAA hb1 q0
 have b61:=zAA hb1 q1
 have b62:=zAA hb1 q2
 have g60:=zAE hb1 q0 (q3 0)
 have g61:=zAE hb1 q1 (q3 1)
 have g62:=zAE hb1 q2 (q3 2)
 have hvu1:=hvu0.stays zAf.stays hb1
 clear a0 p0 p1 p2 p3 k0 q0 q1 q2 q3 hvb0 hvu0 hb1
 by_cases h0:zBG b (t,r,l)=0
 ·have hok:=zDD.1 h0
  have hl20:(l.length:Int)≤20:=by
   have h1:=hok.few
   have h2:=hok.room
   simp only at h1 h2
   omega
  have HRISE:=Zh (zPJ hok.rise v)
  have HC:=Zh (show zF9 b (t,r,l) v=(t,r,zAa v l) by unfold zF9;rw[if_pos h0])
  have H0:=Zh h0
  rw[h0]
  clear h0 hok
  go_upto_region 5 with (go_at_call 49;refine (zDr t r _ l _ hvu1 (by omega)).mono ?_;rintro e w3 ⟨⟨v3,zs3,rfl,hm3,hd3⟩,hb3⟩;have ho3:zF7 w3 w1.heap.size v3 l:=⟨zs3,hm3,hd3⟩;obtain ⟨a3,cp3,rfl,hcp3,⟨_,hcm3,_⟩,_⟩:=ho3.isKepts.opened;clear hm3 hd3;have d40:=zAA hb3 b40;have d41:=zAA hb3 b41;have d42:=zAA hb3 b42;have x40:=zAE hb3 b40 g40;have x41:=zAE hb3 b41 g41;have x42:=zAE hb3 b42 g42)
  have hwb:=HS0.out.2
  have hlo:=ho3.lt
  have hs1:=S1.2
  have hn4:(Value.slice a3 l.length cp3).ownBlock=none∨(Value.slice a3 l.length cp3).ownBlock≠some B4:=by
   cases hq:(Value.slice a3 l.length cp3).ownBlock with
   | none=>exact Or.inl rfl
   | some j=>right;intro e;cases e;have:=(hlo _ hq).1;omega
  have hEB:∀j,some B4=some j→j<w1.heap.size:=fun j hj=>by cases hj;omega
  have ho4:=((ho3.kept (zAC w3 ⟨B4,0,none⟩ (.bool t)) hEB).kept (zAC _ ⟨B4,1,none⟩ (.int .i64 r)) hEB).kept (zAC _ ⟨B4,2,none⟩ (.slice a3 l.length cp3)) hEB
  have S4:zAD W.heap.size W (((w3.setCell ⟨B4,0,none⟩ (.bool t)).setCell ⟨B4,1,none⟩ (.int .i64 r)).setCell ⟨B4,2,none⟩ (.slice a3 l.length cp3)):=(((HS0.out.step (S1.step hb3).below).setCell (a:=⟨B4,0,none⟩) m4 (.bool t)).setCell (a:=⟨B4,1,none⟩) m4 (.int .i64 r)).setCell (a:=⟨B4,2,none⟩) m4 (.slice a3 l.length cp3)
  have c5:=zAA hb3 b5
  have c60:=zAA hb3 b60
  have c61:=zAA hb3 b61
  have c62:=zAA hb3 b62
  have y60:=zAE hb3 b60 g60
  have y61:=zAE hb3 b61 g61
  have y62:=zAE hb3 b62 g62
  obtain ⟨w4,hw4⟩:∃w4,w4=((w3.setCell ⟨B4,0,none⟩ (.bool t)).setCell ⟨B4,1,none⟩ (.int .i64 r)).setCell ⟨B4,2,none⟩ (.slice a3 l.length cp3):=⟨_,rfl⟩
  have v40:w4.cell? ⟨B4,0,none⟩=some (.bool t):=by rw[hw4];go_simp
  have v41:w4.cell? ⟨B4,1,none⟩=some (.int .i64 r):=by rw[hw4];go_simp
  have v42:w4.cell? ⟨B4,2,none⟩=some (.slice a3 l.length cp3):=by rw[hw4];go_simp
  have v5:w4.cell? ⟨B5,0,none⟩=some (.int .i64 v):=by rw[hw4];go_simp
  have v60:w4.cell? ⟨B6,0,none⟩=some (.bool false):=by rw[hw4];go_simp
  have v61:w4.cell? ⟨B6,1,none⟩=some (.int .i64 0):=by rw[hw4];go_simp
  have v62:w4.cell? ⟨B6,2,none⟩=some (.slice none 0 0):=by rw[hw4];go_simp
  have z60:w4.frozen? ⟨B6,0,none⟩=false:=by rw[hw4];go_simp
  have z61:w4.frozen? ⟨B6,1,none⟩=false:=by rw[hw4];go_simp
  have z62:w4.frozen? ⟨B6,2,none⟩=false:=by rw[hw4];go_simp
  have z42:w4.frozen? ⟨B4,2,none⟩=false:=by rw[hw4];go_simp
  rw[←hw4] at ho4 S4 ⊢
  clear hw4 ho3 hn4 hEB hb3 c5 c60 c61 c62 y60 y61 y62 b40 b41 b42 g40 g41 g42 b5 b60 b61 b62 g60 g61 g62 d40 d41 d42 x40 x41 x42 hvu1
  have hlo4:∀k,k<w0.heap.size→some k≠(Value.slice a3 l.length cp3).ownBlock:=fun k hk e=>by have:=(hlo k e.symm).1;omega
  have l5':=zAH v5
  obtain ⟨zs4,hm4,hd4⟩:=ho4
  have HDEL:=Zh (zF3 99 (fun _ _=>rfl) #[.pointer (some ⟨B5,0,none⟩)] (fun x=>decide (x.1=v)) w1.heap.size (.slice a3 l.length cp3) zs4 w4 hd4 (by rw[hm4];exact HRISE.out)
   (by rw[hm4];exact zEY 99 (fun _ _=>rfl) #[.pointer (some ⟨B5,0,none⟩)] (fun x=>decide (x.1=v)) _ l w4 (hm4 ▸ hd4.isKepts) (fun u z w _ hSw hk=>zE9 u z v B5 w hk ((hSw.below.cell (p:=⟨B5,0,none⟩) l5').trans v5)))
   (fun u z w hg hk=>zE9 u z v B5 w hk (hg.cell v5 (hlo4 B5 l5))))
  rw[hm4] at HDEL
  clear hm4 hd4
  have HLO:=Zh hlo
  have HLO4:=Zh hlo4
  clear hlo hlo4
  go_upto_region 6 with (go_at_call 98;refine HDEL.out.mono ?_;rintro e w5 ⟨⟨v5',rfl,ho5⟩,hg5⟩;rw[zHx] at ho5;obtain ⟨a5,c5,rfl,hc5,⟨_,hcm5,_⟩,_⟩:=ho5.isKepts.opened;have e42:=hg5.cell v42 (HLO4.out B4 l4);have x42:=zAW hg5 v42 z42 (HLO4.out B4 l4))
  have e40:=hg5.cell v40 (HLO4.out B4 l4)
  have e41:=hg5.cell v41 (HLO4.out B4 l4)
  have e60:=hg5.cell v60 (HLO4.out B6 l6)
  have e61:=hg5.cell v61 (HLO4.out B6 l6)
  have e62:=hg5.cell v62 (HLO4.out B6 l6)
  have x60:=zAW hg5 v60 z60 (HLO4.out B6 l6)
  have x61:=zAW hg5 v61 z61 (HLO4.out B6 l6)
  have x62:=zAW hg5 v62 z62 (HLO4.out B6 l6)
  obtain ⟨L8,hL8⟩:∃L8,L8=zAa v l:=⟨_,rfl⟩
  rw[←hL8] at ho5 hc5 HC ⊢
  have hn:∀k,k<w0.heap.size→(Value.slice a5 L8.length c5).ownBlock=none∨(Value.slice a5 L8.length c5).ownBlock≠some k:=fun k hk=>by
   cases hq:(Value.slice a5 L8.length c5).ownBlock with
   | none=>exact Or.inl rfl
   | some m=>right;intro e;cases e;have:=(ho5.lt _ hq).1;omega
  have hE4:∀m,some B4=some m→m<w1.heap.size:=fun m hm=>by cases hm;omega
  have hE6:∀m,some B6=some m→m<w1.heap.size:=fun m hm=>by cases hm;omega
  have ho6:=ho5.kept (zAC w5 ⟨B4,2,none⟩ (.slice a5 L8.length c5)) hE4
  have S6:=(S4.grown hg5 (fun k hk=>by have:=(HLO.out k hk).1;omega)).setCell (a:=⟨B4,2,none⟩) m4 (.slice a5 L8.length c5)
  have u40:(w5.setCell ⟨B4,2,none⟩ (.slice a5 L8.length c5)).cell? ⟨B4,0,none⟩=some (.bool t):=by go_simp
  have u41:(w5.setCell ⟨B4,2,none⟩ (.slice a5 L8.length c5)).cell? ⟨B4,1,none⟩=some (.int .i64 r):=by go_simp
  have u42:(w5.setCell ⟨B4,2,none⟩ (.slice a5 L8.length c5)).cell? ⟨B4,2,none⟩=some (.slice a5 L8.length c5):=by go_simp
  have u60:=(zAI w5 B4 2 (.slice a5 L8.length c5) (p:=⟨B6,0,none⟩) n64).trans e60
  have u61:=(zAI w5 B4 2 (.slice a5 L8.length c5) (p:=⟨B6,1,none⟩) n64).trans e61
  have u62:=(zAI w5 B4 2 (.slice a5 L8.length c5) (p:=⟨B6,2,none⟩) n64).trans e62
  have y60:=(zA1 w5 B4 2 (.slice a5 L8.length c5) (p:=⟨B6,0,none⟩) n64).trans x60
  have y61:=(zA1 w5 B4 2 (.slice a5 L8.length c5) (p:=⟨B6,1,none⟩) n64).trans x61
  have y62:=(zA1 w5 B4 2 (.slice a5 L8.length c5) (p:=⟨B6,2,none⟩) n64).trans x62
  clear e40 e41 e42 e60 e61 e62 x42 x60 x61 x62 ho5 hg5 v40 v41 v42 v5 v60 v61 v62 z60 z61 z62 z42 hL8
  generalize w5.setCell ⟨B4,2,none⟩ (.slice a5 L8.length c5)=w6 at *
  go_wp2_with fail
  obtain ⟨f0,f1,f2⟩:=zGG (w:=w6) (B:=B6) (x:=.bool t) (y:=.int .i64 r) (z:=.slice a5 L8.length c5) (by rw[u60];rfl) (by rw[u61];rfl) (by rw[u62];rfl)
  have ho11:=(((ho6.kept (zAC w6 ⟨B6,0,none⟩ (.bool t)) hE6).kept (zAC _ ⟨B6,1,none⟩ (.int .i64 r)) hE6).kept (zAC _ ⟨B6,2,none⟩ (.slice a5 L8.length c5)) hE6)
  have S11:=((S6.setCell (a:=⟨B6,0,none⟩) m6 (.bool t)).setCell (a:=⟨B6,1,none⟩) m6 (.int .i64 r)).setCell (a:=⟨B6,2,none⟩) m6 (.slice a5 L8.length c5)
  have HO11:=Zh (ho11.mono (b:=W.heap.size) (by omega))
  clear u40 u41 u42 u60 u61 u62 y60 y61 y62 ho11 ho6 hn
  generalize ((w6.setCell ⟨B6,0,none⟩ (.bool t)).setCell ⟨B6,1,none⟩ (.int .i64 r)).setCell ⟨B6,2,none⟩ (.slice a5 L8.length c5)=w11 at *
  exact bodyPost_ret (v:=.tuple #[.agg #[.bool t,.int .i64 r,.slice a5 L8.length c5],.int .i64 0]) (by simp[results,Tryz.results75,go_sem,f0,f1,f2]) rfl ⟨⟨_,by rw[HC.out,H0.out],by rw[HC.out];exact HO11.out⟩,S11.below⟩
 ·have HC:=Zh (show zF9 b (t,r,l) v=(false,0,[]) by unfold zF9;rw[if_neg h0])
  have hne:(zBG b (t,r,l) != 0)=true:=by simpa using h0
  clear h0
  go_wp2_with fail
  obtain ⟨f0,f1,f2⟩:=zGG (w:=w1) (B:=B6) (x:=.bool false) (y:=.int .i64 0) (z:=.slice none 0 0) (by rw[b60];rfl) (by rw[b61];rfl) (by rw[b62];rfl)
  have S11:=(((HS0.out.step S1.below).setCell (a:=⟨B6,0,none⟩) m6 (.bool false)).setCell (a:=⟨B6,1,none⟩) m6 (.int .i64 0)).setCell (a:=⟨B6,2,none⟩) m6 (.slice none 0 0)
  clear b40 b41 b42 g40 g41 g42 b5 b60 b61 b62 g60 g61 g62
  generalize ((w1.setCell ⟨B6,0,none⟩ (.bool false)).setCell ⟨B6,1,none⟩ (.int .i64 0)).setCell ⟨B6,2,none⟩ (.slice none 0 0)=w11 at *
  exact bodyPost_ret (v:=.tuple #[.agg #[.bool false,.int .i64 0,.slice none 0 0],.int .i64 (zBG b (t,r,l))]) (by simp[results,Tryz.results75,go_sem,f0,f1,f2]) rfl ⟨⟨_,by rw[HC.out],by rw[HC.out];exact zF7.nil _ _⟩,S11.below⟩
set_option maxRecDepth 100000 in
theorem zIC(t:Bool)(r:Int)(u:Value)(l:List Kp)(v:Int)(W0 W:World)(hW:zAD W0.heap.size W0 W)(hu:zAl W0 u l)(hl:l.length≤1000) :
  Calls Tryz.prog 36 #[.agg #[.bool t,.int .i64 r,u],.int .i64 v] W fun e w' =>
   (∃v',e=.returned (.agg #[.bool t,.int .i64 r,v'])∧(∀j,v'.ownBlock=some j→W.heap.size≤j)∧∀w'',zAF (fun j=>W0.heap.size≤j∧v'.ownBlock≠some j) w' w''→zAl w'' v' (zAa v l))∧Below W.heap.size W w':=by
 obtain ⟨au,cu,rfl,hcu,⟨hum,huc,_⟩,_⟩:=hu.opened
 obtain ⟨w0,hw0⟩:∃w0,w0=(W.alloc (.cells #[.bool t,.int .i64 r,.slice au l.length cu] 62)).alloc (.cells #[.bool false,.int .i64 0,.slice none 0 0] 62):=⟨_,rfl⟩
 have S0:=((zAD.refl W).alloc (.cells #[.bool t,.int .i64 r,.slice au l.length cu] 62)).alloc (.cells #[.bool false,.int .i64 0,.slice none 0 0] 62)
 rw[←hw0] at S0
 have p0:w0.cell? ⟨W.heap.size,0,none⟩=some (.bool t):=by rw[hw0];go_simp
 have p1:w0.cell? ⟨W.heap.size,1,none⟩=some (.int .i64 r):=by rw[hw0];go_simp
 have p2:w0.cell? ⟨W.heap.size,2,none⟩=some (.slice au l.length cu):=by rw[hw0];go_simp
 have p3:w0.frozen? ⟨W.heap.size,2,none⟩=false:=by rw[hw0];go_simp
 have q0:w0.cell? ⟨W.heap.size+1,0,none⟩=some (.bool false):=by rw[hw0];go_simp
 have q1:w0.cell? ⟨W.heap.size+1,1,none⟩=some (.int .i64 0):=by rw[hw0];go_simp
 have q2:w0.cell? ⟨W.heap.size+1,2,none⟩=some (.slice none 0 0):=by rw[hw0];go_simp
 have q3:∀j,w0.frozen? ⟨W.heap.size+1,j,none⟩=false:=by intro j;rw[hw0];go_simp
 have hsz0:w0.heap.size=W.heap.size+2:=by rw[hw0];simp
 have HW:=Zh hw0
 clear hw0
 obtain ⟨B2,hB2⟩:∃B2,B2=W.heap.size:=⟨_,rfl⟩
 obtain ⟨B4,hB4⟩:∃B4,B4=W.heap.size+1:=⟨_,rfl⟩
 have hW2:W.heap.size≤B2:=by omega
 have hW4:W.heap.size≤B4:=by omega
 have h20:B2<w0.heap.size:=by omega
 have h40:B4<w0.heap.size:=by omega
 have n24:¬B2=B4:=by omega
 have n42:¬B4=B2:=by omega
 rw[←hB4] at q0 q1 q2 q3
 rw[←hB2] at p0 p1 p2 p3
 have HB2:=Zh hB2
 have HB4:=Zh hB4
 clear hB2 hB4 hsz0
 have HS0:=Zh S0
 have HU:=Zh hu
 have HWW:=Zh hW
 have HC:Hid (∀w',zAD w0.heap.size w0 w'→w'.cell? ⟨B2,0,none⟩=some (.bool t)∧w'.cell? ⟨B2,1,none⟩=some (.int .i64 r)∧w'.cell? ⟨B2,2,none⟩=some (.slice au l.length cu)∧w'.frozen? ⟨B2,2,none⟩=false∧w'.cell? ⟨B4,0,none⟩=some (.bool false)∧w'.cell? ⟨B4,1,none⟩=some (.int .i64 0)∧w'.cell? ⟨B4,2,none⟩=some (.slice none 0 0)∧w'.frozen? ⟨B4,0,none⟩=false∧w'.frozen? ⟨B4,1,none⟩=false∧w'.frozen? ⟨B4,2,none⟩=false):=
  Zh (fun w' q=>⟨zAA q.below p0,zAA q.below p1,zAA q.below p2,zAE q.below p2 p3,zAA q.below q0,zAA q.below q1,zAA q.below q2,zAE q.below q0 (q3 0),zAE q.below q1 (q3 1),zAE q.below q2 (q3 2)⟩)
 clear p0 p1 p3 q0 q1 q2 q3 hu S0 hW
 go_enter Tryz.func36,Tryz.ntmps36
 go_upto_region 1 with fail
 rw[←HW.out,←HB4.out,←HB2.out]
 go_wp2_with fail
 clear p2
 go_loopw[11,5] (fun i o wr=>∃k:Nat,k≤l.length∧i=.int .i64 k∧zAD w0.heap.size w0 wr∧zAK 3 zAf (fun j=>W0.heap.size≤j) wr 66 w0.heap.size o (zAa v (l.take k))) (fun i _ _=>l.length - (intOf i).toNat)
 case atStart=>exact ⟨0,by omega,rfl,zAD.refl w0,by simpa[zAa] using zAK.nil _ _ _⟩
 case round =>
  obtain ⟨k,hk,rfl,hS,ho⟩:=hrel
  by_cases hlt:k<l.length
  ·have hx:l[k]?=some l[k]:=List.getElem?_eq_getElem hlt
   have SW:zAD W.heap.size W wr:=⟨HS0.out.below.trans (hS.below.mono HS0.out.2),Nat.le_trans HS0.out.2 hS.2⟩
   obtain ⟨g,off,ux,cx,rfl,k0',k1',k2',hxi,i1,i2⟩:=zCK HU.out hx
   have k0:=zAA (HWW.out.step SW.below).below k0'
   have k1:=zAA (HWW.out.step SW.below).below k1'
   have k2:=zAA (HWW.out.step SW.below).below k2'
   have HST:=Zh (zKT (v:=v) hx)
   have hdl:=Nat.le_trans (zNK v (l.take k)) (by rw[List.length_take];omega:(l.take k).length≤l.length)
   generalize l[k]=x at *
   have S1:=hS.alloc (.cells #[.int .i64 x.1,.int .i64 x.2.1,.slice ux x.2.2.length cx] 66)
   have ho1:=ho.stays (zAB wr (.cells #[.int .i64 x.1,.int .i64 x.2.1,.slice ux x.2.2.length cx] 66))
   clear ho k0' k1' k2'
   by_cases hv:x.1=v
   ·have hne:(x.1 != v)=false:=by simpa using hv
    have HN:=Zh (show zAa v (l.take (k+1))=zAa v (l.take k) by rw[HST.out,if_neg (by simpa using hv),List.append_nil])
    clear hv
    go_wp2_with fail
    go_roundw
    case rel=>exact ⟨k+1,by omega,by go_num,S1,by rw[HN.out];exact ho1⟩
    case measure=>simp[intOf];omega
   ·have hne:(x.1 != v)=true:=by simpa using hv
    have HN:=Zh (show zAa v (l.take (k+1))=zAa v (l.take k)++[x] by rw[HST.out,if_pos hv])
    clear hv
    have S2:=S1.alloc (.cells #[.int .i64 x.1,.int .i64 x.2.1,.slice ux x.2.2.length cx] 66)
    have HO2:=Zh (ho1.stays (zAB _ (.cells #[.int .i64 x.1,.int .i64 x.2.1,.slice ux x.2.2.length cx] 66)))
    have hw:=S2.2
    have HFR:Hid (∀v':Value,(∀m,v'.ownBlock=some m→w0.heap.size≤m)→zA3 (fun m=>v'.ownBlock=some m∨W0.heap.size≤m) zAf ((wr.alloc (.cells #[.int .i64 x.1,.int .i64 x.2.1,.slice ux x.2.2.length cx] 66)).alloc (.cells #[.int .i64 x.1,.int .i64 x.2.1,.slice ux x.2.2.length cx] 66)) [.int .i64 x.1,.int .i64 x.2.1,.slice ux x.2.2.length cx] x):=
     Zh (fun v' hv'=>zAf.stays.framed (w0:=W0) ⟨_,rfl,hxi,i1,i2⟩ (zAF.old (HWW.out.step ((SW.alloc _).alloc _).below).below _) (fun m hm=>by
      rcases hm with hm|hm
      ·have:=hv' m hm;have:=HS0.out.2;have:=HWW.out.2;omega
      ·exact hm))
    have HLT:=Zh (HO2.out.lt)
    have HNC:Hid (∀j u,[Value.int .i64 x.1,.int .i64 x.2.1,.slice ux x.2.2.length cx][j]?=some u→((wr.alloc (.cells #[.int .i64 x.1,.int .i64 x.2.1,.slice ux x.2.2.length cx] 66)).alloc (.cells #[.int .i64 x.1,.int .i64 x.2.1,.slice ux x.2.2.length cx] 66)).cell? ((⟨wr.heap.size+1,0,none⟩:Addr).add j)=some u):=Zh (fun j u hj=>by
     rw[zA7]
     match j,hj with
     | 0,hj=>simp at hj;subst hj;go_simp
     | 1,hj=>simp at hj;subst hj;go_simp
     | 2,hj=>simp at hj;subst hj;go_simp)
    clear ho1 hxi i1 i2
    go_wp2_with (at_builtin;refine zAd rfl _ _ 60 rfl 3 (fun j=>W0.heap.size≤j) 66 Tryz.underlying60 _ 40 zCn rfl (by omega) (by omega) w0.heap.size _ (zAa v (l.take k)) (by rfl) HO2.out ⟨wr.heap.size+1,0,none⟩ 1 [.int .i64 x.1,.int .i64 x.2.1,.slice ux x.2.2.length cx] x (by rfl) rfl (by intro c hc;simp at hc;rcases hc with rfl | rfl | rfl<;>rfl) HNC.out (HFR.out _ (fun m hm=>(HLT.out m hm).1)) (by omega) (by omega) ?_;intro v' w6 ho6 hg6 _)
    have S6:=S2.row HO2.out hg6
    have HO6:=Zh ho6
    clear ho6 hg6
    go_roundw
    case rel=>exact ⟨k+1,by omega,by go_num,S6,by rw[HN.out];exact HO6.out⟩
    case measure=>simp[intOf];omega
  ·obtain rfl:l.length=k:=by omega
   rw[List.take_length] at ho
   obtain ⟨o20,o21,o22,f22,o40,o41,o42,f40,f41,f42⟩:=HC.out wr hS
   obtain ⟨a5,c5,rfl,_⟩:=ho.isRow.opened
   obtain ⟨L8,hL8⟩:∃L8,L8=zAa v l:=⟨_,rfl⟩
   have HL8:=Zh hL8
   rw[←hL8] at ho ⊢
   have hn:∀k,k<w0.heap.size→(Value.slice a5 L8.length c5).ownBlock=none∨(Value.slice a5 L8.length c5).ownBlock≠some k:=fun k hk=>by
    cases hq:(Value.slice a5 L8.length c5).ownBlock with
    | none=>exact Or.inl rfl
    | some m=>right;intro e;cases e;have:=(ho.lt _ hq).1;omega
   have ho6:=(((ho.kept (zAC wr ⟨B2,2,none⟩ (.slice a5 L8.length c5)) (fun m hm=>by cases hm;exact Nat.le_trans HWW.out.2 hW2) (hn B2 h20)).kept (zAC _ ⟨B4,0,none⟩ (.bool t)) (fun m hm=>by cases hm;exact Nat.le_trans HWW.out.2 hW4) (hn B4 h40)).kept (zAC _ ⟨B4,1,none⟩ (.int .i64 r)) (fun m hm=>by cases hm;exact Nat.le_trans HWW.out.2 hW4) (hn B4 h40)).kept (zAC _ ⟨B4,2,none⟩ (.slice a5 L8.length c5)) (fun m hm=>by cases hm;exact Nat.le_trans HWW.out.2 hW4) (hn B4 h40)
   have HI6:Hid (∀w'',zAF (fun j=>W0.heap.size≤j∧(Value.slice a5 L8.length c5).ownBlock≠some j) ((((wr.setCell ⟨B2,2,none⟩ (.slice a5 L8.length c5)).setCell ⟨B4,0,none⟩ (.bool t)).setCell ⟨B4,1,none⟩ (.int .i64 r)).setCell ⟨B4,2,none⟩ (.slice a5 L8.length c5)) w''→zAl w'' (.slice a5 L8.length c5) L8):=Zh (fun w'' hw''=>((ho6.weaken (E':=fun j=>W0.heap.size≤j∧(Value.slice a5 L8.length c5).ownBlock≠some j) (fun j _ hj=>Or.inl hj.1)).later hw'' (fun j hj h=>h.2 hj)).isRow)
   have HOW:Hid (∀j,(Value.slice a5 L8.length c5).ownBlock=some j→W.heap.size≤j):=Zh (fun j hj=>Nat.le_trans HS0.out.2 (ho6.lt j hj).1)
   have SW:zAD W.heap.size W wr:=⟨HS0.out.below.trans (hS.below.mono HS0.out.2),Nat.le_trans HS0.out.2 hS.2⟩
   have S6:=(((SW.setCell (a:=⟨B2,2,none⟩) hW2 (.slice a5 L8.length c5)).setCell (a:=⟨B4,0,none⟩) hW4 (.bool t)).setCell (a:=⟨B4,1,none⟩) hW4 (.int .i64 r)).setCell (a:=⟨B4,2,none⟩) hW4 (.slice a5 L8.length c5)
   clear ho ho6 hn hL8
   go_wp2_with fail
   obtain ⟨g0,g1,g2⟩:=zGG (w:=wr.setCell ⟨B2,2,none⟩ (.slice a5 L8.length c5)) (B:=B4) (x:=.bool t) (y:=.int .i64 r) (z:=.slice a5 L8.length c5) (by rw[zAI _ _ _ _ n42,o40];rfl) (by rw[zAI _ _ _ _ n42,o41];rfl) (by rw[zAI _ _ _ _ n42,o42];rfl)
   clear o20 o21 o22 f22 o40 o41 o42 f40 f41 f42
   generalize (((wr.setCell ⟨B2,2,none⟩ (.slice a5 L8.length c5)).setCell ⟨B4,0,none⟩ (.bool t)).setCell ⟨B4,1,none⟩ (.int .i64 r)).setCell ⟨B4,2,none⟩ (.slice a5 L8.length c5)=w7 at *
   exact bodyPost_ret (v:=.agg #[.bool t,.int .i64 r,.slice a5 L8.length c5]) (by simp[results,Tryz.results36,go_sem,g0,g1,g2]) rfl ⟨⟨_,rfl,HOW.out,by rw[←HL8.out];exact HI6.out⟩,S6.below⟩
end Go.Proofs.YthgmphbkkojaoaaGreat
