/-
  mesh.Check, ready, shares, Restore walked. The walk of Add. mesh.Save walked.
-/
import Derived.Test.YthgmphbkkojaoaaGreatQMosts
import Derived.Deep.DrawnRows
import Derived.Test.YthgmphbkkojaoaaGreatQPut
set_option maxHeartbeats 4000000
namespace Go.Proofs.YthgmphbkkojaoaaGreat
set_option linter.unusedSectionVars false
variable [Zn]
open Go.RowKit
theorem zBb(vb:Value)(b:List Ver)(u:Value)(ps:List Pr)(W:World)(hb:zAR W vb b)(hu:zAT W u ps) :
  Calls Tryz.prog 21 #[.agg #[vb,u]] W fun e w'=>e=.returned (.int .i64 (zA2 (b,ps)))∧Below W.heap.size W w':=by
 obtain ⟨a,c,rfl,_⟩:=hb.opened
 obtain ⟨a',c',rfl,_⟩:=hu.opened
 have S0:=(zAD.refl W).alloc (.cells #[.slice a b.length c,.slice a' ps.length c'] 27)
 have hb0:=hb.stays zAz.stays S0.below
 have hu0:=hu.stays zAj.stays S0.below
 clear hb hu
 go_enter Tryz.func21,Tryz.ntmps21
 go_wp2_with (go_at_call 47;go_fit (zGD _ b _ ps _ hb0 hu0);rintro e w1 ⟨rfl,hb1⟩)
 go_ret
 exact ⟨rfl,(S0.step hb1).below⟩
set_option maxRecDepth 100000 in
theorem zRC(vb:Value)(b:List Ver)(u:Value)(ps:List Pr)(v:Int)(W:World)(hb:zAR W vb b)(hu:zAT W u ps) :
  Calls Tryz.prog 95 #[.agg #[vb,u],.int .i64 v] W fun e w'=>e=.returned (.int .i64 (zAh (b,ps) v))∧Below W.heap.size W w':=by
 obtain ⟨a,c,rfl,_⟩:=hb.opened
 obtain ⟨a',c',rfl,_⟩:=hu.opened
 have S0:=(zAD.refl W).alloc (.cells #[.slice a b.length c,.slice a' ps.length c'] 27)
 have hb0:=hb.stays zAz.stays S0.below
 have hu0:=hu.stays zAj.stays S0.below
 have c0:(W.alloc (.cells #[.slice a b.length c,.slice a' ps.length c'] 27)).cell? ⟨W.heap.size,0,none⟩=some (.slice a b.length c):=by go_simp
 have c1:(W.alloc (.cells #[.slice a b.length c,.slice a' ps.length c'] 27)).cell? ⟨W.heap.size,1,none⟩=some (.slice a' ps.length c'):=by go_simp
 clear hb hu
 go_enter Tryz.func95,Tryz.ntmps95
 go_upto_region 1 with fail
 generalize W.alloc (.cells #[.slice a b.length c,.slice a' ps.length c'] 27)=w0 at *
 obtain ⟨B,hB⟩:∃B,B=W.heap.size:=⟨_,rfl⟩
 rw[←hB] at c0 c1 ⊢
 clear hB
 have hE:Hid (zAh (b,ps) v=if zA2 (b,ps)≠0 then zA2 (b,ps) else if v<0∨(b.length:Int)≤v then 4 else 0):=Zh rfl
 go_upto_region 2 with (go_at_call 21;go_fit (zBb _ b _ ps _ hb0 hu0);rintro e w1 ⟨rfl,hb1⟩)
 have S1:=S0.step hb1
 have d0:=zAA hb1 c0
 clear c0 c1 hb1 hb0 hu0
 by_cases h0:zA2 (b,ps)=0
 ·rw[h0] at hE ⊢
  obtain ⟨T,hT⟩:∃T:Bool,T=decide (v<0):=⟨_,rfl⟩
  cases T with
  | true =>
   have hm:v<0:=by simpa using hT.symm
   have H:Hid (zAh (b,ps) v=4):=Zh (by rw[hE.out];simp[hm])
   clear hT hE
   go_wp2_with fail
   go_ret
   exact ⟨by rw[H.out];rfl,S1.below⟩
  | false =>
   have hm:¬v<0:=by simpa using hT.symm
   by_cases h2:(b.length:Int)≤v
   ·have H:Hid (zAh (b,ps) v=4):=Zh (by rw[hE.out];simp[h2])
    clear hT hE
    go_wp2_with fail
    go_ret
    exact ⟨by rw[H.out];rfl,S1.below⟩
   ·have H:Hid (zAh (b,ps) v=0):=Zh (by rw[hE.out];simp[hm,h2])
    clear hT hE
    go_wp2_with fail
    go_ret
    exact ⟨by rw[H.out];rfl,S1.below⟩
 ·have H:Hid (zAh (b,ps) v=zA2 (b,ps)):=Zh (by rw[hE.out,if_pos h0])
  clear hE
  go_wp2_with fail
  go_ret
  exact ⟨by rw[H.out];rfl,S1.below⟩
attribute [local go_sem ↓] Go.wp_at_zero Go.wp_at_succ
theorem zJd{b:List Ver}(x:Ver)(h:zAt b≠0):zBz b x=zAt b:=by unfold zBz;rw[if_pos h]
theorem zKW{b:List Ver}(x:Ver)(h:zAt b=0)(hl:b.length=12):zBz b x=1:=by unfold zBz;rw[if_neg (by simpa using h),if_pos (by omega)]
theorem zRW{b:List Ver}(x:Ver)(h:zAt b=0)(hl:b.length≠12):zBz b x=zAt (b++[x]):=by unfold zBz;rw[if_neg (by simpa using h),if_neg (by omega)]
theorem zCu(w:World)(l:List Value)(T:TypeId)(n:Nat)(hn:n=w.heap.size):∀j u,l[j]?=some u→(w.alloc (.cells l.toArray T)).cell? ((⟨n,0,none⟩:Addr).add j)=some u:=by
 intro j u h
 subst hn
 rw[zEI,Nat.zero_add]
 unfold World.cell? World.alloc
 simpa using h
theorem zQ1{w:World}{u:Value}{x:Ver}{D:Nat→Prop}(hu:zAG w u x.1)(i:I64 x.2.1∧I64 x.2.2.1∧I64 x.2.2.2)(hD:∀k,Value.lies u k→¬D k)(o:Obj) :
  zA3 D zAz (w.alloc o) [u,.int .i64 x.2.1,.int .i64 x.2.2.1,.int .i64 x.2.2.2] x:=by
 intro w' hw'
 exact ⟨u,rfl,(hu.stays (zAB w o)).framed (fun k hk _=>hD k hk) hw',i⟩
def zE3(w:World)(v:Value)(x:Ver):Prop:=∃u,v=.agg #[u,.int .i64 x.2.1,.int .i64 x.2.2.1,.int .i64 x.2.2.2]∧zAG w u x.1∧I64 x.2.1∧I64 x.2.2.1∧I64 x.2.2.2
set_option maxRecDepth 100000 in
theorem zPq(v vx:Value)(b:List Ver)(x:Ver)(W:World)(hv:zAR W v b)(hx:zE3 W vx x)(hE:zAt b≠0∨b.length=12) :
  Calls Tryz.prog 69 #[.agg #[v],vx] W fun e w'=>e=.returned (.tuple #[.agg #[.slice none 0 0],.int .i64 (zBz b x)])∧Below W.heap.size W w':=by
 obtain ⟨vp,rfl,hp,_⟩:=hx
 obtain ⟨ap,cp,rfl,_⟩:=hp.opened
 obtain ⟨a,c,rfl,hc,⟨hm,hcm,_⟩,_⟩:=hv.opened
 clear hp
 obtain ⟨w0,hw0⟩:∃w0,w0=((W.alloc (.cells #[.slice a b.length c] 24)).alloc (.cells #[.slice ap x.1.length cp,.int .i64 x.2.1,.int .i64 x.2.2.1,.int .i64 x.2.2.2] 51)).alloc (.cells #[.slice none 0 0] 24):=⟨_,rfl⟩
 have S0:zAD W.heap.size W w0:=by rw[hw0];exact (((zAD.refl W).alloc _).alloc _).alloc _
 have c0:w0.cell? ⟨W.heap.size,0,none⟩=some (.slice a b.length c):=by rw[hw0];go_simp
 have c2:w0.cell? ⟨W.heap.size+2,0,none⟩=some (.slice none 0 0):=by rw[hw0];go_simp
 have f2:w0.frozen? ⟨W.heap.size+2,0,none⟩=false:=by rw[hw0];go_simp
 have hv0:=hv.later zAz.stays (zAF.old S0.below _)
 have HW:=Zh hw0
 obtain ⟨B2,hB2⟩:∃B,B=W.heap.size+2:=⟨_,rfl⟩
 have hBW:W.heap.size≤B2:=by omega
 rw[←hB2] at c2 f2
 have HB2:=Zh hB2
 have l0:=zAH c0
 have l2:=zAH c2
 clear hw0 hv hB2
 go_enter Tryz.func69,Tryz.ntmps69
 go_wp2_with fail
 rw[←HW.out,←HB2.out]
 refine (zBQ _ b _ hv0).mono ?_
 rintro e w1 ⟨rfl,hb1⟩
 have S1:=S0.step hb1
 have d0:=(hb1.cell (p:=⟨W.heap.size,0,none⟩) l0).trans c0
 have d2:=(hb1.cell (p:=⟨B2,0,none⟩) l2).trans c2
 have g2:=(hb1.frozen (p:=⟨B2,0,none⟩) l2).trans f2
 clear c0 c2 f2 hb1
 have S2:=S1.setCell (a:=⟨B2,0,none⟩) hBW (.slice none 0 0)
 have m2:(w1.setCell ⟨B2,0,none⟩ (.slice none 0 0)).cell? ⟨B2,0,none⟩=some (.slice none 0 0):=by go_simp
 by_cases h0:zAt b=0
 ·have hl:b.length=12:=by
   rcases hE with h|h
   ·exact absurd h0 h
   ·exact h
  have HE:=Zh (zKW x h0 hl)
  have hl1:((b.length:Int) == 12)=true:=by rw[hl];rfl
  rw[h0]
  clear hl hE h0
  go_wp2_with fail
  exact bodyPost_ret (v:=.tuple #[.agg #[.slice none 0 0],.int .i64 1]) (by simp[results,Tryz.results69,go_sem,m2]) rfl ⟨by rw[HE.out],S2.below⟩
 ·have HE:=Zh (zJd x h0)
  have hne:(zAt b != 0)=true:=by simpa using h0
  clear hE h0
  go_wp2_with fail
  exact bodyPost_ret (v:=.tuple #[.agg #[.slice none 0 0],.int .i64 (zAt b)]) (by simp[results,Tryz.results69,go_sem,m2]) rfl ⟨by rw[HE.out],S2.below⟩
set_option maxRecDepth 100000 in
theorem zHt(v vx:Value)(b:List Ver)(x:Ver)(W:World)(hv:zAR W v b)(hx:zE3 W vx x)(h0:zAt b=0)(hl:b.length≠12) :
  Calls Tryz.prog 69 #[.agg #[v],vx] W fun e w'=>(∃v',e=.returned (.tuple #[.agg #[v'],.int .i64 (zBz b x)])∧zAK 4 zAz (fun k=>k<W.heap.size) w' 51 W.heap.size v' (zFC b x))∧Below W.heap.size W w':=by
 have h12:=(zBj.1 h0).top
 have HE:=Zh (zRW x h0 hl)
 have hl1:((b.length:Int) == 12)=false:=by simp;omega
 have H0:=Zh h0
 clear hl h0
 obtain ⟨vp,rfl,hp,ip⟩:=hx
 obtain ⟨ap,cp,rfl,_⟩:=hp.opened
 obtain ⟨a,c,rfl,hc,⟨hm,hcm,_⟩,_⟩:=hv.opened
 obtain ⟨w0,hw0⟩:∃w0,w0=((W.alloc (.cells #[.slice a b.length c] 24)).alloc (.cells #[.slice ap x.1.length cp,.int .i64 x.2.1,.int .i64 x.2.2.1,.int .i64 x.2.2.2] 51)).alloc (.cells #[.slice none 0 0] 24):=⟨_,rfl⟩
 have S0:zAD W.heap.size W w0:=by rw[hw0];exact (((zAD.refl W).alloc _).alloc _).alloc _
 have c0:w0.cell? ⟨W.heap.size,0,none⟩=some (.slice a b.length c):=by rw[hw0];go_simp
 have f0:w0.frozen? ⟨W.heap.size,0,none⟩=false:=by rw[hw0];go_simp
 have q0:w0.cell? ⟨W.heap.size+1,0,none⟩=some (.slice ap x.1.length cp):=by rw[hw0];go_simp
 have q1:w0.cell? ⟨W.heap.size+1,1,none⟩=some (.int .i64 x.2.1):=by rw[hw0];go_simp
 have q2:w0.cell? ⟨W.heap.size+1,2,none⟩=some (.int .i64 x.2.2.1):=by rw[hw0];go_simp
 have q3:w0.cell? ⟨W.heap.size+1,3,none⟩=some (.int .i64 x.2.2.2):=by rw[hw0];go_simp
 have c2:w0.cell? ⟨W.heap.size+2,0,none⟩=some (.slice none 0 0):=by rw[hw0];go_simp
 have f2:w0.frozen? ⟨W.heap.size+2,0,none⟩=false:=by rw[hw0];go_simp
 have hv0:=hv.later zAz.stays (zAF.old S0.below _)
 have HW:=Zh hw0
 obtain ⟨B0,hB0⟩:∃B,B=W.heap.size:=⟨_,rfl⟩
 obtain ⟨B1,hB1⟩:∃B,B=W.heap.size+1:=⟨_,rfl⟩
 obtain ⟨B2,hB2⟩:∃B,B=W.heap.size+2:=⟨_,rfl⟩
 have hBW0:W.heap.size≤B0:=by omega
 have hBW2:W.heap.size≤B2:=by omega
 have hB01:B1≠B0:=by omega
 have hB02:B2≠B0:=by omega
 rw[←hB0] at c0 f0
 rw[←hB1] at q0 q1 q2 q3
 rw[←hB2] at c2 f2
 have HB0:=Zh hB0
 have HB1:=Zh hB1
 have HB2:=Zh hB2
 have l0:=zAH c0
 have l1:=zAH q0
 have l2:=zAH c2
 clear hw0 hv hB0 hB1 hB2
 go_enter Tryz.func69,Tryz.ntmps69
 go_wp2_with fail
 rw[←HW.out,←HB2.out,←HB1.out,←HB0.out]
 refine (zBQ _ b _ hv0).mono ?_
 rintro e w1 ⟨rfl,hb1⟩
 rw[H0.out]
 have S1:=S0.step hb1
 have T1:=(zAD.refl w0).step hb1
 have d0:=(T1.below.cell (p:=⟨B0,0,none⟩) l0).trans c0
 have hv1:=hv0.stays zAz.stays hb1
 go_wp2_with fail
 refine (zH1 _ b _ hv1 (by omega)).mono ?_
 rintro e w2 ⟨⟨v2,rfl,ho2⟩,hb2⟩
 have T2:=T1.step hb2
 have S2:=S1.step hb2
 have hsz1:=T1.2
 have d0:=(T2.below.cell (p:=⟨B0,0,none⟩) l0).trans c0
 have g0:=(T2.below.frozen (p:=⟨B0,0,none⟩) l0).trans f0
 have e0:=(T2.below.cell (p:=⟨B1,0,none⟩) l1).trans q0
 have e1:=(T2.below.cell (p:=⟨B1,1,none⟩) l1).trans q1
 have e2:=(T2.below.cell (p:=⟨B1,2,none⟩) l1).trans q2
 have e3:=(T2.below.cell (p:=⟨B1,3,none⟩) l1).trans q3
 have d2:=(T2.below.cell (p:=⟨B2,0,none⟩) l2).trans c2
 have g2:=(T2.below.frozen (p:=⟨B2,0,none⟩) l2).trans f2
 obtain ⟨a2,c2',rfl,hcap2,⟨_,hcm2,_⟩,_⟩:=ho2.isRow.opened
 have hlo:=ho2.lt
 have hn2:(Value.slice a2 b.length c2').ownBlock=none∨(Value.slice a2 b.length c2').ownBlock≠some B0:=by
  cases hk:(Value.slice a2 b.length c2').ownBlock with
  | none=>exact Or.inl rfl
  | some k=>right;intro e;cases e;have:=(hlo B0 hk).1;omega
 have ho3:=ho2.kept (zAC w2 ⟨B0,0,none⟩ (.slice a2 b.length c2')) (by intro k hk;cases hk;exact Nat.lt_of_lt_of_le l0 hsz1) hn2
 have S3:=S2.setCell (a:=⟨B0,0,none⟩) hBW0 (.slice a2 b.length c2')
 have T3:zAD w0.heap.size w0 w2:=T2
 have hp3:=hp.stays S3.below
 have n0:(w2.setCell ⟨B0,0,none⟩ (.slice a2 b.length c2')).cell? ⟨B0,0,none⟩=some (.slice a2 b.length c2'):=by go_simp
 have n1:(w2.setCell ⟨B0,0,none⟩ (.slice a2 b.length c2')).frozen? ⟨B0,0,none⟩=false:=by go_simp
 have m0:=(zAI w2 B0 0 (.slice a2 b.length c2') (p:=⟨B1,0,none⟩) hB01).trans e0
 have m1:=(zAI w2 B0 0 (.slice a2 b.length c2') (p:=⟨B1,1,none⟩) hB01).trans e1
 have m2:=(zAI w2 B0 0 (.slice a2 b.length c2') (p:=⟨B1,2,none⟩) hB01).trans e2
 have m3:=(zAI w2 B0 0 (.slice a2 b.length c2') (p:=⟨B1,3,none⟩) hB01).trans e3
 have d2:=(zAI w2 B0 0 (.slice a2 b.length c2') (p:=⟨B2,0,none⟩) hB02).trans d2
 have g2:=(zA1 w2 B0 0 (.slice a2 b.length c2') (p:=⟨B2,0,none⟩) hB02).trans g2
 have hs3:w1.heap.size≤(w2.setCell ⟨B0,0,none⟩ (.slice a2 b.length c2')).heap.size:=by have:=hb2.size;simpa using this
 go_upto_region 7 with fail
 clear d0 g0 e0 e1 e2 e3
 generalize w2.setCell ⟨B0,0,none⟩ (.slice a2 b.length c2')=w3 at *
 have L:=Zh (zD0 _ x.1 w3.drew hp3.drew)
 have G:Hid (∀w5,Below w3.drew.heap.size w3.drew w5→w5.cell? ⟨B0,0,none⟩=some (.slice a2 b.length c2')∧w5.frozen? ⟨B0,0,none⟩=false∧w5.cell? ⟨B1,0,none⟩=some (.slice ap x.1.length cp)∧w5.cell? ⟨B1,1,none⟩=some (.int .i64 x.2.1)∧w5.cell? ⟨B1,2,none⟩=some (.int .i64 x.2.2.1)∧w5.cell? ⟨B1,3,none⟩=some (.int .i64 x.2.2.2)∧w5.cell? ⟨B2,0,none⟩=some (.slice none 0 0)∧w5.frozen? ⟨B2,0,none⟩=false):=
  Zh (fun w5 hb=>⟨(hb.cell (p:=⟨B0,0,none⟩) (zAH n0)).trans n0,(hb.frozen (p:=⟨B0,0,none⟩) (zAH n0)).trans n1,(hb.cell (p:=⟨B1,0,none⟩) (zAH m0)).trans m0,(hb.cell (p:=⟨B1,1,none⟩) (zAH m1)).trans m1,(hb.cell (p:=⟨B1,2,none⟩) (zAH m2)).trans m2,(hb.cell (p:=⟨B1,3,none⟩) (zAH m3)).trans m3,(hb.cell (p:=⟨B2,0,none⟩) (zAH d2)).trans d2,(hb.frozen (p:=⟨B2,0,none⟩) (zAH d2)).trans g2⟩)
 have HO:=Zh ho3
 have HLO:=Zh hlo
 have NB:Hid (some B0≠(Value.slice a2 b.length c2').ownBlock∧some B2≠(Value.slice a2 b.length c2').ownBlock):=Zh ⟨fun e=>by have:=(HLO.out B0 e.symm).1;omega,fun e=>by have:=(HLO.out B2 e.symm).1;omega⟩
 have hs3d:w1.heap.size≤w3.drew.heap.size:=hs3
 have hlo3:=ho3.lt
 have HLO3:=Zh hlo3
 clear ho2 ho3 hlo hlo3 hn2
 go_cut[30] (fun s30 wx=>∃a6 c6,s30=.slice a6 (b.length+1) c6∧zAD W.heap.size W wx∧b.length+1≤c6∧c6≤9223372036854775807∧wx.cell? ⟨B0,0,none⟩=some (.slice a6 (b.length+1) c6)∧wx.cell? ⟨B2,0,none⟩=some (.slice none 0 0)∧wx.frozen? ⟨B2,0,none⟩=false∧zAK 4 zAz (fun k=>k<w1.heap.size) wx 51 w1.heap.size (.slice a6 (b.length+1) c6) (b++[x]))
 case first =>
  go_region_law (first
   | (go_simp;go_at_call 39;refine L.out.mono ?_;rintro e w5 ⟨⟨v5,rfl,hv5⟩,hb5⟩;obtain ⟨a5,c5,rfl,_⟩:=hv5.isInts.opened;obtain ⟨k0,k1,k2,k3,k4,k5,k6,k7⟩:=G.out w5 hb5;have kk0:=zA0 k0 (.cells #[.slice a5 x.1.length c5,.int .i64 x.2.1,.int .i64 x.2.2.1,.int .i64 x.2.2.2] 51))
   | (refine zCR rfl _ _ 22 rfl 4 (fun k=>k<w1.heap.size) 51 Tryz.underlying22 _ 48 zLH rfl (by omega) (by omega) w1.heap.size (.slice a2 b.length c2') b rfl ((HO.out.drew.stays hb5).stays (zAB w5 _)) ⟨w5.heap.size,0,none⟩ 1 [.slice a5 x.1.length c5,.int .i64 x.2.1,.int .i64 x.2.2.1,.int .i64 x.2.2.2] x rfl rfl (by intro u hu;simp at hu;rcases hu with rfl | rfl | rfl | rfl<;>rfl) (zCu w5 [.slice a5 x.1.length c5,.int .i64 x.2.1,.int .i64 x.2.2.1,.int .i64 x.2.2.2] 51 _ rfl) (zQ1 hv5.isInts ip (fun k hk hd=>by have h5:=(hv5.lies k hk).1;simp at h5;rcases hd with hd | hd;(have:=(HLO3.out k hd).2;omega);omega) _) (by omega) (by have:=hb5.size;simp at this ⊢;omega) ?_;intro v6 w6 ho6 hg6 hat6;obtain ⟨a6,c6,rfl,hcap6,⟨hl6,hcm6,_⟩,_⟩:=ho6.isRow.opened;have z0:=hg6.cell (zA0 k0 _) NB.out.1;have z1:=zAW hg6 (zA0 k0 _) (zCf k0 k1 _) NB.out.1;have z2:=hg6.cell (zA0 k6 _) NB.out.2;have z3:=zAW hg6 (zA0 k6 _) (zCf k6 k7 _) NB.out.2))
  all_goals
   have hl6:(b++[x]).length=b.length+1:=by simp
   rw[hl6] at ho6 hcap6
   have S6:=(((S3.drew.step hb5).alloc (.cells #[.slice a5 x.1.length c5,.int .i64 x.2.1,.int .i64 x.2.2.1,.int .i64 x.2.2.2] 51)).grown hg6 (fun k hk=>by have:=(HLO.out k hk).1;have:=S1.2;omega)).setCell (a:=⟨B0,0,none⟩) hBW0 (.slice a6 (b.length+1) c6)
   have hn6:(Value.slice a6 (b.length+1) c6).ownBlock=none∨(Value.slice a6 (b.length+1) c6).ownBlock≠some B0:=by
    cases hk:(Value.slice a6 (b.length+1) c6).ownBlock with
    | none=>exact Or.inl rfl
    | some k=>right;intro e;cases e;have:=(ho6.lt B0 hk).1;omega
   have ho7:=ho6.kept (zAC w6 ⟨B0,0,none⟩ (.slice a6 (b.length+1) c6)) (by intro k hk;cases hk;exact Nat.lt_of_lt_of_le l0 hsz1) hn6
   have y0:(w6.setCell ⟨B0,0,none⟩ (.slice a6 (b.length+1) c6)).cell? ⟨B0,0,none⟩=some (.slice a6 (b.length+1) c6):=by go_simp
   have y2:=(zAI w6 B0 0 (.slice a6 (b.length+1) c6) (p:=⟨B2,0,none⟩) hB02).trans z2
   have y3:=(zA1 w6 B0 0 (.slice a6 (b.length+1) c6) (p:=⟨B2,0,none⟩) hB02).trans z3
   clear k0 k1 k2 k3 k4 k5 k6 k7 z0 z1 z2 z3 ho6 hg6 hat6 hb5 hv5 n0 n1 m0 m1 m2 m3 d2 g2 hn6
   go_wp2_with fail
   go_meet
   exact ⟨_,_,rfl,S6,hcap6,hcm6,y0,y2,y3,ho7⟩
 case rest =>
  obtain ⟨a6,c6,rfl,S6,hcap6,hcm6,y0,y2,y3,ho7⟩:=hcut
  have hi7:=ho7.isRow
  have HO7:=Zh ho7
  have hl6:(b++[x]).length=b.length+1:=by simp
  have HL6:=Zh hl6
  clear ho7 hl6 n0 n1 m0 m1 m2 m3 d2 g2 S3 S2 hp3
  go_wp2_with fail
  refine (zBQ _ (b++[x]) _ hi7).mono ?_
  rintro e w8 ⟨rfl,hb8⟩
  rw[←HE.out]
  have S8:=S6.step hb8
  have o0:=zAA hb8 y0
  have o2:=zAA hb8 y2
  have o3:=zAE hb8 y2 y3
  have hi8:=hi7.stays zAz.stays hb8
  by_cases hz:zBz b x=0
  ·have HC:=Zh (zLa hz)
   have HZ:=Zh hz
   rw[hz]
   have S9:=S8.setCell (a:=⟨B2,0,none⟩) hBW2 (.slice a6 (b.length+1) c6)
   have m2:(w8.setCell ⟨B2,0,none⟩ (.slice a6 (b.length+1) c6)).cell? ⟨B2,0,none⟩=some (.slice a6 (b.length+1) c6):=by go_simp
   have hi9:=((HO7.out.stays hb8).kept (zAC w8 ⟨B2,0,none⟩ (.slice a6 (b.length+1) c6)) (by intro k hk;cases hk;exact Nat.lt_of_lt_of_le l2 hsz1) (by
    cases hk:(Value.slice a6 (b.length+1) c6).ownBlock with
    | none=>exact Or.inl rfl
    | some k=>right;intro e;cases e;have:=(HO7.out.lt B2 hk).1;omega))
   have hi9:=(hi9.weaken (E':=fun k=>k<W.heap.size) (fun k _ hk=>Or.inl (by have:=S1.2;omega))).mono S1.2
   clear y0 y2 y3 hz
   go_wp2_with fail
   exact bodyPost_ret (v:=.tuple #[.agg #[.slice a6 (b.length+1) c6],.int .i64 0]) (by simp[results,Tryz.results69,go_sem,m2]) rfl ⟨⟨_,by rw[HZ.out],by rw[HC.out];exact hi9⟩,S9.below⟩
  ·have hne:(zBz b x != 0)=true:=by simpa using hz
   have HC:=Zh (zLM hz)
   have S9:=S8.setCell (a:=⟨B2,0,none⟩) hBW2 (.slice none 0 0)
   have m2:(w8.setCell ⟨B2,0,none⟩ (.slice none 0 0)).cell? ⟨B2,0,none⟩=some (.slice none 0 0):=by go_simp
   clear y0 y2 y3 hz
   go_wp2_with fail
   exact bodyPost_ret (v:=.tuple #[.agg #[.slice none 0 0],.int .i64 (zBz b x)]) (by simp[results,Tryz.results69,go_sem,m2]) rfl ⟨⟨_,rfl,by rw[HC.out];exact zAK.nil _ _ _⟩,S9.below⟩
theorem zOQ(v vx:Value)(b:List Ver)(x:Ver)(W:World)(hv:zAR W v b)(hx:zE3 W vx x) :
  Calls Tryz.prog 69 #[.agg #[v],vx] W fun e w'=>(∃v',e=.returned (.tuple #[.agg #[v'],.int .i64 (zBz b x)])∧zAK 4 zAz (fun k=>k<W.heap.size) w' 51 W.heap.size v' (zFC b x))∧Below W.heap.size W w':=by
 by_cases h:zAt b≠0∨b.length=12
 ·have hz:zBz b x≠0:=by
   by_cases h0:zAt b=0
   ·rw[zKW x h0 (by rcases h with h | h;exact absurd h0 h;exact h)];omega
   ·rw[zJd x h0];exact h0
  exact (zPq v vx b x W hv hx h).mono fun e w' ⟨he,hb⟩=>⟨⟨_,he,by rw[zLM hz];exact zAK.nil _ _ _⟩,hb⟩
 ·exact zHt v vx b x W hv hx (by omega) (by omega)
def zB9(data pr:List Int)(n o:Int):Ver:=(pr,n,o,(data.length:Int))
def zEK(m:Me)(data pr:List Int)(n o:Int):Int:=
 if zA2 m≠0 then zA2 m else if zAe n o data.length data≠0 then zAe n o data.length data else
 if zBz m.1 (zB9 data pr n o)≠0 then zBz m.1 (zB9 data pr n o) else zF8 (zFC m.1 (zB9 data pr n o),m.2) m.1.length (zA4 n o data.length data)
def zD5(m:Me)(data pr:List Int)(n o:Int):Me:=
 if zA2 m≠0∨zAe n o data.length data≠0∨zBz m.1 (zB9 data pr n o)≠0 then ([],[]) else zGk (zFC m.1 (zB9 data pr n o),m.2) m.1.length (zA4 n o data.length data)
theorem zED{b:List Ver}{ps:List Pr}(h:zA2 (b,ps)=0):b.length≤12∧ps.length≤8∧∀x∈ps,x.2.2.length≤20:=by
 obtain ⟨h1,h2,h3⟩:=zAU.1 h
 refine ⟨(zBj.1 h1).top,h2,fun x hx=>?_⟩
 have h4:=(h3 x hx).room
 have h5:=(h3 x hx).few
 omega
theorem zJo{m:Me}{data pr:List Int}{n o:Int}(h:zA2 m≠0):zEK m data pr n o=zA2 m∧zD5 m data pr n o=([],[]):=by
 unfold zEK zD5
 exact ⟨if_pos h,if_pos (Or.inl h)⟩
theorem zJV{m:Me}{data pr:List Int}{n o:Int}(h0:zA2 m=0)(h:zAe n o data.length data≠0):zEK m data pr n o=zAe n o data.length data∧zD5 m data pr n o=([],[]):=by
 unfold zEK zD5
 rw[if_neg (by simpa using h0),if_pos h]
 exact ⟨rfl,if_pos (Or.inr (Or.inl h))⟩
theorem zJX{m:Me}{data pr:List Int}{n o:Int}(h0:zA2 m=0)(h1:zAe n o data.length data=0)(h:zBz m.1 (zB9 data pr n o)≠0):zEK m data pr n o=zBz m.1 (zB9 data pr n o)∧zD5 m data pr n o=([],[]):=by
 unfold zEK zD5
 rw[if_neg (by simpa using h0),if_neg (by simpa using h1),if_pos h]
 exact ⟨rfl,if_pos (Or.inr (Or.inr h))⟩
theorem zI4{m:Me}{data pr:List Int}{n o:Int}(h0:zA2 m=0)(h1:zAe n o data.length data=0)(h:zBz m.1 (zB9 data pr n o)=0):zEK m data pr n o=zF8 (zFC m.1 (zB9 data pr n o),m.2) m.1.length (zA4 n o data.length data)∧zD5 m data pr n o=zGk (zFC m.1 (zB9 data pr n o),m.2) m.1.length (zA4 n o data.length data):=by
 unfold zEK zD5
 rw[if_neg (by simpa using h0),if_neg (by simpa using h1),if_neg (by simpa using h),if_neg (by simp[h0,h1,h])]
 exact ⟨rfl,rfl⟩
theorem zB6.dirty{w w':World}{ei e:TypeId}{base g n:Nat}{ls:List Sh}{f:Nat→Value}(h:zB6 w ei e base g n ls f){D:Nat→Prop}(hw:zAF D w w')(hD:∀k,base≤k→k<w.heap.size→¬D k):zB6 w' ei e base g n ls f:=
 ⟨h.len,h.top,h.low,by obtain ⟨cur,hg,r⟩:=h.row;exact ⟨cur,(hw.2 g h.lt (hD g h.low h.lt)).trans hg,r⟩,fun k s hs=>(h.own k s hs).same (fun j hj=>by
  have hk:k<n:=by have:=(List.getElem?_eq_some_iff.1 hs).1;have:=h.len;omega
  have:=h.flt hk hj
  exact hw.2 j this.2 (hD j this.1 this.2)),h.apart,h.off⟩
theorem zKk(n o s:Int)(v:Value)(data:List Int)(W:World)(hd:zAG W v data) :
  Calls Tryz.prog 68 #[.agg #[.int .i64 n,.int .i64 o,.int .i64 s],v] W fun e w'=>(∃v',e=.returned (.tuple #[v',.int .i64 (zAe n o s data)])∧(∀w'',zAF (fun k=>k<W.heap.size∨w'.heap.size≤k) w' w''→zAN w'' v' (zA4 n o s data))∧∀k,Value.lies v' k→k<w'.heap.size)∧Below W.heap.size W w':=by
 by_cases h:zAe n o s data=0
 ·obtain ⟨n,o,s,rfl,rfl,rfl⟩:=zCq (zDQ h).1
  rw[h,zBw h]
  exact (zLj n o s v data W hd h).mono fun e w' ⟨⟨g,f,he,ho⟩,hb⟩=>⟨⟨_,he,fun w'' hw=>(ho.dirty hw (fun k h1 h2 h3=>by omega)).isShares,fun k hk=>by obtain ⟨x,y,z,e,rfl⟩:=hk;cases e;exact ho.lt⟩,hb⟩
 ·exact (zPI n o s v data W hd h).mono fun e w' ⟨he,hb⟩=>⟨⟨_,he,fun _ _=>by rw[zFp h];exact zA6 (zAZ.nil _),fun _ hk=>zDt hk⟩,hb⟩
set_option maxRecDepth 100000 in
theorem zOr(vb u vd vp:Value)(b:List Ver)(ps:List Pr)(data pr:List Int)(n o:Int)(W:World)(hb:zAR W vb b)(hu:zAT W u ps)(hd:zAG W vd data)(hp:zAG W vp pr)(hn:I64 n)(ho:I64 o) :
  Calls Tryz.prog 43 #[.agg #[vb,u],vd,vp,.int .i64 n,.int .i64 o] W fun e w'=>(∃u1 u2,e=.returned (.tuple #[.agg #[u1,u2],.int .i64 (zEK (b,ps) data pr n o)])∧zCl (fun k=>k<W.heap.size) w' W.heap.size u1 u2 (zD5 (b,ps) data pr n o))∧Below W.heap.size W w':=by
 obtain ⟨a,c,rfl,hcb,⟨hbm,hbc,_⟩,_⟩:=hb.opened
 obtain ⟨a',c',rfl,hcu,⟨hum,huc,_⟩,_⟩:=hu.opened
 obtain ⟨ad,cd,rfl,hcd,⟨hdm,hdc,_⟩,_⟩:=hd.opened
 obtain ⟨ap,cp,rfl,hcp,⟨hpm,hpc,_⟩,_⟩:=hp.opened
 have S0:=((zAD.refl W).alloc (.cells #[.slice a b.length c,.slice a' ps.length c'] 27)).alloc (.cells #[.slice none 0 0,.slice none 0 0] 27)
 obtain ⟨w0,hw0⟩:∃w0,w0=(W.alloc (.cells #[.slice a b.length c,.slice a' ps.length c'] 27)).alloc (.cells #[.slice none 0 0,.slice none 0 0] 27):=⟨_,rfl⟩
 have p0:w0.cell? ⟨W.heap.size,0,none⟩=some (.slice a b.length c):=by rw[hw0];go_simp
 have p1:w0.cell? ⟨W.heap.size,1,none⟩=some (.slice a' ps.length c'):=by rw[hw0];go_simp
 have p2:∀j,w0.frozen? ⟨W.heap.size,j,none⟩=false:=by intro j;rw[hw0];go_simp
 have q0:w0.cell? ⟨W.heap.size+1,0,none⟩=some (.slice none 0 0):=by rw[hw0];go_simp
 have q1:w0.cell? ⟨W.heap.size+1,1,none⟩=some (.slice none 0 0):=by rw[hw0];go_simp
 have q2:∀j,w0.frozen? ⟨W.heap.size+1,j,none⟩=false:=by intro j;rw[hw0];go_simp
 have hsz0:w0.heap.size=W.heap.size+2:=by rw[hw0];simp
 rw[←hw0] at S0
 have HW:=Zh hw0
 clear hw0
 obtain ⟨B,hB⟩:∃B,B=W.heap.size:=⟨_,rfl⟩
 obtain ⟨B1,hB1⟩:∃B1,B1=W.heap.size+1:=⟨_,rfl⟩
 have hBW:W.heap.size≤B:=by omega
 have hBW1:W.heap.size≤B1:=by omega
 have hBB:¬B1=B:=by omega
 have hBB':¬B=B1:=by omega
 have hB0:B<w0.heap.size:=by omega
 have hB10:B1<w0.heap.size:=by omega
 rw[←hB1] at q0 q1 q2
 rw[←hB] at p0 p1 p2
 have HB:=Zh hB
 have HB1:=Zh hB1
 clear hB hB1 hsz0
 have hb0:=hb.stays zAz.stays S0.below
 have hu0:=hu.stays zAj.stays S0.below
 have HD:=Zh (hd.stays S0.below)
 have HP:=Zh hp
 clear hb hu hd hp
 go_enter Tryz.func43,Tryz.ntmps43
 go_upto_region 1 with fail
 rw[←HW.out,←HB1.out,←HB.out]
 go_upto_region 2 with (go_at_call 21;go_fit (zBb _ b _ ps _ hb0 hu0);rintro e w1 ⟨rfl,hb1⟩)
 have T1:=(zAD.refl w0).step hb1
 have HF:Hid (∀w',zAD w0.heap.size w0 w'→w'.cell? ⟨B,0,none⟩=some (.slice a b.length c)∧w'.cell? ⟨B,1,none⟩=some (.slice a' ps.length c')∧(∀j,w'.frozen? ⟨B,j,none⟩=false)):=Zh (fun w' q=>⟨zAA q.below p0,zAA q.below p1,fun j=>(q.below.frozen (p:=⟨B,j,none⟩) hB0).trans (p2 j)⟩)
 have HG:Hid (∀w':World,w'.heap[B1]?=w0.heap[B1]?→w'.cell? ⟨B1,0,none⟩=some (.slice none 0 0)∧w'.cell? ⟨B1,1,none⟩=some (.slice none 0 0)∧(∀j,w'.frozen? ⟨B1,j,none⟩=false)):=Zh (fun w' q=>⟨(World.cell?_of_block q).trans q0,(World.cell?_of_block q).trans q1,fun j=>(World.frozen?_of_block q).trans (q2 j)⟩)
 by_cases h0:zA2 (b,ps)=0
 ·have H0:=Zh h0
  obtain ⟨hb12,hp8,hk20⟩:=zED h0
  rw[h0]
  have hdl:I64 (data.length:Int):=⟨by omega,by omega⟩
  have T2:=T1.alloc (.cells #[.int .i64 n,.int .i64 o,.int .i64 (data.length:Int)] 49)
  have g0:(w1.alloc (.cells #[.int .i64 n,.int .i64 o,.int .i64 (data.length:Int)] 49)).cell? ⟨w1.heap.size,0,none⟩=some (.int .i64 n):=by go_simp
  have g1:(w1.alloc (.cells #[.int .i64 n,.int .i64 o,.int .i64 (data.length:Int)] 49)).cell? ⟨w1.heap.size,1,none⟩=some (.int .i64 o):=by go_simp
  have g2:(w1.alloc (.cells #[.int .i64 n,.int .i64 o,.int .i64 (data.length:Int)] 49)).cell? ⟨w1.heap.size,2,none⟩=some (.int .i64 (data.length:Int)):=by go_simp
  have hsz2:w0.heap.size≤w1.heap.size:=T1.2
  have hb2:=hb0.stays zAz.stays T2.below
  have hu2:=hu0.stays zAj.stays T2.below
  clear p0 p1 p2 q0 q1 q2 hb1 h0 hb0 hu0
  go_upto_region 5 with fail
  generalize w1.alloc (.cells #[.int .i64 n,.int .i64 o,.int .i64 (data.length:Int)] 49)=w2 at *
  obtain ⟨B2,hB2⟩:∃B2,B2=w1.heap.size:=⟨_,rfl⟩
  rw[←hB2] at g0 g1 g2 hsz2 ⊢
  have hB2l:=zAH g0
  simp only at hB2l
  have hB21:¬B2=B1:=by omega
  have hB2B:¬B2=B:=by omega
  clear hB2
  have HB2:=Zh hb2
  have HU2:=Zh hu2
  go_upto_region 6 with (go_at_call 68;go_fit (zKk n o (data.length:Int) _ data _ (HD.out.stays T2.below));rintro e w3 ⟨⟨vs,rfl,hsh,hsl⟩,hb3⟩)
  have T3:=T2.step hb3
  have hs23:=hb3.size
  have U3:=(zAD.refl w2).step hb3
  by_cases h1:zAe n o data.length data=0
  ·have H1:=Zh h1
   rw[h1]
   have hb3':=HB2.out.stays zAz.stays U3.below
   have hu3':=HU2.out.stays zAj.stays U3.below
   obtain ⟨x0,x1,x2⟩:=HF.out w3 T3
   have HSL:=Zh hsl
   have HSH:=Zh hsh
   have z0:=x2 0
   have z1:=x2 1
   have hs0:=hsh w3 (zAF.refl _ _)
   obtain ⟨aS,cS,rfl,_⟩:=hs0.opened
   clear hb2 hu2 hsl hsh hs0 x2 h1
   go_upto_region 9 with (go_at_call 22;go_fit (zDS _ b _ ps w3 hb3' hu3' (by omega) (by omega) (fun x hx=>Nat.le_trans (hk20 x hx) (by omega)));rintro e w4 ⟨⟨y1,y2,rfl,hom⟩,hb4⟩;obtain ⟨a4,c4,rfl,hc4,⟨hm4,hcm4,_⟩,_⟩:=hom.vers.opened;obtain ⟨a5,c5,rfl,_⟩:=hom.peers.opened;have z0:=zAE hb4 x0 z0;have z1:=zAE hb4 x1 z1;have x0:=zAA hb4 x0;have x1:=zAA hb4 x1)
   have S4:=(S0.step T3.below).step hb4
   have hg5:=(zAC w4 ⟨B,0,none⟩ (.slice a4 b.length c4)).trans (zAC _ ⟨B,1,none⟩ (.slice a5 ps.length c5))
   have hd5:zAF (fun j=>j=B) w4 ((w4.setCell ⟨B,0,none⟩ (.slice a4 b.length c4)).setCell ⟨B,1,none⟩ (.slice a5 ps.length c5)):=(zAF.of_grown hg5).mono fun j _ hj=>by cases hj;rfl
   have S5:=(S4.setCell (a:=⟨B,0,none⟩) hBW (.slice a4 b.length c4)).setCell (a:=⟨B,1,none⟩) hBW (.slice a5 ps.length c5)
   have t0:((w4.setCell ⟨B,0,none⟩ (.slice a4 b.length c4)).setCell ⟨B,1,none⟩ (.slice a5 ps.length c5)).cell? ⟨B,0,none⟩=some (.slice a4 b.length c4):=by go_simp
   have t1:((w4.setCell ⟨B,0,none⟩ (.slice a4 b.length c4)).setCell ⟨B,1,none⟩ (.slice a5 ps.length c5)).cell? ⟨B,1,none⟩=some (.slice a5 ps.length c5):=by go_simp
   have t2:((w4.setCell ⟨B,0,none⟩ (.slice a4 b.length c4)).setCell ⟨B,1,none⟩ (.slice a5 ps.length c5)).frozen? ⟨B,0,none⟩=false:=by go_simp
   have hBw3:B<w3.heap.size:=by omega
   have hom5:=hom.frame hd5 (fun k hk=>by rw[hk];exact ⟨hBw3,hBw3⟩)
   have hDB:zAF (fun k=>k=B) w2 ((w4.setCell ⟨B,0,none⟩ (.slice a4 b.length c4)).setCell ⟨B,1,none⟩ (.slice a5 ps.length c5)):=((zAF.old U3.below _).trans (zAF.old hb4 _)).trans hd5
   have hDS:zAF (fun k=>k<w2.heap.size∨w3.heap.size≤k) w3 ((w4.setCell ⟨B,0,none⟩ (.slice a4 b.length c4)).setCell ⟨B,1,none⟩ (.slice a5 ps.length c5)):=(zAF.old hb4 _).trans (hd5.mono fun k _ hk=>Or.inl (by omega))
   have G0:=hDB.cell g0 hB2B
   have G1:=hDB.cell g1 hB2B
   have G2:=hDB.cell g2 hB2B
   have hdw:zAF (fun k=>k=B) w0 ((w4.setCell ⟨B,0,none⟩ (.slice a4 b.length c4)).setCell ⟨B,1,none⟩ (.slice a5 ps.length c5)):=(zAF.old T2.below _).trans hDB
   have hp5:=HP.out.framed (D:=fun k=>k=B) (fun k hk hne e=>by have:=HP.out.block_lt k hk hne;omega) ((zAF.old S0.below _).trans hdw)
   have hb34:=hb4.size
   have hs5:w4.heap.size≤((w4.setCell ⟨B,0,none⟩ (.slice a4 b.length c4)).setCell ⟨B,1,none⟩ (.slice a5 ps.length c5)).heap.size:=by simp
   clear x0 x1 z0 z1 hom g0 g1 g2 hd5 hg5
   generalize (w4.setCell ⟨B,0,none⟩ (.slice a4 b.length c4)).setCell ⟨B,1,none⟩ (.slice a5 ps.length c5)=w5 at *
   have hver:zE3 w5 (.agg #[.slice ap pr.length cp,.int .i64 n,.int .i64 o,.int .i64 (data.length:Int)]) (zB9 data pr n o):=⟨_,rfl,hp5,hn,ho,hdl⟩
   have HL:=Zh (zOQ _ _ b (zB9 data pr n o) w5 hom5.vers hver)
   have hBw5:B<w5.heap.size:=by omega
   have HBB:Hid (B<w5.heap.size):=Zh hBw5
   generalize hx:zB9 data pr n o=x at *
   have HX:=Zh hx
   clear hx hver hp5
   go_upto_region 11 with (go_at_call 69;go_fit HL.out;rintro e w6 ⟨⟨y6,rfl,ho6⟩,hb6⟩;obtain ⟨a6,c6,rfl,_⟩:=ho6.isRow.opened;have t2:=zAE hb6 t0 t2;have t0:=zAA hb6 t0;have t1:=zAA hb6 t1)
   have S7:=(S5.step hb6).setCell (a:=⟨B,0,none⟩) hBW (.slice a6 (zFC b x).length c6)
   have hd7:zAF (fun j=>j=B) w6 (w6.setCell ⟨B,0,none⟩ (.slice a6 (zFC b x).length c6)):=(zAF.of_grown (zAC w6 ⟨B,0,none⟩ (.slice a6 (zFC b x).length c6))).mono fun j _ hj=>by cases hj;rfl
   have hdw7:=(hdw.trans (zAF.old hb6 _)).trans hd7
   have hDS7:=(hDS.trans (zAF.old hb6 _)).trans (hd7.mono fun k _ hk=>Or.inl (by omega))
   have r0:(w6.setCell ⟨B,0,none⟩ (.slice a6 (zFC b x).length c6)).cell? ⟨B,0,none⟩=some (.slice a6 (zFC b x).length c6):=by go_simp
   have r1:(w6.setCell ⟨B,0,none⟩ (.slice a6 (zFC b x).length c6)).cell? ⟨B,1,none⟩=some (.slice a5 ps.length c5):=by go_simp
   have hs6:=hb6.size
   have hs7:w6.heap.size≤(w6.setCell ⟨B,0,none⟩ (.slice a6 (zFC b x).length c6)).heap.size:=by simp
   have hq7:=hdw7.2 B1 hB10 hBB
   by_cases h2:zBz b x=0
   ·have HE:=Zh (zI4 (m:=(b,ps)) (data:=data) (pr:=pr) (n:=n) (o:=o) H0.out H1.out (by rw[HX.out];exact h2))
    rw[HX.out] at HE
    simp only at HE
    rw[h2]
    obtain ⟨zs,hzm,hdp5,_⟩:=hom5
    have hzm':zs.map zDK=ps:=hzm
    have hdp7:=(hdp5.stays hb6).frame hd7 (fun k hk e=>by have:=(hdp5.lt hk).1;omega)
    have hfoot:∀k,zBu (.slice a5 ps.length c5) zs k→w3.heap.size≤k∧k<w5.heap.size:=fun k hk=>hdp5.lt hk
    have hlo6:=ho6.lt
    have HP7:=Zh (zQe (fun k=>k<w3.heap.size) w3.heap.size (.slice a6 (zFC b x).length c6) (.slice a5 ps.length c5) (.slice aS (zA4 n o data.length data).length cS) (zFC b x) zs (b.length:Int) (zA4 n o data.length data) (w6.setCell ⟨B,0,none⟩ (.slice a6 (zFC b x).length c6)) (by omega) ⟨by omega,by omega⟩ hdp7
     (fun w' hw'=>(ho6.later ((hd7.mono fun k _ hk=>by rw[hk];exact hBw5).trans (hw'.mono fun k _ hk=>hk.elim (fun h=>(hfoot k h).2) (fun h=>by omega))) (fun k hk h=>by have:=(hlo6 k hk).1;omega)).isRow)
     (fun w' hw'=>HSH.out w' (hDS7.trans (hw'.mono fun k _ hk=>Or.inr (hfoot k hk).1)))
     (fun k hk e=>by have h1:=HSL.out k hk;have h2:=(hfoot k (Or.inl e)).1;omega))
    rw[hzm'] at HP7
    obtain ⟨E,hE⟩:∃E,E=zF8 (zFC b x,ps) b.length (zA4 n o data.length data):=⟨_,rfl⟩
    obtain ⟨M,hM⟩:∃M,M=zGk (zFC b x,ps) b.length (zA4 n o data.length data):=⟨_,rfl⟩
    rw[←hE,←hM] at HE HP7
    clear hE hM hzm hzm' hdp5 hdp7 hlo6 G0 G1 G2 t0 t1 t2 HL HSH HSL hfoot hDS hDS7
    generalize w6.setCell ⟨B,0,none⟩ (.slice a6 (zFC b x).length c6)=w7 at *
    go_wp2_with (go_at_call 70;go_fit HP7.out;rintro e w8 ⟨⟨u1,u2,rfl,ho8⟩,hS8,hD8⟩;obtain ⟨a8,c8,rfl,_⟩:=ho8.vers.opened;obtain ⟨a9,c9,rfl,_⟩:=ho8.peers.opened;obtain ⟨c0,c1,c2⟩:=HG.out w8 ((hS8.below.block B1 (by omega)).trans hq7);have f0:=c2 0;have f1:=c2 1)
    have hWw3:W.heap.size≤w3.heap.size:=by omega
    have hB1w3:B1<w3.heap.size:=by omega
    have S8:zAD W.heap.size W w8:=⟨S7.below.trans (hS8.below.mono hWw3),Nat.le_trans hWw3 hS8.2⟩
    have S9:=(S8.setCell (a:=⟨B1,0,none⟩) hBW1 (.slice a8 M.1.length c8)).setCell (a:=⟨B1,1,none⟩) hBW1 (.slice a9 M.2.length c9)
    have hd9:zAF (fun j=>j=B1) w8 ((w8.setCell ⟨B1,0,none⟩ (.slice a8 M.1.length c8)).setCell ⟨B1,1,none⟩ (.slice a9 M.2.length c9)):=(zAF.of_grown ((zAC w8 ⟨B1,0,none⟩ (.slice a8 M.1.length c8)).trans (zAC _ ⟨B1,1,none⟩ (.slice a9 M.2.length c9)))).mono fun j _ hj=>by cases hj;rfl
    have HO9:=Zh (((ho8.frame hd9 (fun k hk=>by rw[hk];exact ⟨hB1w3,hB1w3⟩)).less (Y:=fun k=>k<W.heap.size) (fun k hk=>by omega)).mono hWw3)
    have v0:((w8.setCell ⟨B1,0,none⟩ (.slice a8 M.1.length c8)).setCell ⟨B1,1,none⟩ (.slice a9 M.2.length c9)).cell? ⟨B1,0,none⟩=some (.slice a8 M.1.length c8):=by go_simp
    have v1:((w8.setCell ⟨B1,0,none⟩ (.slice a8 M.1.length c8)).setCell ⟨B1,1,none⟩ (.slice a9 M.2.length c9)).cell? ⟨B1,1,none⟩=some (.slice a9 M.2.length c9):=by go_simp
    clear c2 f0 f1 c0 c1 r0 r1 ho8 hd9
    exact bodyPost_ret (v:=.tuple #[.agg #[.slice a8 M.1.length c8,.slice a9 M.2.length c9],.int .i64 E]) (by simp[results,Tryz.results43,go_sem,v0,v1]) rfl ⟨⟨_,_,zBM HE.out.1.symm,by rw[HE.out.2];exact HO9.out⟩,S9.below⟩
   ·have HE:=Zh (zJX (m:=(b,ps)) (data:=data) (pr:=pr) (n:=n) (o:=o) H0.out H1.out (by rw[HX.out];exact h2))
    rw[HX.out] at HE
    simp only at HE
    generalize zBz b x=E at *
    clear t0 t1 t2 r0 r1 G0 G1 G2
    generalize w6.setCell ⟨B,0,none⟩ (.slice a6 (zFC b x).length c6)=w7 at *
    obtain ⟨c0,c1,c2⟩:=HG.out _ hq7
    have f0:=c2 0
    have f1:=c2 1
    have v0:((w7.setCell ⟨B1,0,none⟩ (.slice none 0 0)).setCell ⟨B1,1,none⟩ (.slice none 0 0)).cell? ⟨B1,0,none⟩=some (.slice none 0 0):=by go_simp
    have v1:((w7.setCell ⟨B1,0,none⟩ (.slice none 0 0)).setCell ⟨B1,1,none⟩ (.slice none 0 0)).cell? ⟨B1,1,none⟩=some (.slice none 0 0):=by go_simp
    have S9:=(S7.setCell (a:=⟨B1,0,none⟩) hBW1 (.slice none 0 0)).setCell (a:=⟨B1,1,none⟩) hBW1 (.slice none 0 0)
    clear c2
    go_wp2_with fail
    exact bodyPost_ret (v:=.tuple #[.agg #[.slice none 0 0,.slice none 0 0],.int .i64 E]) (by simp[results,Tryz.results43,go_sem,v0,v1]) rfl ⟨⟨_,_,zBM HE.out.1.symm,by rw[HE.out.2];exact zCl.nil _ _ _⟩,S9.below⟩
  ·have HE:=Zh (zJV (m:=(b,ps)) (pr:=pr) H0.out h1)
   generalize zAe n o data.length data=E at *
   clear g0 g1 g2 hb2 hu2 hsh hsl hb3
   obtain ⟨c0,c1,c2⟩:=HG.out _ (T3.below.block _ hB10)
   have f0:=c2 0
   have f1:=c2 1
   have v0:((w3.setCell ⟨B1,0,none⟩ (.slice none 0 0)).setCell ⟨B1,1,none⟩ (.slice none 0 0)).cell? ⟨B1,0,none⟩=some (.slice none 0 0):=by go_simp
   have v1:((w3.setCell ⟨B1,0,none⟩ (.slice none 0 0)).setCell ⟨B1,1,none⟩ (.slice none 0 0)).cell? ⟨B1,1,none⟩=some (.slice none 0 0):=by go_simp
   have S7:=((S0.step T3.below).setCell (a:=⟨B1,0,none⟩) hBW1 (.slice none 0 0)).setCell (a:=⟨B1,1,none⟩) hBW1 (.slice none 0 0)
   clear c2
   go_wp2_with fail
   exact bodyPost_ret (v:=.tuple #[.agg #[.slice none 0 0,.slice none 0 0],.int .i64 E]) (by simp[results,Tryz.results43,go_sem,v0,v1]) rfl ⟨⟨_,_,zBM HE.out.1.symm,by rw[HE.out.2];exact zCl.nil _ _ _⟩,S7.below⟩
 ·have HE:=Zh (zJo (data:=data) (pr:=pr) (n:=n) (o:=o) h0)
  generalize zA2 (b,ps)=E at *
  clear p0 p1 p2 q0 q1 q2 hb1
  obtain ⟨c0,c1,c2⟩:=HG.out _ (T1.below.block _ hB10)
  have f0:=c2 0
  have f1:=c2 1
  have v0:((w1.setCell ⟨B1,0,none⟩ (.slice none 0 0)).setCell ⟨B1,1,none⟩ (.slice none 0 0)).cell? ⟨B1,0,none⟩=some (.slice none 0 0):=by go_simp
  have v1:((w1.setCell ⟨B1,0,none⟩ (.slice none 0 0)).setCell ⟨B1,1,none⟩ (.slice none 0 0)).cell? ⟨B1,1,none⟩=some (.slice none 0 0):=by go_simp
  have S7:=((S0.step T1.below).setCell (a:=⟨B1,0,none⟩) hBW1 (.slice none 0 0)).setCell (a:=⟨B1,1,none⟩) hBW1 (.slice none 0 0)
  clear c2
  go_wp2_with fail
  exact bodyPost_ret (v:=.tuple #[.agg #[.slice none 0 0,.slice none 0 0],.int .i64 E]) (by simp[results,Tryz.results43,go_sem,v0,v1]) rfl ⟨⟨_,_,zBM HE.out.1.symm,by rw[HE.out.2];exact zCl.nil _ _ _⟩,S7.below⟩
end Go.Proofs.YthgmphbkkojaoaaGreat
