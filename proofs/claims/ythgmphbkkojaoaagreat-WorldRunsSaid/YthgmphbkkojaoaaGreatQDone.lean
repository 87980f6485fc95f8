/-
  done, a closed fact of worlds, walked. (Printed by wip/tools/mkdone.py.)
-/
import Derived.Test.YthgmphbkkojaoaaGreatQRun
set_option linter.unusedSimpArgs false
set_option maxHeartbeats 8000000
namespace Go.Proofs.YthgmphbkkojaoaaGreat
set_option linter.unusedSectionVars false
variable [Zn]
open Go.RowKit
set_option maxRecDepth 100000 in
theorem zH0(k n:Int)(W:World):Calls Tryz.prog 25 #[.int .i64 k,.int .i64 n] W fun e w'=>e=.returned (.agg #[.int .i64 k,.int .i64 n,.int .i64 0,.slice none 0 0,.slice none 0 0,.int .i64 0,.int .i64 0])∧Below W.heap.size W w':=by
 have S7:=(zAD.refl W).alloc (.cells #[.int .i64 k,.int .i64 n,.int .i64 0,.slice none 0 0,.slice none 0 0,.int .i64 0,.int .i64 0] 38)
 have v0:(W.alloc (.cells #[.int .i64 k,.int .i64 n,.int .i64 0,.slice none 0 0,.slice none 0 0,.int .i64 0,.int .i64 0] 38)).cell? ⟨W.heap.size,0,none⟩=some (.int .i64 k):=by go_simp
 have v1:(W.alloc (.cells #[.int .i64 k,.int .i64 n,.int .i64 0,.slice none 0 0,.slice none 0 0,.int .i64 0,.int .i64 0] 38)).cell? ⟨W.heap.size,1,none⟩=some (.int .i64 n):=by go_simp
 have v2:(W.alloc (.cells #[.int .i64 k,.int .i64 n,.int .i64 0,.slice none 0 0,.slice none 0 0,.int .i64 0,.int .i64 0] 38)).cell? ⟨W.heap.size,2,none⟩=some (.int .i64 0):=by go_simp
 have v3:(W.alloc (.cells #[.int .i64 k,.int .i64 n,.int .i64 0,.slice none 0 0,.slice none 0 0,.int .i64 0,.int .i64 0] 38)).cell? ⟨W.heap.size,3,none⟩=some (.slice none 0 0):=by go_simp
 have v4:(W.alloc (.cells #[.int .i64 k,.int .i64 n,.int .i64 0,.slice none 0 0,.slice none 0 0,.int .i64 0,.int .i64 0] 38)).cell? ⟨W.heap.size,4,none⟩=some (.slice none 0 0):=by go_simp
 have v5:(W.alloc (.cells #[.int .i64 k,.int .i64 n,.int .i64 0,.slice none 0 0,.slice none 0 0,.int .i64 0,.int .i64 0] 38)).cell? ⟨W.heap.size,5,none⟩=some (.int .i64 0):=by go_simp
 have v6:(W.alloc (.cells #[.int .i64 k,.int .i64 n,.int .i64 0,.slice none 0 0,.slice none 0 0,.int .i64 0,.int .i64 0] 38)).cell? ⟨W.heap.size,6,none⟩=some (.int .i64 0):=by go_simp
 go_enter Tryz.func25,Tryz.ntmps25
 go_wp2_with fail
 exact bodyPost_ret (v:=.agg #[.int .i64 k,.int .i64 n,.int .i64 0,.slice none 0 0,.slice none 0 0,.int .i64 0,.int .i64 0]) (by simp[results,Tryz.results25,go_sem,v0,v1,v2,v3,v4,v5,v6]) rfl ⟨rfl,S7.below⟩
theorem zAy(b:Act)(t:Tmp):b.eval (.tmp t)=b.tmps[t]?.getD undef:=by simp[Act.eval]
def zJk(x:Hp)(v:Value)(w:World):Prop:=∃vd vp,v=.agg #[.int .i64 x.1,.int .i64 x.2.1,.int .i64 x.2.2.1,vd,vp,.int .i64 x.2.2.2.2.2.1,.int .i64 x.2.2.2.2.2.2]∧zAG w vd x.2.2.2.1∧zAG w vp x.2.2.2.2.1
theorem zJk.stays{x:Hp}{v:Value}{w w':World}(h:zJk x v w)(hb:Below w.heap.size w w'):zJk x v w':=by
 obtain ⟨vd,vp,e,h1,h2⟩:=h
 exact ⟨vd,vp,e,h1.stays hb,h2.stays hb⟩
def dnR(B:Nat)(i:Nat)(v:Value)(w:World):Prop:=match i with
 | 0=>∃u1 u2,v=.agg #[u1,u2]∧zAR w u1 []∧zAT w u2 (zDz [2,2,2])
 | 1=>zAG w v [1,2]
 | 2=>zJk (1,0,0,[1,2],[],1,2) v w
 | 13=>zAG w v [3]
 | 14=>zAG w v [0]
 | 15=>zJk (1,0,0,[3],[0],1,1) v w
 | 22=>zGj w v dnL
 | 23=>∃u1 u2 us,v=.tuple #[.agg #[u1,u2],us,.int .i64 0]∧∀w'',zAF (fun j=>j=B) w w''→zAR w'' u1 dnM.1∧zAT w'' u2 dnM.2∧zQ0 w'' us dnS
 | 4=>zJk (ofH 2 0) v w
 | 6=>zJk (ofH 2 0) v w
 | 8=>zJk (ofH 6 0) v w
 | 10=>zJk (ofH 3 0) v w
 | 12=>zJk (ofH 5 2) v w
 | 17=>zJk (ofH 7 0) v w
 | 19=>zJk (ofH 7 1) v w
 | 21=>zJk (ofH 4 1) v w
 | _=>v=.func (.func 25) #[] #[]
theorem dnR.stays{B i:Nat}{v:Value}{w w':World}(h:dnR B i v w)(hb:Below w.heap.size w w'):dnR B i v w':=by
 unfold dnR at h ⊢
 split at h
 ·obtain ⟨u1,u2,e,h1,h2⟩:=h
  exact ⟨u1,u2,e,h1.stays zAz.stays hb,h2.stays zAj.stays hb⟩
 ·exact zAG.stays h hb
 ·exact zJk.stays h hb
 ·exact zAG.stays h hb
 ·exact zAG.stays h hb
 ·exact zJk.stays h hb
 ·exact zAZ.stays h zUH.stays hb
 ·obtain ⟨u1,u2,us,e,h⟩:=h
  exact ⟨u1,u2,us,e,fun w'' q=>h w'' ((zAF.old hb _).trans q)⟩
 ·exact zJk.stays h hb
 ·exact zJk.stays h hb
 ·exact zJk.stays h hb
 ·exact zJk.stays h hb
 ·exact zJk.stays h hb
 ·exact zJk.stays h hb
 ·exact zJk.stays h hb
 ·exact zJk.stays h hb
 ·exact h
set_option maxRecDepth 100000 in
theorem zTw(W:World):Calls Tryz.prog 8 #[] W fun e w'=>e=.returned (.bool true)∧Below W.heap.size W w':=by
 have hF:=Zh zSl
 go_enter Tryz.func8,Tryz.ntmps8
 have HV:=Zh (zAG.fresh W 3 [2,2,2] (by decide) (zDB _ (by decide)) _ rfl)
 have S0:=(zAD.refl W).alloc (.cells #[.int .i64 2,.int .i64 2,.int .i64 2] 3)
 have HN:=Zh (zOO _ [2,2,2] _ HV.out (by decide))
 rw[hF.out.1,hF.out.2.1] at HN
 go_upto_region 2 with (go_at_call 24;go_fit HN.out;rintro e w1 ⟨⟨u1,u2,rfl,ho1⟩,hb1⟩;obtain ⟨a1,k1,ev1,_⟩:=ho1.vers.opened;obtain ⟨a2,k2,ev2,_⟩:=ho1.peers.opened;rw[show ([]:List Ver).length=0 from rfl] at ev1;rw[show (zDz [2,2,2]).length=3 from rfl] at ev2;subst ev1;subst ev2)
 have S1:=(S0.step hb1).alloc (.cells #[.slice a1 0 k1,.slice a2 3 k2] 27)
 have BB:=zAB w1 (.cells #[.slice a1 0 k1,.slice a2 3 k2] 27)
 have hv2:=ho1.vers.stays zAz.stays BB
 have hp2:=ho1.peers.stays zAj.stays BB
 have c0:(w1.alloc (.cells #[.slice a1 0 k1,.slice a2 3 k2] 27)).cell? ⟨w1.heap.size,0,none⟩=some (.slice a1 0 k1):=by go_simp
 have c1:(w1.alloc (.cells #[.slice a1 0 k1,.slice a2 3 k2] 27)).cell? ⟨w1.heap.size,1,none⟩=some (.slice a2 3 k2):=by go_simp
 have c2:∀j,(w1.alloc (.cells #[.slice a1 0 k1,.slice a2 3 k2] 27)).frozen? ⟨w1.heap.size,j,none⟩=false:=by intro j;go_simp
 have hBl:w1.heap.size<(w1.alloc (.cells #[.slice a1 0 k1,.slice a2 3 k2] 27)).heap.size:=by simp
 have hBW:W.heap.size≤w1.heap.size:=Nat.le_trans S0.2 hb1.size
 generalize w1.alloc (.cells #[.slice a1 0 k1,.slice a2 3 k2] 27)=w0 at *
 obtain ⟨B,hB⟩:∃B,B=w1.heap.size:=⟨_,rfl⟩
 rw[←hB] at c0 c1 c2 hBl hBW ⊢
 clear hB ho1 hb1 S0 HN HV BB
 have hV:∀w,zAD w0.heap.size w0 w→zAR w (.slice a1 0 k1) []∧zAT w (.slice a2 3 k2) (zDz [2,2,2]):=fun w q=>⟨hv2.stays zAz.stays q.below,hp2.stays zAj.stays q.below⟩
 clear hv2 hp2
 go_upto_region 3 with fail
 refine zJl (by kernel_rfl) 24 7 89 (fun w=>zAD w0.heap.size w0 w) (dnR B) (by kernel_rfl) (by rfl) (by kernel_rfl) (fun i o hi ho vs b w K hT hd hx hK=>?step) (zAD.refl w0).drew (fun vs w hT hR=>?fin)
 case step =>
  rcases (by omega:i=0∨i=1∨i=2∨i=3∨i=4∨i=5∨i=6∨i=7∨i=8∨i=9∨i=10∨i=11∨i=12∨i=13∨i=14∨i=15∨i=16∨i=17∨i=18∨i=19∨i=20∨i=21∨i=22∨i=23) with rfl|rfl|rfl|rfl|rfl|rfl|rfl|rfl|rfl|rfl|rfl|rfl|rfl|rfl|rfl|rfl|rfl|rfl|rfl|rfl|rfl|rfl|rfl|rfl<;>simp only[List.getElem?_toArray,List.getElem?_cons_succ,List.getElem?_cons_zero,Option.some.injEq] at ho<;>subst ho
  ·
   have e1:b.tmps[1]?.getD undef=.pointer (some ⟨B,0,none⟩):=(zAy b 1).symm.trans ((hx 1 (by kernel_rfl)).trans (by rfl))
   have x0:=zAA hT.below c0
   have x1:=zAA hT.below c1
   clear hd hx
   unfold Oper.wp
   go_simp
   exact hK _ _ ⟨_,_,rfl,(hV w hT).1,(hV w hT).2⟩ hT (fun j u h=>h)
  ·
   clear hd hx
   unfold Oper.wp
   go_simp
   exact hK _ _ (zAG.fresh w 3 [1,2] (by decide) (zDB _ (by decide)) _ rfl) (hT.alloc _) (fun j u h=>h.stays (zAB _ _))
  ·
   have d1:=hd 1 13 (zBE (by kernel_rfl)) (by kernel_rfl)
   obtain ⟨a1,k1,ev,_⟩:=zAG.opened d1.1
   have e3:b.tmps[13]?.getD undef=.slice a1 2 k1:=(zAy b 13).symm.trans (d1.2.trans ev)
   have hi:zAG w (.slice a1 2 k1) [1,2]:=ev ▸ d1.1
   clear hd hx
   unfold Oper.wp
   go_simp
   exact hK _ _ ⟨_,_,rfl,hi,zAG.nil _⟩ hT (fun j u h=>h)
  ·
   have e3:b.tmps[3]?.getD undef=.func (.func 25) #[] #[]:=(zAy b 3).symm.trans ((hx 3 (by kernel_rfl)).trans (by rfl))
   clear hd hx
   unfold Oper.wp
   go_simp
   exact hK _ _ rfl hT (fun j u h=>h)
  ·
   have d3:=hd 3 15 (zBE (by kernel_rfl)) (by kernel_rfl)
   have e3:b.tmps[15]?.getD undef=.func (.func 25) #[] #[]:=(zAy b 15).symm.trans (d3.2.trans d3.1)
   clear hd hx
   unfold Oper.wp
   go_simp
   refine (zH0 2 0 w).mono ?_
   rintro e w' ⟨rfl,hb⟩
   exact hK _ _ ⟨_,_,rfl,zAG.nil _,zAG.nil _⟩ (hT.step hb) (fun j u h=>h.stays hb)
  ·
   have e3:b.tmps[3]?.getD undef=.func (.func 25) #[] #[]:=(zAy b 3).symm.trans ((hx 3 (by kernel_rfl)).trans (by rfl))
   clear hd hx
   unfold Oper.wp
   go_simp
   exact hK _ _ rfl hT (fun j u h=>h)
  ·
   have d5:=hd 5 17 (zBE (by kernel_rfl)) (by kernel_rfl)
   have e3:b.tmps[17]?.getD undef=.func (.func 25) #[] #[]:=(zAy b 17).symm.trans (d5.2.trans d5.1)
   clear hd hx
   unfold Oper.wp
   go_simp
   refine (zH0 2 0 w).mono ?_
   rintro e w' ⟨rfl,hb⟩
   exact hK _ _ ⟨_,_,rfl,zAG.nil _,zAG.nil _⟩ (hT.step hb) (fun j u h=>h.stays hb)
  ·
   have e3:b.tmps[3]?.getD undef=.func (.func 25) #[] #[]:=(zAy b 3).symm.trans ((hx 3 (by kernel_rfl)).trans (by rfl))
   clear hd hx
   unfold Oper.wp
   go_simp
   exact hK _ _ rfl hT (fun j u h=>h)
  ·
   have d7:=hd 7 19 (zBE (by kernel_rfl)) (by kernel_rfl)
   have e3:b.tmps[19]?.getD undef=.func (.func 25) #[] #[]:=(zAy b 19).symm.trans (d7.2.trans d7.1)
   clear hd hx
   unfold Oper.wp
   go_simp
   refine (zH0 6 0 w).mono ?_
   rintro e w' ⟨rfl,hb⟩
   exact hK _ _ ⟨_,_,rfl,zAG.nil _,zAG.nil _⟩ (hT.step hb) (fun j u h=>h.stays hb)
  ·
   have e3:b.tmps[3]?.getD undef=.func (.func 25) #[] #[]:=(zAy b 3).symm.trans ((hx 3 (by kernel_rfl)).trans (by rfl))
   clear hd hx
   unfold Oper.wp
   go_simp
   exact hK _ _ rfl hT (fun j u h=>h)
  ·
   have d9:=hd 9 21 (zBE (by kernel_rfl)) (by kernel_rfl)
   have e3:b.tmps[21]?.getD undef=.func (.func 25) #[] #[]:=(zAy b 21).symm.trans (d9.2.trans d9.1)
   clear hd hx
   unfold Oper.wp
   go_simp
   refine (zH0 3 0 w).mono ?_
   rintro e w' ⟨rfl,hb⟩
   exact hK _ _ ⟨_,_,rfl,zAG.nil _,zAG.nil _⟩ (hT.step hb) (fun j u h=>h.stays hb)
  ·
   have e3:b.tmps[3]?.getD undef=.func (.func 25) #[] #[]:=(zAy b 3).symm.trans ((hx 3 (by kernel_rfl)).trans (by rfl))
   clear hd hx
   unfold Oper.wp
   go_simp
   exact hK _ _ rfl hT (fun j u h=>h)
  ·
   have d11:=hd 11 23 (zBE (by kernel_rfl)) (by kernel_rfl)
   have e3:b.tmps[23]?.getD undef=.func (.func 25) #[] #[]:=(zAy b 23).symm.trans (d11.2.trans d11.1)
   clear hd hx
   unfold Oper.wp
   go_simp
   refine (zH0 5 2 w).mono ?_
   rintro e w' ⟨rfl,hb⟩
   exact hK _ _ ⟨_,_,rfl,zAG.nil _,zAG.nil _⟩ (hT.step hb) (fun j u h=>h.stays hb)
  ·
   clear hd hx
   unfold Oper.wp
   go_simp
   exact hK _ _ (zAG.fresh w 3 [3] (by decide) (zDB _ (by decide)) _ rfl) (hT.alloc _) (fun j u h=>h.stays (zAB _ _))
  ·
   clear hd hx
   unfold Oper.wp
   go_simp
   exact hK _ _ (zAG.fresh w 3 [0] (by decide) (zDB _ (by decide)) _ rfl) (hT.alloc _) (fun j u h=>h.stays (zAB _ _))
  ·
   have d13:=hd 13 25 (zBE (by kernel_rfl)) (by kernel_rfl)
   have d14:=hd 14 26 (zBE (by kernel_rfl)) (by kernel_rfl)
   obtain ⟨a1,k1,ev,_⟩:=zAG.opened d13.1
   obtain ⟨a2,k2,ev2,_⟩:=zAG.opened d14.1
   have e3:b.tmps[25]?.getD undef=.slice a1 1 k1:=(zAy b 25).symm.trans (d13.2.trans ev)
   have e4:b.tmps[26]?.getD undef=.slice a2 1 k2:=(zAy b 26).symm.trans (d14.2.trans ev2)
   have hi:zAG w (.slice a1 1 k1) [3]:=ev ▸ d13.1
   have hi2:zAG w (.slice a2 1 k2) [0]:=ev2 ▸ d14.1
   clear hd hx
   unfold Oper.wp
   go_simp
   exact hK _ _ ⟨_,_,rfl,hi,hi2⟩ hT (fun j u h=>h)
  ·
   have e3:b.tmps[3]?.getD undef=.func (.func 25) #[] #[]:=(zAy b 3).symm.trans ((hx 3 (by kernel_rfl)).trans (by rfl))
   clear hd hx
   unfold Oper.wp
   go_simp
   exact hK _ _ rfl hT (fun j u h=>h)
  ·
   have d16:=hd 16 28 (zBE (by kernel_rfl)) (by kernel_rfl)
   have e3:b.tmps[28]?.getD undef=.func (.func 25) #[] #[]:=(zAy b 28).symm.trans (d16.2.trans d16.1)
   clear hd hx
   unfold Oper.wp
   go_simp
   refine (zH0 7 0 w).mono ?_
   rintro e w' ⟨rfl,hb⟩
   exact hK _ _ ⟨_,_,rfl,zAG.nil _,zAG.nil _⟩ (hT.step hb) (fun j u h=>h.stays hb)
  ·
   have e3:b.tmps[3]?.getD undef=.func (.func 25) #[] #[]:=(zAy b 3).symm.trans ((hx 3 (by kernel_rfl)).trans (by rfl))
   clear hd hx
   unfold Oper.wp
   go_simp
   exact hK _ _ rfl hT (fun j u h=>h)
  ·
   have d18:=hd 18 30 (zBE (by kernel_rfl)) (by kernel_rfl)
   have e3:b.tmps[30]?.getD undef=.func (.func 25) #[] #[]:=(zAy b 30).symm.trans (d18.2.trans d18.1)
   clear hd hx
   unfold Oper.wp
   go_simp
   refine (zH0 7 1 w).mono ?_
   rintro e w' ⟨rfl,hb⟩
   exact hK _ _ ⟨_,_,rfl,zAG.nil _,zAG.nil _⟩ (hT.step hb) (fun j u h=>h.stays hb)
  ·
   have e3:b.tmps[3]?.getD undef=.func (.func 25) #[] #[]:=(zAy b 3).symm.trans ((hx 3 (by kernel_rfl)).trans (by rfl))
   clear hd hx
   unfold Oper.wp
   go_simp
   exact hK _ _ rfl hT (fun j u h=>h)
  ·
   have d20:=hd 20 32 (zBE (by kernel_rfl)) (by kernel_rfl)
   have e3:b.tmps[32]?.getD undef=.func (.func 25) #[] #[]:=(zAy b 32).symm.trans (d20.2.trans d20.1)
   clear hd hx
   unfold Oper.wp
   go_simp
   refine (zH0 4 1 w).mono ?_
   rintro e w' ⟨rfl,hb⟩
   exact hK _ _ ⟨_,_,rfl,zAG.nil _,zAG.nil _⟩ (hT.step hb) (fun j u h=>h.stays hb)
  ·
   have d2:=hd 2 14 (zBE (by kernel_rfl)) (by kernel_rfl)
   have d4:=hd 4 16 (zBE (by kernel_rfl)) (by kernel_rfl)
   have d6:=hd 6 18 (zBE (by kernel_rfl)) (by kernel_rfl)
   have d8:=hd 8 20 (zBE (by kernel_rfl)) (by kernel_rfl)
   have d10:=hd 10 22 (zBE (by kernel_rfl)) (by kernel_rfl)
   have d12:=hd 12 24 (zBE (by kernel_rfl)) (by kernel_rfl)
   have d15:=hd 15 27 (zBE (by kernel_rfl)) (by kernel_rfl)
   have d17:=hd 17 29 (zBE (by kernel_rfl)) (by kernel_rfl)
   have d19:=hd 19 31 (zBE (by kernel_rfl)) (by kernel_rfl)
   have d21:=hd 21 33 (zBE (by kernel_rfl)) (by kernel_rfl)
   obtain ⟨r2,t2,ev2,p2,s2⟩:=d2.1
   have e2:=(zAy b 14).symm.trans (d2.2.trans ev2)
   obtain ⟨ra2,rc2,rfl,_⟩:=zAG.opened p2
   obtain ⟨ta2,tc2,rfl,_⟩:=zAG.opened s2
   clear d2 ev2
   obtain ⟨r4,t4,ev4,p4,s4⟩:=d4.1
   have e4:=(zAy b 16).symm.trans (d4.2.trans ev4)
   obtain ⟨ra4,rc4,rfl,_⟩:=zAG.opened p4
   obtain ⟨ta4,tc4,rfl,_⟩:=zAG.opened s4
   clear d4 ev4
   obtain ⟨r6,t6,ev6,p6,s6⟩:=d6.1
   have e6:=(zAy b 18).symm.trans (d6.2.trans ev6)
   obtain ⟨ra6,rc6,rfl,_⟩:=zAG.opened p6
   obtain ⟨ta6,tc6,rfl,_⟩:=zAG.opened s6
   clear d6 ev6
   obtain ⟨r8,t8,ev8,p8,s8⟩:=d8.1
   have e8:=(zAy b 20).symm.trans (d8.2.trans ev8)
   obtain ⟨ra8,rc8,rfl,_⟩:=zAG.opened p8
   obtain ⟨ta8,tc8,rfl,_⟩:=zAG.opened s8
   clear d8 ev8
   obtain ⟨r10,t10,ev10,p10,s10⟩:=d10.1
   have e10:=(zAy b 22).symm.trans (d10.2.trans ev10)
   obtain ⟨ra10,rc10,rfl,_⟩:=zAG.opened p10
   obtain ⟨ta10,tc10,rfl,_⟩:=zAG.opened s10
   clear d10 ev10
   obtain ⟨r12,t12,ev12,p12,s12⟩:=d12.1
   have e12:=(zAy b 24).symm.trans (d12.2.trans ev12)
   obtain ⟨ra12,rc12,rfl,_⟩:=zAG.opened p12
   obtain ⟨ta12,tc12,rfl,_⟩:=zAG.opened s12
   clear d12 ev12
   obtain ⟨r15,t15,ev15,p15,s15⟩:=d15.1
   have e15:=(zAy b 27).symm.trans (d15.2.trans ev15)
   obtain ⟨ra15,rc15,rfl,_⟩:=zAG.opened p15
   obtain ⟨ta15,tc15,rfl,_⟩:=zAG.opened s15
   clear d15 ev15
   obtain ⟨r17,t17,ev17,p17,s17⟩:=d17.1
   have e17:=(zAy b 29).symm.trans (d17.2.trans ev17)
   obtain ⟨ra17,rc17,rfl,_⟩:=zAG.opened p17
   obtain ⟨ta17,tc17,rfl,_⟩:=zAG.opened s17
   clear d17 ev17
   obtain ⟨r19,t19,ev19,p19,s19⟩:=d19.1
   have e19:=(zAy b 31).symm.trans (d19.2.trans ev19)
   obtain ⟨ra19,rc19,rfl,_⟩:=zAG.opened p19
   obtain ⟨ta19,tc19,rfl,_⟩:=zAG.opened s19
   clear d19 ev19
   obtain ⟨r21,t21,ev21,p21,s21⟩:=d21.1
   have e21:=(zAy b 33).symm.trans (d21.2.trans ev21)
   obtain ⟨ra21,rc21,rfl,_⟩:=zAG.opened p21
   obtain ⟨ta21,tc21,rfl,_⟩:=zAG.opened s21
   clear d21 ev21
   clear hd hx
   unfold Oper.wp
   go_simp
   refine hK _ _ (zNP [[.int .i64 1,.int .i64 0,.int .i64 0,.slice ra2 2 rc2,.slice ta2 0 tc2,.int .i64 1,.int .i64 2],[.int .i64 2,.int .i64 0,.int .i64 0,.slice ra4 0 rc4,.slice ta4 0 tc4,.int .i64 0,.int .i64 0],[.int .i64 2,.int .i64 0,.int .i64 0,.slice ra6 0 rc6,.slice ta6 0 tc6,.int .i64 0,.int .i64 0],[.int .i64 6,.int .i64 0,.int .i64 0,.slice ra8 0 rc8,.slice ta8 0 tc8,.int .i64 0,.int .i64 0],[.int .i64 3,.int .i64 0,.int .i64 0,.slice ra10 0 rc10,.slice ta10 0 tc10,.int .i64 0,.int .i64 0],[.int .i64 5,.int .i64 2,.int .i64 0,.slice ra12 0 rc12,.slice ta12 0 tc12,.int .i64 0,.int .i64 0],[.int .i64 1,.int .i64 0,.int .i64 0,.slice ra15 1 rc15,.slice ta15 1 tc15,.int .i64 1,.int .i64 1],[.int .i64 7,.int .i64 0,.int .i64 0,.slice ra17 0 rc17,.slice ta17 0 tc17,.int .i64 0,.int .i64 0],[.int .i64 7,.int .i64 1,.int .i64 0,.slice ra19 0 rc19,.slice ta19 0 tc19,.int .i64 0,.int .i64 0],[.int .i64 4,.int .i64 1,.int .i64 0,.slice ra21 0 rc21,.slice ta21 0 tc21,.int .i64 0,.int .i64 0]] (l:=dnL) rfl rfl rfl (by decide) (by simp) ?hrow) (hT.alloc _) (fun j u h=>h.stays (zAB _ _))
   case hrow =>
    intro i r x hr hx
    have hi:i<10:=(List.getElem?_eq_some_iff.1 hx).1
    rcases (by omega:i=0∨i=1∨i=2∨i=3∨i=4∨i=5∨i=6∨i=7∨i=8∨i=9) with rfl|rfl|rfl|rfl|rfl|rfl|rfl|rfl|rfl|rfl<;>simp only[List.getElem?_cons_zero,List.getElem?_cons_succ,Option.some.injEq,dnL,ofH] at hr hx<;>subst hr<;>subst hx
    ·exact ⟨_,_,rfl,p2.stays (zAB _ _),s2.stays (zAB _ _),⟨by decide,by decide⟩,⟨by decide,by decide⟩,⟨by decide,by decide⟩,⟨by decide,by decide⟩,⟨by decide,by decide⟩⟩
    ·exact ⟨_,_,rfl,p4.stays (zAB _ _),s4.stays (zAB _ _),⟨by decide,by decide⟩,⟨by decide,by decide⟩,⟨by decide,by decide⟩,⟨by decide,by decide⟩,⟨by decide,by decide⟩⟩
    ·exact ⟨_,_,rfl,p6.stays (zAB _ _),s6.stays (zAB _ _),⟨by decide,by decide⟩,⟨by decide,by decide⟩,⟨by decide,by decide⟩,⟨by decide,by decide⟩,⟨by decide,by decide⟩⟩
    ·exact ⟨_,_,rfl,p8.stays (zAB _ _),s8.stays (zAB _ _),⟨by decide,by decide⟩,⟨by decide,by decide⟩,⟨by decide,by decide⟩,⟨by decide,by decide⟩,⟨by decide,by decide⟩⟩
    ·exact ⟨_,_,rfl,p10.stays (zAB _ _),s10.stays (zAB _ _),⟨by decide,by decide⟩,⟨by decide,by decide⟩,⟨by decide,by decide⟩,⟨by decide,by decide⟩,⟨by decide,by decide⟩⟩
    ·exact ⟨_,_,rfl,p12.stays (zAB _ _),s12.stays (zAB _ _),⟨by decide,by decide⟩,⟨by decide,by decide⟩,⟨by decide,by decide⟩,⟨by decide,by decide⟩,⟨by decide,by decide⟩⟩
    ·exact ⟨_,_,rfl,p15.stays (zAB _ _),s15.stays (zAB _ _),⟨by decide,by decide⟩,⟨by decide,by decide⟩,⟨by decide,by decide⟩,⟨by decide,by decide⟩,⟨by decide,by decide⟩⟩
    ·exact ⟨_,_,rfl,p17.stays (zAB _ _),s17.stays (zAB _ _),⟨by decide,by decide⟩,⟨by decide,by decide⟩,⟨by decide,by decide⟩,⟨by decide,by decide⟩,⟨by decide,by decide⟩⟩
    ·exact ⟨_,_,rfl,p19.stays (zAB _ _),s19.stays (zAB _ _),⟨by decide,by decide⟩,⟨by decide,by decide⟩,⟨by decide,by decide⟩,⟨by decide,by decide⟩,⟨by decide,by decide⟩⟩
    ·exact ⟨_,_,rfl,p21.stays (zAB _ _),s21.stays (zAB _ _),⟨by decide,by decide⟩,⟨by decide,by decide⟩,⟨by decide,by decide⟩,⟨by decide,by decide⟩,⟨by decide,by decide⟩⟩
  ·
   have d0:=hd 0 12 (zBE (by kernel_rfl)) (by kernel_rfl)
   have d22:=hd 22 34 (zBE (by kernel_rfl)) (by kernel_rfl)
   obtain ⟨u1,u2,ev,g1,g2⟩:=d0.1
   have e0:=(zAy b 12).symm.trans (d0.2.trans ev)
   obtain ⟨al,cl,el,_⟩:=zAZ.opened d22.1
   have e1:b.tmps[34]?.getD undef=.slice al 10 cl:=(zAy b 34).symm.trans (d22.2.trans el)
   have hl:zGj w (.slice al 10 cl) dnL:=el ▸ d22.1
   clear hd hx
   unfold Oper.wp
   go_simp
   have HR:=zUX u1 u2 _ [] (zDz [2,2,2]) dnL w g1 g2 hl
   rw[hF.out.2.2.1,hF.out.2.2.2.1,hF.out.2.2.2.2] at HR
   refine HR.mono ?_
   rintro e w' ⟨⟨q1,q2,qs,rfl,hq⟩,hb⟩
   exact hK _ _ ⟨_,_,_,rfl,fun w'' q=>hq w'' (q.mono fun j _ hj=>by rw[hj];exact Nat.lt_of_lt_of_le hBl hT.2)⟩ (hT.step hb) (fun j u h=>h.stays hb)
 case fin =>
  obtain ⟨q1,q2,qs,ev,hq⟩:=hR 23 (by decide)
  obtain ⟨hq0,hp0,hs0⟩:=hq w (zAF.refl _ _)
  obtain ⟨a5,c5,e5,_⟩:=hq0.opened
  obtain ⟨a6,c6,e6,_⟩:=hp0.opened
  obtain ⟨a7,c7,e7,_⟩:=hs0.opened
  rw[show dnM.1.length=2 from rfl] at e5
  rw[show dnM.2.length=3 from rfl] at e6
  rw[show dnS.length=10 from rfl] at e7
  subst e5 e6 e7
  clear hR hq0 hp0 hs0
  have x0:=zAA hT.below c0
  have x1:=zAA hT.below c1
  have x2:∀j,w.frozen? ⟨B,j,none⟩=false:=fun j=>(hT.below.frozen (p:=⟨B,j,none⟩) hBl).trans (c2 j)
  have y0:=x2 0
  have y1:=x2 1
  have hd7:zAF (fun j=>j=B) w ((w.setCell ⟨B,0,none⟩ (.slice a5 2 c5)).setCell ⟨B,1,none⟩ (.slice a6 3 c6)):=(zAF.of_grown ((zAC w ⟨B,0,none⟩ (.slice a5 2 c5)).trans (zAC _ ⟨B,1,none⟩ (.slice a6 3 c6)))).mono fun j _ hj=>by cases hj;rfl
  have HQ:=Zh (hq _ hd7)
  have z0:((w.setCell ⟨B,0,none⟩ (.slice a5 2 c5)).setCell ⟨B,1,none⟩ (.slice a6 3 c6)).cell? ⟨B,0,none⟩=some (.slice a5 2 c5):=by go_simp
  have z1:((w.setCell ⟨B,0,none⟩ (.slice a5 2 c5)).setCell ⟨B,1,none⟩ (.slice a6 3 c6)).cell? ⟨B,1,none⟩=some (.slice a6 3 c6):=by go_simp
  have S7:=(((S1.step hT.below).setCell (a:=⟨B,0,none⟩) hBW (.slice a5 2 c5)).setCell (a:=⟨B,1,none⟩) hBW (.slice a6 3 c6))
  have hsz7:w.heap.size≤((w.setCell ⟨B,0,none⟩ (.slice a5 2 c5)).setCell ⟨B,1,none⟩ (.slice a6 3 c6)).heap.size:=by simp
  clear hq hd7 hV
  simp only[show List.range 24=[0,1,2,3,4,5,6,7,8,9,10,11,12,13,14,15,16,17,18,19,20,21,22,23] from rfl,zEu,zDx,List.getElem?_toArray,List.getElem?_cons_succ,List.getElem?_cons_zero,Option.bind_some,Act.put,List.setIfInBounds_toArray,List.set_cons_zero,List.set_cons_succ,ev]
  refine wpAny_take (i:=24) (v:=?v24) rfl (by kernel_rfl) (by kernel_rfl) (by kernel_rfl) (fun _ _ _ h=>h) (Or.inl ⟨by rfl,?hy24⟩) ?r24
  case hy24=>(intro w;go_simp<;>with_reducible rfl)
  simp only[Act.put,List.setIfInBounds_toArray,List.set]
  refine wpAny_take (i:=25) (v:=?v25) rfl (by kernel_rfl) (by kernel_rfl) (by kernel_rfl) (fun _ _ _ h=>h) (Or.inl ⟨by rfl,?hy25⟩) ?r25
  case hy25=>(intro w;go_simp<;>with_reducible rfl)
  simp only[Act.put,List.setIfInBounds_toArray,List.set]
  refine wpAny_take (i:=26) (v:=?v26) rfl (by kernel_rfl) (by kernel_rfl) (by kernel_rfl) (fun _ _ _ h=>h) (Or.inl ⟨by rfl,?hy26⟩) ?r26
  case hy26=>(intro w;go_simp<;>with_reducible rfl)
  simp only[Act.put,List.setIfInBounds_toArray,List.set]
  refine wpAny_take (i:=27) (v:=?v27) rfl (by kernel_rfl) (by kernel_rfl) (by kernel_rfl) (fun _ _ _ h=>h) (Or.inl ⟨by rfl,?hy27⟩) ?r27
  case hy27=>(intro w;go_simp<;>with_reducible rfl)
  simp only[Act.put,List.setIfInBounds_toArray,List.set]
  refine wpAny_ready (rs:=[28]) (by kernel_rfl) (by simp) ?_
  refine AllReady.cons (o:=?o28) ?ho28 (fun K' hK'=>?k28) AllReady.nil
  case ho28=>(simp only[List.getElem?_toArray,List.getElem?_cons_succ,List.getElem?_cons_zero];rfl)
  go_simp
  refine hK' _ _ ?_
  clear hK' K'
  refine wpAny_take (i:=29) (v:=?v29) rfl (by kernel_rfl) (by kernel_rfl) (by kernel_rfl) (fun _ _ _ h=>h) (Or.inl ⟨by rfl,?hy29⟩) ?r29
  case hy29=>(intro w;go_simp<;>with_reducible rfl)
  simp only[Act.put,List.setIfInBounds_toArray,List.set]
  refine wpAny_take (i:=30) (v:=?v30) rfl (by kernel_rfl) (by kernel_rfl) (by kernel_rfl) (fun _ _ _ h=>h) (Or.inl ⟨by rfl,?hy30⟩) ?r30
  case hy30=>(intro w;go_simp<;>with_reducible rfl)
  simp only[Act.put,List.setIfInBounds_toArray,List.set]
  refine wpAny_done (by kernel_rfl) ?_ _
  go_simp
  clear x0 x1 x2 y0 y1 c0 c1 c2
  generalize (w.setCell ⟨B,0,none⟩ (.slice a5 2 c5)).setCell ⟨B,1,none⟩ (.slice a6 3 c6)=w7 at *
  obtain ⟨hv7,hp7,hs7⟩:=HQ.out
  obtain ⟨g,off,rfl,k0,hk0,hc0,u0,rfl,hi0,_⟩:=hp7.at (i:=0) (x:=(true,2,[(0,0,[1,2])])) rfl
  obtain ⟨_,_,eg,k1,hk1,hc1,u1,rfl,hi1,_⟩:=hp7.at (i:=1) (x:=(true,2,[])) rfl
  cases eg
  obtain ⟨_,_,eg,k2,hk2,hc2,u2,rfl,hi2,_⟩:=hp7.at (i:=2) (x:=(true,2,[(0,0,[2,2])])) rfl
  cases eg
  obtain ⟨b0,d0,rfl,_⟩:=hi0.opened
  obtain ⟨b1,d1,rfl,_⟩:=hi1.opened
  obtain ⟨b2,d2,rfl,_⟩:=hi2.opened
  obtain ⟨gk,ok,rfl,k3,hk3,hc3,u3,rfl,hi3,_⟩:=hi2.at (i:=0) (x:=(0,0,[2,2])) rfl
  obtain ⟨b3,d3,rfl,_⟩:=hi3.opened
  obtain ⟨gy,oy,rfl,hy0,_⟩:=zC0 hi3 (i:=0) (z:=2) rfl
  have HC:Hid (∀w',zAD w7.heap.size w7 w'→w'.cell? ⟨B,0,none⟩=some (.slice a5 2 c5)∧w'.cell? ⟨B,1,none⟩=some (.slice (some ⟨g,off,none⟩) 3 c6)∧w'.cell? ⟨g,off+0*3+2,none⟩=some (.slice b0 1 d0)∧w'.cell? ⟨g,off+1*3+2,none⟩=some (.slice b1 0 d1)∧w'.cell? ⟨g,off+2*3+2,none⟩=some (.slice (some ⟨gk,ok,none⟩) 1 d2)∧w'.cell? ⟨gk,ok+0*3+2,none⟩=some (.slice (some ⟨gy,oy,none⟩) 2 d3)∧w'.cell? ⟨gy,oy,none⟩=some (.int .i64 2)):=Zh (fun w' q=>⟨zAA q.below z0,zAA q.below z1,zAA q.below (hc0 2 _ rfl),zAA q.below (hc1 2 _ rfl),zAA q.below (hc2 2 _ rfl),zAA q.below (hc3 2 _ rfl),by simpa using zAA q.below hy0⟩)
  have T8:=(zAD.refl w7).alloc (.cells #[.int .i64 0,.int .i64 0,.int .i64 6,.int .i64 0,.int .i64 0,.int .i64 0,.int .i64 0,.int .i64 6,.int .i64 0,.int .i64 0] 30)
  have hs8:=hs7.stays T8.below
  have HI:=Zh (zQ0.fresh w7 30 dnS (by decide) (zDB _ (by decide)) _ rfl)
  have E8:Hid (zBV dnS dnS=true):=Zh (by decide)
  clear hc0 hc1 hc2 hc3 hy0 z0 z1 hi0 hi1 hi2 hi3 hk0 hk1 hk2 hk3 hv7 hp7 hs7 HQ
  go_wp2_with (go_at_call 11;refine (zQA _ _ dnS dnS _ hs8 HI.out).mono ?_;rintro e w9 ⟨rfl,hb9⟩;rw[E8.out];obtain ⟨m0,m1,m2,m3,m4,m5,m6⟩:=HC.out w9 (T8.step hb9))
  go_ret
  exact ⟨rfl,((S7.step (T8.step hb9).below)).below⟩
end Go.Proofs.YthgmphbkkojaoaaGreat
