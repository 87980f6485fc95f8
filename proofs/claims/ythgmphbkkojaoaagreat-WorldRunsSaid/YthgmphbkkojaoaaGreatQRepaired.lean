/-
  The reference's Repaired, walked.
-/
import Derived.Test.YthgmphbkkojaoaaGreatQGiven
import Derived.Test.YthgmphbkkojaoaaGreatQOffBox
import Derived.Test.YthgmphbkkojaoaaGreatQBlamedIn
import Derived.Test.YthgmphbkkojaoaaGreatQDropsD
import Derived.Test.YthgmphbkkojaoaaGreatQRepairLaw
set_option linter.unusedSimpArgs false
set_option maxHeartbeats 16000000
namespace Go.Proofs.YthgmphbkkojaoaaGreat
set_option linter.unusedSectionVars false
variable [Zn]
open Go.RowKit
def zOP(hv:List Int):List Sh:=hv.map fun z=>(z,[])
theorem zMS(hv:List Int)(z:Int):((zOP hv).any fun s=>decide (s.1=z))=decide (z∈hv):=by
 unfold zOP
 rw[List.any_map,Bool.eq_iff_iff]
 simp
theorem zPc(hv:List Int)(z:Int):zOP (hv++[z])=zOP hv++[(z,[])]:=by simp[zOP]
theorem zUm{v r:Int}{all:List Sh}{ks:List Kp}{hv:List Int}:zEt v all (false,r,ks) hv=((false,r,ks),hv):=rfl
theorem zTf{v r:Int}{all:List Sh}{ks:List Kp}{hv:List Int}(h:zA9 v ks=none):zEt v all (true,r,ks) hv=((true,r,ks),hv):=by unfold zEt;simp[h]
theorem zTk{v r:Int}{all:List Sh}{ks:List Kp}{hv:List Int}{x:Kp}(h:zA9 v ks=some x)(h1:¬x.2.1∈hv)(h2:zCs all x.2=true):zEt v all (true,r,ks) hv=((true,r,ks),hv++[x.2.1]):=by
 unfold zEt;simp[h,h1,h2]
theorem zUl{v r:Int}{all:List Sh}{ks:List Kp}{hv:List Int}{x:Kp}(h:zA9 v ks=some x)(h1:(zCs all x.2 && !decide (x.2.1∈hv))=false):zEt v all (true,r,ks) hv=((true,r,zAa v ks),hv):=by
 unfold zEt
 simp only[h,if_true]
 rw[if_pos]
 cases hs:zCs all x.2 with
 | false=>exact Or.inr rfl
 | true=>rw[hs] at h1;simp at h1;exact Or.inl h1
theorem zTO{α:Type}{l p q:List α}{k:Nat}{x y:α}(h:l=p++y::q)(hk:p.length=k):l.set k x=p++x::q:=by
 subst h hk
 rw[List.set_append_right _ _ (Nat.le_refl _)]
 simp
theorem zPd(w:World)(B i:Nat)(v:Value):zAF (fun j=>j=B) w (w.setCell ⟨B,i,none⟩ v):=zAn w B i v
set_option maxRecDepth 100000 in
theorem zMG(vb u:Value)(b:List Ver)(ps:List Pr)(v:Int)(W:World)(hb:zAR W vb b)(hu:zAT W u ps) :
  Calls Tryz.prog 31 #[.agg #[vb,u],.int .i64 v] W fun e w'=>(∃u1 u2,e=.returned (.tuple #[.agg #[u1,u2],.int .i64 (zBP (b,ps) v)])∧zAR w' u1 (zBU (b,ps) v).1∧zAT w' u2 (zBU (b,ps) v).2)∧Below W.heap.size W w':=by
 have HB:=Zh hb
 have HU:=Zh hu
 obtain ⟨a,c,rfl,hcb,⟨hbm,hbc,_⟩,_⟩:=hb.opened
 obtain ⟨a',c',rfl,hcu,⟨hum,huc,_⟩,_⟩:=hu.opened
 have S0:=((zAD.refl W).alloc (.cells #[.slice a b.length c,.slice a' ps.length c'] 27)).alloc (.cells #[.slice none 0 0,.slice none 0 0] 27)
 have p0:((W.alloc (.cells #[.slice a b.length c,.slice a' ps.length c'] 27)).alloc (.cells #[.slice none 0 0,.slice none 0 0] 27)).cell? ⟨W.heap.size,0,none⟩=some (.slice a b.length c):=by go_simp
 have p1:((W.alloc (.cells #[.slice a b.length c,.slice a' ps.length c'] 27)).alloc (.cells #[.slice none 0 0,.slice none 0 0] 27)).cell? ⟨W.heap.size,1,none⟩=some (.slice a' ps.length c'):=by go_simp
 have p2:∀j,((W.alloc (.cells #[.slice a b.length c,.slice a' ps.length c'] 27)).alloc (.cells #[.slice none 0 0,.slice none 0 0] 27)).frozen? ⟨W.heap.size,j,none⟩=false:=by intro j;go_simp
 have q0:((W.alloc (.cells #[.slice a b.length c,.slice a' ps.length c'] 27)).alloc (.cells #[.slice none 0 0,.slice none 0 0] 27)).cell? ⟨W.heap.size+1,0,none⟩=some (.slice none 0 0):=by go_simp
 have q1:((W.alloc (.cells #[.slice a b.length c,.slice a' ps.length c'] 27)).alloc (.cells #[.slice none 0 0,.slice none 0 0] 27)).cell? ⟨W.heap.size+1,1,none⟩=some (.slice none 0 0):=by go_simp
 have q2:∀j,((W.alloc (.cells #[.slice a b.length c,.slice a' ps.length c'] 27)).alloc (.cells #[.slice none 0 0,.slice none 0 0] 27)).frozen? ⟨W.heap.size+1,j,none⟩=false:=by intro j;go_simp
 have m1:zAm ((W.alloc (.cells #[.slice a b.length c,.slice a' ps.length c'] 27)).alloc (.cells #[.slice none 0 0,.slice none 0 0] 27)) W.heap.size:=(zAm.made W a b.length c a' ps.length c' 27).stays (zAB _ _) (by simp)
 have m2:zAm ((W.alloc (.cells #[.slice a b.length c,.slice a' ps.length c'] 27)).alloc (.cells #[.slice none 0 0,.slice none 0 0] 27)) (W.heap.size+1):=by
  have h:=zAm.made (W.alloc (.cells #[.slice a b.length c,.slice a' ps.length c'] 27)) none 0 0 none 0 0 27
  simpa using h
 have hs0:W.heap.size+2=((W.alloc (.cells #[.slice a b.length c,.slice a' ps.length c'] 27)).alloc (.cells #[.slice none 0 0,.slice none 0 0] 27)).heap.size:=by simp
 clear hb hu
 go_enter Tryz.func31,Tryz.ntmps31
 go_upto_region 1 with fail
 generalize (W.alloc (.cells #[.slice a b.length c,.slice a' ps.length c'] 27)).alloc (.cells #[.slice none 0 0,.slice none 0 0] 27)=w0 at *
 obtain ⟨B,hB⟩:∃B,B=W.heap.size:=⟨_,rfl⟩
 obtain ⟨B1,hB1⟩:∃B,B=W.heap.size+1:=⟨_,rfl⟩
 rw[←hB1] at q0 q1 q2 m2 ⊢
 rw[←hB] at p0 p1 p2 m1 ⊢
 have hBW:W.heap.size≤B:=by omega
 have hBW1:W.heap.size≤B1:=by omega
 have hBB:¬B1=B:=by omega
 have hBB':¬B=B1:=by omega
 have hBl:B<w0.heap.size:=by omega
 have hB1l:B1<w0.heap.size:=by omega
 clear hB hB1 hs0
 have HF:Hid (∀w',zAD w0.heap.size w0 w'→w'.cell? ⟨B,0,none⟩=some (.slice a b.length c)∧w'.cell? ⟨B,1,none⟩=some (.slice a' ps.length c')∧(∀j,w'.frozen? ⟨B,j,none⟩=false)∧w'.cell? ⟨B1,0,none⟩=some (.slice none 0 0)∧w'.cell? ⟨B1,1,none⟩=some (.slice none 0 0)∧(∀j,w'.frozen? ⟨B1,j,none⟩=false)∧zAm w' B∧zAm w' B1):=Zh (fun w' q=>⟨zAA q.below p0,zAA q.below p1,fun j=>(q.below.frozen (p:=⟨B,j,none⟩) hBl).trans (p2 j),zAA q.below q0,zAA q.below q1,fun j=>(q.below.frozen (p:=⟨B1,j,none⟩) hB1l).trans (q2 j),m1.stays q.below hBl,m2.stays q.below hB1l⟩)
 have hb0:=HB.out.stays zAz.stays S0.below
 have hu0:=HU.out.stays zAj.stays S0.below
 clear q0 q1 q2 m1 m2 p2
 go_upto_region 2 with (go_at_call 60;go_fit (zHy _ _ b ps v _ hb0 hu0);rintro e w1 ⟨⟨y1,y2,rfl,hi1,hi2⟩,hb1⟩;obtain ⟨ad,cd,rfl,_⟩:=hi1.opened)
 have T1:=(zAD.refl w0).step hb1
 clear p0 p1 hb0 hu0 hb1 hi2
 obtain ⟨d0,d1,d2,e0,e1,e2,mb,mb1⟩:=HF.out w1 T1
 by_cases h0:zBI (b,ps) v=0
 ·obtain ⟨kv,n,o,s,pr,rfl,hget,hsp,hpl⟩:=zNQ h0
  obtain ⟨hm0,_,hkv'⟩:=zCo (zBr h0)
  have hkv:kv<b.length:=by simpa using hkv'
  have hp8:ps.length≤8:=(zAU.1 hm0).2.1
  have HPK:Hid (∀p∈ps,zBk b p):=Zh (zAU.1 hm0).2.2
  have hpa:zAO b (kv:Int)=((n:Int),(o:Int),(s:Int)):=zCh hget
  obtain ⟨all,hall⟩:∃all,all=zA4 n o s (zBa (b,ps) (kv:Int)):=⟨_,rfl⟩
  have HR:Hid (zBP (b,ps) (kv:Int)=zF8 (b,(zCb (kv:Int) all ps []).1) (kv:Int) (zBm all (zCb (kv:Int) all ps []).2)∧zBU (b,ps) (kv:Int)=zGk (b,(zCb (kv:Int) all ps []).1) (kv:Int) (zBm all (zCb (kv:Int) all ps []).2)):=Zh (zFv (m:=(b,ps)) (v:=(kv:Int)) (x:=(pr,(n:Int),(o:Int),(s:Int))) h0 hpa hsp hall)
  have HRP:Hid (zAp b (zCb (kv:Int) all ps []).1=0):=Zh (zNA hm0)
  rw[h0]
  obtain ⟨gv,ov,uv,cv,ea,_,k1,k2,k3,_,_,_,_⟩:=zB1 (HB.out.stays zAz.stays (S0.step T1.below).below) hget
  subst ea
  simp only at k1 k2 k3
  have HPA:=Zh hpa
  have HAL:=Zh hall
  clear hall
  generalize zBa (b,ps) (kv:Int)=data at *
  obtain ⟨g1,g2,g3,g4,g5,g6⟩:=zAg hpl
  obtain ⟨_,_,hnum⟩:=zDQ hsp
  have HNUM:=Zh hnum
  have HSP:=Zh hsp
  have HPL:=Zh hpl
  have hkI:(kv:Int)<(b.length:Int):=by omega
  have hkI0:(0:Int)≤(kv:Int):=by omega
  have HD1:=Zh hi1
  have BP:=zAB w1 (.cells #[.int .i64 n,.int .i64 o,.int .i64 s] 49)
  have T2:=T1.step BP
  have r0:(w1.alloc (.cells #[.int .i64 n,.int .i64 o,.int .i64 s] 49)).cell? ⟨w1.heap.size,0,none⟩=some (.int .i64 n):=by go_simp
  have r1:(w1.alloc (.cells #[.int .i64 n,.int .i64 o,.int .i64 s] 49)).cell? ⟨w1.heap.size,1,none⟩=some (.int .i64 o):=by go_simp
  have r2:(w1.alloc (.cells #[.int .i64 n,.int .i64 o,.int .i64 s] 49)).cell? ⟨w1.heap.size,2,none⟩=some (.int .i64 s):=by go_simp
  have hz2:w1.heap.size<(w1.alloc (.cells #[.int .i64 n,.int .i64 o,.int .i64 s] 49)).heap.size:=by simp
  clear h0 hget hsp hpl hm0 hkv' hpa hnum hi1 d2 e0 e1 e2 mb mb1
  go_upto_region 5 with fail
  clear d0 d1 k1 k2 k3
  generalize w1.alloc (.cells #[.int .i64 n,.int .i64 o,.int .i64 s] 49)=w2 at *
  obtain ⟨Bq,hBq⟩:∃Bq,Bq=w1.heap.size:=⟨_,rfl⟩
  rw[←hBq] at r0 r1 r2 hz2 ⊢
  have hBqW:w0.heap.size≤Bq:=by rw[hBq];exact T1.2
  have HD2:=Zh (HD1.out.stays BP)
  have hdl:∀j,Value.lies (.slice ad data.length cd) j→data≠[]→j<Bq:=by rw[hBq];exact HD1.out.block_lt
  clear hBq BP
  obtain ⟨d0,d1,d2,e0,e1,e2,mb,mb1⟩:=HF.out w2 T2
  have HCL:=Zh (zBT RPF.stays RPF.one (.slice a' ps.length c') (ps.map fun p=>(p,true)) W w2 (zAF.old (S0.step T2.below).below _) (zIz HU.out) (by simp;omega))
  have hd21:=d2 1
  go_upto_region 6 with (go_at_call 35;go_fit HCL.out;rintro e w3 ⟨⟨v2,rfl,ho3⟩,hb3⟩;obtain ⟨a2,c2,rfl,hc2,⟨hm2,hk2,_⟩,_⟩:=ho3.isRow.opened;have hd21:=zAE hb3 d1 hd21;have d0:=zAA hb3 d0;have d1:=zAA hb3 d1)
  rw[show (ps.map fun p=>(p,true)).length=ps.length by simp] at ho3 hc2 hm2
  have S3:=(S0.step T2.below).step hb3
  have hown:∀j,(Value.slice a2 ps.length c2).ownBlock=some j→w2.heap.size≤j:=fun j h=>(ho3.lt j h).1
  have hnB:∀j,(Value.slice a2 ps.length c2).ownBlock=some j→j≠B∧j≠B1∧j≠Bq∧W.heap.size≤j:=fun j h=>by have:=hown j h;have:=T2.2;have:=S0.2;omega
  have HNB:=Zh hnB
  have HOW:=Zh hown
  have hlt4:∀j,(Value.slice a2 ps.length c2).ownBlock=some j→j<(w3.setCell ⟨B,1,none⟩ (.slice a2 ps.length c2)).heap.size:=fun j h=>by simpa using (ho3.lt j h).2
  have ho4:=ho3.kept (zAC w3 ⟨B,1,none⟩ (.slice a2 ps.length c2)) (fun j h=>by cases h;exact hBW) (by
   cases hq:(Value.slice a2 ps.length c2).ownBlock with
   | none=>exact Or.inl rfl
   | some j=>exact Or.inr (fun e=>(hnB j hq).1 (Option.some.inj e)))
  have S4:=S3.setCell (a:=⟨B,1,none⟩) hBW (.slice a2 ps.length c2)
  have hd4:=zAn w3 B 1 (.slice a2 ps.length c2)
  have hBs2:B<w2.heap.size:=Nat.lt_of_lt_of_le hBl T2.2
  have hB1s2:B1<w2.heap.size:=Nat.lt_of_lt_of_le hB1l T2.2
  have mb3:=mb.stays hb3 hBs2
  have mb13:=(mb1.stays hb3 hB1s2).off hd4 (Nat.lt_of_lt_of_le hB1s2 hb3.size) (fun e=>hBB e)
  have hdat:=(HD2.out.stays hb3).offBox mb3 hd4
  have f0:(w3.setCell ⟨B,1,none⟩ (.slice a2 ps.length c2)).cell? ⟨B,0,none⟩=some (.slice (some ⟨gv,ov,none⟩) b.length c):=by go_simp
  have f1:(w3.setCell ⟨B,1,none⟩ (.slice a2 ps.length c2)).cell? ⟨B,1,none⟩=some (.slice a2 ps.length c2):=by go_simp
  have hqB:¬Bq=B:=by omega
  have t0:=hd4.cell (zAA hb3 r0) hqB
  have t1:=hd4.cell (zAA hb3 r1) hqB
  have t2:=hd4.cell (zAA hb3 r2) hqB
  have i0:=hd4.cell (zAA hb3 e0) hBB
  have i1:=hd4.cell (zAA hb3 e1) hBB
  have i2:∀j,(w3.setCell ⟨B,1,none⟩ (.slice a2 ps.length c2)).frozen? ⟨B1,j,none⟩=false:=fun j=>by rw[World.frozen?_setCell];exact (hb3.frozen (p:=⟨B1,j,none⟩) hB1s2).trans (e2 j)
  have hz4:w2.heap.size≤(w3.setCell ⟨B,1,none⟩ (.slice a2 ps.length c2)).heap.size:=by simpa using hb3.size
  go_upto_region 6 with fail
  clear d0 d1 d2 e0 e1 e2 mb mb1 mb3 hd4 hd21 r0 r1 r2 ho3 hown hnB
  generalize w3.setCell ⟨B,1,none⟩ (.slice a2 ps.length c2)=w4 at *
  have BS:=zAB w4 (.cells #[.bool false,.bool false,.bool false,.bool false,.bool false,.bool false,.bool false,.bool false] 104)
  have S5:=S4.alloc (.cells #[.bool false,.bool false,.bool false,.bool false,.bool false,.bool false,.bool false,.bool false] 104)
  have hsaw0:=zPO w4
  have ho5:zAK 3 (RPF W) (fun j=>j=w4.heap.size) (w4.alloc (.cells #[.bool false,.bool false,.bool false,.bool false,.bool false,.bool false,.bool false,.bool false] 104)) 62 w2.heap.size (.slice a2 ps.length c2) (ps.map fun p=>(p,true)):=(ho4.stays BS).weaken (fun j _ e=>Or.inl (by rw[e];exact S4.2))
  have f0:=zAA BS f0
  have f1:=zAA BS f1
  have t0:=zAA BS t0
  have t1:=zAA BS t1
  have t2:=zAA BS t2
  have hB14:B1<w4.heap.size:=zAH i0
  have i2:∀j,(w4.alloc (.cells #[.bool false,.bool false,.bool false,.bool false,.bool false,.bool false,.bool false,.bool false] 104)).frozen? ⟨B1,j,none⟩=false:=fun j=>(BS.frozen (p:=⟨B1,j,none⟩) hB14).trans (i2 j)
  have mb15:=mb13.stays BS hB14
  have i0:=zAA BS i0
  have i1:=zAA BS i1
  have hdat5:=hdat.stays BS
  go_upto_region 7 with fail
  clear BS hdat mb13 ho4
  generalize w4.alloc (.cells #[.bool false,.bool false,.bool false,.bool false,.bool false,.bool false,.bool false,.bool false] 104)=w5 at *
  obtain ⟨q,hq⟩:∃q,q=w4.heap.size:=⟨_,rfl⟩
  rw[←hq] at hsaw0 ho5 hlt4 ⊢
  have HLQ:=Zh hlt4
  have hq2:w2.heap.size≤q:=by rw[hq];exact hz4
  clear hq
  have HG:Hid (∀w',zAF (fun j=>(Value.slice a2 ps.length c2).ownBlock=some j∨j=q) w5 w'→w'.cell? ⟨B,0,none⟩=some (.slice (some ⟨gv,ov,none⟩) b.length c)∧w'.cell? ⟨B,1,none⟩=some (.slice a2 ps.length c2)∧w'.cell? ⟨Bq,0,none⟩=some (.int .i64 n)∧w'.cell? ⟨Bq,1,none⟩=some (.int .i64 o)∧w'.cell? ⟨Bq,2,none⟩=some (.int .i64 s)∧w'.cell? ⟨B1,0,none⟩=some (.slice none 0 0)∧w'.cell? ⟨B1,1,none⟩=some (.slice none 0 0)∧(∀j,w'.frozen? ⟨B1,j,none⟩=false)∧zAm w' B1∧zAG w' (.slice ad data.length cd) data):=Zh (fun w' h=>by
   have n0:¬((Value.slice a2 ps.length c2).ownBlock=some B∨B=q):=fun e=>e.elim (fun e=>(HNB.out B e).1 rfl) (fun e=>by omega)
   have n1:¬((Value.slice a2 ps.length c2).ownBlock=some B1∨B1=q):=fun e=>e.elim (fun e=>(HNB.out B1 e).2.1 rfl) (fun e=>by omega)
   have n2:¬((Value.slice a2 ps.length c2).ownBlock=some Bq∨Bq=q):=fun e=>e.elim (fun e=>(HNB.out Bq e).2.2.1 rfl) (fun e=>by omega)
   have hB15:B1<w5.heap.size:=zAH i0
   exact ⟨h.cell f0 n0,h.cell f1 n0,h.cell t0 n2,h.cell t1 n2,h.cell t2 n2,h.cell i0 n1,h.cell i1 n1,fun j=>(World.frozen?_of_block (a:=⟨B1,j,none⟩) (h.2 B1 hB15 n1)).trans (i2 j),mb15.off h hB15 n1,hdat5.framed (fun j hj hne e=>by have h1:=hdl j hj hne;exact e.elim (fun e=>by have h2:=HOW.out j e;omega) (fun e=>by omega)) h⟩)
  clear t0 t1 t2 i0 i1 i2 mb15 hdat5
  go_wp2_with fail
  clear f0 f1
  go_loopw[42] (fun i wr=>∃(k:Nat) (qs:List PrF) (hv:List Int) (done:List Pr),k≤ps.length∧i=.int .i64 k∧zAD W.heap.size W wr∧zAF (fun j=>(Value.slice a2 ps.length c2).ownBlock=some j∨j=q) w5 wr∧zF4 wr q (zOP hv)∧zAK 3 (RPF W) (fun j=>j=q) wr 62 w2.heap.size (.slice a2 ps.length c2) qs∧qs.length=ps.length∧zCb (kv:Int) all (ps.take k) []=(done,hv)∧qs.map (·.1)=done++ps.drop k∧done.length=k∧∀m,k≤m→m<ps.length→∃p,ps[m]?=some p∧qs[m]?=some (p,true)) (fun i _=>ps.length - (intOf i).toNat)
  case atStart=>exact ⟨0,ps.map fun p=>(p,true),[],[],by omega,rfl,S5,zAF.refl _ _,hsaw0,ho5,by simp,rfl,by simp[Function.comp_def],rfl,fun m _ hm=>⟨ps[m],List.getElem?_eq_getElem hm,by rw[List.getElem?_map,List.getElem?_eq_getElem hm];rfl⟩⟩
  case round =>
   clear hsaw0 ho5
   obtain ⟨k,qs,hv,done,hk,rfl,hS,hDr,hsaw,ho,hql,hrep,hmap,hdn,hft⟩:=hrel
   by_cases hlt:k<ps.length
   ·obtain ⟨p,hpk,hqk⟩:=hft k (Nat.le_refl _) hlt
    have hpo:=HPK.out p (List.mem_of_getElem? hpk)
    have hdrop:=zAr hpk
    have hstep:zCb (kv:Int) all (ps.take (k+1)) []=(done++[(zEt (kv:Int) all p hv).1],(zEt (kv:Int) all p hv).2):=by rw[zAv hpk,zIu,hrep]
    have HFT2:Hid (∀m,k+1≤m→m<ps.length→∃p,ps[m]?=some p∧qs[m]?=some (p,true)):=Zh (fun m h1 h2=>hft m (by omega) h2)
    obtain ⟨t,r,K⟩:=p
    have HSTEP:=Zh hstep
    have HDROP:=Zh hdrop
    have HMAP:=Zh hmap
    have HQL:=Zh hql
    have HPO:=Zh hpo
    have HQK:=Zh hqk
    have HLN:∀x:Pr,Hid ((done++[x]).length=k+1):=fun x=>Zh (by simp[hdn])
    have hK20:K.length≤20:=by have h1:=hpo.few;have h2:=hpo.room;simp only at h1 h2;omega
    have hkq:k<qs.length:=by omega
    obtain ⟨rr,g,hg,hl3,hone,hcell,hf⟩:=ho.get hqk
    obtain ⟨vK,rfl,hr,hK⟩:=hf.now
    simp only[if_true] at hK hr
    obtain ⟨aa,ca,rfl,_⟩:=hK.opened
    have k0:wr.cell? ⟨g,k*3,none⟩=some (.bool t):=hcell 0 _ rfl
    have k1:wr.cell? ⟨g,k*3+1,none⟩=some (.int .i64 r):=hcell 1 _ rfl
    have k2:wr.cell? ⟨g,k*3+2,none⟩=some (.slice aa K.length ca):=hcell 2 _ rfl
    have hgg:=HNB.out g hg
    have hg1:=HOW.out g hg
    have hglt:=(ho.lt g hg).2
    have hgo:a2=some ⟨g,0,none⟩:=by
     rcases ho.shape with ⟨_,e⟩|⟨g',cap,cur,e,_⟩
     ·rw[e] at hqk;simp at hqk
     ·simp only[Value.slice.injEq] at e
      obtain ⟨e1,_⟩:=e
      subst e1
      simp only[Value.ownBlock,Option.some.injEq] at hg
      rw[hg]
    subst hgo
    have HKW:=Zh hK
    have BB:=zAB wr (.cells #[.bool t,.int .i64 r,.slice aa K.length ca] 62)
    have S6:=hS.alloc (.cells #[.bool t,.int .i64 r,.slice aa K.length ca] 62)
    have D6:=hDr.trans (zAF.old BB _)
    have x0:(wr.alloc (.cells #[.bool t,.int .i64 r,.slice aa K.length ca] 62)).cell? ⟨wr.heap.size,0,none⟩=some (.bool t):=by go_simp
    have x1:(wr.alloc (.cells #[.bool t,.int .i64 r,.slice aa K.length ca] 62)).cell? ⟨wr.heap.size,1,none⟩=some (.int .i64 r):=by go_simp
    have x2:(wr.alloc (.cells #[.bool t,.int .i64 r,.slice aa K.length ca] 62)).cell? ⟨wr.heap.size,2,none⟩=some (.slice aa K.length ca):=by go_simp
    have hsaw6:=hsaw.stays BB
    have ho6:=ho.stays BB
    have hpB:g<wr.heap.size∧q<wr.heap.size:=⟨hglt,hsaw.lt⟩
    clear hpk hdrop hstep hmap hql hpo hqk hrep hft hf hcell hone
    go_upto_region 10 with fail
    clear k0 k1 k2 BB hsaw ho hDr hS
    generalize wr.alloc (.cells #[.bool t,.int .i64 r,.slice aa K.length ca] 62)=wb at *
    obtain ⟨Bp,hBp⟩:∃Bp,Bp=wr.heap.size:=⟨_,rfl⟩
    rw[←hBp] at x0 x1 x2 hpB ⊢
    clear hBp
    go_upto_region 11 with (go_at_call 61;go_fit (zMT t r _ K (kv:Int) wb (HKW.out.stays zAf.stays S6.below));rintro e wc ⟨rfl,hbc⟩)
    have SC:=S6.step hbc
    have DC:=D6.trans (zAF.old hbc _)
    have x0:=zAA hbc x0
    have x1:=zAA hbc x1
    have x2:=zAA hbc x2
    have HSTC:=Zh (And.intro DC (And.intro (hsaw6.stays hbc) (ho6.stays hbc)))
    clear hsaw6 ho6 S6 D6 hbc
    have HM0:∀x:Pr,x=(t,r,K)→Hid (qs.map (·.1)=(done++[x])++ps.drop (k+1)):=fun x e=>Zh (by rw[HMAP.out,HDROP.out,e];simp)
    cases t with
    | false =>
     have HR1:Hid (zCb (kv:Int) all (ps.take (k+1)) []=(done++[(false,r,K)],hv)):=Zh (by rw[HSTEP.out,zUm])
     have HM1:=HM0 (false,r,K) rfl
     have HLN:=HLN (false,r,K)
     go_wp2_with fail
     go_roundw
     case rel=>exact ⟨k+1,qs,hv,done++[(false,r,K)],by omega,by go_num,SC,HSTC.out.1,HSTC.out.2.1,HSTC.out.2.2,HQL.out,HR1.out,HM1.out,HLN.out,HFT2.out⟩
     case measure=>simp[intOf];omega
    | true =>
     rcases zB0 (kv:Int) K 0 with ⟨hn,hf⟩|⟨m,y,hy,hyv,hn,hf⟩
     ·have HR1:Hid (zCb (kv:Int) all (ps.take (k+1)) []=(done++[(true,r,K)],hv)):=Zh (by rw[HSTEP.out,zTf hn])
      have HM1:=HM0 (true,r,K) rfl
      have HLN:=HLN (true,r,K)
      rw[hf]
      clear hn hf
      go_wp2_with fail
      go_roundw
      case rel=>exact ⟨k+1,qs,hv,done++[(true,r,K)],by omega,by go_num,SC,HSTC.out.1,HSTC.out.2.1,HSTC.out.2.2,HQL.out,HR1.out,HM1.out,HLN.out,HFT2.out⟩
      case measure=>simp[intOf];omega
     ·rw[hf,Nat.zero_add]
      have HN:=Zh hn
      have hy3:=(HPO.out.each y (List.mem_of_getElem? hy)).2.2
      unfold zBt at hy3
      rw[hyv,HPA.out] at hy3
      obtain ⟨o1,o2,_,_⟩:=zEH hy3
      have hml:=(List.getElem?_eq_some_iff.1 hy).1
      obtain ⟨gk,ok,uk,ck,eak,c0,c1,c2',hyi,_,_⟩:=zCK HKW.out hy
      subst eak
      have c0:=zAA SC.below c0
      have c1:=zAA SC.below c1
      have c2':=zAA SC.below c2'
      have hyc:=hyi.stays SC.below
      obtain ⟨yv,yn,yl⟩:=y
      simp only at c0 c1 c2' hyc o1 o2 hyv
      obtain ⟨N,rfl⟩:=Int.eq_ofNat_of_zero_le o1
      have hNo:N<o:=by omega
      have hN8:N≤8:=by omega
      have hN8':N<8:=by omega
      have hNI:(N:Int)<8:=by omega
      have hNI0:(0:Int)≤(N:Int):=by omega
      have hmI:(m:Int)<(K.length:Int):=by omega
      have hm0:¬((m:Int)<0):=by omega
      have BB:=zAB wc (.cells #[.int .i64 (N:Int),.slice uk yl.length ck] 64)
      have S7:=SC.alloc (.cells #[.int .i64 (N:Int),.slice uk yl.length ck] 64)
      have z0:(wc.alloc (.cells #[.int .i64 (N:Int),.slice uk yl.length ck] 64)).cell? ⟨wc.heap.size,0,none⟩=some (.int .i64 (N:Int)):=by go_simp
      have z1:(wc.alloc (.cells #[.int .i64 (N:Int),.slice uk yl.length ck] 64)).cell? ⟨wc.heap.size,1,none⟩=some (.slice uk yl.length ck):=by go_simp
      have D7:=HSTC.out.1.trans (zAF.old BB _)
      have HST7:=Zh (And.intro (HSTC.out.2.1.stays BB) (HSTC.out.2.2.stays BB))
      have x0:=zAA BB x0
      have x1:=zAA BB x1
      have x2:=zAA BB x2
      have hyi7:=hyc.stays BB
      clear hn hf hy hy3 hyv hyi hyc HSTC DC
      go_upto_region 13 with fail
      clear c0 c1 c2' BB
      generalize wc.alloc (.cells #[.int .i64 (N:Int),.slice uk yl.length ck] 64)=wd at *
      obtain ⟨Bs,hBs⟩:∃Bs,Bs=wc.heap.size:=⟨_,rfl⟩
      rw[←hBs] at z0 z1 ⊢
      clear hBs
      obtain ⟨A,hA⟩:∃A,A=decide ((N:Int)∈hv):=⟨_,rfl⟩
      have hsn:wd.cell? ⟨q,N,none⟩=some (.bool A):=by
       have h:=(HST7.out.1 N hN8').1
       rw[zMS] at h
       rw[h,hA]
      obtain ⟨T,hT⟩:∃T,T=zCm (N:Int) (N:Int) yl (zAY n data (zAM n s) N).2:=⟨_,rfl⟩
      have HT:=Zh hT.symm
      have HM:=Zh (show zCs all ((N:Int),yl)=T by rw[HAL.out,zQh HSP.out hNo yl];exact hT.symm)
      have HA:=Zh hA
      have HYI:=Zh hyi7
      clear hA hT hyi7
      obtain ⟨b0,b1,j0,j1,j2,_,_,_,_,hdd⟩:=HG.out wd D7
      have HDD:=Zh (hdd.stays ((zAD.refl wd).drew).below)
      have HSS:Hid (∀w',zAD wd.heap.size wd w'→w'.cell? ⟨Bq,0,none⟩=some (.int .i64 n)∧w'.cell? ⟨Bq,1,none⟩=some (.int .i64 o)∧w'.cell? ⟨Bq,2,none⟩=some (.int .i64 s)∧w'.cell? ⟨Bs,0,none⟩=some (.int .i64 (N:Int))∧w'.cell? ⟨Bs,1,none⟩=some (.slice uk yl.length ck)∧w'.cell? ⟨q,N,none⟩=some (.bool A)):=Zh (fun w' h=>⟨zAA h.below j0,zAA h.below j1,zAA h.below j2,zAA h.below z0,zAA h.below z1,zAA h.below hsn⟩)
      have s3:=HSS.out wd.drew (zAD.refl wd).drew
      have HXS:=Zh (And.intro x0 (And.intro x1 (And.intro x2 (And.intro b1 z0))))
      clear b0 b1 j0 j1 j2 hdd z0 z1 hsn x0 x1 x2
      go_cut[76] (fun s76 wx=>∃wz,wz=wx∧s76=.bool (T && !A)∧zAD wd.heap.size wd wx)
      case first =>
       cases T with
       | true =>
        refine wp_region_held_drew (S:=fun w'=>w'.cell? ⟨Bq,0,none⟩=some (.int .i64 n)∧w'.cell? ⟨Bq,1,none⟩=some (.int .i64 o)∧w'.cell? ⟨Bq,2,none⟩=some (.int .i64 s)∧w'.cell? ⟨Bs,0,none⟩=some (.int .i64 (N:Int))∧w'.cell? ⟨Bs,1,none⟩=some (.slice uk yl.length ck)∧w'.cell? ⟨q,N,none⟩=some (.bool A)) (by kernel_rfl) s3 (fun _=>?_)
        refine wpAnyH_take (i:=0) (v:=?vT0) rfl (by kernel_rfl) (by kernel_rfl) (by kernel_rfl) (fun _ _ _ h=>h) (Or.inl ⟨by rfl,?hyT0⟩) (by exact s3) ?rT0
        case hyT0=>(intro w hSw;(try dsimp only at hSw);go_simp<;>with_reducible rfl)
        simp only[Act.put,List.setIfInBounds_toArray,List.set]
        refine wpAnyH_take (i:=1) (v:=?vT1) rfl (by kernel_rfl) (by kernel_rfl) (by kernel_rfl) (fun _ _ _ h=>h) (Or.inl ⟨by rfl,?hyT1⟩) (by exact s3) ?rT1
        case hyT1=>(intro w hSw;(try dsimp only at hSw);go_simp<;>with_reducible rfl)
        simp only[Act.put,List.setIfInBounds_toArray,List.set]
        refine wpAnyH_take (i:=2) (v:=?vT2) rfl (by kernel_rfl) (by kernel_rfl) (by kernel_rfl) (fun _ _ _ h=>h) (Or.inl ⟨by rfl,?hyT2⟩) (by exact s3) ?rT2
        case hyT2=>(intro w hSw;(try dsimp only at hSw);go_simp<;>with_reducible rfl)
        simp only[Act.put,List.setIfInBounds_toArray,List.set]
        refine wpAnyH_take (i:=3) (v:=?vT3) rfl (by kernel_rfl) (by kernel_rfl) (by kernel_rfl) (fun _ _ _ h=>h) (Or.inl ⟨by rfl,?hyT3⟩) (by exact s3) ?rT3
        case hyT3=>(intro w hSw;(try dsimp only at hSw);go_simp<;>with_reducible rfl)
        simp only[Act.put,List.setIfInBounds_toArray,List.set]
        refine wpAnyH_take (i:=4) (v:=?vT4) rfl (by kernel_rfl) (by kernel_rfl) (by kernel_rfl) (fun _ _ _ h=>h) (Or.inl ⟨by rfl,?hyT4⟩) (by exact s3) ?rT4
        case hyT4=>(intro w hSw;(try dsimp only at hSw);go_simp<;>with_reducible rfl)
        simp only[Act.put,List.setIfInBounds_toArray,List.set]
        refine wpAnyH_ready (rs:=[5]) (by kernel_rfl) (by simp) ?_
        refine AllReadyH.cons (o:=?oT5) ?hoT5 (fun K' hK'=>?kT5) AllReadyH.nil
        case hoT5=>(simp only[List.getElem?_toArray,List.getElem?_cons_succ,List.getElem?_cons_zero];rfl)
        go_simp
        go_at_call 62
        refine (zCV n o s _ data N _ HDD.out HPL.out HNUM.out hN8).mono ?_
        rintro e w6 ⟨⟨v4,rfl,ho4'⟩,hb4⟩
        have p4:=(zAD.refl wd).drew.step hb4
        have s4:=HSS.out w6 p4
        try go_wp2_with fail
        refine hK'.out _ _ s4 (fun _=>?_)
        clear hK' K'
        refine wpAnyH_ready (rs:=[6]) (by kernel_rfl) (by simp) ?_
        refine AllReadyH.cons (o:=?oT6) ?hoT6 (fun K' hK'=>?kT6) AllReadyH.nil
        case hoT6=>(simp only[List.getElem?_toArray,List.getElem?_cons_succ,List.getElem?_cons_zero];rfl)
        go_simp
        go_at_call 56
        refine (zBo (N:Int) (N:Int) _ _ yl (zAY n data (zAM n s) N).2 _ (HYI.out.stays p4.below) ho4'.isInts).mono ?_
        rintro e w7 ⟨rfl,hb5⟩
        rw[HT.out]
        have p5:=p4.step hb5
        have s5:=HSS.out w7 p5
        try go_wp2_with fail
        refine hK'.out _ _ s5 (fun _=>?_)
        clear hK' K'
        refine wpAnyH_take (i:=7) (v:=?vT7) rfl (by kernel_rfl) (by kernel_rfl) (by kernel_rfl) (fun _ _ _ h=>h) (Or.inl ⟨by rfl,?hyT7⟩) (by exact s5) ?rT7
        case hyT7=>(intro w hSw;(try dsimp only at hSw);go_simp<;>with_reducible rfl)
        simp only[Act.put,List.setIfInBounds_toArray,List.set]
        refine wpAnyH_take (i:=8) (v:=?vT8) rfl (by kernel_rfl) (by kernel_rfl) (by kernel_rfl) (fun _ _ _ h=>h) (Or.inl ⟨by kernel_rfl,?hyT8⟩) (by exact s5) ?rT8
        case hyT8=>(intro w hSw;(try dsimp only at hSw);go_simp<;>with_reducible rfl)
        simp only[Act.put,List.setIfInBounds_toArray,List.set]
        refine wpAnyH_take (i:=9) (v:=?vT9) rfl (by kernel_rfl) (by kernel_rfl) (by kernel_rfl) (fun _ _ _ h=>h) (Or.inl ⟨by kernel_rfl,?hyT9⟩) (by exact s5) ?rT9
        case hyT9=>(intro w hSw;(try dsimp only at hSw);go_simp<;>with_reducible rfl)
        simp only[Act.put,List.setIfInBounds_toArray,List.set]
        refine wpAnyH_take (i:=10) (v:=?vT10) rfl (by kernel_rfl) (by kernel_rfl) (by kernel_rfl) (fun _ _ _ h=>h) (Or.inl ⟨by kernel_rfl,?hyT10⟩) (by exact s5) ?rT10
        case hyT10=>(intro w hSw;(try dsimp only at hSw);go_simp<;>with_reducible rfl)
        simp only[Act.put,List.setIfInBounds_toArray,List.set]
        refine wpAnyH_take (i:=11) (v:=?vT11) rfl (by kernel_rfl) (by kernel_rfl) (by kernel_rfl) (fun _ _ _ h=>h) (Or.inl ⟨by kernel_rfl,?hyT11⟩) (by exact s5) ?rT11
        case hyT11=>(intro w hSw;(try dsimp only at hSw);go_simp<;>with_reducible rfl)
        simp only[Act.put,List.setIfInBounds_toArray,List.set]
        refine wpAnyH_take (i:=12) (v:=?vT12) rfl (by kernel_rfl) (by kernel_rfl) (by kernel_rfl) (fun _ _ _ h=>h) (Or.inl ⟨by kernel_rfl,?hyT12⟩) (by exact s5) ?rT12
        case hyT12=>(intro w hSw;(try dsimp only at hSw);go_simp<;>with_reducible rfl)
        simp only[Act.put,List.setIfInBounds_toArray,List.set]
        refine wpAnyH_take (i:=13) (v:=?vT13) rfl (by kernel_rfl) (by kernel_rfl) (by kernel_rfl) (fun _ _ _ h=>h) (Or.inl ⟨by rfl,?hyT13⟩) (by exact s5) ?rT13
        case hyT13=>(intro w hSw;(try dsimp only at hSw);go_simp<;>with_reducible rfl)
        simp only[Act.put,List.setIfInBounds_toArray,List.set]
        refine wpAnyH_done (by kernel_rfl) ?_ _
        go_simp
        try go_wp2_with fail
        go_meet
        exact ⟨_,rfl,rfl,p5⟩
       | false =>
        refine wp_region_held_drew (S:=fun w'=>w'.cell? ⟨Bq,0,none⟩=some (.int .i64 n)∧w'.cell? ⟨Bq,1,none⟩=some (.int .i64 o)∧w'.cell? ⟨Bq,2,none⟩=some (.int .i64 s)∧w'.cell? ⟨Bs,0,none⟩=some (.int .i64 (N:Int))∧w'.cell? ⟨Bs,1,none⟩=some (.slice uk yl.length ck)∧w'.cell? ⟨q,N,none⟩=some (.bool A)) (by kernel_rfl) s3 (fun _=>?_)
        refine wpAnyH_take (i:=0) (v:=?vF0) rfl (by kernel_rfl) (by kernel_rfl) (by kernel_rfl) (fun _ _ _ h=>h) (Or.inl ⟨by rfl,?hyF0⟩) (by exact s3) ?rF0
        case hyF0=>(intro w hSw;(try dsimp only at hSw);go_simp<;>with_reducible rfl)
        simp only[Act.put,List.setIfInBounds_toArray,List.set]
        refine wpAnyH_take (i:=1) (v:=?vF1) rfl (by kernel_rfl) (by kernel_rfl) (by kernel_rfl) (fun _ _ _ h=>h) (Or.inl ⟨by rfl,?hyF1⟩) (by exact s3) ?rF1
        case hyF1=>(intro w hSw;(try dsimp only at hSw);go_simp<;>with_reducible rfl)
        simp only[Act.put,List.setIfInBounds_toArray,List.set]
        refine wpAnyH_take (i:=2) (v:=?vF2) rfl (by kernel_rfl) (by kernel_rfl) (by kernel_rfl) (fun _ _ _ h=>h) (Or.inl ⟨by rfl,?hyF2⟩) (by exact s3) ?rF2
        case hyF2=>(intro w hSw;(try dsimp only at hSw);go_simp<;>with_reducible rfl)
        simp only[Act.put,List.setIfInBounds_toArray,List.set]
        refine wpAnyH_take (i:=3) (v:=?vF3) rfl (by kernel_rfl) (by kernel_rfl) (by kernel_rfl) (fun _ _ _ h=>h) (Or.inl ⟨by rfl,?hyF3⟩) (by exact s3) ?rF3
        case hyF3=>(intro w hSw;(try dsimp only at hSw);go_simp<;>with_reducible rfl)
        simp only[Act.put,List.setIfInBounds_toArray,List.set]
        refine wpAnyH_take (i:=4) (v:=?vF4) rfl (by kernel_rfl) (by kernel_rfl) (by kernel_rfl) (fun _ _ _ h=>h) (Or.inl ⟨by rfl,?hyF4⟩) (by exact s3) ?rF4
        case hyF4=>(intro w hSw;(try dsimp only at hSw);go_simp<;>with_reducible rfl)
        simp only[Act.put,List.setIfInBounds_toArray,List.set]
        refine wpAnyH_ready (rs:=[5]) (by kernel_rfl) (by simp) ?_
        refine AllReadyH.cons (o:=?oF5) ?hoF5 (fun K' hK'=>?kF5) AllReadyH.nil
        case hoF5=>(simp only[List.getElem?_toArray,List.getElem?_cons_succ,List.getElem?_cons_zero];rfl)
        go_simp
        go_at_call 62
        refine (zCV n o s _ data N _ HDD.out HPL.out HNUM.out hN8).mono ?_
        rintro e w6 ⟨⟨v4,rfl,ho4'⟩,hb4⟩
        have p4:=(zAD.refl wd).drew.step hb4
        have s4:=HSS.out w6 p4
        try go_wp2_with fail
        refine hK'.out _ _ s4 (fun _=>?_)
        clear hK' K'
        refine wpAnyH_ready (rs:=[6]) (by kernel_rfl) (by simp) ?_
        refine AllReadyH.cons (o:=?oF6) ?hoF6 (fun K' hK'=>?kF6) AllReadyH.nil
        case hoF6=>(simp only[List.getElem?_toArray,List.getElem?_cons_succ,List.getElem?_cons_zero];rfl)
        go_simp
        go_at_call 56
        refine (zBo (N:Int) (N:Int) _ _ yl (zAY n data (zAM n s) N).2 _ (HYI.out.stays p4.below) ho4'.isInts).mono ?_
        rintro e w7 ⟨rfl,hb5⟩
        rw[HT.out]
        have p5:=p4.step hb5
        have s5:=HSS.out w7 p5
        try go_wp2_with fail
        refine hK'.out _ _ s5 (fun _=>?_)
        clear hK' K'
        refine wpAnyH_take (i:=7) (v:=?vF7) rfl (by kernel_rfl) (by kernel_rfl) (by kernel_rfl) (fun _ _ _ h=>h) (Or.inl ⟨by rfl,?hyF7⟩) (by exact s5) ?rF7
        case hyF7=>(intro w hSw;(try dsimp only at hSw);go_simp<;>with_reducible rfl)
        simp only[Act.put,List.setIfInBounds_toArray,List.set]
        refine wpAnyH_take (i:=8) rfl (by kernel_rfl) (by kernel_rfl) (by kernel_rfl) (fun _ _ _ h=>h) (Or.inr ⟨by kernel_rfl,rfl⟩) (by exact s5) ?rF8
        simp only[Act.put,List.setIfInBounds_toArray,List.set]
        refine wpAnyH_take (i:=9) rfl (by kernel_rfl) (by kernel_rfl) (by kernel_rfl) (fun _ _ _ h=>h) (Or.inr ⟨by kernel_rfl,rfl⟩) (by exact s5) ?rF9
        simp only[Act.put,List.setIfInBounds_toArray,List.set]
        refine wpAnyH_take (i:=10) rfl (by kernel_rfl) (by kernel_rfl) (by kernel_rfl) (fun _ _ _ h=>h) (Or.inr ⟨by kernel_rfl,rfl⟩) (by exact s5) ?rF10
        simp only[Act.put,List.setIfInBounds_toArray,List.set]
        refine wpAnyH_take (i:=11) rfl (by kernel_rfl) (by kernel_rfl) (by kernel_rfl) (fun _ _ _ h=>h) (Or.inr ⟨by kernel_rfl,rfl⟩) (by exact s5) ?rF11
        simp only[Act.put,List.setIfInBounds_toArray,List.set]
        refine wpAnyH_take (i:=12) rfl (by kernel_rfl) (by kernel_rfl) (by kernel_rfl) (fun _ _ _ h=>h) (Or.inr ⟨by kernel_rfl,rfl⟩) (by exact s5) ?rF12
        simp only[Act.put,List.setIfInBounds_toArray,List.set]
        refine wpAnyH_take (i:=13) (v:=?vF13) rfl (by kernel_rfl) (by kernel_rfl) (by kernel_rfl) (fun _ _ _ h=>h) (Or.inl ⟨by rfl,?hyF13⟩) (by exact s5) ?rF13
        case hyF13=>(intro w hSw;(try dsimp only at hSw);go_simp<;>with_reducible rfl)
        simp only[Act.put,List.setIfInBounds_toArray,List.set]
        refine wpAnyH_done (by kernel_rfl) ?_ _
        go_simp
        try go_wp2_with fail
        go_meet
        exact ⟨_,rfl,rfl,p5⟩
      case rest =>
       obtain ⟨we,rfl,rfl,hSe⟩:=hcut
       clear s3
       have SE:=S7.step hSe.below
       have DE:=D7.trans (zAF.old hSe.below _)
       have hsawE:=HST7.out.1.stays hSe.below
       have hoE:=HST7.out.2.stays hSe.below
       obtain ⟨x0,x1,x2,b1,z0⟩:=HXS.out
       have x0:=zAA hSe.below x0
       have x1:=zAA hSe.below x1
       have x2:=zAA hSe.below x2
       have b1:=zAA hSe.below b1
       have z0:=zAA hSe.below z0
       obtain ⟨X,hX⟩:∃X,X=(T && !A):=⟨_,rfl⟩
       rw[←hX]
       cases X with
       | true =>
        have hTA:T=true∧A=false:=by revert hX;cases T<;>cases A<;>simp
        have hnh:¬(N:Int)∈hv:=by have:=HA.out;rw[hTA.2] at this;simpa using this.symm
        have HR1:Hid (zCb (kv:Int) all (ps.take (k+1)) []=(done++[(true,r,K)],hv++[(N:Int)])):=Zh (by rw[HSTEP.out,zTk HN.out hnh (by rw[HM.out];exact hTA.1)])
        have HM1:=HM0 (true,r,K) rfl
        have HLN:=HLN (true,r,K)
        have hsz:=(hsawE N hN8').1
        have hsf:=(hsawE N hN8').2
        have hsawF:=hsawE.set (s:=((N:Int),[])) hN8' rfl
        have hoF:=hoE.kept (zAC we ⟨q,N,none⟩ (.bool true)) (fun j h=>by cases h;rfl) (by
         right
         intro e
         have e2:g=q:=Option.some.inj e
         have:=HLQ.out g rfl
         omega)
        have SF:=SE.setCell (a:=⟨q,N,none⟩) (by have:=T2.2;have:=S0.2;simp only;omega) (.bool true)
        have DF:=DE.trans ((zPd we q N (.bool true)).mono fun j _ hj=>Or.inr hj)
        have HF9:=Zh (And.intro SF (And.intro DF (And.intro hsawF hoF)))
        clear hX hTA hnh hsawE hoE x0 x1 x2 b1 SE DE SF DF hsawF hoF
        go_upto_region 16 with fail
        clear hsz hsf z0
        generalize we.setCell ⟨q,N,none⟩ (.bool true)=wf at *
        go_wp2_with fail
        go_roundw
        case rel=>exact ⟨k+1,qs,hv++[(N:Int)],done++[(true,r,K)],by omega,by go_num,HF9.out.1,HF9.out.2.1,by rw[zPc];exact HF9.out.2.2.1,HF9.out.2.2.2,HQL.out,HR1.out,HM1.out,HLN.out,HFT2.out⟩
        case measure=>simp[intOf];omega
       | false =>
        obtain ⟨rr2,g2',hg2',_,_,hcell2,hf2⟩:=hoE.get HQK.out
        have hgg2:g2'=g:=Option.some.inj (hg2'.symm.trans rfl)
        subst hgg2
        obtain ⟨vK2,rfl,_,hvK2⟩:=hf2.now
        simp only[if_true] at hvK2
        obtain ⟨aa2,ca2,rfl,_⟩:=hvK2.opened
        have l0:we.drew.cell? ⟨g2',k*3,none⟩=some (.bool true):=hcell2 0 _ rfl
        have l1:we.drew.cell? ⟨g2',k*3+1,none⟩=some (.int .i64 r):=hcell2 1 _ rfl
        have l2:we.drew.cell? ⟨g2',k*3+2,none⟩=some (.slice aa2 K.length ca2):=hcell2 2 _ rfl
        have l3:∀j,we.drew.frozen? ⟨g2',j,none⟩=false:=fun j=>hoE.free rfl j
        have s15:we.drew.cell? ⟨B,1,none⟩=some (.slice (some ⟨g2',0,none⟩) ps.length c2)∧we.drew.cell? ⟨Bp,0,none⟩=some (.bool true)∧we.drew.cell? ⟨Bp,1,none⟩=some (.int .i64 r)∧we.drew.cell? ⟨Bp,2,none⟩=some (.slice (some ⟨gk,ok,none⟩) K.length ca):=⟨b1,x0,x1,x2⟩
        have HWO:=Zh (zIC true r (.slice (some ⟨gk,ok,none⟩) K.length ca) K (kv:Int) W we.drew SE.drew HKW.out (by omega))
        have HSAW:=Zh hsawE
        have HOE:=Zh hoE
        have hkI':(k:Int)<(ps.length:Int):=by omega
        have hnpg:¬Bp=g2':=by have:=hpB.1;omega
        have HR1:Hid (zCb (kv:Int) all (ps.take (k+1)) []=(done++[(true,r,zAa (kv:Int) K)],hv)):=Zh (by
         rw[HSTEP.out,zUl HN.out (by rw[HM.out];simp only;rw[←HA.out];exact hX.symm)])
        clear hsawE hoE hcell2 hf2 x0 x1 x2 b1 z0 hX
        go_upto_region 15 with fail
        refine wp_region_held_drew (S:=fun w'=>w'.cell? ⟨B,1,none⟩=some (.slice (some ⟨g2',0,none⟩) ps.length c2)∧w'.cell? ⟨Bp,0,none⟩=some (.bool true)∧w'.cell? ⟨Bp,1,none⟩=some (.int .i64 r)∧w'.cell? ⟨Bp,2,none⟩=some (.slice (some ⟨gk,ok,none⟩) K.length ca)) (by kernel_rfl) s15 (fun _=>?_)
        refine wpAnyH_take (i:=0) (v:=?vw0) rfl (by kernel_rfl) (by kernel_rfl) (by kernel_rfl) (fun _ _ _ h=>h) (Or.inl ⟨by rfl,?hyw0⟩) (by exact s15) ?rw0
        case hyw0=>(intro w hSw;(try dsimp only at hSw);go_simp<;>with_reducible rfl)
        simp only[Act.put,List.setIfInBounds_toArray,List.set]
        refine wpAnyH_take (i:=1) (v:=?vw1) rfl (by kernel_rfl) (by kernel_rfl) (by kernel_rfl) (fun _ _ _ h=>h) (Or.inl ⟨by rfl,?hyw1⟩) (by exact s15) ?rw1
        case hyw1=>(intro w hSw;(try dsimp only at hSw);go_simp<;>with_reducible rfl)
        simp only[Act.put,List.setIfInBounds_toArray,List.set]
        refine wpAnyH_take (i:=2) (v:=?vw2) rfl (by kernel_rfl) (by kernel_rfl) (by kernel_rfl) (fun _ _ _ h=>h) (Or.inl ⟨by rfl,?hyw2⟩) (by exact s15) ?rw2
        case hyw2=>(intro w hSw;(try dsimp only at hSw);go_simp<;>with_reducible rfl)
        simp only[Act.put,List.setIfInBounds_toArray,List.set]
        refine wpAnyH_take (i:=3) (v:=?vw3) rfl (by kernel_rfl) (by kernel_rfl) (by kernel_rfl) (fun _ _ _ h=>h) (Or.inl ⟨by rfl,?hyw3⟩) (by exact s15) ?rw3
        case hyw3=>(intro w hSw;(try dsimp only at hSw);go_simp<;>with_reducible rfl)
        simp only[Act.put,List.setIfInBounds_toArray,List.set]
        refine wpAnyH_take (i:=4) (v:=?vw4) rfl (by kernel_rfl) (by kernel_rfl) (by kernel_rfl) (fun _ _ _ h=>h) (Or.inl ⟨by rfl,?hyw4⟩) (by exact s15) ?rw4
        case hyw4=>(intro w hSw;(try dsimp only at hSw);go_simp<;>with_reducible rfl)
        simp only[Act.put,List.setIfInBounds_toArray,List.set]
        refine wpAnyH_ready (rs:=[5]) (by kernel_rfl) (by simp) ?_
        refine AllReadyH.cons (o:=?ow5) ?how5 (fun K' hK'=>?kw5) AllReadyH.nil
        case how5=>(simp only[List.getElem?_toArray,List.getElem?_cons_succ,List.getElem?_cons_zero];rfl)
        go_simp
        go_at_call 36
        refine HWO.out.mono ?_
        rintro e w5' ⟨⟨v5,rfl,hv5,hv6⟩,hb5⟩
        obtain ⟨a5,c5,rfl,_⟩:=(hv6 w5' (zAF.refl _ _)).opened
        have t0:=zAA hb5 l0
        have t1:=zAA hb5 l1
        have t2:=zAA hb5 l2
        have y0:=zAE hb5 l0 (l3 _)
        have y1':=zAE hb5 l1 (l3 _)
        have y2':=zAE hb5 l2 (l3 _)
        have s16:w5'.cell? ⟨B,1,none⟩=some (.slice (some ⟨g2',0,none⟩) ps.length c2)∧w5'.cell? ⟨Bp,0,none⟩=some (.bool true)∧w5'.cell? ⟨Bp,1,none⟩=some (.int .i64 r)∧w5'.cell? ⟨Bp,2,none⟩=some (.slice (some ⟨gk,ok,none⟩) K.length ca):=⟨zAA hb5 s15.1,zAA hb5 s15.2.1,zAA hb5 s15.2.2.1,zAA hb5 s15.2.2.2⟩
        try go_wp2_with fail
        refine hK'.out _ _ s16 (fun _=>?_)
        clear hK' K'
        refine wpAnyH_take (i:=6) (v:=?vw6) rfl (by kernel_rfl) (by kernel_rfl) (by kernel_rfl) (fun _ _ _ h=>h) (Or.inl ⟨by rfl,?hyw6⟩) (by exact s16) ?rw6
        case hyw6=>(intro w hSw;(try dsimp only at hSw);go_simp<;>with_reducible rfl)
        simp only[Act.put,List.setIfInBounds_toArray,List.set]
        refine wpAnyH_ready (rs:=[7]) (by kernel_rfl) (by simp) ?_
        refine AllReadyH.cons (o:=?ow7) ?how7 (fun K' hK'=>?kw7) AllReadyH.nil
        case how7=>(simp only[List.getElem?_toArray,List.getElem?_cons_succ,List.getElem?_cons_zero];rfl)
        go_simp
        have hnBg:¬B=g2':=fun e=>hgg.1 e.symm
        have hDg:zAF (fun j=>j=g2') w5' (((w5'.setCell ⟨g2',k*3,none⟩ (.bool true)).setCell ⟨g2',k*3+1,none⟩ (.int .i64 r)).setCell ⟨g2',k*3+1+1,none⟩ (.slice a5 (zAa (kv:Int) K).length c5)):=(zAF.of_grown (zAQ g2' [.bool true,.int .i64 r,.slice a5 (zAa (kv:Int) K).length c5] (k*3) w5')).mono (fun j _ hj=>by cases hj;rfl)
        have s17:(((w5'.setCell ⟨g2',k*3,none⟩ (.bool true)).setCell ⟨g2',k*3+1,none⟩ (.int .i64 r)).setCell ⟨g2',k*3+1+1,none⟩ (.slice a5 (zAa (kv:Int) K).length c5)).cell? ⟨B,1,none⟩=some (.slice (some ⟨g2',0,none⟩) ps.length c2)∧(((w5'.setCell ⟨g2',k*3,none⟩ (.bool true)).setCell ⟨g2',k*3+1,none⟩ (.int .i64 r)).setCell ⟨g2',k*3+1+1,none⟩ (.slice a5 (zAa (kv:Int) K).length c5)).cell? ⟨Bp,0,none⟩=some (.bool true)∧(((w5'.setCell ⟨g2',k*3,none⟩ (.bool true)).setCell ⟨g2',k*3+1,none⟩ (.int .i64 r)).setCell ⟨g2',k*3+1+1,none⟩ (.slice a5 (zAa (kv:Int) K).length c5)).cell? ⟨Bp,1,none⟩=some (.int .i64 r)∧(((w5'.setCell ⟨g2',k*3,none⟩ (.bool true)).setCell ⟨g2',k*3+1,none⟩ (.int .i64 r)).setCell ⟨g2',k*3+1+1,none⟩ (.slice a5 (zAa (kv:Int) K).length c5)).cell? ⟨Bp,2,none⟩=some (.slice (some ⟨gk,ok,none⟩) K.length ca):=⟨hDg.cell s16.1 hnBg,hDg.cell s16.2.1 hnpg,hDg.cell s16.2.2.1 hnpg,hDg.cell s16.2.2.2 hnpg⟩
        refine hK'.out _ _ s17 (fun _=>?_)
        clear hK' K'
        refine wpAnyH_done (by kernel_rfl) ?_ _
        go_simp
        have hb5r:Below we.heap.size we w5':=((zAD.refl we).drew.step hb5).below
        have hD8:=DE.trans ((zAF.old hb5r _).trans (hDg.mono (D':=fun j=>(Value.slice (some ⟨g2',0,none⟩) ps.length c2).ownBlock=some j∨j=q) (fun j _ hj=>by rw[hj];exact Or.inl rfl)))
        have hgW:=hgg.2.2.2
        have S8:=((((SE.step hb5r)).setCell (a:=⟨g2',k*3,none⟩) hgW (.bool true)).setCell (a:=⟨g2',k*3+1,none⟩) hgW (.int .i64 r)).setCell (a:=⟨g2',k*3+1+1,none⟩) hgW (.slice a5 (zAa (kv:Int) K).length c5)
        have hn5:∀j,j<we.heap.size→(Value.slice a5 (zAa (kv:Int) K).length c5).ownBlock≠some j:=fun j hj e=>by have:we.heap.size≤j:=hv5 j e;omega
        have hgE:=(HOE.out.lt g2' rfl).2
        have hqE:=HSAW.out.lt
        have ho8:zAK 3 (RPF W) (fun j=>j=q) (((w5'.setCell ⟨g2',k*3,none⟩ (.bool true)).setCell ⟨g2',k*3+1,none⟩ (.int .i64 r)).setCell ⟨g2',k*3+1+1,none⟩ (.slice a5 (zAa (kv:Int) K).length c5)) 62 w2.heap.size (.slice (some ⟨g2',0,none⟩) ps.length c2) (qs.set k ((true,r,zAa (kv:Int) K),false)):=
         (HOE.out.stays hb5r).setElem (r:=[.bool true,.int .i64 r,.slice a5 (zAa (kv:Int) K).length c5]) hkq rfl (by intro z hz;simp at hz;rcases hz with rfl | rfl | rfl<;>rfl) (fun w' hw'=>⟨_,rfl,hr,by
          simp only[Bool.false_eq_true,if_false]
          refine hv6 w' (hw'.mono fun j _ hj=>?_)
          rcases hj with hj|hj
          ·cases hj;exact ⟨hgW,hn5 g2' hgE⟩
          ·rw[hj];exact ⟨by have:=T2.2;have:=S0.2;omega,hn5 q hqE⟩⟩)
        have hsaw8:zF4 (((w5'.setCell ⟨g2',k*3,none⟩ (.bool true)).setCell ⟨g2',k*3+1,none⟩ (.int .i64 r)).setCell ⟨g2',k*3+1+1,none⟩ (.slice a5 (zAa (kv:Int) K).length c5)) q (zOP hv):=(HSAW.out.stays hb5r).grown (zAQ g2' [.bool true,.int .i64 r,.slice a5 (zAa (kv:Int) K).length c5] (k*3) w5') (fun e=>by have:=HLQ.out g2' rfl;have e2:g2'=q:=Option.some.inj e;omega)
        have hql8:(qs.set k ((true,r,zAa (kv:Int) K),false)).length=ps.length:=by rw[List.length_set];exact HQL.out
        have hmap8:(qs.set k ((true,r,zAa (kv:Int) K),false)).map (·.1)=(done++[(true,r,zAa (kv:Int) K)])++ps.drop (k+1):=by
         rw[List.map_set,zTO (HMAP.out.trans (by rw[HDROP.out])) hdn]
         simp
        have hft8:∀m,k+1≤m→m<ps.length→∃p,ps[m]?=some p∧(qs.set k ((true,r,zAa (kv:Int) K),false))[m]?=some (p,true):=fun m h1 h2=>by
         obtain ⟨p,h3,h4⟩:=HFT2.out m h1 h2
         exact ⟨p,h3,by rw[List.getElem?_set_ne (by omega)];exact h4⟩
        have HLN:=HLN (true,r,zAa (kv:Int) K)
        have HX8:=Zh (And.intro S8 (And.intro hD8 (And.intro hsaw8 (And.intro ho8 (And.intro hql8 (And.intro hmap8 hft8))))))
        clear S8 hD8 hsaw8 ho8 hql8 hmap8 hft8 s15 s16 s17 l0 l1 l2 l3 t0 t1 t2 y0 y1' y2' hv5 hv6 hb5 hb5r hDg hn5 SE DE
        generalize ((w5'.setCell ⟨g2',k*3,none⟩ (.bool true)).setCell ⟨g2',k*3+1,none⟩ (.int .i64 r)).setCell ⟨g2',k*3+1+1,none⟩ (.slice a5 (zAa (kv:Int) K).length c5)=wf at *
        go_wp2_with fail
        go_roundw
        case rel=>exact ⟨k+1,_,hv,_,by omega,by go_num,HX8.out.1,HX8.out.2.1,HX8.out.2.2.1,HX8.out.2.2.2.1,HX8.out.2.2.2.2.1,HR1.out,HX8.out.2.2.2.2.2.1,HLN.out,HX8.out.2.2.2.2.2.2⟩
        case measure=>simp[intOf];omega
   ·obtain rfl:ps.length=k:=by omega
    rw[List.drop_length,List.append_nil] at hmap
    rw[List.take_length] at hrep
    obtain ⟨b0,b1,j0,j1,j2,i0,i1,i2,mbz,hdz⟩:=HG.out wr hDr
    have HREP:=Zh hrep
    have HALL:Hid (all=zAV n data o (zAM n s)):=Zh (by rw[HAL.out,zBw HSP.out])
    have hpz:=zEE ho.isRow hS.below
    rw[hmap] at hpz
    have HPZ:=Zh hpz
    have HSAW:=Zh hsaw
    have HDZ:=Zh hdz
    have HVZ:=Zh (HB.out.stays zAz.stays hS.below)
    clear hmap hrep hpz hsaw hdz ho hft hDr
    go_wp2_with fail
    obtain ⟨wo,hwo⟩:∃wo:World,wo=wr:=⟨_,rfl⟩
    subst hwo
    have HC:Hid (∀w',zAD wo.heap.size wo w'→w'.cell? ⟨B,0,none⟩=some (.slice (some ⟨gv,ov,none⟩) b.length c)∧w'.cell? ⟨B,1,none⟩=some (.slice a2 ps.length c2)∧w'.cell? ⟨Bq,0,none⟩=some (.int .i64 n)∧w'.cell? ⟨Bq,1,none⟩=some (.int .i64 o)∧w'.cell? ⟨Bq,2,none⟩=some (.int .i64 s)∧w'.cell? ⟨B1,0,none⟩=some (.slice none 0 0)∧w'.cell? ⟨B1,1,none⟩=some (.slice none 0 0)∧(∀j,w'.frozen? ⟨B1,j,none⟩=false)∧zAm w' B1):=Zh (fun w' h=>⟨zAA h.below b0,zAA h.below b1,zAA h.below j0,zAA h.below j1,zAA h.below j2,zAA h.below i0,zAA h.below i1,fun j=>(h.below.frozen (p:=⟨B1,j,none⟩) (show B1<wo.heap.size from zAH i0)).trans (i2 j),mbz.stays h.below (zAH i0)⟩)
    clear b0 b1 j0 j1 j2 i0 i1 i2 mbz
    go_loopw[90,15] (fun i vy wr=>∃j:Nat,j≤o∧i=.int .i64 j∧zAD wo.heap.size wo wr∧zAK 2 zBA (fun _=>False) wr 64 wo.heap.size vy (zBm (all.take j) hv)) (fun i _ _=>o - (intOf i).toNat)
    case atStart=>exact ⟨0,by omega,rfl,zAD.refl wo,by simpa[zBm] using zAK.nil _ _ _⟩
    case round =>
     obtain ⟨j,hj,rfl,hSw,hy⟩:=hrel
     obtain ⟨b0,b1,j0,j1,j2,i0,i1,i2,mbz⟩:=HC.out wr hSw
     by_cases hjo:j<o
     ·have hx:all[j]?=some (zAY n data (zAM n s) j):=by rw[HALL.out];exact zBX _ _ _ hjo
      have HMS:=Zh (zKE (hv:=hv) hx)
      have hml:(zBm (all.take j) hv).length≤8:=by
       unfold zBm
       refine Nat.le_trans (List.length_filter_le _ _) ?_
       rw[List.length_take]
       omega
      have hj8:j<8:=by omega
      have hj8':j≤8:=by omega
      have hjI:(j:Int)<8:=by omega
      have hjI0:(0:Int)≤(j:Int):=by omega
      obtain ⟨A,hA⟩:∃A,A=decide ((j:Int)∈hv):=⟨_,rfl⟩
      have hsn:wr.cell? ⟨q,j,none⟩=some (.bool A):=by
       have h:=((HSAW.out.stays hSw.below) j hj8).1
       rw[zMS] at h
       rw[h,hA]
      have HA:=Zh hA
      clear hA hx
      cases A with
      | true =>
       have HNX:=Zh (show zBm (all.take (j+1)) hv=zBm (all.take j) hv by rw[HMS.out,if_pos (show (zAY n data (zAM n s) j).1∈hv from of_decide_eq_true HA.out.symm),List.append_nil])
       have HY:=Zh hy
       clear hy i2
       go_wp2_with fail
       go_roundw
       case rel=>exact ⟨j+1,by omega,by go_num,hSw,by rw[HNX.out];exact HY.out⟩
       case measure=>simp[intOf];omega
      | false =>
       have HNX:=Zh (show zBm (all.take (j+1)) hv=zBm (all.take j) hv++[zAY n data (zAM n s) j] by rw[HMS.out,if_neg (show ¬(zAY n data (zAM n s) j).1∈hv from of_decide_eq_false HA.out.symm)])
       obtain ⟨ay,cy,rfl,_⟩:=hy.isRow.opened
       have hyl:∀z,(Value.slice ay (zBm (all.take j) hv).length cy).ownBlock=some z→z<wr.heap.size:=fun z h=>(hy.lt z h).2
       have hgr:=hSw.2
       have HY:=Zh hy
       clear hy i2 b0 b1 i0 i1 mbz
       go_wp2_with (first
        | (go_at_call 62;go_fit (zCV n o s _ data j wr (HDZ.out.stays hSw.below) HPL.out HNUM.out hj8');rintro e w6 ⟨⟨v4,rfl,ho4⟩,hb4⟩;obtain ⟨a4,c4,rfl,_⟩:=ho4.isInts.opened;have hw6:=hb4.size;have HFR:Hid (zA3 (fun z=>(Value.slice ay (zBm (all.take j) hv).length cy).ownBlock=some z∨(fun _=>False) z) zBA (w6.alloc (.cells #[.int .i64 (j:Int),.slice a4 (zAY n data (zAM n s) j).2.length c4] 64)) [.int .i64 (j:Int),.slice a4 (zAY n data (zAM n s) j).2.length c4] (zAY n data (zAM n s) j)):=(Zh (fun w' hw'=>⟨_,rfl,(ho4.isInts.stays (zAB _ _)).framed (fun z hz _ h=>h.elim (fun h=>by have h1:=hyl z h;have h2:=(ho4.lies z hz).1;omega) id) hw',⟨by simp only[zAY];omega,by simp only[zAY];omega⟩⟩)))
        | (at_builtin;refine zAd rfl _ _ 83 rfl 2 (fun _=>False) 64 Tryz.underlying83 _ 32 zJf rfl (by omega) (by omega) wo.heap.size _ _ rfl ((HY.out.stays hb4).stays (zAB _ _)) ⟨w6.heap.size,0,none⟩ 1 [.int .i64 (j:Int),.slice a4 (zAY n data (zAM n s) j).2.length c4] (zAY n data (zAM n s) j) rfl rfl (by intro w hw;simp at hw;rcases hw with rfl | rfl<;>rfl) (zFS w6 [.int .i64 (j:Int),.slice a4 (zAY n data (zAM n s) j).2.length c4] 64 _ rfl) HFR.out (by omega) (by simp;omega) ?_;intro v6 w7 ho7 hg7 _))
       have S7:=((hSw.step hb4).alloc (.cells #[.int .i64 (j:Int),.slice a4 (zAY n data (zAM n s) j).2.length c4] 64)).row ((HY.out.stays hb4).stays (zAB _ _)) hg7
       have HO7:=Zh ho7
       clear ho7 hg7 hb4 ho4
       go_roundw
       case rel=>exact ⟨j+1,by omega,by go_num,S7,by rw[HNX.out];exact HO7.out⟩
       case measure=>simp[intOf];omega
     ·obtain rfl:o=j:=by omega
      have hal:all.take o=all:=List.take_of_length_le (by rw[HALL.out,zBK];exact Nat.le_refl _)
      rw[hal] at hy
      have hR:=HR.out
      have hRP:=HRP.out
      rw[HREP.out] at hR hRP
      have HR9:=Zh hR
      have SW:=hS.step hSw.below
      have hki:I64 (kv:Int):=⟨by omega,by omega⟩
      obtain ⟨ay,cy,rfl,_⟩:=hy.isRow.opened
      have HGV:=Zh (zMi _ _ _ b done (kv:Int) (zBm all hv) wr (HVZ.out.stays zAz.stays hSw.below) (HPZ.out.stays zAj.stays hSw.below) (zA6 hy.isRow) hki hRP)
      generalize zF8 (b,done) (kv:Int) (zBm all hv)=E at *
      generalize zGk (b,done) (kv:Int) (zBm all hv)=C at *
      have y0':=i2 0
      have y1':=i2 1
      clear hR hRP hy hal
      go_wp2_with (go_at_call 59;go_fit HGV.out;rintro e w6 ⟨⟨u1,u2,rfl,hv6,hp6⟩,hb6⟩;obtain ⟨a6,c6,rfl,_⟩:=hv6.opened;obtain ⟨a7,c7,rfl,_⟩:=hp6.opened;have z0:=zAA hb6 i0;have z1:=zAA hb6 i1;have z2:=zAE hb6 i0 y0';have z3:=zAE hb6 i1 y1';have mb6:=mbz.stays hb6 (zAH i0);have g0':((w6.setCell ⟨B1,0,none⟩ (.slice a6 C.1.length c6)).setCell ⟨B1,1,none⟩ (.slice a7 C.2.length c7)).cell? ⟨B1,0,none⟩=some (.slice a6 C.1.length c6):=(by go_simp);have g1':((w6.setCell ⟨B1,0,none⟩ (.slice a6 C.1.length c6)).setCell ⟨B1,1,none⟩ (.slice a7 C.2.length c7)).cell? ⟨B1,1,none⟩=some (.slice a7 C.2.length c7):=(by go_simp))
      have hd7:=(zAn w6 B1 0 (.slice a6 C.1.length c6)).trans (zAn _ B1 1 (.slice a7 C.2.length c7))
      have S7:=((SW.step hb6).setCell (a:=⟨B1,0,none⟩) hBW1 (.slice a6 C.1.length c6)).setCell (a:=⟨B1,1,none⟩) hBW1 (.slice a7 C.2.length c7)
      have hv7:=hv6.offBox mb6 hd7
      have hp7:=hp6.offBox mb6 hd7
      exact bodyPost_ret (v:=.tuple #[.agg #[.slice a6 C.1.length c6,.slice a7 C.2.length c7],.int .i64 E]) (by simp[results,Tryz.results31,go_sem,g0',g1']) rfl ⟨⟨_,_,zEF HR9.out.1.symm,by rw[HR9.out.2];exact hv7,by rw[HR9.out.2];exact hp7⟩,S7.below⟩
 ·have HS:Hid (zBP (b,ps) v=zBI (b,ps) v∧zBU (b,ps) v=([],[])):=Zh (by
   unfold zBP zBU
   exact ⟨if_pos h0,if_pos (Or.inl h0)⟩)
  have hne:(zBI (b,ps) v != 0)=true:=by simpa using h0
  generalize zBI (b,ps) v=E at *
  have f0:=e2 0
  have f1:=e2 1
  have v0:((w1.setCell ⟨B1,0,none⟩ (.slice none 0 0)).setCell ⟨B1,1,none⟩ (.slice none 0 0)).cell? ⟨B1,0,none⟩=some (.slice none 0 0):=by go_simp
  have v1:((w1.setCell ⟨B1,0,none⟩ (.slice none 0 0)).setCell ⟨B1,1,none⟩ (.slice none 0 0)).cell? ⟨B1,1,none⟩=some (.slice none 0 0):=by go_simp
  have S7:=((S0.step T1.below).setCell (a:=⟨B1,0,none⟩) hBW1 (.slice none 0 0)).setCell (a:=⟨B1,1,none⟩) hBW1 (.slice none 0 0)
  clear d0 d1 d2 e2 h0 hi1
  go_wp2_with fail
  exact bodyPost_ret (v:=.tuple #[.agg #[.slice none 0 0,.slice none 0 0],.int .i64 E]) (by simp[results,Tryz.results31,go_sem,v0,v1]) rfl ⟨⟨_,_,zEF HS.out.1.symm,by rw[HS.out.2];exact zAZ.nil _,by rw[HS.out.2];exact zAZ.nil _⟩,S7.below⟩
end Go.Proofs.YthgmphbkkojaoaaGreat
