/-
  mesh.Repair walked.
-/
import Derived.Test.YthgmphbkkojaoaaGreatQMends
set_option linter.unusedSimpArgs false
set_option maxHeartbeats 8000000
namespace Go.Proofs.YthgmphbkkojaoaaGreat
set_option linter.unusedSectionVars false
variable [Zn]
open Go.RowKit
theorem zNy{m:Me}{v:Int}(h:zBI m v≠0):zBP m v=zBI m v∧zBU m v=([],[]):=by
 unfold zBP zBU
 exact ⟨if_pos h,if_pos (Or.inl h)⟩
theorem zL7{m:Me}{v:Int}(h0:zBI m v=0)(h:zAe (zAO m.1 v).1 (zAO m.1 v).2.1 (zAO m.1 v).2.2 (zBa m v)≠0):zBP m v=zAe (zAO m.1 v).1 (zAO m.1 v).2.1 (zAO m.1 v).2.2 (zBa m v)∧zBU m v=([],[]):=by
 unfold zBP zBU
 rw[if_neg (by simpa using h0),if_pos h]
 exact ⟨rfl,if_pos (Or.inr h)⟩
theorem zFv{m:Me}{v:Int}{x:Ver}(h0:zBI m v=0)(hx:zAO m.1 v=x.2)(h:zAe x.2.1 x.2.2.1 x.2.2.2 (zBa m v)=0){all:List Sh}(ha:all=zA4 x.2.1 x.2.2.1 x.2.2.2 (zBa m v)) :
  zBP m v=zF8 (m.1,(zCb v all m.2 []).1) v (zBm all (zCb v all m.2 []).2)∧zBU m v=zGk (m.1,(zCb v all m.2 []).1) v (zBm all (zCb v all m.2 []).2):=by
 unfold zBP zBU
 rw[hx,←ha,if_neg (by simpa using h0),if_neg (by simpa using h),if_neg (by simp[h0,h])]
 exact ⟨rfl,rfl⟩
theorem zBr{m:Me}{v:Int}(h:zBI m v=0):zAh m v=0:=by
 by_cases h0:zAh m v=0
 ·exact h0
 ·unfold zBI at h
  rw[if_pos h0] at h
  exact h
theorem zSF{D Q q:Bool}{p:Prop}[Decidable p](hD:D=decide p)(hQ:Q=q)(hb:false=(D || !Q)):¬(p∨q=false):=by
 subst hD hQ
 by_cases hp:p<;>cases Q<;>simp_all
theorem zTe{D Q q:Bool}{p:Prop}[Decidable p](hD:D=decide p)(hQ:Q=q)(hb:true=(D || !Q)):p∨q=false:=by
 subst hD hQ
 by_cases hp:p<;>cases Q<;>simp_all
theorem zKK(w:World):(zeroValue 4).run Tryz.prog w=.ok (.bool false) w:=by kernel_rfl
set_option maxRecDepth 100000 in
theorem zHc(vb u:Value)(b:List Ver)(ps:List Pr)(v:Int)(W:World)(hb:zAR W vb b)(hu:zAT W u ps)(hv:I64 v) :
  Calls Tryz.prog 44 #[.agg #[vb,u],.int .i64 v] W fun e w'=>(∃u1 u2,e=.returned (.tuple #[.agg #[u1,u2],.int .i64 (zBP (b,ps) v)])∧zCl (fun k=>k<W.heap.size) w' W.heap.size u1 u2 (zBU (b,ps) v))∧Below W.heap.size W w':=by
 obtain ⟨a,c,rfl,hcb,⟨hbm,hbc,_⟩,_⟩:=hb.opened
 obtain ⟨a',c',rfl,hcu,⟨hum,huc,_⟩,_⟩:=hu.opened
 have S0:=((zAD.refl W).alloc (.cells #[.slice a b.length c,.slice a' ps.length c'] 27)).alloc (.cells #[.slice none 0 0,.slice none 0 0] 27)
 obtain ⟨w0,hw0⟩:∃w0,w0=(W.alloc (.cells #[.slice a b.length c,.slice a' ps.length c'] 27)).alloc (.cells #[.slice none 0 0,.slice none 0 0] 27):=⟨_,rfl⟩
 have p0:w0.cell? ⟨W.heap.size,0,none⟩=some (.slice a b.length c):=by rw[hw0];go_simp
 have p1:w0.cell? ⟨W.heap.size,1,none⟩=some (.slice a' ps.length c'):=by rw[hw0];go_simp
 have p2:∀j,w0.frozen? ⟨W.heap.size,j,none⟩=false:=by intro j;rw[hw0];go_simp
 have q0:w0.cell? ⟨W.heap.size+1,0,none⟩=some (.slice none 0 0):=by rw[hw0];go_simp
 have q1:w0.cell? ⟨W.heap.size+1,1,none⟩=some (.slice none 0 0):=by rw[hw0];go_simp
 have q2:∀j,w0.frozen? ⟨W.heap.size+1,j,none⟩=false:=by intro j;rw[hw0];go_simp
 have hsz0:w0.heap.size=W.heap.size+2:=by rw[hw0];simp
 rw[←hw0] at S0
 have HW:=Zh hw0
 clear hw0
 obtain ⟨B,hB⟩:∃B,B=W.heap.size:=⟨_,rfl⟩
 obtain ⟨B1,hB1⟩:∃B1,B1=W.heap.size+1:=⟨_,rfl⟩
 have hBW:W.heap.size≤B:=by omega
 have hBW1:W.heap.size≤B1:=by omega
 have hBB:¬B1=B:=by omega
 have hBB':¬B=B1:=by omega
 have hB0:B<w0.heap.size:=by omega
 have hB10:B1<w0.heap.size:=by omega
 rw[←hB1] at q0 q1 q2
 rw[←hB] at p0 p1 p2
 have HB:=Zh hB
 have HB1:=Zh hB1
 clear hB hB1 hsz0
 have hb0:=hb.stays zAz.stays S0.below
 have hu0:=hu.stays zAj.stays S0.below
 clear hb hu
 go_enter Tryz.func44,Tryz.ntmps44
 go_upto_region 1 with fail
 rw[←HW.out,←HB1.out,←HB.out]
 have HF:Hid (∀w',zAD w0.heap.size w0 w'→w'.cell? ⟨B,0,none⟩=some (.slice a b.length c)∧w'.cell? ⟨B,1,none⟩=some (.slice a' ps.length c')∧(∀j,w'.frozen? ⟨B,j,none⟩=false)):=Zh (fun w' q=>⟨zAA q.below p0,zAA q.below p1,fun j=>(q.below.frozen (p:=⟨B,j,none⟩) hB0).trans (p2 j)⟩)
 have HG:Hid (∀w':World,w'.heap[B1]?=w0.heap[B1]?→w'.cell? ⟨B1,0,none⟩=some (.slice none 0 0)∧w'.cell? ⟨B1,1,none⟩=some (.slice none 0 0)∧(∀j,w'.frozen? ⟨B1,j,none⟩=false)):=Zh (fun w' q=>⟨(World.cell?_of_block q).trans q0,(World.cell?_of_block q).trans q1,fun j=>(World.frozen?_of_block q).trans (q2 j)⟩)
 go_upto_region 2 with (go_at_call 71;go_fit (zD7 _ b _ ps v _ hb0 hu0);rintro e w1 ⟨⟨y1,y2,rfl,hi1,hi2⟩,hb1⟩)
 have T1:=(zAD.refl w0).step hb1
 by_cases h0:zBI (b,ps) v=0
 ·obtain ⟨hm0,hv0,hvb⟩:=zCo (zBr h0)
  obtain ⟨hb12,hp8,hk20⟩:=zED hm0
  have H0:=Zh h0
  have HM0:=Zh hm0
  rw[h0]
  obtain ⟨kv,rfl⟩:=Int.eq_ofNat_of_zero_le hv0
  have hkv:kv<b.length:=by simpa using hvb
  have hget:=List.getElem?_eq_getElem hkv
  have hpl:Hid (zAO b (kv:Int)=b[kv].2):=Zh (by unfold zAO;simp[hget])
  have hb2:=hb0.stays zAz.stays T1.below
  have hu2:=hu0.stays zAj.stays T1.below
  obtain ⟨gv,ov,uv,cv,ea,k0,k1,k2,k3,_,i1,i2,i3⟩:=zB1 hb2 hget
  subst ea
  generalize hxx:b[kv]=x at *
  have HXX:=Zh hxx
  obtain ⟨ad,cd,rfl,_⟩:=hi1.opened
  generalize hdat:zBa (b,ps) (kv:Int)=data at *
  have HDAT:=Zh hdat
  obtain ⟨x0,x1,x2⟩:=HF.out w1 T1
  clear h0 hm0 hv0 hvb p0 p1 p2 q0 q1 q2 hget hxx hdat hi2 hb0 hu0
  go_upto_region 5 with (go_at_call 68;go_fit (zKk x.2.1 x.2.2.1 x.2.2.2 _ data _ hi1);rintro e w3 ⟨⟨vs,rfl,hsh,hsl⟩,hb3⟩)
  have T3:=T1.step hb3
  have U3:=(zAD.refl w1).step hb3
  have hs13:=hb3.size
  have hs01:=hb1.size
  by_cases h1:zAe x.2.1 x.2.2.1 x.2.2.2 data=0
  ·have H1:=Zh h1
   rw[h1]
   have hb3':=hb2.stays zAz.stays U3.below
   have hu3':=hu2.stays zAj.stays U3.below
   obtain ⟨x0,x1,x2⟩:=HF.out w3 T3
   have HSL:=Zh hsl
   have HSH:=Zh hsh
   have z0:=x2 0
   have z1:=x2 1
   have hs0:=hsh w3 (zAF.refl _ _)
   obtain ⟨aS,cS,rfl,hcS,⟨hmS,hcmS,_⟩,_⟩:=hs0.opened
   clear hb2 hu2 hsl hsh hs0 x2 h1 hb1 hb3 k0 k1 k2 k3 hi1
   go_upto_region 8 with (go_at_call 22;go_fit (zDS _ b _ ps w3 hb3' hu3' (by omega) (by omega) (fun x hx=>Nat.le_trans (hk20 x hx) (by omega)));rintro e w4 ⟨⟨y1,y2,rfl,hom⟩,hb4⟩;obtain ⟨a4,c4,rfl,hc4,⟨hm4,hcm4,_⟩,_⟩:=hom.vers.opened;obtain ⟨a5,c5,rfl,_⟩:=hom.peers.opened;have z0:=zAE hb4 x0 z0;have z1:=zAE hb4 x1 z1;have x0:=zAA hb4 x0;have x1:=zAA hb4 x1)
   have S4:=(S0.step T3.below).step hb4
   have hd5:zAF (fun j=>j=B) w4 ((w4.setCell ⟨B,0,none⟩ (.slice a4 b.length c4)).setCell ⟨B,1,none⟩ (.slice a5 ps.length c5)):=(zAF.of_grown ((zAC w4 ⟨B,0,none⟩ (.slice a4 b.length c4)).trans (zAC _ ⟨B,1,none⟩ (.slice a5 ps.length c5)))).mono fun j _ hj=>by cases hj;rfl
   have S5:=(S4.setCell (a:=⟨B,0,none⟩) hBW (.slice a4 b.length c4)).setCell (a:=⟨B,1,none⟩) hBW (.slice a5 ps.length c5)
   have t0:((w4.setCell ⟨B,0,none⟩ (.slice a4 b.length c4)).setCell ⟨B,1,none⟩ (.slice a5 ps.length c5)).cell? ⟨B,0,none⟩=some (.slice a4 b.length c4):=by go_simp
   have t1:((w4.setCell ⟨B,0,none⟩ (.slice a4 b.length c4)).setCell ⟨B,1,none⟩ (.slice a5 ps.length c5)).cell? ⟨B,1,none⟩=some (.slice a5 ps.length c5):=by go_simp
   have hBw3:B<w3.heap.size:=by omega
   have hB1w3:B1<w3.heap.size:=by omega
   have hom5:=hom.frame hd5 (fun k hk=>by rw[hk];exact ⟨hBw3,hBw3⟩)
   have hDS:zAF (fun k=>k<w1.heap.size∨w3.heap.size≤k) w3 ((w4.setCell ⟨B,0,none⟩ (.slice a4 b.length c4)).setCell ⟨B,1,none⟩ (.slice a5 ps.length c5)):=(zAF.old hb4 _).trans (hd5.mono fun k _ hk=>Or.inl (by omega))
   have hdw:zAF (fun k=>k=B) w0 ((w4.setCell ⟨B,0,none⟩ (.slice a4 b.length c4)).setCell ⟨B,1,none⟩ (.slice a5 ps.length c5)):=((zAF.old T3.below _).trans (zAF.old hb4 _)).trans hd5
   have hb34:=hb4.size
   have hs5:w4.heap.size≤((w4.setCell ⟨B,0,none⟩ (.slice a4 b.length c4)).setCell ⟨B,1,none⟩ (.slice a5 ps.length c5)).heap.size:=by simp
   clear x0 x1 z0 z1 hom hd5
   generalize (w4.setCell ⟨B,0,none⟩ (.slice a4 b.length c4)).setCell ⟨B,1,none⟩ (.slice a5 ps.length c5)=w5 at *
   obtain ⟨zs0,hzm0,hdp0,hbk0⟩:=hom5
   have hzm0:zs0.map zDK=ps:=hzm0
   have hfoot0:∀k,zBu (.slice a5 ps.length c5) zs0 k→w3.heap.size≤k∧k<w5.heap.size:=fun k hk=>hdp0.lt hk
   have HFT0:=Zh hfoot0
   have HBK0:Hid (∀w',zAF (fun k=>zBu (.slice a5 ps.length c5) zs0 k∨k<w3.heap.size) w5 w'→zAR w' (.slice a4 b.length c4) b):=Zh hbk0
   have hM0:zAo Tryz.prog 3 4 (w5.alloc (.map #[] 0)) w5.heap.size []:=zAo.made w5
   have S6:=S5.alloc (.map #[] 0)
   have hb56:=zAB w5 (.map #[] 0)
   have hdp6:=hdp0.stays hb56
   have hR6:zAF (fun k=>zBu (.slice a5 ps.length c5) zs0 k) w5 (w5.alloc (.map #[] 0)):=zAF.old hb56 _
   have HSIX:Hid (w5.heap.size<(w5.alloc (.map #[] 0)).heap.size):=Zh (by simp)
   have hall:Hid ((zA4 x.2.1 x.2.2.1 x.2.2.2 data).length=x.2.2.1.toNat):=Zh (by
    obtain ⟨n1,o1,s1,e1,e2,e3⟩:=zCq (zDQ H1.out).1
    have h9:=H1.out
    rw[e1,e2,e3] at h9 ⊢
    rw[zBw h9,zBK]
    simp)
   have HSH5:Hid (∀w',zAF (fun k=>w3.heap.size≤k) w5 w'→zAN w' (.slice aS (zA4 x.2.1 x.2.2.1 x.2.2.2 data).length cS) (zA4 x.2.1 x.2.2.1 x.2.2.2 data)):=Zh (fun w' hw'=>HSH.out w' (hDS.trans (hw'.mono fun k _ hk=>Or.inr hk)))
   generalize hAL:zA4 x.2.1 x.2.2.1 x.2.2.2 data=all at *
   have HAL:=Zh hAL
   have HF5:Hid (∀w',zAF (fun k=>w3.heap.size≤k) w5 w'→w'.cell? ⟨B,0,none⟩=some (.slice a4 b.length c4)∧w'.cell? ⟨B,1,none⟩=some (.slice a5 ps.length c5)):=Zh (fun w' q=>⟨q.cell t0 (Nat.not_le.2 hBw3),q.cell t1 (Nat.not_le.2 hBw3)⟩)
   clear hAL hdp0 hbk0 hfoot0 HSH hDS
   have hmm:=@run_makeMap Tryz.prog
   go_upto_region 9 with fail
   generalize w5.alloc (.map #[] 0)=w6 at *
   obtain ⟨Bm,hBm⟩:∃Bm,Bm=w5.heap.size:=⟨_,rfl⟩
   rw[←hBm] at hM0 ⊢
   have hBm5:w5.heap.size≤Bm:=by omega
   clear hBm
   obtain ⟨d0,d1⟩:=HF5.out w6 (zAF.old hb56 _)
   have hR3:zAD w3.heap.size w5 w6:=⟨hb56.mono (by omega),by have:=hb56.size;omega⟩
   have hPK:Hid (∀p∈ps,zBk b p):=Zh (zAU.1 HM0.out).2.2
   have HZM0:=Zh (show zs0.map zDK=ps from by assumption)
   have hzm00:zs0.length=ps.length:=by rw[←HZM0.out,List.length_map]
   go_wp2_with fail
   clear d0 d1 t0 t1
   go_loopw[51] (fun i wr=>∃k:Nat,∃zs,k≤ps.length∧i=.int .i64 k∧zAD w3.heap.size w5 wr∧zAF (fun k=>zBu (.slice a5 ps.length c5) zs0 k) w5 wr∧DP wr w3.heap.size (.slice a5 ps.length c5) zs∧(∀j,zBu (.slice a5 ps.length c5) zs j→zBu (.slice a5 ps.length c5) zs0 j)∧zs.map zDK=(zCb (kv:Int) all (ps.take k) []).1++ps.drop k∧zAo Tryz.prog 3 4 wr Bm (zCb (kv:Int) all (ps.take k) []).2∧w6.heap.size≤wr.heap.size) (fun i _=>ps.length - (intOf i).toNat)
   case atStart=>exact ⟨0,zs0,by omega,rfl,hR3,hR6,hdp6,fun _ h=>h,HZM0.out,hM0,Nat.le_refl _⟩
   case round =>
    obtain ⟨k,zs,hk,rfl,hS,hR,hdp,hft,hzm,hm,hsz6⟩:=hrel
    have HFT:=Zh hft
    have HZM:=Zh hzm
    have hzl:zs.length=ps.length:=by
     have h:=congrArg List.length hzm
     rw[List.length_map,List.length_append,zDq,List.length_take,List.length_drop] at h
     omega
    clear hft hzm hdp6 hR6 hR3 hM0
    obtain ⟨d0,d1⟩:=HF5.out wr (hR.mono fun j _ hj=>(HFT0.out j hj).1)
    by_cases hlt:k<ps.length
    ·have hpk:ps[k]?=some ps[k]:=List.getElem?_eq_getElem hlt
     have hzk:zs[k]?=some zs[k]:=List.getElem?_eq_getElem (by omega)
     have hzp:zDK zs[k]=ps[k]:=by
      have h1:(zs.map zDK)[k]?=some (zDK zs[k]):=by rw[List.getElem?_map,hzk];rfl
      rw[HZM.out,List.getElem?_append_right (by rw[zDq,List.length_take];omega),zDq,List.length_take,List.getElem?_drop,Nat.min_eq_left (by omega),Nat.sub_self,Nat.add_zero,hpk] at h1
      exact (Option.some.inj h1).symm
     have HOKP:=Zh (hPK.out _ (List.getElem_mem hlt))
     have hK20:=hk20 _ (List.getElem_mem hlt)
     have HTK:=Zh (zAv hpk)
     have HDRP:=Zh (List.drop_eq_getElem_cons hlt)
     obtain ⟨g,cap,aa,nn,ca,ev2,ev3,k0,k1,k2,hg1,fz⟩:=hdp.get hzk
     obtain ⟨hdk,hr,_⟩:=hdp.each _ (List.mem_of_getElem? hzk)
     generalize zs[k]=z at *
     obtain ⟨⟨t,r,uv⟩,ks⟩:=z
     simp only at k0 k1 k2 hdk hr ev3
     subst ev3
     simp only[Value.slice.injEq] at ev2
     obtain ⟨ea5,hq9,ec5⟩:=ev2
     clear hq9
     subst ea5 ec5
     have hkk:=hdk.isKepts
     have hnk:nn=(ks.map (·.1)).length:=by obtain ⟨_,_,e,_⟩:=hkk.opened;simp only[Value.slice.injEq] at e;exact e.2.1
     have hps:ps[k]=(t,r,ks.map (·.1)):=by rw[←hzp];rfl
     have HKS:=Zh (rfl:ks.map (·.1)=ks.map (·.1))
     have HNX:Hid (zCb (kv:Int) all (ps.take (k+1)) []=((zCb (kv:Int) all (ps.take k) []).1++[(zEt (kv:Int) all (t,r,ks.map (·.1)) (zCb (kv:Int) all (ps.take k) []).2).1],(zEt (kv:Int) all (t,r,ks.map (·.1)) (zCb (kv:Int) all (ps.take k) []).2).2)):=Zh (by rw[HTK.out,hps,zIu])
     have HZM2:Hid (zs.map zDK=(zCb (kv:Int) all (ps.take k) []).1++(t,r,ks.map (·.1))::ps.drop (k+1)):=Zh (by rw[HZM.out,HDRP.out,hps])
     have hL1:(zCb (kv:Int) all (ps.take k) []).1.length=k:=by rw[zDq,List.length_take];omega
     have HL1:=Zh hL1
     have hmany:=zNI (kv:Int) all (ps.take k) []
     rw[List.length_take,List.length_nil,Nat.zero_add] at hmany
     rw[hps] at HOKP hK20
     simp only at hK20
     have HZK:=Zh hzk
     generalize hKK:ks.map (·.1)=K at *
     have HKK:=Zh hKK
     generalize hHV:(zCb (kv:Int) all (ps.take k) []).2=hav at *
     generalize hL1e:(zCb (kv:Int) all (ps.take k) []).1=L1 at *
     subst hnk
     have BB:=zAB wr (.cells #[.bool t,.int .i64 r,.slice aa K.length ca] 62)
     have S1:=hS.alloc (.cells #[.bool t,.int .i64 r,.slice aa K.length ca] 62)
     have hkk1:=hkk.stays zAf.stays BB
     have f0:(wr.alloc (.cells #[.bool t,.int .i64 r,.slice aa K.length ca] 62)).cell? ⟨wr.heap.size,0,none⟩=some (.bool t):=by go_simp
     have f1:(wr.alloc (.cells #[.bool t,.int .i64 r,.slice aa K.length ca] 62)).cell? ⟨wr.heap.size,1,none⟩=some (.int .i64 r):=by go_simp
     have f2:(wr.alloc (.cells #[.bool t,.int .i64 r,.slice aa K.length ca] 62)).cell? ⟨wr.heap.size,2,none⟩=some (.slice aa K.length ca):=by go_simp
     have HDPr:=Zh hdp
     have HMr:=Zh hm
     have HRr:=Zh hR
     have HDK:=Zh hdk
     have HKr:=Zh hkk
     clear hpk hzk hzp hps hL1 hKK hHV hL1e hdp hm hR hdk hkk hzl hzm0
     go_upto_region 12 with fail
     clear k0 k1 k2
     generalize wr.alloc (.cells #[.bool t,.int .i64 r,.slice aa K.length ca] 62)=wa at *
     obtain ⟨Bp,hBp⟩:∃Bp,Bp=wr.heap.size:=⟨_,rfl⟩
     rw[←hBp] at f0 f1 f2 ⊢
     have hBpr:wr.heap.size≤Bp:=by omega
     clear hBp
     go_upto_region 13 with (go_at_call 40;go_fit (zDo t r _ K (kv:Int) _ hkk1);rintro e wb ⟨rfl,hbb⟩)
     have BB2:=BB.trans (hbb.mono BB.size)
     have S2:=S1.step hbb
     have g0:=zAA hbb f0
     have g1:=zAA hbb f1
     have g2:=zAA hbb f2
     have HSM:Hid (zEt (kv:Int) all (t,r,K) hav=((t,r,K),hav)→∀w',Below wr.heap.size wr w'→∃zs',zAF (fun k=>zBu (.slice (some ⟨g,0,none⟩) ps.length c5) zs0 k) w5 w'∧DP w' w3.heap.size (.slice (some ⟨g,0,none⟩) ps.length c5) zs'∧(∀j,zBu (.slice (some ⟨g,0,none⟩) ps.length c5) zs' j→zBu (.slice (some ⟨g,0,none⟩) ps.length c5) zs0 j)∧zs'.map zDK=(zCb (kv:Int) all (ps.take (k+1)) []).1++ps.drop (k+1)∧zAo Tryz.prog 3 4 w' Bm (zCb (kv:Int) all (ps.take (k+1)) []).2):=
      Zh (fun h w' hw'=>⟨zs,HRr.out.trans (zAF.old hw' _),HDPr.out.stays hw',HFT.out,by rw[HNX.out,h,HZM2.out];simp,by rw[HNX.out,h];exact HMr.out.below hw'⟩)
     clear f0 f1 f2 hbb hkk1
     cases t with
     | false =>
      obtain ⟨zs',q1,q2,q3,q4,q5⟩:=HSM.out rfl wb BB2
      have Q2:=Zh q2
      have Q3:=Zh q3
      have Q4:=Zh q4
      clear q2 q3 q4
      go_wp2_with fail
      go_roundw
      case rel=>exact ⟨k+1,zs',by omega,by go_num,S2,q1,Q2.out,Q3.out,Q4.out,q5,Nat.le_trans hsz6 BB2.size⟩
      case measure=>simp[intOf];omega
     | true =>
      rcases zB0 (kv:Int) K 0 with ⟨hn,hf⟩|⟨m,y,hy,hyv,hn,hf⟩
      ·obtain ⟨zs',q1,q2,q3,q4,q5⟩:=HSM.out (by unfold zEt;simp[hn]) wb BB2
       have Q2:=Zh q2
       have Q3:=Zh q3
       have Q4:=Zh q4
       rw[hf]
       clear q2 q3 q4 hn hf
       go_wp2_with fail
       go_roundw
       case rel=>exact ⟨k+1,zs',by omega,by go_num,S2,q1,Q2.out,Q3.out,Q4.out,q5,Nat.le_trans hsz6 BB2.size⟩
       case measure=>simp[intOf];omega
      ·rw[hf,Nat.zero_add]
       have hkk2:=HKr.out.stays zAf.stays BB2
       obtain ⟨gk,ok,uk,ck,rfl,x0,x1,x2,hxi,ix0,ix1⟩:=zCK hkk2 hy
       have hml:=(List.getElem?_eq_some_iff.1 hy).1
       obtain ⟨hy1,hy2,hy3⟩:=HOKP.out.each y (List.mem_of_getElem? hy)
       unfold zBt at hy3
       rw[hyv,hpl.out] at hy3
       obtain ⟨o1,o2,_,_⟩:=zEH hy3
       have hNl:y.2.1<(all.length:Int):=by rw[hall.out];omega
       obtain ⟨N,hN⟩:=Int.eq_ofNat_of_zero_le o1
       have hNa:N<all.length:=by omega
       have hsk:all[N]?=some all[N]:=List.getElem?_eq_getElem hNa
       have hRb:=HRr.out.trans (zAF.old BB2 _)
       obtain ⟨gs,os,us,cs,rfl,s0,s1,hsi,hs1⟩:=zBZ (HSH5.out wb (hRb.mono fun j _ hj=>(HFT0.out j hj).1)) hsk
       have HSS:Hid (zCs all y.2=zCm y.2.1 all[N].1 y.2.2 all[N].2):=Zh (by unfold zCs;rw[hN];simp[hsk])
       have HRP:Hid (zEt (kv:Int) all (true,r,K) hav=if y.2.1∈hav∨zCs all y.2=false then ((true,r,zAa (kv:Int) K),hav) else ((true,r,K),hav++[y.2.1])):=Zh (by unfold zEt;simp[hn])
       have HDE:Hid (K.eraseIdx m=zAa (kv:Int) K):=Zh (zI5 HOKP.out.rise hy hyv)
       have HYI:=Zh hy
       generalize all[N]=tt at *
       have HM2:=Zh (HMr.out.below BB2)
       clear hsk hn hf hy hyv hy1 hy2 hy3 o2 hNl HOKP
       rw[hN] at x1 HRP HSS
       have hmd:zAo Tryz.prog 3 4 wb.drew Bm hav:=HM2.out.block rfl
       have hlk:=hmd.lookup (t:=81) Tryz.underlying3 Tryz.underlying4 Tryz.underlying81 (zKK _) (N:Int) ⟨by omega,by omega⟩
       go_upto_region 15 with fail
       obtain ⟨D,hD⟩:∃D,D=decide ((N:Int)∈hav):=⟨_,rfl⟩
       obtain ⟨Q,hQ⟩:∃Q,Q=zCm (N:Int) tt.1 y.2.2 tt.2:=⟨_,rfl⟩
       have HQ:=Zh hQ
       rw[←hD] at hlk
       have HDD:=Zh hD
       have HSI:=Zh hsi
       have HXI:=Zh hxi
       have hNa2:(N:Int)<(all.length:Int):=by omega
       have hml2:(m:Int)<(K.length:Int):=by omega
       clear hQ hD hsi hxi hmd hkk2
       go_cut[89] (fun s89 wx=>∃wz,wz=wx∧s89=.bool (D || !Q)∧zAD wb.heap.size wb wx)
       case first =>
        have s3:wb.drew.cell? ⟨Bp,2,none⟩=some (.slice (some ⟨gk,ok,none⟩) K.length ca)∧wb.drew.cell? ⟨gk,ok+m*3+1,none⟩=some (.int .i64 (N:Int))∧wb.drew.cell? ⟨gk,ok+m*3+2,none⟩=some (.slice uk y.2.2.length ck)∧wb.drew.cell? ⟨gs,os+N*2,none⟩=some (.int .i64 tt.1)∧wb.drew.cell? ⟨gs,os+N*2+1,none⟩=some (.slice us tt.2.length cs):=⟨g2,x1,x2,s0,s1⟩
        have HU:=Zh (zAD.refl wb).drew
        clear HSM HRP HSS HDE HYI HZK HKK HNX HZM2 HL1 HDPr HMr HRr HDK HKr HM2 hcS hmS hcmS BB S1 BB2 hRb hS
        cases D with
        | true =>
         refine wp_region_held_drew (S:=fun w'=>(Instr.lookup 81 (.map (some Bm)) (.int .i64 (N:Int)) false).run Tryz.prog w'=.ok (.bool true) w') (by kernel_rfl) hlk (fun _=>?_)
         refine wpAnyH_take (i:=0) (v:=?v0) rfl (by kernel_rfl) (by kernel_rfl) (by kernel_rfl) (fun _ _ _ h=>h) (Or.inl ⟨by rfl,?hy0⟩) (by assumption) ?r0
         case hy0=>(intro w hSw;(try dsimp only at hSw);go_simp<;>with_reducible rfl)
         simp only[Act.put,List.setIfInBounds_toArray,List.set]
         refine wpAnyH_take (i:=1) (v:=?v1) rfl (by kernel_rfl) (by kernel_rfl) (by kernel_rfl) (fun _ _ _ h=>h) (Or.inl ⟨by rfl,?hy1⟩) (by assumption) ?r1
         case hy1=>(intro w hSw;(try dsimp only at hSw);go_simp<;>with_reducible rfl)
         simp only[Act.put,List.setIfInBounds_toArray,List.set]
         refine wpAnyH_take (i:=2) (v:=?v2) rfl (by kernel_rfl) (by kernel_rfl) (by kernel_rfl) (fun _ _ _ h=>h) (Or.inl ⟨by rfl,?hy2⟩) (by assumption) ?r2
         case hy2=>(intro w hSw;(try dsimp only at hSw);go_simp<;>with_reducible rfl)
         simp only[Act.put,List.setIfInBounds_toArray,List.set]
         refine wpAnyH_take (i:=3) (v:=?v3) rfl (by kernel_rfl) (by kernel_rfl) (by kernel_rfl) (fun _ _ _ h=>h) (Or.inl ⟨by rfl,?hy3⟩) (by assumption) ?r3
         case hy3=>(intro w hSw;(try dsimp only at hSw);go_simp<;>with_reducible rfl)
         simp only[Act.put,List.setIfInBounds_toArray,List.set]
         refine wpAnyH_take (i:=4) rfl (by kernel_rfl) (by kernel_rfl) (by kernel_rfl) (fun _ _ _ h=>h) (Or.inr ⟨by kernel_rfl,rfl⟩) (by assumption) ?r4
         simp only[Act.put,List.setIfInBounds_toArray,List.set]
         refine wpAnyH_take (i:=5) rfl (by kernel_rfl) (by kernel_rfl) (by kernel_rfl) (fun _ _ _ h=>h) (Or.inr ⟨by kernel_rfl,rfl⟩) (by assumption) ?r5
         simp only[Act.put,List.setIfInBounds_toArray,List.set]
         refine wpAnyH_take (i:=6) rfl (by kernel_rfl) (by kernel_rfl) (by kernel_rfl) (fun _ _ _ h=>h) (Or.inr ⟨by kernel_rfl,rfl⟩) (by assumption) ?r6
         simp only[Act.put,List.setIfInBounds_toArray,List.set]
         refine wpAnyH_take (i:=7) rfl (by kernel_rfl) (by kernel_rfl) (by kernel_rfl) (fun _ _ _ h=>h) (Or.inr ⟨by kernel_rfl,rfl⟩) (by assumption) ?r7
         simp only[Act.put,List.setIfInBounds_toArray,List.set]
         refine wpAnyH_take (i:=8) rfl (by kernel_rfl) (by kernel_rfl) (by kernel_rfl) (fun _ _ _ h=>h) (Or.inr ⟨by kernel_rfl,rfl⟩) (by assumption) ?r8
         simp only[Act.put,List.setIfInBounds_toArray,List.set]
         refine wpAnyH_take (i:=9) rfl (by kernel_rfl) (by kernel_rfl) (by kernel_rfl) (fun _ _ _ h=>h) (Or.inr ⟨by kernel_rfl,rfl⟩) (by assumption) ?r9
         simp only[Act.put,List.setIfInBounds_toArray,List.set]
         refine wpAnyH_take (i:=10) rfl (by kernel_rfl) (by kernel_rfl) (by kernel_rfl) (fun _ _ _ h=>h) (Or.inr ⟨by kernel_rfl,rfl⟩) (by assumption) ?r10
         simp only[Act.put,List.setIfInBounds_toArray,List.set]
         refine wpAnyH_take (i:=11) rfl (by kernel_rfl) (by kernel_rfl) (by kernel_rfl) (fun _ _ _ h=>h) (Or.inr ⟨by kernel_rfl,rfl⟩) (by assumption) ?r11
         simp only[Act.put,List.setIfInBounds_toArray,List.set]
         refine wpAnyH_take (i:=12) rfl (by kernel_rfl) (by kernel_rfl) (by kernel_rfl) (fun _ _ _ h=>h) (Or.inr ⟨by kernel_rfl,rfl⟩) (by assumption) ?r12
         simp only[Act.put,List.setIfInBounds_toArray,List.set]
         refine wpAnyH_take (i:=13) rfl (by kernel_rfl) (by kernel_rfl) (by kernel_rfl) (fun _ _ _ h=>h) (Or.inr ⟨by kernel_rfl,rfl⟩) (by assumption) ?r13
         simp only[Act.put,List.setIfInBounds_toArray,List.set]
         refine wpAnyH_take (i:=14) rfl (by kernel_rfl) (by kernel_rfl) (by kernel_rfl) (fun _ _ _ h=>h) (Or.inr ⟨by kernel_rfl,rfl⟩) (by assumption) ?r14
         simp only[Act.put,List.setIfInBounds_toArray,List.set]
         refine wpAnyH_take (i:=15) rfl (by kernel_rfl) (by kernel_rfl) (by kernel_rfl) (fun _ _ _ h=>h) (Or.inr ⟨by kernel_rfl,rfl⟩) (by assumption) ?r15
         simp only[Act.put,List.setIfInBounds_toArray,List.set]
         refine wpAnyH_take (i:=16) (v:=?v16) rfl (by kernel_rfl) (by kernel_rfl) (by kernel_rfl) (fun _ _ _ h=>h) (Or.inl ⟨by rfl,?hy16⟩) (by assumption) ?r16
         case hy16=>(intro w hSw;(try dsimp only at hSw);go_simp<;>with_reducible rfl)
         simp only[Act.put,List.setIfInBounds_toArray,List.set]
         refine wpAnyH_done (by kernel_rfl) ?_ _
         go_simp
         go_wp2_with fail
         go_meet
         exact ⟨_,rfl,rfl,HU.out⟩
        | false =>
         go_region_held3 (fun w'=>w'.cell? ⟨Bp,2,none⟩=some (.slice (some ⟨gk,ok,none⟩) K.length ca)∧w'.cell? ⟨gk,ok+m*3+1,none⟩=some (.int .i64 (N:Int))∧w'.cell? ⟨gk,ok+m*3+2,none⟩=some (.slice uk y.2.2.length ck)∧w'.cell? ⟨gs,os+N*2,none⟩=some (.int .i64 tt.1)∧w'.cell? ⟨gs,os+N*2+1,none⟩=some (.slice us tt.2.length cs)) (first | exact s3 | exact s4) (first
          | (go_at_call 72;go_fit (zGs (N:Int) tt.1 _ _ y.2.2 tt.2 _ (HXI.out.drew) ((HSI.out).drew));rintro e w5' ⟨rfl,hb5'⟩;rw[←HQ.out];have p5:=HU.out.step hb5';have s4:w5'.cell? ⟨Bp,2,none⟩=some (.slice (some ⟨gk,ok,none⟩) K.length ca)∧w5'.cell? ⟨gk,ok+m*3+1,none⟩=some (.int .i64 (N:Int))∧w5'.cell? ⟨gk,ok+m*3+2,none⟩=some (.slice uk y.2.2.length ck)∧w5'.cell? ⟨gs,os+N*2,none⟩=some (.int .i64 tt.1)∧w5'.cell? ⟨gs,os+N*2+1,none⟩=some (.slice us tt.2.length cs):=⟨zAA p5.below g2,zAA p5.below x1,zAA p5.below x2,zAA p5.below s0,zAA p5.below s1⟩))
         all_goals
          cases Q with
          | true =>
           go_wp2_with fail
           go_meet
           exact ⟨_,rfl,rfl,p5⟩
          | false =>
           go_wp2_with fail
           go_meet
           exact ⟨_,rfl,rfl,p5⟩
       case rest =>
        obtain ⟨wc,rfl,rfl,hSc⟩:=hcut
        have S3:=S2.step hSc.below
        have BB3:=BB2.trans (hSc.below.mono BB2.size)
        have hmc:=HM2.out.below hSc.below
        obtain ⟨bad,hbad⟩:∃bad,bad=(D || !Q):=⟨_,rfl⟩
        rw[←hbad]
        cases bad with
        | false =>
         have HRP':Hid (zEt (kv:Int) all (true,r,K) hav=((true,r,K),hav++[(N:Int)])):=Zh (by
          rw[HRP.out,if_neg (by rw[HSS.out];exact zSF HDD.out HQ.out hbad)])
         have hnn:hav.length<1000000000000000:=by omega
         have iN:I64 (N:Int):=⟨by omega,by omega⟩
         have hBm3:w3.heap.size≤Bm:=by omega
         have hBmw:Bm<wr.heap.size:=by have:=HMr.out.lt;omega
         have HSc:=Zh hSc
         clear hbad hlk g0 g1 g2 x0 x1 x2 s0 s1
         go_wp2_with (at_mapUpdate;refine zB7 _ rfl _ _ _ 81 rfl Tryz.underlying3 Tryz.underlying4 Tryz.underlying81 _ _ rfl hmc hnn _ rfl rfl iN ?_;intro w9 hm9 hg9)
         have S9:=S3.grown hg9 (fun k hk=>by cases hk;exact hBm3)
         have q1:=(HRr.out.trans (zAF.old BB3 _)).next (zAF.of_grown hg9) (fun k hk=>by cases hk;exact Or.inr hBm5)
         have q2:=(HDPr.out.stays BB3).frame (zAF.of_grown hg9) (fun j hj e=>by
          obtain rfl:Bm=j:=Option.some.inj e
          have:=(HFT0.out _ (HFT.out _ hj)).2
          omega)
         have Q2:=Zh q2
         have Q5:=Zh hm9
         have hsz9:w6.heap.size≤w9.heap.size:=Nat.le_trans hsz6 (Nat.le_trans BB3.size hg9.size)
         clear q2 hm9 hg9
         go_roundw
         case rel=>exact ⟨k+1,zs,by omega,by go_num,S9,q1,Q2.out,HFT.out,by rw[HNX.out,HRP'.out,HZM2.out];simp,by rw[HNX.out,HRP'.out];exact Q5.out,hsz9⟩
         case measure=>simp[intOf];omega
        | true =>
         have HRP':Hid (zEt (kv:Int) all (true,r,K) hav=((true,r,zAa (kv:Int) K),hav)):=Zh (by
          rw[HRP.out,if_pos (by rw[HSS.out];exact zTe HDD.out HQ.out hbad)])
         have hmz:(m:Int)<ks.length:=by
          have h1:ks.length=K.length:=by rw[←HKK.out,List.length_map]
          omega
         clear hbad hlk g0 g1 g2 x0 x1 x2 s0 s1 hmc
         go_upto_region 16 with fail
         have hgk3:zBu (.slice (some ⟨g,0,none⟩) ps.length c5) zs gk:=Or.inr ⟨_,List.mem_of_getElem? HZK.out,Or.inl rfl⟩
         have hgg3:w3.heap.size≤g:=hg1
         have hgkB:B≠gk:=by have:=(HFT0.out _ (HFT.out _ hgk3)).1;omega
         have hBg:B≠g:=by omega
         have hgkg:g≠gk:=fun e=>(HDPr.out.each _ (List.mem_of_getElem? HZK.out)).2.2 gk (Or.inl rfl) (by rw[e];rfl)
         have hRc:=HRr.out.trans (zAF.old BB3 _)
         have hHeld:wc.drew.cell? ⟨B,1,none⟩=some (.slice (some ⟨g,0,none⟩) ps.length c5):=(HF5.out wc (hRc.mono fun j _ hj=>(HFT0.out j hj).1)).2
         obtain ⟨g',cap',a',n',c',ev',ev3',e0',e1',e2',_,fz'⟩:=(HDPr.out.stays BB3).get HZK.out
         simp only[Value.slice.injEq,Option.some.injEq,Addr.mk.injEq,and_true] at ev'
         obtain ⟨rfl,hq9,rfl⟩:=ev'
         simp only at ev3'
         rw[←ev3'] at e2'
         have k2:wc.drew.cell? ⟨g,k*3+2,none⟩=some (.slice (some ⟨gk,ok,none⟩) K.length ca):=e2'
         have fz2:wc.drew.frozen? ⟨g,k*3+2,none⟩=false:=fz' _
         have hdkc:DK wc.drew w3.heap.size (.slice (some ⟨gk,ok,none⟩) K.length ca) ks:=HDK.out.stays BB3.drew
         have HDEL:=Zh (zMv _ _ ks m wc.drew hdkc (by omega))
         clear hq9 ev3' e0' e1' e2' fz' hdkc hRc
         have hkl:k<ps.length:=by omega
         have hw1:IntKind.i64.wrap ((m:Int)+1)=(m:Int)+1:=IntWalk.i64_in _ (by omega)
         refine wp_region_held_drew (S:=fun w'=>w'.cell? ⟨B,1,none⟩=some (.slice (some ⟨g,0,none⟩) ps.length c5)) (by kernel_rfl) hHeld (fun _=>?_)
         refine wpAnyH_take (i:=0) (v:=?w0) rfl (by kernel_rfl) (by kernel_rfl) (by kernel_rfl) (fun _ _ _ h=>h) (Or.inl ⟨by rfl,?hz0⟩) (by assumption) ?q0
         case hz0=>(intro w hSw;(try dsimp only at hSw);go_simp<;>with_reducible rfl)
         simp only[Act.put,List.setIfInBounds_toArray,List.set]
         refine wpAnyH_take (i:=1) (v:=?w1) rfl (by kernel_rfl) (by kernel_rfl) (by kernel_rfl) (fun _ _ _ h=>h) (Or.inl ⟨by rfl,?hz1⟩) (by assumption) ?q1
         case hz1=>(intro w hSw;(try dsimp only at hSw);go_simp<;>with_reducible rfl)
         simp only[Act.put,List.setIfInBounds_toArray,List.set]
         refine wpAnyH_take (i:=2) (v:=?w2) rfl (by kernel_rfl) (by kernel_rfl) (by kernel_rfl) (fun _ _ _ h=>h) (Or.inl ⟨by rfl,?hz2⟩) (by assumption) ?q2
         case hz2=>(intro w hSw;(try dsimp only at hSw);go_simp<;>with_reducible rfl)
         simp only[Act.put,List.setIfInBounds_toArray,List.set]
         refine wpAnyH_take (i:=3) (v:=?w3) rfl (by kernel_rfl) (by kernel_rfl) (by kernel_rfl) (fun _ _ _ h=>h) (Or.inl ⟨by rfl,?hz3⟩) (by assumption) ?q3
         case hz3=>(intro w hSw;(try dsimp only at hSw);go_simp<;>with_reducible rfl)
         simp only[Act.put,List.setIfInBounds_toArray,List.set]
         refine wpAnyH_take (i:=4) (v:=?w4) rfl (by kernel_rfl) (by kernel_rfl) (by kernel_rfl) (fun _ _ _ h=>h) (Or.inl ⟨by rfl,?hz4⟩) (by assumption) ?q4
         case hz4=>(intro w hSw;(try dsimp only at hSw);go_simp<;>with_reducible rfl)
         simp only[Act.put,List.setIfInBounds_toArray,List.set]
         refine wpAnyH_take (i:=5) (v:=?w5) rfl (by kernel_rfl) (by kernel_rfl) (by kernel_rfl) (fun _ _ _ h=>h) (Or.inl ⟨by rfl,?hz5⟩) (by assumption) ?q5
         case hz5=>(intro w hSw;(try dsimp only at hSw);go_simp<;>with_reducible rfl)
         simp only[Act.put,List.setIfInBounds_toArray,List.set]
         refine wpAnyH_take (i:=6) (v:=?w6) rfl (by kernel_rfl) (by kernel_rfl) (by kernel_rfl) (fun _ _ _ h=>h) (Or.inl ⟨by rfl,?hz6⟩) (by assumption) ?q6
         case hz6=>(intro w hSw;(try dsimp only at hSw);go_simp<;>with_reducible rfl)
         simp only[Act.put,List.setIfInBounds_toArray,List.set]
         refine wpAnyH_take (i:=7) (v:=?w7) rfl (by kernel_rfl) (by kernel_rfl) (by kernel_rfl) (fun _ _ _ h=>h) (Or.inl ⟨by rfl,?hz7⟩) (by assumption) ?q7
         case hz7=>(intro w hSw;(try dsimp only at hSw);go_simp<;>with_reducible rfl)
         simp only[Act.put,List.setIfInBounds_toArray,List.set]
         refine wpAnyH_take (i:=9) (v:=?w9) rfl (by kernel_rfl) (by kernel_rfl) (by kernel_rfl) (fun _ _ _ h=>h) (Or.inl ⟨by rfl,?hz9⟩) (by assumption) ?q9
         case hz9=>(intro w hSw;(try dsimp only at hSw);go_simp<;>with_reducible rfl)
         simp only[Act.put,List.setIfInBounds_toArray,List.set]
         refine wpAnyH_take (i:=10) (v:=?w10) rfl (by kernel_rfl) (by kernel_rfl) (by kernel_rfl) (fun _ _ _ h=>h) (Or.inl ⟨by rfl,?hz10⟩) (by assumption) ?q10
         case hz10=>(intro w hSw;(try dsimp only at hSw);go_simp<;>with_reducible rfl)
         simp only[Act.put,List.setIfInBounds_toArray,List.set]
         refine wpAnyH_take (i:=11) (v:=?w11) rfl (by kernel_rfl) (by kernel_rfl) (by kernel_rfl) (fun _ _ _ h=>h) (Or.inl ⟨by rfl,?hz11⟩) (by assumption) ?q11
         case hz11=>(intro w hSw;(try dsimp only at hSw);go_simp<;>with_reducible rfl)
         simp only[Act.put,List.setIfInBounds_toArray,List.set]
         refine wpAnyH_ready (rs:=[8]) (by kernel_rfl) (by simp) ?_
         refine AllReadyH.cons (o:=?o8) ?ho8 (fun K' hK'=>?k8) AllReadyH.nil
         case ho8=>(simp only[List.getElem?_toArray,List.getElem?_cons_succ,List.getElem?_cons_zero];rfl)
         go_simp
         refine hK'.out _ _ hHeld (fun _=>?_)
         clear hK' K'
         refine wpAnyH_ready (rs:=[12]) (by kernel_rfl) (by simp) ?_
         refine AllReadyH.cons (o:=?o12) ?ho12 (fun K' hK'=>?k12) AllReadyH.nil
         case ho12=>(simp only[List.getElem?_toArray,List.getElem?_cons_succ,List.getElem?_cons_zero];rfl)
         go_simp
         go_at_call 73
         refine HDEL.out.mono ?_
         rintro e w8 ⟨⟨v8,rfl,hd8,hb8⟩,hg8⟩
         obtain ⟨a8,c8,rfl,_⟩:=hd8.row.isRow.opened
         have hHeld8:w8.cell? ⟨B,1,none⟩=some (.slice (some ⟨g,0,none⟩) ps.length c5):=hg8.cell hHeld (by intro e;exact hgkB (Option.some.inj e))
         have k28:=hg8.cell k2 (by intro e;exact hgkg (Option.some.inj e))
         have fz8:=zAW hg8 k2 fz2 (by intro e;exact hgkg (Option.some.inj e))
         try go_wp2_with fail
         refine hK'.out _ _ hHeld8 (fun _=>?_)
         clear hK' K'
         refine wpAnyH_take (i:=13) (v:=?w13) rfl (by kernel_rfl) (by kernel_rfl) (by kernel_rfl) (fun _ _ _ h=>h) (Or.inl ⟨by rfl,?hz13⟩) (by exact hHeld8) ?q13
         case hz13=>(intro w hSw;(try dsimp only at hSw);go_simp<;>with_reducible rfl)
         simp only[Act.put,List.setIfInBounds_toArray,List.set]
         refine wpAnyH_take (i:=14) (v:=?w14) rfl (by kernel_rfl) (by kernel_rfl) (by kernel_rfl) (fun _ _ _ h=>h) (Or.inl ⟨by rfl,?hz14⟩) (by exact hHeld8) ?q14
         case hz14=>(intro w hSw;(try dsimp only at hSw);go_simp<;>with_reducible rfl)
         simp only[Act.put,List.setIfInBounds_toArray,List.set]
         refine wpAnyH_ready (rs:=[15]) (by kernel_rfl) (by simp) ?_
         refine AllReadyH.cons (o:=?o15) ?ho15 (fun K' hK'=>?k15) AllReadyH.nil
         case ho15=>(simp only[List.getElem?_toArray,List.getElem?_cons_succ,List.getElem?_cons_zero];rfl)
         go_simp
         have hHeld9:(w8.setCell ⟨g,k*3+2,none⟩ (.slice a8 (ks.eraseIdx m).length c8)).cell? ⟨B,1,none⟩=some (.slice (some ⟨g,0,none⟩) ps.length c5):=(zAI _ _ _ _ hBg).trans hHeld8
         refine hK'.out _ _ hHeld9 (fun _=>?_)
         clear hK' K'
         refine wpAnyH_done (by kernel_rfl) ?_ _
         go_simp
         have hgk5:=HFT0.out _ (HFT.out _ hgk3)
         have hBmw:Bm<wr.heap.size:=by have:=HMr.out.lt;omega
         have hmg:Bm≠g:=by have:=HFT0.out g (HFT.out _ (Or.inl rfl));omega
         have hmgk:Bm≠gk:=by omega
         have S9:=(S3.drew.grown hg8 (fun j hj=>by cases hj;exact hgk5.1)).setCell (a:=⟨g,k*3+2,none⟩) hgg3 (.slice a8 (ks.eraseIdx m).length c8)
         have hdc:=HDPr.out.stays BB3.drew
         have hdp9:=hdc.setK (u':=.slice a8 (ks.eraseIdx m).length c8) rfl HZK.out hg8 hd8 hb8 (fun y hy=>zFY hy)
         have hsub:∀j,zMx (.slice a8 (ks.eraseIdx m).length c8) (ks.eraseIdx m) j→zDu ((true,r,.slice (some ⟨gk,ok,none⟩) K.length ca),ks) j:=fun j hj=>by
          rcases hj with hj|⟨y,hy,hj⟩
          ·exact Or.inl (by rw[←hb8];exact hj)
          ·exact Or.inr ⟨y,zFY hy,hj⟩
         have hft9:∀j,zBu (.slice (some ⟨g,0,none⟩) ps.length c5) (zs.set k ((true,r,.slice a8 (ks.eraseIdx m).length c8),ks.eraseIdx m)) j→zBu (.slice (some ⟨g,0,none⟩) ps.length c5) zs0 j:=fun j hj=>by
          rcases hj with hj|⟨z,hz,hj⟩
          ·exact HFT.out j (Or.inl hj)
          ·rcases List.mem_or_eq_of_mem_set hz with hz|rfl
           ·exact HFT.out j (Or.inr ⟨z,hz,hj⟩)
           ·exact HFT.out j (Or.inr ⟨_,List.mem_of_getElem? HZK.out,hsub j hj⟩)
         have hmap9:(zs.set k ((true,r,.slice a8 (ks.eraseIdx m).length c8),ks.eraseIdx m)).map zDK=(zCb (kv:Int) all (ps.take (k+1)) []).1++ps.drop (k+1):=by
          rw[List.map_set,HZM2.out,HNX.out,HRP'.out]
          rw[show zDK ((true,r,.slice a8 (ks.eraseIdx m).length c8),ks.eraseIdx m)=(true,r,zAa (kv:Int) K) by
           rw[←HDE.out,←HKK.out];unfold zDK;simp only;rw[zMR]]
          rw[List.set_append_right _ _ (by rw[HL1.out];exact Nat.le_refl _),HL1.out,Nat.sub_self,List.set_cons_zero]
          simp
         have hm9:zAo Tryz.prog 3 4 (w8.setCell ⟨g,k*3+2,none⟩ (.slice a8 (ks.eraseIdx m).length c8)) Bm (zCb (kv:Int) all (ps.take (k+1)) []).2:=by
          rw[HNX.out,HRP'.out]
          refine (HMr.out.below BB3).block ?_
          rw[Below.heap_setCell _ _ _ _ hmg,hg8.block Bm (by have:=BB3.size;simp;omega) (by intro e;exact hmgk (Option.some.inj e))]
          rfl
         have hR9:zAF (fun j=>zBu (.slice (some ⟨g,0,none⟩) ps.length c5) zs0 j) w5 (w8.setCell ⟨g,k*3+2,none⟩ (.slice a8 (ks.eraseIdx m).length c8)):=
          ((HRr.out.trans (zAF.old BB3.drew _)).trans ((zAF.of_grown hg8).mono fun j _ hj=>by cases hj;exact HFT.out _ hgk3)).trans ((zAF.of_grown (zAC w8 ⟨g,k*3+2,none⟩ (.slice a8 (ks.eraseIdx m).length c8))).mono fun j _ hj=>by cases hj;exact HFT.out _ (Or.inl rfl))
         have hsz9:w6.heap.size≤(w8.setCell ⟨g,k*3+2,none⟩ (.slice a8 (ks.eraseIdx m).length c8)).heap.size:=by
          have h1:=BB3.drew.size
          have h2:=hg8.size
          simp at h1 h2 ⊢
          omega
         have Q2:=Zh hdp9
         have Q3:=Zh hft9
         have Q4:=Zh hmap9
         have Q5:=Zh hm9
         clear hdp9 hft9 hmap9 hm9 hsub hdc hHeld hHeld8 hHeld9 k2 k28 fz2 fz8 hd8 hb8 hg8
         generalize w8.setCell ⟨g,k*3+2,none⟩ (.slice a8 (ks.eraseIdx m).length c8)=w9 at *
         go_wp2_with fail
         go_roundw
         case rel=>exact ⟨k+1,_,by omega,by go_num,S9,hR9,Q2.out,Q3.out,Q4.out,Q5.out,hsz9⟩
         case measure=>simp[intOf];omega
    ·obtain rfl:ps.length=k:=by omega
     have HZE:Hid (zs.map zDK=(zCb (kv:Int) all ps []).1):=Zh (by rw[HZM.out,List.take_length,List.drop_length,List.append_nil])
     rw[List.take_length] at hm
     have hal8:all.length≤8:=by
      have h9:=zAg (zCJ H1.out).1
      rw[hall.out]
      omega
     have HPUT:=Zh (zFv (m:=(b,ps)) (v:=(kv:Int)) (x:=x) H0.out hpl.out (by rw[HDAT.out];exact H1.out) (all:=all) (by rw[HDAT.out];exact HAL.out.symm))
     simp only at HPUT
     obtain ⟨rs,hrs⟩:∃rs,rs=(zCb (kv:Int) all ps []).1:=⟨_,rfl⟩
     obtain ⟨hav,hhav⟩:∃hav,hav=(zCb (kv:Int) all ps []).2:=⟨_,rfl⟩
     rw[←hhav] at hm HPUT
     rw[←hrs] at HZE HPUT
     clear hrs hhav HZM hlt hk hb56 hmm hzl
     have HDPo:=Zh hdp
     have HMo:=Zh hm
     have HRo:=Zh hR
     clear hdp hm hR
     obtain ⟨wo,rfl⟩:∃wo:World,wo=wr:=⟨_,rfl⟩
     have HSo:=Zh hS
     have hwo3:w3.heap.size≤wo.heap.size:=hS.2
     have hwo5:w5.heap.size≤wo.heap.size:=HRo.out.1
     have HFo:Hid (∀j,zBu (.slice a5 ps.length c5) zs j→w3.heap.size≤j∧j<w5.heap.size):=Zh (fun j hj=>HFT0.out j (HFT.out j hj))
     clear hS
     go_wp2_with fail
     clear d0 d1
     go_loopw[110,15] (fun i y w2=>∃k:Nat,k≤all.length∧i=.int .i64 k∧zAD wo.heap.size wo w2∧zAK 2 (RFr (fun j=>w3.heap.size≤j) w5 zBA) (fun _=>False) w2 64 wo.heap.size y (zBm (all.take k) hav)) (fun i _ _=>all.length - (intOf i).toNat)
     case atStart=>exact ⟨0,by omega,rfl,zAD.refl wo,zAK.nil _ _ _⟩
     case round =>
      obtain ⟨k,hk,rfl,hS,ho⟩:=hrel
      by_cases hlt:k<all.length
      ·have hget:=List.getElem?_eq_getElem hlt
       obtain ⟨gs,os,us,cs,rfl,s0,s1,hfr⟩:=zR3 HSH5.out (fun j hj=>by have:=HSL.out j hj;omega) hget
       have hgs:=HSL.out gs ⟨_,_,_,rfl,rfl⟩
       have hDo:zAF (fun j=>w3.heap.size≤j) w5 wr:=(HRo.out.mono fun j _ hj=>(HFT0.out j hj).1).trans (zAF.old hS.below _)
       have s0:=hDo.cell s0 (by simp only;omega)
       have s1:=hDo.cell s1 (by simp only;omega)
       have HMS:=Zh (zKE (hv:=hav) hget)
       have hml:(zBm (all.take k) hav).length≤8:=by
        have h1:(zBm (all.take k) hav).length≤(all.take k).length:=List.length_filter_le _ _
        rw[List.length_take] at h1
        omega
       have hsi:=hfr.now.choose_spec.2.2
       generalize all[k]=t at *
       obtain ⟨tn,tl⟩:=t
       simp only at s0 s1 hfr HMS hsi
       have HFR:=Zh hfr
       generalize hMM:zBm (all.take k) hav=MM at *
       have BB:=zAB wr (.cells #[.int .i64 tn,.slice us tl.length cs] 64)
       have S1:=hS.alloc (.cells #[.int .i64 tn,.slice us tl.length cs] 64)
       have f0:(wr.alloc (.cells #[.int .i64 tn,.slice us tl.length cs] 64)).cell? ⟨wr.heap.size,0,none⟩=some (.int .i64 tn):=by go_simp
       have f1:(wr.alloc (.cells #[.int .i64 tn,.slice us tl.length cs] 64)).cell? ⟨wr.heap.size,1,none⟩=some (.slice us tl.length cs):=by go_simp
       have ho1:=ho.stays BB
       have hm1:=HMo.out.below S1.below
       have hlk:=hm1.lookup (t:=81) Tryz.underlying3 Tryz.underlying4 Tryz.underlying81 (zKK _) tn hsi
       clear hget hMM hfr hDo
       go_upto_region 23 with fail
       clear s0 s1 ho BB hm1
       generalize wr.alloc (.cells #[.int .i64 tn,.slice us tl.length cs] 64)=wa at *
       obtain ⟨Bs,hBs⟩:∃Bs,Bs=wr.heap.size:=⟨_,rfl⟩
       rw[←hBs] at f0 f1 ⊢
       clear hBs
       obtain ⟨D,hD⟩:∃D,D=decide (tn∈hav):=⟨_,rfl⟩
       rw[←hD] at hlk
       have HO1:=Zh ho1
       clear ho1
       cases D with
       | true =>
        have HQ:=Zh (show zBm (all.take (k+1)) hav=MM by rw[HMS.out,if_pos (by simpa using hD.symm)];simp)
        clear hD
        go_wp2_with fail
        go_roundw
        case rel=>exact ⟨k+1,by omega,by go_num,S1,by rw[HQ.out];exact HO1.out⟩
        case measure=>simp[intOf];omega
       | false =>
        have HQ:=Zh (show zBm (all.take (k+1)) hav=MM++[(tn,tl)] by rw[HMS.out,if_neg (by simpa using hD.symm)])
        have hwab:=S1.2
        clear hD
        go_wp2_with (at_builtin;refine zAd rfl _ _ 83 rfl 2 (fun _=>False) 64 Tryz.underlying83 _ 32 zIA rfl (by omega) (by omega) wo.heap.size _ MM rfl (HO1.out.stays (zAB _ _)) ⟨wa.heap.size,0,none⟩ 1 [.int .i64 tn,.slice us tl.length cs] (tn,tl) rfl rfl (by intro w hw;simp at hw;rcases hw with rfl | rfl<;>rfl) (zBp wa [.int .i64 tn,.slice us tl.length cs] 64 _ rfl) (fun _ _=>HFR.out) (by omega) (by simp;omega) ?_;intro v7 w7 ho7 hg7 hat7)
        have S7:=(S1.alloc (.cells #[.int .i64 tn,.slice us tl.length cs] 64)).row (HO1.out.stays (zAB _ _)) hg7
        go_roundw
        case rel=>exact ⟨k+1,by omega,by go_num,S7,by rw[HQ.out];exact ho7⟩
        case measure=>simp[intOf];omega
      ·obtain rfl:all.length=k:=by omega
       rw[List.take_length] at ho
       obtain ⟨d0,d1⟩:=HF5.out wr ((HRo.out.mono fun j _ hj=>(HFT0.out j hj).1).trans (zAF.old hS.below _))
       have hdp2:=HDPo.out.stays hS.below
       have HPA:=Zh (zQe (fun k=>k<w3.heap.size) w3.heap.size (.slice a4 b.length c4) (.slice a5 ps.length c5) _ b zs (kv:Int) (zBm all hav) wr (by have:=hS.2;omega) hv hdp2
        (fun w' hw'=>HBK0.out w' (((HRo.out.mono fun j _ hj=>Or.inl hj).trans (zAF.old hS.below _)).trans (hw'.mono fun j _ hj=>hj.imp (HFT.out j) id)))
        (fun w' hw'=>zA6 (((zAK.anyFr (E':=zBu (.slice a5 ps.length c5) zs) ho).later hw' (fun j hj hf=>by have h1:=(ho.lt j hj).1;have h2:=(HFo.out j hf).2;omega)).isRow.ofFr (((HRo.out.mono fun j _ hj=>(HFT0.out j hj).1).trans (zAF.old hS.below _)).trans (hw'.mono fun j _ hj=>(HFo.out j hj).1))))
        (fun j hj e=>by have h1:=(ho.lt j (zK8 hj)).1;have h2:=(HFo.out j (Or.inl e)).2;omega))
       rw[HZE.out] at HPA
       obtain ⟨E,hE⟩:∃E,E=zF8 (b,rs) kv (zBm all hav):=⟨_,rfl⟩
       obtain ⟨M,hM⟩:∃M,M=zGk (b,rs) kv (zBm all hav):=⟨_,rfl⟩
       rw[←hE,←hM] at HPUT HPA
       have hq7:wr.heap[B1]?=w0.heap[B1]?:=((hS.below.block B1 (by omega)).trans (HSo.out.below.block B1 hB1w3)).trans (hdw.2 B1 hB10 hBB)
       have hWw3:W.heap.size≤w3.heap.size:=by omega
       have S7:zAD W.heap.size W wr:=⟨(S5.below.trans (HSo.out.below.mono hWw3)).trans (hS.below.mono (by omega)),by have:=hS.2;omega⟩
       clear hE hM ho hS hdp2
       go_wp2_with (go_at_call 70;go_fit HPA.out;rintro e w8 ⟨⟨u1,u2,rfl,ho8⟩,hS8,hD8⟩;obtain ⟨a8,c8,rfl,_⟩:=ho8.vers.opened;obtain ⟨a9,c9,rfl,_⟩:=ho8.peers.opened;obtain ⟨c0,c1,c2⟩:=HG.out w8 ((hS8.below.block B1 (by omega)).trans hq7);have f0:=c2 0;have f1:=c2 1)
       have S8:zAD W.heap.size W w8:=⟨S7.below.trans (hS8.below.mono hWw3),Nat.le_trans hWw3 hS8.2⟩
       have S9:=(S8.setCell (a:=⟨B1,0,none⟩) hBW1 (.slice a8 M.1.length c8)).setCell (a:=⟨B1,1,none⟩) hBW1 (.slice a9 M.2.length c9)
       have hd9:zAF (fun j=>j=B1) w8 ((w8.setCell ⟨B1,0,none⟩ (.slice a8 M.1.length c8)).setCell ⟨B1,1,none⟩ (.slice a9 M.2.length c9)):=(zAF.of_grown ((zAC w8 ⟨B1,0,none⟩ (.slice a8 M.1.length c8)).trans (zAC _ ⟨B1,1,none⟩ (.slice a9 M.2.length c9)))).mono fun j _ hj=>by cases hj;rfl
       have HO9:=Zh (((ho8.frame hd9 (fun k hk=>by rw[hk];exact ⟨hB1w3,hB1w3⟩)).less (Y:=fun k=>k<W.heap.size) (fun k hk=>by omega)).mono hWw3)
       have v0:((w8.setCell ⟨B1,0,none⟩ (.slice a8 M.1.length c8)).setCell ⟨B1,1,none⟩ (.slice a9 M.2.length c9)).cell? ⟨B1,0,none⟩=some (.slice a8 M.1.length c8):=by go_simp
       have v1:((w8.setCell ⟨B1,0,none⟩ (.slice a8 M.1.length c8)).setCell ⟨B1,1,none⟩ (.slice a9 M.2.length c9)).cell? ⟨B1,1,none⟩=some (.slice a9 M.2.length c9):=by go_simp
       clear c2 f0 f1 c0 c1 ho8 hd9
       exact bodyPost_ret (v:=.tuple #[.agg #[.slice a8 M.1.length c8,.slice a9 M.2.length c9],.int .i64 E]) (by simp[results,Tryz.results44,go_sem,v0,v1]) rfl ⟨⟨_,_,zBM HPUT.out.1.symm,by rw[HPUT.out.2];exact HO9.out⟩,S9.below⟩
  ·have HE:=Zh (zL7 (m:=(b,ps)) (v:=(kv:Int)) H0.out (by rw[show zAO (b,ps).1 (kv:Int)=x.2 from hpl.out,HDAT.out];exact h1))
   rw[show zAO (b,ps).1 (kv:Int)=x.2 from hpl.out,HDAT.out] at HE
   generalize zAe x.2.1 x.2.2.1 x.2.2.2 data=E at *
   clear hb2 hu2 hsh hsl hb3 hb1 hi1 k0 k1 k2 k3 x0 x1 x2
   obtain ⟨c0,c1,c2⟩:=HG.out _ (T3.below.block _ hB10)
   have f0:=c2 0
   have f1:=c2 1
   have v0:((w3.setCell ⟨B1,0,none⟩ (.slice none 0 0)).setCell ⟨B1,1,none⟩ (.slice none 0 0)).cell? ⟨B1,0,none⟩=some (.slice none 0 0):=by go_simp
   have v1:((w3.setCell ⟨B1,0,none⟩ (.slice none 0 0)).setCell ⟨B1,1,none⟩ (.slice none 0 0)).cell? ⟨B1,1,none⟩=some (.slice none 0 0):=by go_simp
   have S9:=((S0.step T3.below).setCell (a:=⟨B1,0,none⟩) hBW1 (.slice none 0 0)).setCell (a:=⟨B1,1,none⟩) hBW1 (.slice none 0 0)
   clear c2
   go_wp2_with fail
   exact bodyPost_ret (v:=.tuple #[.agg #[.slice none 0 0,.slice none 0 0],.int .i64 E]) (by simp[results,Tryz.results44,go_sem,v0,v1]) rfl ⟨⟨_,_,zBM HE.out.1.symm,by rw[HE.out.2];exact zCl.nil _ _ _⟩,S9.below⟩
 ·have HE:=Zh (zNy h0)
  generalize zBI (b,ps) v=E at *
  clear p0 p1 p2 q0 q1 q2 hb1 hi1 hi2
  obtain ⟨c0,c1,c2⟩:=HG.out _ (T1.below.block _ hB10)
  have f0:=c2 0
  have f1:=c2 1
  have v0:((w1.setCell ⟨B1,0,none⟩ (.slice none 0 0)).setCell ⟨B1,1,none⟩ (.slice none 0 0)).cell? ⟨B1,0,none⟩=some (.slice none 0 0):=by go_simp
  have v1:((w1.setCell ⟨B1,0,none⟩ (.slice none 0 0)).setCell ⟨B1,1,none⟩ (.slice none 0 0)).cell? ⟨B1,1,none⟩=some (.slice none 0 0):=by go_simp
  have S9:=((S0.step T1.below).setCell (a:=⟨B1,0,none⟩) hBW1 (.slice none 0 0)).setCell (a:=⟨B1,1,none⟩) hBW1 (.slice none 0 0)
  clear c2
  go_wp2_with fail
  exact bodyPost_ret (v:=.tuple #[.agg #[.slice none 0 0,.slice none 0 0],.int .i64 E]) (by simp[results,Tryz.results44,go_sem,v0,v1]) rfl ⟨⟨_,_,zBM HE.out.1.symm,by rw[HE.out.2];exact zCl.nil _ _ _⟩,S9.below⟩
end Go.Proofs.YthgmphbkkojaoaaGreat
