/-
  mesh.shares walked. mesh.Restore walked. slices.EqualFunc at shares. What mesh.Repair does, in plain Lean. The walk of slices.DeleteFunc at kept shares, of which one at most is deleted. slices.Delete of one kept share out of an own row.
-/
import Derived.Test.YthgmphbkkojaoaaGreatQSaves
set_option maxHeartbeats 4000000
namespace Go.Proofs.YthgmphbkkojaoaaGreat
set_option linter.unusedSectionVars false
variable [Zn]
open Go.RowKit
def zWH(w:World)(u:Value)(s:Sh):Prop:=∃v,u=.agg #[.int .i64 s.1,v]∧zAG w v s.2∧I64 s.1
set_option maxRecDepth 100000 in
theorem zIJ(F:Nat)(eF:∀args w,(callFunc F args).run Tryz.prog w=.ok (.enter F args) w)(caps:Array Value)(p:Sh→Bool)(v:Value)(l:List Sh)(W:World)(hv:zAN W v l)
  (hF:∀u z w,z∈l→zAD W.heap.size W w→zWH w u z→Calls Tryz.prog F (#[u]++caps) w fun e w'=>e=.returned (.bool (p z))∧Below w.heap.size w w') :
  Calls Tryz.prog 135 #[v,.func (.func F) #[] caps] W fun e w'=>e=.returned (.int .i64 (zAP p l 0))∧Below W.heap.size W w':=by
 obtain ⟨a,c,rfl,hcap,⟨hm,hcm,_⟩,_⟩:=hv.opened
 have HF:=Zh hF
 clear hF
 go_enter Tryz.func135,Tryz.ntmps135
 go_wp2_with fail
 go_loopw[8] (fun i wr=>∃k:Nat,k≤l.length∧i=.int .i64 k∧zAD W.heap.size W wr∧zAP p (l.drop k) k=zAP p l 0) (fun i _=>l.length - (intOf i).toNat)
 case atStart=>exact ⟨0,by omega,rfl,zAD.refl W,rfl⟩
 case round =>
  obtain ⟨k,hk,rfl,hS,hq⟩:=hrel
  have HQ:=Zh hq
  clear hq
  by_cases hlt:k<l.length
  ·obtain ⟨g,off,u,cu,rfl,k0,k1,hp,hi⟩:=zBZ (zAs hv hS.below) (List.getElem?_eq_getElem hlt)
   have HD:=Zh (List.drop_eq_getElem_cons hlt)
   have HM:=Zh (List.getElem_mem hlt)
   generalize l[k]=x at *
   have hver:zWH wr (.agg #[.int .i64 x.1,.slice u x.2.length cu]) x:=⟨_,rfl,hp,hi⟩
   have HVER:=Zh hver
   obtain ⟨T,hT⟩:∃T,T=p x:=⟨_,rfl⟩
   have HT:=Zh hT
   clear hT hver hp hi
   cases T with
   | true =>
    have HH:=Zh (show zAP p l 0=(k:Int) by rw[←HQ.out,HD.out];simp[zAP,←HT.out])
    go_wp2_with (go_at_fn F;refine (HF.out _ x _ HM.out hS HVER.out).mono ?_;rintro e w' ⟨rfl,hb'⟩;rw[←HT.out])
    go_ret
    exact ⟨zAL HH.out.symm,(hS.step hb').below⟩
   | false =>
    have HH:=Zh (show zAP p (l.drop (k+1)) (k+1)=zAP p l 0 by rw[←HQ.out,HD.out];simp[zAP,←HT.out])
    go_wp2_with (go_at_fn F;refine (HF.out _ x _ HM.out hS HVER.out).mono ?_;rintro e w' ⟨rfl,hb'⟩;rw[←HT.out])
    clear k0 k1
    go_roundw
    case rel=>exact ⟨k+1,by omega,by go_num,hS.step hb',HH.out⟩
    case measure=>simp[intOf];omega
  ·obtain rfl:l.length=k:=by omega
   go_wp2_with fail
   go_ret
   refine ⟨zAL ?_,hS.below⟩
   rw[←HQ.out]
   simp[zAP]
set_option maxRecDepth 100000 in
theorem zGS(F:Nat)(eF:∀args w,(callFunc F args).run Tryz.prog w=.ok (.enter F args) w)(caps:Array Value)(p:Sh→Bool)(v:Value)(l:List Sh)(W:World)(hv:zAN W v l)
  (hF:∀u z w,z∈l→zAD W.heap.size W w→zWH w u z→Calls Tryz.prog F (#[u]++caps) w fun e w'=>e=.returned (.bool (p z))∧Below w.heap.size w w') :
  Calls Tryz.prog 120 #[v,.func (.func F) #[] caps] W fun e w'=>e=.returned (.bool (l.any p))∧Below W.heap.size W w':=by
 have hcall:=Zh (zIJ F eF caps p v l W hv hF)
 have hnn:=zDA p l 0
 obtain ⟨a,c,rfl,_⟩:=hv.opened
 clear hv hF
 obtain ⟨H,hH⟩:∃H,H=l.any p:=⟨_,rfl⟩
 rw[←hH] at hnn ⊢
 clear hH
 obtain ⟨r,hr⟩:∃r,r=zAP p l 0:=⟨_,rfl⟩
 rw[←hr] at hcall hnn
 clear hr
 go_enter Tryz.func120,Tryz.ntmps120
 go_wp2_with fail
 refine hcall.out.mono ?_
 rintro e w' ⟨rfl,hb⟩
 cases H with
 | true =>
      go_wp2_with fail
      go_ret
      exact ⟨rfl,hb⟩
 | false =>
       go_wp2_with fail
       go_ret
       exact ⟨rfl,hb⟩
theorem zLg(u:Value)(s:Sh)(B A g off n c m:Nat)(N:Int)(W:World)(hx:zWH W u s)(hB:W.cell? ⟨B,2,none⟩=some (.slice (some ⟨g,off,none⟩) n c))(hA:W.cell? ⟨A,0,none⟩=some (.int .i64 (m:Int)))(hm:m<n)(hk:W.cell? ⟨g,off+m*3+1,none⟩=some (.int .i64 N)) :
  Calls Tryz.prog 121 #[u,.pointer (some ⟨B,0,none⟩),.pointer (some ⟨A,0,none⟩)] W fun e w'=>e=.returned (.bool (decide (s.1=N)))∧Below W.heap.size W w':=by
 obtain ⟨y,rfl,hy,hi⟩:=hx
 obtain ⟨a,k,rfl,_⟩:=hy.opened
 obtain ⟨n1,l⟩:=s
 have S0:=(zAD.refl W).alloc (.cells #[.int .i64 n1,.slice a l.length k] 64)
 have f0:(W.alloc (.cells #[.int .i64 n1,.slice a l.length k] 64)).cell? ⟨W.heap.size,0,none⟩=some (.int .i64 n1):=by go_simp
 have b0:=zAA S0.below hB
 have a0:=zAA S0.below hA
 have k0:=zAA S0.below hk
 clear hB hA hk hy
 go_enter Tryz.func121,Tryz.ntmps121
 go_upto_region 1 with fail
 generalize W.alloc (.cells #[.int .i64 n1,.slice a l.length k] 64)=w0 at *
 obtain ⟨Bw,hBw⟩:∃B,B=W.heap.size:=⟨_,rfl⟩
 rw[←hBw] at f0 ⊢
 clear hBw
 go_wp2_with (go_quiet (fail))
 go_ret
 exact ⟨zAX rfl,(zBL S0 _).below⟩
theorem zLd(fn:Fn)(first cap:Array Value)(w:World):(Instr.makeFunc fn first cap).run Tryz.prog w=.ok (.func fn first cap) w:=rfl
theorem zIA:(Tryz.prog.info? 64).map (fun i=>(i.zero,i.size,i.bytes))=some (some (.agg #[.int .i64 0,.slice none 0 0]),2,32):=by kernel_rfl
set_option maxRecDepth 100000 in
theorem zJ0(vb:Value)(b:List Ver)(u:Value)(ps:List Pr)(v:Int)(W:World)(hb:zAR W vb b)(hu:zAT W u ps)(h8:ps.length≤8) :
  Calls Tryz.prog 97 #[.agg #[vb,u],.int .i64 v] W fun e w'=>(∃v',e=.returned v'∧zAN w' v' (zAS v ps))∧Below W.heap.size W w':=by
 obtain ⟨a,c,rfl,_⟩:=hb.opened
 obtain ⟨a',c',rfl,hcap,⟨hm,hcm,_⟩,_⟩:=hu.opened
 have S0:=(zAD.refl W).alloc (.cells #[.slice a b.length c,.slice a' ps.length c'] 27)
 have HU:=Zh (hu.stays zAj.stays S0.below)
 have c1:(W.alloc (.cells #[.slice a b.length c,.slice a' ps.length c'] 27)).cell? ⟨W.heap.size,1,none⟩=some (.slice a' ps.length c'):=by go_simp
 have hmf:=zLd
 clear hb hu
 go_enter Tryz.func97,Tryz.ntmps97
 go_upto_region 1 with fail
 generalize W.alloc (.cells #[.slice a b.length c,.slice a' ps.length c'] 27)=w0 at *
 obtain ⟨B,hB⟩:∃B,B=W.heap.size:=⟨_,rfl⟩
 rw[←hB] at c1 ⊢
 clear hB
 go_wp2_with fail
 clear c1
 go_loopw[12,5] (fun i x wr=>∃k:Nat,k≤ps.length∧i=.int .i64 k∧zAD w0.heap.size w0 wr∧zAK 2 (RAt w0 zBA) (fun _=>False) wr 64 w0.heap.size x (zAS v (ps.take k))) (fun i _ _=>ps.length - (intOf i).toNat)
 case atStart=>exact ⟨0,by omega,rfl,zAD.refl w0,zAK.nil _ _ _⟩
 case round =>
  obtain ⟨k,hk,rfl,hS,ho⟩:=hrel
  by_cases hlt:k<ps.length
  ·have hget:=List.getElem?_eq_getElem hlt
   obtain ⟨g,off,u,cu,rfl,k0,k1,k2,hp,i1⟩:=zBq HU.out hget
   have k0:=zAA hS.below k0
   have k1:=zAA hS.below k1
   have k2:=zAA hS.below k2
   have HP0:=Zh hp
   have HST:=Zh (zH9 v hget)
   have hol:=zJS v (ps.take k)
   have hol2:(zAS v (ps.take k)).length≤8:=by simp at hol;omega
   clear hol
   generalize hSM:zAS v (ps.take k)=SM at *
   clear hSM
   generalize ps[k]=p at *
   obtain ⟨t,r,ks⟩:=p
   simp only at k0 k1 k2 hp i1
   have S1:=hS.alloc (.cells #[.bool t,.int .i64 r,.slice u ks.length cu] 62)
   have S1':=(zAD.refl wr).alloc (.cells #[.bool t,.int .i64 r,.slice u ks.length cu] 62)
   have hpi:=hp.stays zAf.stays S1.below
   have HO:=Zh ho
   have f0:(wr.alloc (.cells #[.bool t,.int .i64 r,.slice u ks.length cu] 62)).cell? ⟨wr.heap.size,0,none⟩=some (.bool t):=by go_simp
   have f1:(wr.alloc (.cells #[.bool t,.int .i64 r,.slice u ks.length cu] 62)).cell? ⟨wr.heap.size,1,none⟩=some (.int .i64 r):=by go_simp
   have f2:(wr.alloc (.cells #[.bool t,.int .i64 r,.slice u ks.length cu] 62)).cell? ⟨wr.heap.size,2,none⟩=some (.slice u ks.length cu):=by go_simp
   have hB1:=S1'.2
   clear hp hget ho
   go_upto_region 5 with fail
   clear k0 k1 k2
   generalize wr.alloc (.cells #[.bool t,.int .i64 r,.slice u ks.length cu] 62)=w3 at *
   obtain ⟨Bt,hBt⟩:∃Bt,Bt=wr.heap.size:=⟨_,rfl⟩
   rw[←hBt] at f0 f1 f2 ⊢
   clear hBt
   go_upto_region 6 with (go_at_call 40;go_fit (zDo t r _ ks v _ hpi);rintro e w4 ⟨rfl,hb4⟩)
   have S5:=(S1.step hb4).alloc (.cells #[.int .i64 (zBy v ks 0)] 3)
   have S5':=((zAD.refl w3).step hb4).alloc (.cells #[.int .i64 (zBy v ks 0)] 3)
   have HO5:=Zh ((HO.out.stays S1'.below).stays S5'.below)
   have g0:=zAA S5'.below f0
   have g1:=zAA S5'.below f1
   have g2:=zAA S5'.below f2
   have q0:(w4.alloc (.cells #[.int .i64 (zBy v ks 0)] 3)).cell? ⟨w4.heap.size,0,none⟩=some (.int .i64 (zBy v ks 0)):=by go_simp
   clear f0 f1 f2 hb4 hpi
   generalize w4.alloc (.cells #[.int .i64 (zBy v ks 0)] 3)=w5 at *
   obtain ⟨Ba,hBa⟩:∃Ba,Ba=w4.heap.size:=⟨_,rfl⟩
   rw[←hBa] at q0 ⊢
   clear hBa
   have HSM:=Zh (zA6 (HO5.out.isRow.ofAt zBA.stays (zAF.old S5.below _)))
   cases t with
   | false =>
    have HN:=Zh (show zFL SM (zAk v (false,r,ks))=SM from rfl)
    go_wp2_with fail
    go_roundw
    case rel=>exact ⟨k+1,by omega,by go_num,S5,by rw[HST.out,HN.out];exact HO5.out⟩
    case measure=>simp[intOf];omega
   | true =>
    rcases zB0 v ks 0 with ⟨hn,hf⟩|⟨m,x,hx,hxv,hn,hf⟩
    ·have HN:=Zh (show zFL SM (zAk v (true,r,ks))=SM by simp[zAk,hn,zFL])
     rw[hf] at q0 ⊢
     clear hn hf
     go_wp2_with fail
     go_roundw
     case rel=>exact ⟨k+1,by omega,by go_num,S5,by rw[HST.out,HN.out];exact HO5.out⟩
     case measure=>simp[intOf];omega
    ·rw[hf,Nat.zero_add] at q0 ⊢
     obtain ⟨gk,ok,uk,ck,rfl,x0,x1,x2,hxi,ix0,ix1⟩:=zCK HP0.out hx
     have x0:=zAA S5.below x0
     have x1:=zAA S5.below x1
     have x2:=zAA S5.below x2
     have hml:=(List.getElem?_eq_some_iff.1 hx).1
     have HRT:Hid (zBA w0 [.int .i64 x.2.1,.slice uk x.2.2.length ck] x.2):=Zh ⟨_,rfl,hxi,ix1⟩
     have hpk:zAk v (true,r,ks)=some x.2:=by simp[zAk,hn]
     have HA:=Zh (show zFL SM (zAk v (true,r,ks))=if SM.any (fun t=>decide (t.1=x.2.1)) then SM else SM++[x.2] by rw[hpk];rfl)
     clear hn hf hx hxv hpk
     have hcall:=Zh (zGS 121 (fun _ _=>rfl) #[.pointer (some ⟨Bt,0,none⟩),.pointer (some ⟨Ba,0,none⟩)] (fun t=>decide (t.1=x.2.1)) _ SM _ HSM.out (fun u z w _ hSw hz=>zLg u z Bt Ba gk ok ks.length cu m x.2.1 w hz (zAA hSw.below g2) (zAA hSw.below q0) hml (zAA hSw.below x1)))
     obtain ⟨aS,cS,rfl,_⟩:=HSM.out.opened
     obtain ⟨T,hT⟩:∃T,T=SM.any (fun t=>decide (t.1=x.2.1)):=⟨_,rfl⟩
     rw[←hT] at hcall HA
     clear hT
     have HS:Hid (∀w',zAD w5.heap.size w5 w'→w'.cell? ⟨Bt,2,none⟩=some (.slice (some ⟨gk,ok,none⟩) ks.length cu)∧w'.cell? ⟨Ba,0,none⟩=some (.int .i64 (m:Int))∧w'.cell? ⟨gk,ok+m*3+1,none⟩=some (.int .i64 x.2.1)∧w'.cell? ⟨gk,ok+m*3+2,none⟩=some (.slice uk x.2.2.length ck)):=Zh (fun w' q=>⟨zAA q.below g2,zAA q.below q0,zAA q.below x1,zAA q.below x2⟩)
     cases T with
     | true =>
      go_wp2_with (go_at_call 120;go_fit hcall.out;rintro e w6 ⟨rfl,hb6⟩)
      have S6:=S5.step hb6
      have ho6:=HO5.out.stays hb6
      go_roundw
      case rel=>exact ⟨k+1,by omega,by go_num,S6,by rw[HST.out,HA.out];exact ho6⟩
      case measure=>simp[intOf];omega
     | false =>
      go_upto_region 7 with (go_at_call 120;go_fit hcall.out;rintro e w6 ⟨rfl,hb6⟩)
      have S6:=S5.step hb6
      have ho6:=HO5.out.stays hb6
      obtain ⟨r2,r3,r4,r5⟩:=HS.out w6 ((zAD.refl w5).step hb6)
      clear g0 g1 g2 q0 x0 x1 x2 hb6
      go_wp2_with (at_builtin;refine zAd rfl _ _ 83 rfl 2 (fun _=>False) 64 Tryz.underlying83 _ 32 zIA rfl (by omega) (by omega) w0.heap.size _ SM rfl (ho6.stays (zAB _ _)) ⟨w6.heap.size,0,none⟩ 1 [.int .i64 x.2.1,.slice uk x.2.2.length ck] x.2 rfl rfl (by intro w hw;simp at hw;rcases hw with rfl | rfl<;>rfl) (zBp w6 [.int .i64 x.2.1,.slice uk x.2.2.length ck] 64 _ rfl) (fun _ _=>HRT.out) (by omega) (by have:=S6.2;simp;omega) ?_;intro v7 w7 ho7 hg7 hat7)
      have S7:=(S6.alloc (.cells #[.int .i64 x.2.1,.slice uk x.2.2.length ck] 64)).row (ho6.stays (zAB _ _)) hg7
      go_roundw
      case rel=>exact ⟨k+1,by omega,by go_num,S7,by rw[HST.out,HA.out];exact ho7⟩
      case measure=>simp[intOf];omega
  ·obtain rfl:ps.length=k:=by omega
   go_wp2_with fail
   go_ret
   rw[List.take_length] at ho
   exact ⟨⟨_,rfl,zA6 (ho.isRow.ofAt zBA.stays (zAF.old hS.below _))⟩,(S0.step hS.below).below⟩
theorem zQ5{b:List Ver}{ps:List Pr}(h:zA2 (b,ps)=0):ps.length≤8:=(zAU.1 h).2.1
set_option maxRecDepth 100000 in
theorem zD7(vb:Value)(b:List Ver)(u:Value)(ps:List Pr)(v:Int)(W:World)(hb:zAR W vb b)(hu:zAT W u ps) :
  Calls Tryz.prog 71 #[.agg #[vb,u],.int .i64 v] W fun e w'=>(∃v1 v2,e=.returned (.tuple #[v1,v2,.int .i64 (zBI (b,ps) v)])∧zAG w' v1 (zBa (b,ps) v)∧zAG w' v2 (zDg (b,ps) v))∧Below W.heap.size W w':=by
 obtain ⟨a,c,rfl,hcap,⟨hm,hcm,_⟩,_⟩:=hb.opened
 obtain ⟨a',c',rfl,_⟩:=hu.opened
 have S0:=(zAD.refl W).alloc (.cells #[.slice a b.length c,.slice a' ps.length c'] 27)
 have hb0:=hb.stays zAz.stays S0.below
 have hu0:=hu.stays zAj.stays S0.below
 have c0:(W.alloc (.cells #[.slice a b.length c,.slice a' ps.length c'] 27)).cell? ⟨W.heap.size,0,none⟩=some (.slice a b.length c):=by go_simp
 have c1:(W.alloc (.cells #[.slice a b.length c,.slice a' ps.length c'] 27)).cell? ⟨W.heap.size,1,none⟩=some (.slice a' ps.length c'):=by go_simp
 clear hb hu
 go_enter Tryz.func71,Tryz.ntmps71
 go_upto_region 1 with fail
 generalize W.alloc (.cells #[.slice a b.length c,.slice a' ps.length c'] 27)=w0 at *
 obtain ⟨B,hB⟩:∃B,B=W.heap.size:=⟨_,rfl⟩
 rw[←hB] at c0 c1 ⊢
 clear hB
 go_upto_region 2 with (go_at_call 95;go_fit (zRC _ b _ ps v _ hb0 hu0);rintro e w1 ⟨rfl,hb1⟩)
 have S1:=S0.step hb1
 have d0:=zAA hb1 c0
 have d1:=zAA hb1 c1
 have hb2:=hb0.stays zAz.stays hb1
 have hu2:=hu0.stays zAj.stays hb1
 clear c0 c1 hb1 hb0 hu0
 by_cases h0:zAh (b,ps) v=0
 ·obtain ⟨h1,h2,h3⟩:=zCo h0
  have HE:=Zh (show zBI (b,ps) v=zCF (zAO b v).1 (zAO b v).2.1 (zAO b v).2.2 (zAS v ps) by unfold zBI;rw[if_neg (by simp[h0])])
  have HB:=Zh (show zBa (b,ps) v=zEs (zAO b v).1 (zAO b v).2.1 (zAO b v).2.2 (zAS v ps) by unfold zBa;rw[if_neg (by simp[h0])])
  have HW:=Zh (show zDg (b,ps) v=zEq (zAO b v).1 (zAO b v).2.1 (zAO b v).2.2 (zAS v ps) by unfold zDg;rw[if_neg (by simp[h0])])
  have hps:=zQ5 h1
  obtain ⟨k,rfl⟩:=Int.eq_ofNat_of_zero_le h2
  have hk:k<b.length:=by simpa using h3
  have hget:=List.getElem?_eq_getElem hk
  have hpl:zAO b (k:Int)=b[k].2:=by unfold zAO;simp[hget]
  rw[hpl] at HE HB HW
  rw[h0]
  obtain ⟨g,off,u,cu,rfl,k0,k1,k2,k3,hi,i1,i2,i3⟩:=zB1 hb2 hget
  clear h0 h1 h2 h3 hpl hget
  generalize b[k]=x at *
  have HB2:=Zh hb2
  have HU2:=Zh hu2
  have HS:Hid (∀w',zAD w1.heap.size w1 w'→w'.cell? ⟨B,0,none⟩=some (.slice (some ⟨g,off,none⟩) b.length c)∧w'.cell? ⟨B,1,none⟩=some (.slice a' ps.length c')∧w'.cell? ⟨g,off+k*4+1,none⟩=some (.int .i64 x.2.1)∧w'.cell? ⟨g,off+k*4+2,none⟩=some (.int .i64 x.2.2.1)∧w'.cell? ⟨g,off+k*4+3,none⟩=some (.int .i64 x.2.2.2)):=Zh (fun w' q=>⟨zAA q.below d0,zAA q.below d1,zAA q.below k1,zAA q.below k2,zAA q.below k3⟩)
  have s3:=HS.out w1.drew (zAD.refl w1).drew
  clear hb2 hu2 k0 k1 k2 k3 hi d1
  go_upto_region 4 with fail
  clear d0
  go_region_held3 (fun w'=>w'.cell? ⟨B,0,none⟩=some (.slice (some ⟨g,off,none⟩) b.length c)∧w'.cell? ⟨B,1,none⟩=some (.slice a' ps.length c')∧w'.cell? ⟨g,off+k*4+1,none⟩=some (.int .i64 x.2.1)∧w'.cell? ⟨g,off+k*4+2,none⟩=some (.int .i64 x.2.2.1)∧w'.cell? ⟨g,off+k*4+3,none⟩=some (.int .i64 x.2.2.2)) (first | exact s3 | exact s4 | exact s5) (first
   | (go_at_call 97;go_fit (zJ0 _ b _ ps (k:Int) w1.drew (HB2.out.stays zAz.stays (zAD.refl w1).drew.below) (HU2.out.stays zAj.stays (zAD.refl w1).drew.below) hps);rintro e w4 ⟨⟨v4,rfl,h4⟩,hb4⟩;have p4:=(zAD.refl w1).drew.step hb4;have s4:=HS.out w4 p4)
   | (go_at_call 96;go_fit (zOy x.2.1 x.2.2.1 x.2.2.2 _ (zAS (k:Int) ps) w4 h4);rintro e w5 ⟨⟨vx,vy,rfl,hx5,hy5⟩,hb5⟩;have p5:=p4.step hb5;have s5:=HS.out w5 p5))
  all_goals
   have S5:=S1.step p5.below
   have HX:=Zh hx5
   have HY:=Zh hy5
   clear s3 s4 s5 hx5 hy5 h4 hb4 hb5
   go_wp2_with fail
   exact bodyPost_ret (v:=.tuple #[vx,vy,.int .i64 (zCF x.2.1 x.2.2.1 x.2.2.2 (zAS (k:Int) ps))]) (by simp[results,Tryz.results71,go_sem]) rfl ⟨⟨_,_,zTv HE.out.symm,by rw[HB.out];exact HX.out,by rw[HW.out];exact HY.out⟩,S5.below⟩
 ·have HE:=Zh (show zBI (b,ps) v=zAh (b,ps) v by unfold zBI;rw[if_pos h0])
  have HB:=Zh (show zBa (b,ps) v=[] by unfold zBa;rw[if_pos h0])
  have HW:=Zh (show zDg (b,ps) v=[] by unfold zDg;rw[if_pos h0])
  go_wp2_with fail
  exact bodyPost_ret (v:=.tuple #[.slice none 0 0,.slice none 0 0,.int .i64 (zAh (b,ps) v)]) (by simp[results,Tryz.results71,go_sem]) rfl ⟨⟨_,_,zTv HE.out.symm,by rw[HB.out];exact zAG.nil _,by rw[HW.out];exact zAG.nil _⟩,S1.below⟩
def zCs(all:List Sh)(s:Sh):Bool:=match all[s.1.toNat]? with
 | some t=>zCm s.1 t.1 s.2 t.2
 | none=>false
def zEt(v:Int)(all:List Sh)(p:Pr)(hv:List Int):Pr × List Int:=
 if p.1=true then
  match zA9 v p.2.2 with
  | none=>(p,hv)
  | some x=>if x.2.1∈hv∨zCs all x.2=false then ((p.1,p.2.1,zAa v p.2.2),hv) else (p,hv++[x.2.1])
 else (p,hv)
def zCb(v:Int)(all:List Sh):List Pr→List Int→List Pr × List Int
 | [],hv=>([],hv)
 | p::r,hv=>((zEt v all p hv).1::(zCb v all r (zEt v all p hv).2).1,(zCb v all r (zEt v all p hv).2).2)
theorem zIu(v:Int)(all:List Sh)(p:Pr):∀(l:List Pr) (hv:List Int),zCb v all (l++[p]) hv=((zCb v all l hv).1++[(zEt v all p (zCb v all l hv).2).1],(zEt v all p (zCb v all l hv).2).2)
 | [],hv=>rfl
 | q::l,hv=>by
  simp only[List.cons_append,zCb]
  rw[zIu v all p l]
theorem zDq(v:Int)(all:List Sh):∀(l:List Pr) (hv:List Int),(zCb v all l hv).1.length=l.length
 | [],_=>rfl
 | p::r,hv=>by simp[zCb,zDq v all r]
theorem zSJ(v:Int)(all:List Sh)(p:Pr)(hv:List Int):(zEt v all p hv).2.length≤hv.length+1:=by
 unfold zEt
 repeat' split
 all_goals simp
theorem zNI(v:Int)(all:List Sh):∀(l:List Pr) (hv:List Int),(zCb v all l hv).2.length≤hv.length+l.length
 | [],hv=>by simp[zCb]
 | p::r,hv=>by
  have h1:=zNI v all r (zEt v all p hv).2
  have h2:=zSJ v all p hv
  simp only[zCb,List.length_cons]
  omega
def zBm(all:List Sh)(hv:List Int):List Sh:=all.filter fun s => !decide (s.1∈hv)
theorem zKE{all:List Sh}{hv:List Int}{k:Nat}{s:Sh}(h:all[k]?=some s):zBm (all.take (k+1)) hv=zBm (all.take k) hv++(if s.1∈hv then [] else [s]):=by
 unfold zBm
 rw[zAv h,List.filter_append]
 congr 1
 by_cases hs:s.1∈hv<;>simp[hs]
def zBP(m:Me)(v:Int):Int:=
 if zBI m v≠0 then zBI m v else
 if zAe (zAO m.1 v).1 (zAO m.1 v).2.1 (zAO m.1 v).2.2 (zBa m v)≠0 then zAe (zAO m.1 v).1 (zAO m.1 v).2.1 (zAO m.1 v).2.2 (zBa m v) else
 zF8 (m.1,(zCb v (zA4 (zAO m.1 v).1 (zAO m.1 v).2.1 (zAO m.1 v).2.2 (zBa m v)) m.2 []).1) v (zBm (zA4 (zAO m.1 v).1 (zAO m.1 v).2.1 (zAO m.1 v).2.2 (zBa m v)) (zCb v (zA4 (zAO m.1 v).1 (zAO m.1 v).2.1 (zAO m.1 v).2.2 (zBa m v)) m.2 []).2)
def zBU(m:Me)(v:Int):Me:=
 if zBI m v≠0∨zAe (zAO m.1 v).1 (zAO m.1 v).2.1 (zAO m.1 v).2.2 (zBa m v)≠0 then ([],[]) else
 zGk (m.1,(zCb v (zA4 (zAO m.1 v).1 (zAO m.1 v).2.1 (zAO m.1 v).2.2 (zBa m v)) m.2 []).1) v (zBm (zA4 (zAO m.1 v).1 (zAO m.1 v).2.1 (zAO m.1 v).2.2 (zBa m v)) (zCb v (zA4 (zAO m.1 v).1 (zAO m.1 v).2.1 (zAO m.1 v).2.2 (zBa m v)) m.2 []).2)
theorem zI5{v:Int}:∀{l:List Kp} {m:Nat} {x:Kp},l.Pairwise (fun x y=>x.1<y.1)→l[m]?=some x→x.1=v→l.eraseIdx m=zAa v l
 | [],m,x,_,h,_=>by simp at h
 | y::l,0,x,hp,h,hx=>by
  simp at h
  subst h
  rw[List.pairwise_cons] at hp
  have hd:zAa v l=l:=zJ9 fun z hz=>by have:=hp.1 z hz;omega
  rw[show zAa v (y::l)=zAa v l by unfold zAa;simp[hx],hd]
  rfl
 | y::l,m+1,x,hp,h,hx=>by
  rw[List.pairwise_cons] at hp
  have h':l[m]?=some x:=by simpa using h
  have hy:=hp.1 x (List.mem_of_getElem? h')
  have ih:=zI5 hp.2 h' hx
  have hne:y.1≠v:=by omega
  rw[show zAa v (y::l)=y::zAa v l by unfold zAa;simp[hne],←ih]
  rfl
theorem zMR{α β:Type}(f:α→β):∀(l:List α) (k:Nat),(l.eraseIdx k).map f=(l.map f).eraseIdx k
 | [],_=>rfl
 | _::_,0=>rfl
 | x::l,k+1=>by simp only[List.eraseIdx_cons_succ,List.map_cons,zMR f l k]
def RFr{α:Type}(D:Nat→Prop)(W:World)(R:Rd α):Rd α:=fun _ cs x=>zA3 D R W cs x
theorem RFr.stays{α:Type}{D:Nat→Prop}{W:World}{R:Rd α}:(RFr D W R).Stays:=fun _ _ _ h _ _=>h
theorem RFr.one{α:Type}{D:Nat→Prop}{W:World}{R:Rd α}(h:R.One):(RFr D W R).One:=fun _ cs x hr=>h W cs x (zA3.now hr)
theorem zAZ.ofFr{α:Type}{D:Nat→Prop}{W w:World}{R:Rd α}{sz:Nat}{v:Value}{l:List α}(h:zAZ sz (RFr D W R) w v l)(hw:zAF D W w):zAZ sz R w v l:=by
 obtain ⟨a,c,e,h1,h2,h3⟩:=h
 refine ⟨a,c,e,h1,h2,fun i x hx=>?_⟩
 obtain ⟨b,off,e',cs,g1,g2,g3⟩:=h3 i x hx
 exact ⟨b,off,e',cs,g1,g2,g3 w hw⟩
theorem zAK.anyFr{α:Type}{D:Nat→Prop}{W w:World}{R:Rd α}{sz:Nat}{E E':Nat→Prop}{e:TypeId}{base:Nat}{v:Value}{l:List α}(h:zAK sz (RFr D W R) E w e base v l):zAK sz (RFr D W R) E' w e base v l:=by
 have:=h.conv (R':=RFr D W R) (E':=E') id (fun cs x _ hf w' _=>(hf.now:zA3 D R W cs x))
 simpa using this
theorem zR3{D:Nat→Prop}{W:World}{a:Option Addr}{n cap:Nat}{ls:List Sh}(h:∀w',zAF D W w'→zAN w' (.slice a n cap) ls)(hv:∀k,Value.lies (.slice a n cap) k→¬D k){k:Nat}{s:Sh}(hs:ls[k]?=some s) :
  ∃b off u c,a=some ⟨b,off,none⟩∧W.cell? ⟨b,off+k*2,none⟩=some (.int .i64 s.1)∧W.cell? ⟨b,off+k*2+1,none⟩=some (.slice u s.2.length c)∧zA3 D zBA W [.int .i64 s.1,.slice u s.2.length c] s:=by
 obtain ⟨b,off,u,c,rfl,h1,h2,_,_⟩:=zBZ (h W (zAF.refl _ _)) hs
 refine ⟨b,off,u,c,rfl,h1,h2,fun w' hw=>?_⟩
 have hb:¬D b:=hv b ⟨_,_,_,rfl,rfl⟩
 obtain ⟨b',off',u',c',e,g1,g2,g3,g4⟩:=zBZ (h w' hw) hs
 simp only[Option.some.injEq,Addr.mk.injEq,and_true] at e
 obtain ⟨rfl,rfl⟩:=e
 have q:=hw.cell h2 hb
 rw[g2] at q
 simp only[Option.some.injEq,Value.slice.injEq,true_and] at q
 obtain ⟨rfl,rfl⟩:=q
 exact ⟨_,rfl,g3,g4⟩
theorem zFf{α:Type}(p:α→Bool):∀(l:List α) (k:Nat),zAP p l k = -1∨∃n x,zAP p l k=((k+n:Nat):Int)∧l[n]?=some x∧p x=true
 | [],k=>Or.inl rfl
 | x::l,k=>by
  unfold zAP
  by_cases h:p x=true
  ·rw[if_pos h]
   exact Or.inr ⟨0,x,by simp,rfl,h⟩
  ·rw[if_neg h]
   rcases zFf p l (k+1) with h2|⟨n,y,h2,h3,h4⟩
   ·exact Or.inl h2
   ·exact Or.inr ⟨n+1,y,by rw[h2];congr 1;omega,by simpa using h3,h4⟩
theorem zEz{α:Type}{p:α→Bool}:∀{l:List α} {k:Nat},zAP p l k = -1→l.filter (fun z => !p z)=l
 | [],_,_=>rfl
 | x::l,k,h=>by
  unfold zAP at h
  by_cases hx:p x=true
  ·rw[if_pos hx] at h
   omega
  ·rw[if_neg hx] at h
   rw[List.filter_cons,if_pos (by simpa using hx),zEz h]
theorem zHY{α:Type}{p:α→Bool}:∀{l:List α} {n:Nat} {x:α},l[n]?=some x→p x=true→(∀j y,l[j]?=some y→p y=true→j=n)→l.filter (fun z => !p z)=l.eraseIdx n
 | [],n,x,h,_,_=>by simp at h
 | y::l,0,x,h,hp,hu=>by
  simp at h
  subst h
  rw[List.filter_cons,if_neg (by simp[hp]),List.eraseIdx_cons_zero,List.filter_eq_self]
  intro z hz
  obtain ⟨j,hj⟩:=List.getElem?_of_mem hz
  cases hpz:p z with
  | false=>rfl
  | true=>have:=hu (j+1) z (by simpa using hj) hpz;omega
 | y::l,n+1,x,h,hp,hu=>by
  have hy:p y=false:=by
   cases hpy:p y with
   | false=>rfl
   | true=>have:=hu 0 y rfl hpy;omega
  rw[List.filter_cons,if_pos (by simp[hy]),List.eraseIdx_cons_succ,zHY (n:=n) (x:=x) (by simpa using h) hp (fun j z hj hz=>by have:=hu (j+1) z (by simpa using hj) hz;omega)]
theorem zKm{α:Type}{l:List α}{n m:Nat}{z:α}(hn:n≤m)(hz:l[m+1]?=some z):((l.eraseIdx n).take m++l.drop m).set m z=(l.eraseIdx n).take (m+1)++l.drop (m+1):=by
 have hm:m+1<l.length:=(List.getElem?_eq_some_iff.1 hz).1
 have he:(l.eraseIdx n).length=l.length - 1:=by rw[List.length_eraseIdx,if_pos (by omega)]
 have ht:((l.eraseIdx n).take m).length=m:=by rw[List.length_take];omega
 have hg:(l.eraseIdx n)[m]?=some z:=by rw[List.getElem?_eraseIdx,if_neg (by omega),hz]
 rw[List.set_append_right _ _ (by omega),ht,Nat.sub_self,List.drop_eq_getElem_cons (by omega:m<l.length),List.set_cons_zero,zAv hg,List.append_assoc]
 rfl
theorem zDc{P:Program}(w:World)(t e ty:TypeId)(z x y u:Value)(ht:P.underlying t=some (.slice e))(hv:∀w,(zeroValue e).run P w=.ok z w)(hz:z.cells=#[x,y,u])(hx:x.oneCell'=true)(hy:y.oneCell'=true)(hu:u.oneCell'=true)(b o c:Nat)
  (hc:∀j,j<3→(w.cell? ⟨b,o+j,none⟩).isSome=true∧w.frozen? ⟨b,o+j,none⟩=false) :
  (Builtin.clear_ #[t] ty #[.slice (some ⟨b,o,none⟩) 1 c]).run P w=.ok (.tuple #[]) (w.setCells b o [x,y,u]):=by
 have hzc:(Builtin.zeroCells z.cells 1).toList=[x,y,u]:=by
  rw[hz]
  simp[Builtin.zeroCells]
  apply List.ext_getElem
  ·simp
  ·intro i h1 h2
   simp at h2
   rcases (by omega:i=0∨i=1∨i=2) with rfl|rfl|rfl<;>simp
 have hst:=run_storeCells_cells (P:=P) b o [x,y,u] 0 w (by simpa using fun j hj=>(hc j hj).1) (by simpa using fun j hj=>(hc j hj).2) (by intro v hv';simp at hv';rcases hv' with rfl | rfl | rfl<;>assumption)
 simp only[Nat.add_zero] at hst
 simp[Builtin.clear_,run_underlying ht,hv,hzc,hst]
theorem zIx(w:World):(zeroValue 66).run Tryz.prog w=.ok (.agg #[.int .i64 0,.int .i64 0,.slice none 0 0]) w:=by kernel_rfl
set_option maxRecDepth 100000 in
theorem zJq{α:Type}{R:Rd α}(E:Nat→Prop)(base:Nat)(v:Value)(l:List α)(k:Nat)(W:World)(ho:zAK 3 R E W 66 base v l)(hk:k<l.length) :
  Calls Tryz.prog 73 #[v,.int .i64 k,.int .i64 ((k:Int)+1)] W fun e w'=>(∃v',e=.returned v'∧zAK 3 R E w' 66 base v' (l.eraseIdx k)∧v'.ownBlock=v.ownBlock)∧W.grownBy w' v.ownBlock:=by
 have htop:=ho.top
 rcases ho.shape with ⟨_,rfl⟩|⟨g,cap,cur,rfl,hb,hg,hnc,hcm,hheap,hcs⟩
 ·simp at hk
 obtain ⟨L,hL⟩:∃L,L=l.length:=⟨_,rfl⟩
 obtain ⟨rows,h1,h2,h3,h4⟩:=ho.row
 obtain ⟨news,hnews⟩:∃news,news=(rows.drop (k+1)).flatten:=⟨_,rfl⟩
 have hsz:∀r∈rows,r.length=3:=fun r hr=>(h3 r hr).1
 have hlen:news.length=(L - (k+1))*3:=by rw[hnews,zBW (fun r hr=>hsz r (List.mem_of_mem_drop hr)),List.length_drop,h2,hL]
 have hfl:rows.flatten.length=L*3:=by rw[zBW hsz,h2,hL]
 have hget:∀t u,news[t]?=some u→W.cell? ⟨g,(k+1)*3+t,none⟩=some u:=by
  intro t u hu
  rw[hnews,zCN _ hsz,List.getElem?_drop] at hu
  have:=h1.cells (g:=g) rfl _ _ hu
  rwa [zA7] at this
 have hcell:∀t,t<L*3→(W.cell? ⟨g,t,none⟩).isSome=true:=by
  intro t ht
  have:=h1.cells (g:=g) rfl t _ (List.getElem?_eq_getElem (show t<rows.flatten.length by omega))
  rw[zA7] at this
  rw[this];rfl
 obtain ⟨A,hA,hsrc⟩:∃A:Addr,(if cap=k+1 then some (⟨g,0,none⟩:Addr) else some ⟨g,(k+1)*3,none⟩)=some A∧Hid (∀t u,news[t]?=some u→W.drew.cell? (A.add t)=some u):=by
  by_cases h:cap=k+1
  ·refine ⟨⟨g,0,none⟩,by simp[h],Zh fun t u hu=>?_⟩
   have h0:news.length=0:=by rw[hlen];omega
   rw[List.length_eq_zero_iff.1 h0] at hu
   simp at hu
  ·refine ⟨⟨g,(k+1)*3,none⟩,by simp[h],Zh fun t u hu=>?_⟩
   rw[zEI]
   exact hget t u hu
 have s1:Hid (news.length=(L - (k+1))*3):=Zh hlen
 have s2:Hid (∀u∈news,u.oneCell'=true):=Zh (fun u hu=>by
  rw[hnews] at hu
  obtain ⟨q,hq,hu⟩:=List.mem_flatten.1 hu
  exact (h3 q (List.mem_of_mem_drop hq)).2 u hu)
 have s3:Hid (∀t,t<news.length→(W.drew.cell? ⟨g,0+k*3+t,none⟩).isSome=true∧W.drew.frozen? ⟨g,0+k*3+t,none⟩=false):=Zh (fun t ht=>by
  rw[hlen] at ht
  exact ⟨hcell _ (by omega),ho.free rfl _⟩)
 have hdel:=Zh (ho.drew.deleted hk (L:=l.length) rfl (news:=news) (zs:=[.int .i64 0,.int .i64 0,.slice none 0 0]) rfl (fun rows' r1 r2 r3=>by
  have he:rows'.flatten=rows.flatten:=by
   rcases r1.2 with ⟨h5,_⟩|⟨g',cap',cur',h5,_,h7,_,_,_,h11⟩
   ·cases h5
   rcases h1.2 with ⟨q5,_⟩|⟨g2,cap2,cur2,q5,_,q7,_,_,_,q11⟩
   ·cases q5
   simp only[Value.slice.injEq,Option.some.injEq,Addr.mk.injEq] at h5 q5
   obtain ⟨⟨rfl,_,_⟩,_,rfl⟩:=h5
   obtain ⟨⟨rfl,_,_⟩,_,rfl⟩:=q5
   have:W.heap[g]?=some (.cells cur' 66 (0,0)):=h7
   rw[q7] at this
   cases this
   rw[←h11,←q11]
  rw[hnews,zCN _ hsz,zCN _ r3,he]))
 have hgr:=Zh (show W.grownBy ((W.drew.setCells g (k*3) news).setCells g ((L - 1)*3) [.int .i64 0,.int .i64 0,.slice none 0 0]) (some g) from (show W.grownBy W.drew (some g) from ⟨rfl,rfl,rfl,Nat.le_refl _,fun _ _ _=>rfl⟩).trans ((zBd g news (k*3) _).trans (zBd g _ ((L - 1)*3) _)))
 rw[←hL] at hdel hnc hk
 obtain ⟨W1,hW1⟩:∃W1,W1=W.drew.setCells g (0+k*3) news:=⟨_,rfl⟩
 obtain ⟨cur1,hheap1,hsz1,_⟩:=zC1 g 66 news (0+k*3) W.drew cur hheap (by rw[hlen,hcs];omega)
 rw[←hW1] at hheap1
 have hsz2:L*3≤cur1.size:=by rw[hsz1,hcs];omega
 have hcl:∀ty,(Builtin.clear_ #[60] ty #[.slice (some ⟨g,(k+(L - (k+1)))*3,none⟩) (L - (k+(L - (k+1)))) (cap - (k+(L - (k+1))))]).run Tryz.prog W1=.ok (.tuple #[]) (W1.setCells g ((L - 1)*3) [.int .i64 0,.int .i64 0,.slice none 0 0]):=by
  intro ty
  have e1:k+(L - (k+1))=L - 1:=by omega
  rw[e1,show L - (L - 1)=1 by omega]
  refine zDc W1 _ _ ty _ _ _ _ Tryz.underlying60 zIx rfl rfl rfl rfl g ((L - 1)*3) _ (fun j hj=>⟨?_,?_⟩)
  ·rw[World.cell?,hheap1]
   simp
   omega
  ·simp[World.frozen?,hheap1]
 have HW1:=Zh hW1
 obtain ⟨i0,hi0,_,hz0,_⟩:=info_parts zCn
 have hkc:k≤cap:=by omega
 have hkc1:k+1≤cap:=by omega
 have hkl:k+1≤L:=by omega
 have hkl0:k≤L:=by omega
 have hne:((k:Int) == (k:Int)+1)=false:=beq_eq_false_iff_ne.2 (by omega)
 have hz:0+k*3=k*3:=by omega
 rw[hz] at hW1
 have HH:=Zh hW1
 have e5:L - 1=k+(L - (k+1)):=by omega
 have b1:(0:Int)≤(k:Int)+1:=by omega
 have b2:(k:Int)+1≤(L:Int):=by omega
 have b3:((k:Int)+1).toNat=k+1:=by omega
 have b4:(L:Int)≤(cap:Int):=by omega
 have b5:(k:Int)≤(cap:Int):=by omega
 rw[show W.drew.setCells g (k*3) news=W1 from hW1.symm] at hdel hgr
 rw[←hL]
 clear hz hW1 hget hcell hnews hlen hfl hsz h1 h2 h3 h4 ho hheap hheap1 hsz1 hcs hg hb htop hL
 go_enter Tryz.func73,Tryz.ntmps73
 go_wp2_with fail
 go_region_law (refine step_append_room rfl (.tmp 22) (.tmp 25) 60 rfl 66 i0 3 Tryz.underlying60 hi0 hz0 g 0 k cap (by simp[Act.eval,Act.put]) A (L - (k+1)) (cap - (k+1)) news (by simp[Act.eval,Act.put]) s1.out hsrc.out s2.out (by omega) s3.out ?_;rw[←HW1.out])
 all_goals
  obtain ⟨m,hm⟩:∃m,m=k+(L - (k+1)):=⟨_,rfl⟩
  rw[←hm] at hcl e5 ⊢
  have hm1:m+1=L:=by omega
  have hm2:¬(cap=m):=by omega
  have hm3:(m:Int)≤(L:Int):=by omega
  have hm4:(0:Int)≤(m:Int):=by omega
  rw[e5] at hcl
  have HDEL:=hdel.out
  have HGR:=hgr.out
  rw[e5] at HDEL HGR
  have HD:=Zh HDEL
  have HG:=Zh HGR
  clear hm hm1 HDEL HGR hdel hgr e5 b1 b2 b3
  go_wp2_with fail
  go_ret
  exact ⟨⟨_,rfl,HD.out,rfl⟩,HG.out⟩
theorem zFY{α:Type}{l:List α}{k:Nat}{x:α}(h:x∈l.eraseIdx k):x∈l:=List.mem_of_mem_eraseIdx h
theorem zMv(base:Nat)(v:Value)(ys:List KpD)(k:Nat)(W:World)(hd:DK W base v ys)(hk:k<ys.length) :
  Calls Tryz.prog 73 #[v,.int .i64 k,.int .i64 ((k:Int)+1)] W fun e w'=>(∃v',e=.returned v'∧DK w' base v' (ys.eraseIdx k)∧v'.ownBlock=v.ownBlock)∧W.grownBy w' v.ownBlock:=by
 refine (zJq (fun _=>False) base v ys k W hd.row hk).mono ?_
 rintro e w' ⟨⟨v',rfl,ho,hb⟩,hg⟩
 refine ⟨⟨v',rfl,⟨ho,fun y hy=>?_,hd.apart.sublist (List.eraseIdx_sublist ..)⟩,hb⟩,hg⟩
 obtain ⟨h1,h2,h3,h4⟩:=hd.vals y (zFY hy)
 refine ⟨h1.kept hg ?_,h2,h3,fun i j hi hj e=>h4 i j hi (by rw[←hb];exact hj) e⟩
 cases hq:y.2.ownBlock with
 | none=>exact Or.inl rfl
 | some j=>right;intro e;exact h4 j j hq e.symm rfl
theorem DP.setK{w w1:World}{base:Nat}{v:Value}{zs:List PrD}(h:DP w base v zs){g L cap:Nat}(hv:v=.slice (some ⟨g,0,none⟩) L cap){i:Nat}{z:PrD}(hz:zs[i]?=some z)(hg1:w.grownBy w1 z.1.2.2.ownBlock){u':Value}{ys':List KpD}(hd:DK w1 base u' ys')(hu:u'.ownBlock=z.1.2.2.ownBlock)(hys:∀y∈ys',y∈z.2) :
  DP (w1.setCell ⟨g,i*3+2,none⟩ u') base v (zs.set i ((z.1.1,z.1.2.1,u'),ys')):=by
 subst hv
 obtain ⟨hz1,hz2,hz3⟩:=h.each z (List.mem_of_getElem? hz)
 have hfoot:∀k,zMx u' ys' k→zDu z k:=fun k hk=>by
  rcases hk with hk|⟨y,hy,hk⟩
  ·exact Or.inl (by rw[←hu];exact hk)
  ·exact Or.inr ⟨y,hys y hy,hk⟩
 have hg:g≠g→False:=fun h=>h rfl
 have hd1:zAF (fun k=>z.1.2.2.ownBlock=some k) w w1:=zAF.of_grown hg1
 have hd2:zAF (fun k=>k=g) w1 (w1.setCell ⟨g,i*3+2,none⟩ u'):=(zAF.of_grown (zAC w1 ⟨g,i*3+2,none⟩ u')).mono fun k _ hk=>by cases hk;rfl
 have hrow:=RPC.anyE (E':=fun _=>False) ((RPC.anyE (E':=fun k=>z.1.2.2.ownBlock=some k) h.row).later hd1 (fun k hk hk2=>hz3 k (Or.inl hk2) hk))
 obtain ⟨a,c,e,_⟩:=hd.isKepts.opened
 have hs:∃a n c,u'=.slice a n c:=⟨a,_,c,e⟩
 have hone:u'.oneCell'=true:=by rw[e];rfl
 have hset:zAK 3 RPC (fun _=>False) (w1.setCell ⟨g,i*3+2,none⟩ u') 62 base (.slice (some ⟨g,0,none⟩) L cap) (zs.set i ((z.1.1,z.1.2.1,u'),ys')):=by
  obtain ⟨r,g',hg',hl,h1,hc,hf⟩:=hrow.get hz
  simp only[Value.ownBlock,Option.some.injEq] at hg'
  subst hg'
  obtain ⟨rfl,_⟩:=hf.now
  exact hrow.set (j:=2) hz rfl hl hc (by omega) hone (fun _ _=>⟨rfl,hs⟩)
 have hil:=(List.getElem?_eq_some_iff.1 hz).1
 refine ⟨hset,fun x hx=>?_,?_⟩
 ·obtain ⟨j,hj⟩:=List.getElem?_of_mem hx
  rw[List.getElem?_set] at hj
  by_cases hij:i=j
  ·subst hij
   rw[if_pos rfl,if_pos hil] at hj
   cases hj
   exact ⟨hd.frame hd2 (fun k hk e=>hz3 k (hfoot k hk) (by rw[e];rfl)),hz2,fun k hk=>hz3 k (hfoot k hk)⟩
  ·rw[if_neg hij] at hj
   obtain ⟨h1,h2,h3⟩:=h.each x (List.mem_of_getElem? hj)
   have hap:=zCQ zCd h.apart hz hj hij
   exact ⟨(h1.frame hd1 (fun k hk e=>hap k (Or.inl e) hk)).frame hd2 (fun k hk e=>h3 k hk (by rw[e];rfl)),h2,h3⟩
 ·refine zC3 zCd h.apart (fun j y hj hy k hk=>?_)
  exact zCQ zCd h.apart hz hy (fun e=>hj e.symm) k (hfoot k hk)
end Go.Proofs.YthgmphbkkojaoaaGreat
