/-
  The walk of the law's 'at'. The walk of the law's picked. The walks of the reference's places and ShareOf. The walk of the reference's Splits. The walk of the reference's CheckShares. The walk of the reference's made, of right shares. The plain law of the reference's Joins: what the first shares make is what Join makes, and all shares are of it exactly if no row is torn. The plain law of the vote: a content that has enough of the shares is the best one; what two contents have in common.
-/
import Derived.Test.YthgmphbkkojaoaaGreatQTries
set_option maxHeartbeats 4000000
namespace Go.Proofs.YthgmphbkkojaoaaGreat
set_option linter.unusedSectionVars false
variable [Zn]
open Go.RowKit
theorem zFR(w:World)(l:List Value)(T:TypeId)(n:Nat)(hn:n=w.heap.size):∀j u,l[j]?=some u→(w.alloc (.cells l.toArray T)).cell? ((⟨n,0,none⟩:Addr).add j)=some u:=by
 intro j u h
 subst hn
 rw[zEI,Nat.zero_add]
 unfold World.cell? World.alloc
 simpa using h
theorem zNC(k:Nat):zA5 (k+1)=zA5 k++[(k:Int)]:=by simp[zA5,List.range_succ]
set_option maxRecDepth 100000 in
theorem zPV(n:Nat)(W:World)(hn:n≤8) :
  Calls Tryz.prog 88 #[.int .i64 n] W fun e w'=>(∃v',e=.returned v'∧zAJ w' 3 W.heap.size v' (zA5 n))∧Below W.heap.size W w':=by
 go_enter Tryz.func88,Tryz.ntmps88
 go_wp2_with fail
 go_loopw[6,3] (fun i o wr=>∃k:Nat,k≤n∧i=.int .i64 k∧zAD W.heap.size W wr∧zAJ wr 3 W.heap.size o (zA5 k)) (fun i _ _=>n - (intOf i).toNat)
 case atStart=>exact ⟨0,by omega,rfl,zAD.refl W,by simpa[zA5] using zAJ.nil _ _ _⟩
 case round =>
  obtain ⟨k,hk,rfl,hS,ho⟩:=hrel
  have HST:=Zh (zNC k)
  have hll:(zA5 k).length≤8:=by rw[zB2];omega
  by_cases hlt:k<n
  ·have ik:I64 (k:Int):=⟨by omega,by omega⟩
   have hgs:=hS.2
   go_wp2_with (at_builtin;refine zAc rfl _ _ 36 rfl 3 Tryz.underlying36 zBD W.heap.size _ _ rfl (ho.stays (zAB wr _)) ⟨wr.heap.size,0,none⟩ 1 (k:Int) rfl (by simp) ik (by omega) (by simp;omega) ?_;intro v' w2 ho2 hg2)
   have S2:=(hS.alloc (.cells #[.int .i64 (k:Int)] 3)).own (ho.stays (zAB wr _)) hg2
   have HO2:=Zh ho2
   clear ho2 hg2 ho
   go_roundw
   case rel=>exact ⟨k+1,by omega,by go_num,S2,by rw[HST.out];exact HO2.out⟩
   case measure=>simp[intOf];omega
  ·obtain rfl:k=n:=by omega
   have HO:=Zh ho
   clear ho
   go_wp2_with fail
   go_ret
   exact ⟨⟨_,rfl,HO.out⟩,hS.below⟩
theorem zOc{n:Nat}{data:List Int}{r j:Nat}{z:Int}(h:data[r*n+j]?=some z):data.getD (r*n+j) 0=z:=by simp[List.getD_eq_getElem?_getD,h]
def zHb(n:Nat)(data:List Int)(r m:Nat):List Int:=(List.range m).map (fun j=>data.getD (r*n+j) 0)++List.replicate (n - m) 0
theorem zQI(n:Nat)(data:List Int)(r:Nat):zHb n data r 0=List.replicate n 0:=by simp[zHb]
theorem zSR(n:Nat)(data:List Int)(r:Nat):zHb n data r n=zFF n data r:=by simp[zHb,zFF]
theorem zM5{n m:Nat}(data:List Int)(r:Nat)(h:m≤n):(zHb n data r m).length=n:=by simp[zHb];omega
theorem zKl{n m:Nat}(data:List Int)(r:Nat)(h:m<n){z:Int}(hz:data.getD (r*n+m) 0=z):(zHb n data r m).set m z=zHb n data r (m+1):=by
 subst hz
 have hl:((List.range m).map (fun j=>data.getD (r*n+j) 0)).length=m:=by simp
 unfold zHb
 rw[List.set_append_right _ _ (by rw[hl];exact Nat.le_refl _),hl,Nat.sub_self,show n - m=(n - (m+1))+1 by omega,List.replicate_succ,List.set_cons_zero,List.range_succ,List.map_append]
 simp
theorem zQN{n m:Nat}(data:List Int)(r:Nat)(h:m<n)(hz:data.length≤r*n+m):zHb n data r m=zHb n data r (m+1):=by
 have h1:data.getD (r*n+m) 0=0:=by simp[List.getD_eq_getElem?_getD,List.getElem?_eq_none hz]
 have h2:=zKl data r h h1
 rw[←h2]
 symm
 apply List.ext_getElem?
 intro j
 rw[List.getElem?_set]
 by_cases hj:m=j
 ·subst hj
  have hl:((List.range m).map (fun j=>data.getD (r*n+j) 0)).length=m:=by simp
  rw[if_pos rfl,if_pos (by rw[zM5 data r (by omega)];exact h)]
  unfold zHb
  rw[List.getElem?_append_right (by rw[hl];exact Nat.le_refl _),hl,Nat.sub_self,List.getElem?_replicate,if_pos (by omega)]
 ·rw[if_neg hj]
def ShS(B3 B6 B7:Nat)(n k:Int)(vv:Value)(w:World):Prop:=
 w.cell? ⟨B3,0,none⟩=some (.int .i64 n)∧w.cell? ⟨B6,0,none⟩=some (.int .i64 0)∧w.cell? ⟨B6,1,none⟩=some (.slice none 0 0)∧w.frozen? ⟨B6,0,none⟩=false∧w.frozen? ⟨B6,1,none⟩=false ∧
 w.cell? ⟨B7,0,none⟩=some (.int .i64 k)∧w.cell? ⟨B7,1,none⟩=some vv∧w.frozen? ⟨B7,1,none⟩=false∧w.frozen? ⟨B7,0,none⟩=false
section
variable {B3 B6 B7 : Nat} {n k : Int} {vv : Value} {w w' : World}
theorem ShS.grown{row:Option Nat}(h:ShS B3 B6 B7 n k vv w)(hg:w.grownBy w' row)(n3:some B3≠row)(n6:some B6≠row)(n7:some B7≠row):ShS B3 B6 B7 n k vv w':=by
 obtain ⟨h0,h1,h2,h3,h4,h5,h6,h7,h8⟩:=h
 exact ⟨hg.cell h0 n3,hg.cell h1 n6,hg.cell h2 n6,zAW hg h1 h3 n6,zAW hg h2 h4 n6,hg.cell h5 n7,hg.cell h6 n7,zAW hg h6 h7 n7,zAW hg h5 h8 n7⟩
theorem ShS.below(h:ShS B3 B6 B7 n k vv w)(hb:Below w.heap.size w w'):ShS B3 B6 B7 n k vv w':=h.grown (zAi hb) (by simp) (by simp) (by simp)
theorem ShS.set7(h:ShS B3 B6 B7 n k vv w)(n3:B3≠B7)(n6:B6≠B7)(v:Value):ShS B3 B6 B7 n k v (w.setCell ⟨B7,1,none⟩ v):=by
 obtain ⟨h0,h1,h2,h3,h4,h5,h6,h7,h8⟩:=h
 exact ⟨(zAI w B7 1 v n3).trans h0,(zAI w B7 1 v n6).trans h1,(zAI w B7 1 v n6).trans h2,(zA1 w B7 1 v n6).trans h3,(zA1 w B7 1 v n6).trans h4,by go_simp,by go_simp,by go_simp,by go_simp⟩
end
set_option maxRecDepth 100000 in
theorem zCV(n o s:Nat)(v:Value)(data:List Int)(k:Nat)(W:World)(hd:zAG W v data)(hp:zAx n o s=0)(hnum:∀z∈data,0≤z∧z<31)(hk:k≤8) :
  Calls Tryz.prog 62 #[.agg #[.int .i64 n,.int .i64 o,.int .i64 s],v,.int .i64 k] W fun e w'=>(∃v',e=.returned (.agg #[.int .i64 k,v'])∧zAJ w' 3 W.heap.size v' (zAY n data (zAM n s) k).2)∧Below W.heap.size W w':=by
 obtain ⟨p1,p2,p3,p4,p5,p6⟩:=zAg hp
 obtain ⟨r1,r2,r3⟩:=zGq (n:=n) (s:=s) (by omega) (by omega) (by omega) (by omega)
 have HLO:=Zh (zEh hp)
 have HN:=Zh hnum
 obtain ⟨a,c,rfl,hca,⟨hma,hma',_⟩,_⟩:=hd.opened
 clear hp hnum
 have HD:=Zh hd
 go_enter Tryz.func62,Tryz.ntmps62
 go_upto_region 2 with fail
 obtain ⟨w0,hw0⟩:∃w0,w0=((W.alloc (.cells #[.int .i64 n,.int .i64 o,.int .i64 s] 49)).alloc (.cells #[.int .i64 0,.slice none 0 0] 64)).alloc (.cells #[.int .i64 k,.slice none 0 0] 64):=⟨_,rfl⟩
 have S0:zAD W.heap.size W w0:=by rw[hw0];exact (((zAD.refl W).alloc _).alloc _).alloc _
 have c1:w0.cell? ⟨W.heap.size,1,none⟩=some (.int .i64 o):=by rw[hw0];go_simp
 have c2:w0.cell? ⟨W.heap.size,2,none⟩=some (.int .i64 s):=by rw[hw0];go_simp
 have hsh:ShS W.heap.size (W.heap.size+1) (W.heap.size+1+1) n k (.slice none 0 0) w0:=by
  rw[hw0]
  exact ⟨by go_simp,by go_simp,by go_simp,by go_simp,by go_simp,by go_simp,by go_simp,by go_simp,by go_simp⟩
 have hz0:w0.heap.size=W.heap.size+1+1+1:=by rw[hw0];simp
 rw[←hw0]
 clear hw0
 obtain ⟨B7,hB7⟩:∃B,B=W.heap.size+1+1:=⟨_,rfl⟩
 obtain ⟨B6,hB6⟩:∃B,B=W.heap.size+1:=⟨_,rfl⟩
 obtain ⟨B3,hB3⟩:∃B,B=W.heap.size:=⟨_,rfl⟩
 rw[←hB7,←hB6,←hB3] at hsh
 rw[←hB7,←hB6,←hB3]
 rw[←hB3] at c1 c2
 have hb3:W.heap.size≤B3:=by omega
 have hb6:W.heap.size≤B6:=by omega
 have hb7:W.heap.size≤B7:=by omega
 have h37:B3≠B7:=by omega
 have h67:B6≠B7:=by omega
 have h3l:B3<w0.heap.size:=by omega
 have h6l:B6<w0.heap.size:=by omega
 have h7l:B7<w0.heap.size:=by omega
 clear hB7 hB6 hB3 hz0
 have hsh0:=hsh
 obtain ⟨k30,_⟩:=hsh0
 go_wp2_with fail
 refine (zFr n o s _).mono ?_
 rintro e w1 ⟨rfl,hb1⟩
 rw[HLO.out]
 have S1:=S0.step hb1
 have hsh1:=hsh.below hb1
 have hsz1:w0.heap.size≤w1.heap.size:=hb1.size
 clear hb1 hsh c1 c2 k30 S0
 generalize hR:zAM n s=R at *
 have HR:=Zh hR
 clear hR
 go_wp2_with fail
 go_loopw[16] (fun i wr=>∃r:Nat,∃vv:Value,r≤R∧i=.int .i64 r∧zAD W.heap.size W wr∧w0.heap.size≤wr.heap.size∧ShS B3 B6 B7 n k vv wr∧zAJ wr 3 w0.heap.size vv ((List.range r).map (zCL n data k))) (fun i _=>R - (intOf i).toNat)
 case atStart=>exact ⟨0,_,by omega,rfl,S1,hsz1,hsh1,by simpa using zAJ.nil _ _ _⟩
 case round =>
  obtain ⟨r,vv,hr,rfl,hS,hsz,hsh,hv⟩:=hrel
  clear hsh1 hsz1 S1
  have hsh0:=hsh
  obtain ⟨k30,k60,k61,f60,f61,k70,k71,f71,_⟩:=hsh0
  by_cases hlt:r<R
  ·obtain ⟨av,cv,rfl,_⟩:=hv.isInts.opened
   have HSH:=Zh hsh
   have HV:=Zh hv
   clear hsh hv k60 k61 f60 f61 k70 k71 f71
   have hb2:w0.heap.size≤wr.heap.size:=hsz
   go_wp2_with (refine zFG rfl _ _ _ rfl 3 Tryz.underlying36 zBD w0.heap.size _ n rfl rfl rfl (by omega) hb2 ?_;intro w2 hy2 hg2)
   have hsh2:=HSH.out.grown hg2 (by simp) (by simp) (by simp)
   have hv2:=HV.out.kept hg2 (by cases (Value.slice av ((List.range r).map (zCL n data k)).length cv).ownBlock<;>simp)
   have S2:=hS.grown hg2 (fun q hq=>by cases hq)
   have hgy:(Value.slice av ((List.range r).map (zCL n data k)).length cv).ownBlock≠some wr.heap.size:=fun e=>by have:=(HV.out.1.lt _ e).2;omega
   obtain ⟨gy,hgy0⟩:∃gy,gy=wr.heap.size:=⟨_,rfl⟩
   rw[←hgy0] at hy2 hgy ⊢
   have hgy1:w0.heap.size≤gy:=by omega
   have hsz2:w0.heap.size≤w2.heap.size:=Nat.le_trans hsz hg2.size
   obtain ⟨rn,hrn⟩:∃rn,rn=r*n:=⟨_,rfl⟩
   have hrn1:rn+n≤R*n:=by
    have:(r+1)*n≤R*n:=Nat.mul_le_mul_right _ hlt
    rw[Nat.add_mul,Nat.one_mul,←hrn] at this
    exact this
   have hrn2:(r:Int)*(n:Int)=(rn:Int):=by rw[hrn,Int.natCast_mul]
   have hrn3:rn≤28:=by omega
   have HRN:=Zh hrn
   clear hrn k30 hg2 hgy0 hS hsz
   obtain ⟨L,hL⟩:∃L,L=(List.range r).map (zCL n data k):=⟨_,rfl⟩
   rw[←hL] at hv2 hgy hsh2
   have HL:=Zh hL
   clear hL HV HSH
   go_loopw[24] (fun i wr=>∃m:Nat,m≤n∧i=.int .i64 m∧zAD W.heap.size W wr∧w0.heap.size≤wr.heap.size∧ShS B3 B6 B7 n k (.slice av L.length cv) wr∧zAJ wr 3 w0.heap.size (.slice av L.length cv) L∧zAJ wr 3 w0.heap.size (.slice (some ⟨gy,0,none⟩) n n) (zHb n data r m)) (fun i _=>n - (intOf i).toNat)
   case atStart=>exact ⟨0,by omega,rfl,S2,hsz2,hsh2,hv2,by rw[zQI];exact hy2⟩
   case round =>
    obtain ⟨m,hm,rfl,hS,hsz,hsh,hv,hy⟩:=hrel
    clear S2 hsz2 hsh2 hv2 hy2
    have hsh0:=hsh
    obtain ⟨k30,k60,k61,f60,f61,k70,k71,f71,_⟩:=hsh0
    have HSH:=Zh hsh
    have HV:=Zh hv
    have hfl:=zM5 (n:=n) (m:=m) data r hm
    clear k60 k61 f60 f61 k70 k71 f71 hsh hv
    by_cases hlm:m<n
    ·have x1:IntKind.i64.wrap ((rn:Int)+(m:Int))=(rn:Int)+(m:Int):=IntWalk.i64_in _ (by omega)
     have x2:IntKind.i64.wrap (rn:Int)=(rn:Int):=IntWalk.i64_in _ (by omega)
     by_cases hin:rn+m<data.length
     ·have hz:data[rn+m]?=some data[rn+m]:=List.getElem?_eq_getElem hin
      obtain ⟨b1,o1,e1,q1,hiz⟩:=zC0 (HD.out.stays hS.below) hz
      subst e1
      have HFS:=Zh (zKl data r hlm (zOc (by rw[←HRN.out];exact hz)))
      generalize data[rn+m]=z at *
      have hyc:=hy.cell m (by rw[hfl];exact hlm)
      have hyf:=hy.free m
      have x3:(rn:Int)+(m:Int)<(data.length:Int):=by omega
      have x4:(0:Int)≤(rn:Int)+(m:Int):=by omega
      have x5:((rn:Int)+(m:Int)).toNat=rn+m:=by omega
      have hy2:=hy.stored m z hiz
      have S3:=hS.setCell (a:=⟨gy,m,none⟩) (show W.heap.size≤gy by omega) (.int .i64 z)
      have hv3:=HV.out.kept (zAC wr ⟨gy,m,none⟩ (.int .i64 z)) (Or.inr hgy)
      have hsh3:=HSH.out.grown (zAC wr ⟨gy,m,none⟩ (.int .i64 z)) (by simp;omega) (by simp;omega) (by simp;omega)
      have hsz3:w0.heap.size≤(wr.setCell ⟨gy,m,none⟩ (.int .i64 z)).heap.size:=by simpa using hsz
      clear hz hy hfl
      go_wp2_with fail
      go_roundw
      case rel=>exact ⟨m+1,by omega,by go_num,S3,hsz3,hsh3,hv3,by rw[←HFS.out];exact hy2⟩
      case measure=>simp[intOf];omega
     ·have HFS:=Zh (zQN data r hlm (by rw[←HRN.out];omega))
      have x3:¬((rn:Int)+(m:Int)<(data.length:Int)):=by omega
      clear hfl
      go_wp2_with fail
      go_roundw
      case rel=>exact ⟨m+1,by omega,by go_num,hS,hsz,HSH.out,HV.out,by rw[←HFS.out];exact hy⟩
      case measure=>simp[intOf];omega
    ·obtain rfl:n=m:=by omega
     rw[zSR] at hy
     have hpts:=zFP (n:=n) (data:=data) (by omega) (by omega) HN.out r
     have HPT:=Zh hpts
     have HVE:=Zh (show zUn (zA5 n) (zFF n data r) k=zCL n data k r from zRd hpts k)
     have HST:=Zh (show (List.range (r+1)).map (zCL n data k)=L++[zCL n data k r] by rw[HL.out,List.range_succ,List.map_append];rfl)
     have hpb:=zHE n data k r
     have ipv:I64 (zCL n data k r):=⟨by omega,by omega⟩
     have hll:L.length≤24:=by rw[HL.out];simp;omega
     have HY:=Zh hy
     obtain ⟨wo,hwo⟩:∃wo:World,wo=wr:=⟨_,rfl⟩
     rw[←hwo] at HY HV HSH hS hsz k30 ⊢
     clear hwo hpts hy hfl
     obtain ⟨k30,k60,k61,f60,f61,k70,k71,f71,k8⟩:=HSH.out
     go_upto_region 13 with fail
     have hshd:ShS B3 B6 B7 n k (.slice av L.length cv) wo.drew:=HSH.out
     go_region_law (first
      | (go_simp;go_at_call 88;refine (zPV n _ (by omega)).mono ?_;rintro e w5 ⟨⟨v5,rfl,ho5⟩,hb5⟩;have hsh5:=hshd.below hb5;have hsh50:=hsh5;obtain ⟨j30,_,_,_,_,_,j71,j72,_⟩:=hsh50;have hv5:=(show zAJ wo.drew 3 w0.heap.size (.slice av L.length cv) L from HV.out).stays hb5;have hy5:=(show zAJ wo.drew 3 w0.heap.size (.slice (some ⟨gy,0,none⟩) n n) (zFF n data r) from HY.out).stays hb5;have S5:=hS.drew.step hb5;have z5:w0.heap.size≤w5.heap.size:=Nat.le_trans hsz hb5.size)
      | (go_simp;go_at_call 87;refine (zI6 _ _ (zA5 n) (zFF n data r) k _ ho5.isInts hy5.isInts HPT.out (by omega) (by omega)).mono ?_;rintro e w6 ⟨rfl,hb6⟩;rw[HVE.out];have hsh6:=hsh5.below hb6;have hsh60:=hsh6;obtain ⟨i30,_,_,_,_,_,i71,i72,_⟩:=hsh60;have hv6:=hv5.stays hb6;have S6:=S5.step hb6;have z6:w0.heap.size≤w6.heap.size:=Nat.le_trans z5 hb6.size;have l7:=zAH i71)
      | (refine zIv rfl _ _ 36 rfl 3 Tryz.underlying36 zBD w0.heap.size _ L rfl (hv6.stays (zAB w6 _)) ⟨w6.heap.size,0,none⟩ 1 (zCL n data k r) rfl (by simp) ipv (by omega) (by simp;omega) ?_;intro v7 w7 ho7 hg7;have hsh7:=(hsh6.below (zAB w6 (.cells #[.int .i64 (zCL n data k r)] 3))).grown hg7 (fun e=>by have:=(hv6.1.lt B3 e.symm).1;omega) (fun e=>by have:=(hv6.1.lt B6 e.symm).1;omega) (fun e=>by have:=(hv6.1.lt B7 e.symm).1;omega);have hsh70:=hsh7;obtain ⟨g30,_,_,_,_,_,g71,g72,_⟩:=hsh70;have S7:=(S6.alloc (.cells #[.int .i64 (zCL n data k r)] 3)).grown hg7 (fun q hq=>by have:=(hv6.1.lt q hq).1;have:=S6.2;omega);have z7:w0.heap.size≤w7.heap.size:=Nat.le_trans z6 (Nat.le_trans (by simp) hg7.size);obtain ⟨a7,c7,rfl,_⟩:=ho7.isInts.opened))
     all_goals
      have hl7:(L++[zCL n data k r]).length=L.length+1:=by simp
      rw[hl7] at ho7
      have hsh8:=hsh7.set7 h37 h67 (.slice a7 (L.length+1) c7)
      have hv8:=ho7.kept (zAC w7 ⟨B7,1,none⟩ (.slice a7 (L.length+1) c7)) (by
       cases hk:(Value.slice a7 (L.length+1) c7).ownBlock with
       | none=>exact Or.inl rfl
       | some q=>right;intro e;have h1:=(ho7.1.lt q hk).1;have h2:q=B7:=(by simpa using e);omega)
      have S8:=S7.setCell (a:=⟨B7,1,none⟩) hb7 (.slice a7 (L.length+1) c7)
      have z8:w0.heap.size≤(w7.setCell ⟨B7,1,none⟩ (.slice a7 (L.length+1) c7)).heap.size:=by simpa using z7
      have HS8:=Zh hsh8
      clear hl7
      have HV8:=Zh hv8
      clear hsh5 hsh6 hsh7 hsh8 hv5 hv6 hv8 hy5 S5 S6 S7 k30 k60 k61 f60 f61 k70 k71 f71 k8 j30 j71 j72 i30 i71 i72 g30 g71 g72 hshd ho5 ho7 hg7 hb5 hb6 z5 z6 z7
      go_wp2_with fail
      go_roundw
      case rel=>exact ⟨r+1,_,by omega,by go_num,S8,z8,HS8.out,by rw[HST.out];exact HV8.out⟩
      case measure=>simp[intOf];omega
  ·obtain rfl:r=R:=by omega
   obtain ⟨av,cv,rfl,_⟩:=hv.isInts.opened
   have hlr:((List.range r).map (zCL n data k)).length=r:=by simp
   rw[hlr] at hv k71
   clear hlr
   have hv2:=(hv.kept ((zAC wr ⟨B6,0,none⟩ (.int .i64 k)).trans (zAC _ ⟨B6,1,none⟩ (.slice av r cv))) (by
    cases hk:(Value.slice av r cv).ownBlock with
    | none=>exact Or.inl rfl
    | some q=>right;intro e;have h1:=(hv.1.lt q hk).1;have h2:q=B6:=(by simpa using e);omega))
   have HV2:=Zh hv2
   have S2:=(hS.setCell (a:=⟨B6,0,none⟩) hb6 (.int .i64 k)).setCell (a:=⟨B6,1,none⟩) hb6 (.slice av r cv)
   have q0:((wr.setCell ⟨B6,0,none⟩ (.int .i64 k)).setCell ⟨B6,1,none⟩ (.slice av r cv)).cell? ⟨B6,0,none⟩=some (.int .i64 k):=by go_simp
   have q1:((wr.setCell ⟨B6,0,none⟩ (.int .i64 k)).setCell ⟨B6,1,none⟩ (.slice av r cv)).cell? ⟨B6,1,none⟩=some (.slice av r cv):=by go_simp
   clear hv hv2
   go_wp2_with fail
   exact bodyPost_ret (v:=.agg #[.int .i64 k,.slice av r cv]) (by simp[results,Tryz.results62,go_sem,q0,q1]) rfl ⟨⟨_,rfl,by rw[HR.out];exact HV2.out.mono (show W.heap.size≤w0.heap.size by omega)⟩,S2.below⟩
theorem zNB(n:Nat)(data:List Int)(k r:Nat):zAV n data (k+1) r=zAV n data k r++[zAY n data r k]:=by simp[zAV,List.range_succ]
set_option maxRecDepth 100000 in
theorem zJ8(n o s:Int)(v:Value)(data:List Int)(W:World)(hd:zAG W v data)(hE:zAx n o s≠0∨zAx n o s=0∧(data.length:Int)≠s) :
  Calls Tryz.prog 57 #[.agg #[.int .i64 n,.int .i64 o,.int .i64 s],v] W fun e w'=>e=.returned (.tuple #[.slice none 0 0,.int .i64 (zAe n o s data)])∧Below W.heap.size W w':=by
 obtain ⟨a,c,rfl,_⟩:=hd.opened
 have S0:=(zAD.refl W).alloc (.cells #[.int .i64 n,.int .i64 o,.int .i64 s] 49)
 have c2:(W.alloc (.cells #[.int .i64 n,.int .i64 o,.int .i64 s] 49)).cell? ⟨W.heap.size,2,none⟩=some (.int .i64 s):=by go_simp
 clear hd
 rcases hE with h|⟨h,h2⟩
 ·have HE:=Zh (show zAe n o s data=zAx n o s by unfold zAe;rw[if_pos h])
  have hne:(zAx n o s != 0)=true:=by simpa using h
  clear h
  go_enter Tryz.func57,Tryz.ntmps57
  go_wp2_with fail
  refine (zBB n o s _).mono ?_
  rintro e w1 ⟨rfl,hb1⟩
  have S1:=S0.step hb1
  clear c2
  go_wp2_with fail
  go_ret2
  exact ⟨zDk HE.out.symm,S1.below⟩
 ·have HE:=Zh (show zAe n o s data=3 by unfold zAe;rw[if_neg (by simpa using h),if_pos h2])
  have hne:((data.length:Int) != s)=true:=by simpa using h2
  have HP:=Zh h
  clear h h2
  go_enter Tryz.func57,Tryz.ntmps57
  go_wp2_with fail
  refine (zBB n o s _).mono ?_
  rintro e w1 ⟨rfl,hb1⟩
  rw[HP.out]
  have S1:=S0.step hb1
  have d2:=(hb1.cell (p:=⟨W.heap.size,2,none⟩) (zAH c2)).trans c2
  clear c2
  go_wp2_with fail
  go_ret2
  exact ⟨zDk HE.out.symm,S1.below⟩
set_option maxRecDepth 100000 in
theorem zPy(n o s:Nat)(v:Value)(data:List Int)(W:World)(hd:zAG W v data)(hp:zAx n o s=0)(hl:data.length=s) :
  Calls Tryz.prog 57 #[.agg #[.int .i64 n,.int .i64 o,.int .i64 s],v] W fun e w'=>(∃v',e=.returned (.tuple #[v',.int .i64 (zAe n o s data)])∧zAN w' v' (zA4 n o s data))∧Below W.heap.size W w':=by
 obtain ⟨p1,p2,p3,p4,p5,p6⟩:=zAg hp
 have HE:=Zh (show zAe n o s data=zEn data by unfold zAe;rw[if_neg (by simpa using hp),if_neg (by omega)])
 have HP:=Zh hp
 have hne:((data.length:Int) != (s:Int))=false:=bne_eq_false_iff_eq.2 (by omega)
 have h24:data.length≤24:=by omega
 have HL:=Zh hl
 clear hp hl
 have HD:=Zh hd
 obtain ⟨a,c,rfl,_⟩:=hd.opened
 clear hd
 have S0:=(zAD.refl W).alloc (.cells #[.int .i64 n,.int .i64 o,.int .i64 s] 49)
 have c0:(W.alloc (.cells #[.int .i64 n,.int .i64 o,.int .i64 s] 49)).cell? ⟨W.heap.size,0,none⟩=some (.int .i64 n):=by go_simp
 have c1:(W.alloc (.cells #[.int .i64 n,.int .i64 o,.int .i64 s] 49)).cell? ⟨W.heap.size,1,none⟩=some (.int .i64 o):=by go_simp
 have c2:(W.alloc (.cells #[.int .i64 n,.int .i64 o,.int .i64 s] 49)).cell? ⟨W.heap.size,2,none⟩=some (.int .i64 s):=by go_simp
 go_enter Tryz.func57,Tryz.ntmps57
 go_upto_region 1 with fail
 generalize W.alloc (.cells #[.int .i64 n,.int .i64 o,.int .i64 s] 49)=w0 at *
 obtain ⟨B,hB⟩:∃B,B=W.heap.size:=⟨_,rfl⟩
 rw[←hB] at c0 c1 c2 ⊢
 clear hB
 have l0:=zAH c0
 have HC:Hid (∀w',zAD w0.heap.size w0 w'→(w'.cell? ⟨B,0,none⟩=some (.int .i64 n)∧w'.cell? ⟨B,1,none⟩=some (.int .i64 o)∧w'.cell? ⟨B,2,none⟩=some (.int .i64 s))):=Zh (fun w' q=>⟨(q.below.cell (p:=⟨B,0,none⟩) l0).trans c0,(q.below.cell (p:=⟨B,1,none⟩) l0).trans c1,(q.below.cell (p:=⟨B,2,none⟩) l0).trans c2⟩)
 have HDS:Hid (∀w',zAD w0.heap.size w0 w'→zAG w' (.slice a data.length c) data):=Zh (fun w' q=>HD.out.stays (S0.step q.below).below)
 go_wp2_with fail
 refine (zBB n o s _).mono ?_
 rintro e w1 ⟨rfl,hb1⟩
 rw[HP.out]
 have T1:=(zAD.refl w0).step hb1
 obtain ⟨d0,d1,d2⟩:=HC.out _ T1
 clear hb1 c0 c1 c2
 go_wp2_with fail
 clear d0 d1 d2
 go_loopw[23] (fun i wr=>∃k:Nat,k≤data.length∧i=.int .i64 k∧zAD w0.heap.size w0 wr∧zEn (data.drop k)=zEn data) (fun i _=>data.length - (intOf i).toNat)
 case atStart=>exact ⟨0,by omega,rfl,T1,rfl⟩
 case round =>
  obtain ⟨k,hk,rfl,hS,hq⟩:=hrel
  have HQ:=Zh hq
  clear hq
  by_cases hlt:k<data.length
  ·have hz:data[k]?=some data[k]:=List.getElem?_eq_getElem hlt
   obtain ⟨b1,o1,e1,q1,hiz⟩:=zC0 (HDS.out wr hS) hz
   subst e1
   have HDR:=Zh (zAr hz)
   generalize data[k]=z at *
   clear hz
   go_wp2_with fail
   refine (zFm z _).mono ?_
   rintro e w' ⟨rfl,rfl⟩
   by_cases hnz:0≤z∧z<31
   ·have hnn:=zKH (a:=z) hnz.1 hnz.2
    have HV:=Zh (show zEn (data.drop (k+1))=zEn data by rw[←HQ.out,HDR.out];simp[zEn,zCW.2 hnz])
    rw[hnn]
    clear hnn hnz q1
    go_wp2_with fail
    go_roundw
    case rel=>exact ⟨k+1,by omega,by go_num,hS,HV.out⟩
    case measure=>simp[intOf];omega
   ·have hnn:=zIq (a:=z) (by omega)
    have HV:=Zh (show zEn data=2 by rw[←HQ.out,HDR.out];simp[zEn,zDn.2 (show z<0∨31≤z by omega)])
    rw[hnn]
    clear hnn q1
    go_wp2_with fail
    go_ret2
    exact ⟨⟨_,zDk (by rw[HE.out,HV.out]),by rw[zFp (by rw[HE.out,HV.out];omega)];exact zAN.nil _⟩,(S0.step hS.below).below⟩
  ·obtain rfl:data.length=k:=by omega
   have hv0:zEn data=0:=by rw[←HQ.out,List.drop_length];rfl
   have HV:=Zh hv0
   have hnum:=(zFj data).1 hv0
   have HN:=Zh hnum
   obtain ⟨d0,d1,d2⟩:=HC.out _ hS
   have S2:=S0.step hS.below
   have T2:=hS
   clear hv0 hnum hS
   go_wp2_with fail
   clear d0 d1 d2
   go_loopw[33,9] (fun i t wr=>∃k:Nat,k≤o∧i=.int .i64 k∧zAD w0.heap.size w0 wr∧zAK 2 zBA (fun _=>False) wr 64 w0.heap.size t (zAV n data k (zAM n s))) (fun i _ _=>o - (intOf i).toNat)
   case atStart=>exact ⟨0,by omega,rfl,T2,by simpa[zAV] using zAK.nil _ _ _⟩
   case round =>
    obtain ⟨k,hk,rfl,hS,ho⟩:=hrel
    by_cases hlt:k<o
    ·obtain ⟨d0,d1,d2⟩:=HC.out _ hS
     have HST:=Zh (zNB n data k (zAM n s))
     have hll:(zAV n data k (zAM n s)).length≤8:=by rw[zBK];omega
     obtain ⟨at_,ct,rfl,_⟩:=ho.isRow.opened
     have HO:=Zh ho
     clear ho
     go_wp2_with fail
     refine (zCV n o s _ data k _ (HDS.out wr hS) HP.out HN.out (by omega)).mono ?_
     rintro e w3 ⟨⟨v3,rfl,ho3⟩,hb3⟩
     have S3:=hS.step hb3
     have hbl:=ho3.1.lt
     obtain ⟨a3,c3,rfl,_⟩:=ho3.isInts.opened
     rw[zF1] at ho3 hbl ⊢
     have hkN:(zAY n data (zAM n s) k).1=(k:Int):=rfl
     have HO3:=Zh (HO.out.stays hb3)
     have HFR:Hid (zA3 (fun q=>(Value.slice at_ (zAV n data k (zAM n s)).length ct).ownBlock=some q∨(fun _=>False) q) zBA (w3.alloc (.cells #[.int .i64 (k:Int),.slice a3 (zAM n s) c3] 64)) [.int .i64 (k:Int),.slice a3 (zAM n s) c3] (zAY n data (zAM n s) k)):=Zh (fun w' hw'=>⟨_,rfl,(ho3.isInts.stays (zAB _ _)).framed (fun q hq _=>by
      have h1:=(ho3.lies q hq).1
      rintro (h|h)
      ·have h2:=(HO.out.lt q h).2
       omega
      ·exact h) hw',by omega,by omega⟩)
     have hgs:=S3.2
     clear d0 d1 d2 ho3 hb3 hS
     go_wp2_with (at_builtin;refine zAd rfl _ _ 83 rfl 2 (fun _=>False) 64 Tryz.underlying83 _ 32 zDN rfl (by omega) (by omega) w0.heap.size _ (zAV n data k (zAM n s)) rfl (HO3.out.stays (zAB _ _)) ⟨w3.heap.size,0,none⟩ 1 [.int .i64 (k:Int),.slice a3 (zAM n s) c3] (zAY n data (zAM n s) k) rfl rfl (by intro w hw;simp at hw;rcases hw with rfl | rfl<;>rfl) (zFR w3 [.int .i64 (k:Int),.slice a3 (zAM n s) c3] 64 _ rfl) HFR.out (by omega) (by simp;omega) ?_;intro v6 w6 ho6 hg6 hat6)
     have S6:=(S3.alloc (.cells #[.int .i64 (k:Int),.slice a3 (zAM n s) c3] 64)).row (HO3.out.stays (zAB _ _)) hg6
     have HO6:=Zh ho6
     clear ho6 hg6 hat6
     go_roundw
     case rel=>exact ⟨k+1,by omega,by go_num,S6,by rw[HST.out];exact HO6.out⟩
     case measure=>simp[intOf];omega
    ·obtain rfl:k=o:=by omega
     have HO:=Zh ho
     obtain ⟨d0,d1,d2⟩:=HC.out _ hS
     clear ho
     go_wp2_with fail
     go_ret2
     exact ⟨⟨_,zDk (by rw[HE.out,HV.out]),by rw[zBw (by rw[HE.out,HV.out])];exact zA6 HO.out.isRow⟩,(S0.step hS.below).below⟩
theorem zPs(n o s:Int)(v:Value)(data:List Int)(W:World)(hd:zAG W v data) :
  Calls Tryz.prog 57 #[.agg #[.int .i64 n,.int .i64 o,.int .i64 s],v] W fun e w'=>(∃v',e=.returned (.tuple #[v',.int .i64 (zAe n o s data)])∧zAN w' v' (zA4 n o s data))∧Below W.heap.size W w':=by
 by_cases h:zAx n o s=0
 ·by_cases hl:(data.length:Int)=s
  ·obtain ⟨n,o,s,rfl,rfl,rfl⟩:=zCq h
   exact zPy n o s v data W hd h (by omega)
  ·exact (zJ8 n o s v data W hd (Or.inr ⟨h,hl⟩)).mono fun e w' ⟨he,hb⟩=>⟨⟨_,he,by rw[zFp (by unfold zAe;rw[if_neg (by simpa using h),if_pos hl];omega)];exact zAN.nil _⟩,hb⟩
 ·exact (zJ8 n o s v data W hd (Or.inl h)).mono fun e w' ⟨he,hb⟩=>⟨⟨_,he,by rw[zFp (by unfold zAe;rw[if_pos h];exact h)];exact zAN.nil _⟩,hb⟩
theorem zSP{ls:List Sh}{k:Nat}{t:Sh}(h:ls[k]?=some t)(M:Int):zII (ls.take (k+1)) M=(zII (ls.take k) M||decide (t.1=M)):=by
 rw[zAv h]
 simp[zII]
def zH3(B:Nat)(l:List Sh)(w:World):Prop:=∀j:Nat,j<8→w.cell? ⟨B,j,none⟩=some (.bool (zII l (j:Int)))∧w.frozen? ⟨B,j,none⟩=false
theorem zH3.below{B:Nat}{l:List Sh}{w w':World}(h:zH3 B l w)(hb:Below w.heap.size w w'):zH3 B l w':=fun j hj=>⟨zAA hb (h j hj).1,zAE hb (h j hj).1 (h j hj).2⟩
theorem zH3.set{B:Nat}{l l':List Sh}{w:World}{N:Nat}(h:zH3 B l w)(hN:N<8)(hl:∀M:Int,zII l' M=(zII l M||decide ((N:Int)=M))):zH3 B l' (w.setCell ⟨B,N,none⟩ (.bool true)):=by
 intro j hj
 obtain ⟨h1,h2⟩:=h j hj
 obtain ⟨g1,g2⟩:=h N hN
 by_cases hjN:N=j
 ·subst hjN
  refine ⟨?_,?_⟩
  ·rw[hl]
   simpa using World.cell?_setCell_same _ _ _ g1
  ·go_simp
 ·refine ⟨?_,?_⟩
  ·rw[hl,(World.cell?_setCell_other (a:=⟨B,N,none⟩) (b:=⟨B,j,none⟩) _ _ (by intro e;have:N=j:=congrArg Addr.off e;exact hjN this)),h1]
   have:decide ((N:Int)=(j:Int))=false:=by simp;omega
   rw[this,Bool.or_false]
  ·rw[World.frozen?_setCell]
   exact h2
set_option maxRecDepth 100000 in
theorem zK4(n o s:Int)(v:Value)(ls:List Sh)(W:World)(hd:zAN W v ls)(hE:zAx n o s≠0∨zAx n o s=0∧8<(ls.length:Int)) :
  Calls Tryz.prog 104 #[.agg #[.int .i64 n,.int .i64 o,.int .i64 s],v] W fun e w'=>e=.returned (.int .i64 (zAb n o s ls))∧Below W.heap.size W w':=by
 obtain ⟨a,c,rfl,_⟩:=hd.opened
 have S0:=(zAD.refl W).alloc (.cells #[.int .i64 n,.int .i64 o,.int .i64 s] 49)
 clear hd
 rcases hE with h|⟨h,h2⟩
 ·have HE:=Zh (show zAb n o s ls=zAx n o s by unfold zAb;rw[if_pos h])
  have hne:(zAx n o s != 0)=true:=by simpa using h
  clear h
  go_enter Tryz.func104,Tryz.ntmps104
  go_wp2_with fail
  refine (zBB n o s _).mono ?_
  rintro e w1 ⟨rfl,hb1⟩
  have S1:=S0.step hb1
  go_wp2_with fail
  go_ret
  exact ⟨zAL HE.out.symm,S1.below⟩
 ·have HE:=Zh (show zAb n o s ls=1 by unfold zAb;rw[if_neg (by simpa using h),if_pos h2])
  have HP:=Zh h
  clear h
  go_enter Tryz.func104,Tryz.ntmps104
  go_wp2_with fail
  refine (zBB n o s _).mono ?_
  rintro e w1 ⟨rfl,hb1⟩
  rw[HP.out]
  have S1:=S0.step hb1
  go_wp2_with fail
  go_ret
  exact ⟨zAL HE.out.symm,S1.below⟩
set_option maxRecDepth 100000 in
theorem zOJ(n o s:Nat)(v:Value)(ls:List Sh)(W:World)(hd:zAN W v ls)(hp:zAx n o s=0)(hl:ls.length≤8) :
  Calls Tryz.prog 104 #[.agg #[.int .i64 n,.int .i64 o,.int .i64 s],v] W fun e w'=>e=.returned (.int .i64 (zAb n o s ls))∧Below W.heap.size W w':=by
 obtain ⟨p1,p2,p3,p4,p5,p6⟩:=zAg hp
 have HE:=Zh (show zAb n o s ls=if zAw n o s [] ls≠0 then zAw n o s [] ls else if (ls.length:Int)<n then 7 else 0 by unfold zAb;rw[if_neg (by simpa using hp),if_neg (by omega)])
 have HP:=Zh hp
 clear hp
 have HD:=Zh hd
 obtain ⟨a,c,rfl,_⟩:=hd.opened
 clear hd
 have S0:=(zAD.refl W).alloc (.cells #[.int .i64 n,.int .i64 o,.int .i64 s] 49)
 have c0:(W.alloc (.cells #[.int .i64 n,.int .i64 o,.int .i64 s] 49)).cell? ⟨W.heap.size,0,none⟩=some (.int .i64 n):=by go_simp
 have c1:(W.alloc (.cells #[.int .i64 n,.int .i64 o,.int .i64 s] 49)).cell? ⟨W.heap.size,1,none⟩=some (.int .i64 o):=by go_simp
 have c2:(W.alloc (.cells #[.int .i64 n,.int .i64 o,.int .i64 s] 49)).cell? ⟨W.heap.size,2,none⟩=some (.int .i64 s):=by go_simp
 go_enter Tryz.func104,Tryz.ntmps104
 go_upto_region 1 with fail
 generalize W.alloc (.cells #[.int .i64 n,.int .i64 o,.int .i64 s] 49)=w0 at *
 obtain ⟨B,hB⟩:∃B,B=W.heap.size:=⟨_,rfl⟩
 rw[←hB] at c0 c1 c2 ⊢
 clear hB
 have l0:=zAH c0
 have HC:Hid (∀w',zAD w0.heap.size w0 w'→(w'.cell? ⟨B,0,none⟩=some (.int .i64 n)∧w'.cell? ⟨B,1,none⟩=some (.int .i64 o)∧w'.cell? ⟨B,2,none⟩=some (.int .i64 s))):=Zh (fun w' q=>⟨(q.below.cell (p:=⟨B,0,none⟩) l0).trans c0,(q.below.cell (p:=⟨B,1,none⟩) l0).trans c1,(q.below.cell (p:=⟨B,2,none⟩) l0).trans c2⟩)
 have HDS:Hid (∀w',zAD w0.heap.size w0 w'→zAN w' (.slice a ls.length c) ls):=Zh (fun w' q=>zAs HD.out (S0.step q.below).below)
 go_wp2_with fail
 refine (zBB n o s _).mono ?_
 rintro e w1 ⟨rfl,hb1⟩
 rw[HP.out]
 have T1:=(zAD.refl w0).step hb1
 clear hb1 c0 c1 c2
 go_upto_region 7 with fail
 have hs0:zH3 w1.heap.size [] (w1.alloc (.cells #[.bool false,.bool false,.bool false,.bool false,.bool false,.bool false,.bool false,.bool false] 104)):=by
  intro j hj
  rcases (by omega:j=0∨j=1∨j=2∨j=3∨j=4∨j=5∨j=6∨j=7) with rfl|rfl|rfl|rfl|rfl|rfl|rfl|rfl<;>exact ⟨by simp[zII],by go_simp⟩
 have T2:=T1.alloc (.cells #[.bool false,.bool false,.bool false,.bool false,.bool false,.bool false,.bool false,.bool false] 104)
 have hsz:=T1.2
 generalize w1.alloc (.cells #[.bool false,.bool false,.bool false,.bool false,.bool false,.bool false,.bool false,.bool false] 104)=w2 at *
 obtain ⟨B6,hB6⟩:∃B,B=w1.heap.size:=⟨_,rfl⟩
 rw[←hB6] at hs0 ⊢
 have hBB:w0.heap.size≤B6:=by omega
 clear hB6 hsz
 go_wp2_with fail
 go_loopw[20] (fun i wr=>∃k:Nat,k≤ls.length∧i=.int .i64 k∧zAD w0.heap.size w0 wr∧zH3 B6 (ls.take k) wr∧zAw n o s (ls.take k) (ls.drop k)=zAw n o s [] ls) (fun i _=>ls.length - (intOf i).toNat)
 case atStart=>exact ⟨0,by omega,rfl,T2,by simpa using hs0,by simp⟩
 case round =>
  obtain ⟨k,hk,rfl,hS,hsn,hq⟩:=hrel
  have HQ:=Zh hq
  clear hq hs0
  by_cases hlt:k<ls.length
  ·have hx:ls[k]?=some ls[k]:=List.getElem?_eq_getElem hlt
   obtain ⟨g,off,u,cu,rfl,k0,k1,hiv,hi1⟩:=zBZ (HDS.out wr hS) hx
   have HDR:=Zh (zAr hx)
   have HTK:=Zh (zSP hx)
   have HT2:=Zh (zAv hx)
   generalize ls[k]=t at *
   have S1:=hS.alloc (.cells #[.int .i64 t.1,.slice u t.2.length cu] 64)
   have hiv1:=hiv.stays (zAB wr (.cells #[.int .i64 t.1,.slice u t.2.length cu] 64))
   have hsn1:=hsn.below (zAB wr (.cells #[.int .i64 t.1,.slice u t.2.length cu] 64))
   have q0:(wr.alloc (.cells #[.int .i64 t.1,.slice u t.2.length cu] 64)).cell? ⟨wr.heap.size,0,none⟩=some (.int .i64 t.1):=by go_simp
   obtain ⟨d0,d1,d2⟩:=HC.out _ hS
   have ld:=zAH d0
   clear hx hiv hsn
   go_wp2_with fail
   refine (zGC n o s t.1 _ t.2 _ hiv1).mono ?_
   rintro e w3 ⟨rfl,hb3⟩
   have S3:=S1.step hb3
   have hsn3:=hsn1.below hb3
   have q3:=zAA hb3 q0
   obtain ⟨Bt,hBt⟩:∃Bt,Bt=wr.heap.size:=⟨_,rfl⟩
   rw[←hBt] at q3 ⊢
   clear k0 k1 d0 d1 d2 ld hb3 hiv1 hsn1 q0 hBt hS S1
   by_cases h1:zDy n o s t.1 t.2=0
   ·obtain ⟨g1,g2,_,_⟩:=zEH h1
    have H1:=Zh h1
    rw[h1]
    clear h1
    obtain ⟨m,hm⟩:=Int.eq_ofNat_of_zero_le g1
    have hm8:m<8:=by omega
    obtain ⟨e1,e2⟩:=hsn3 m hm8
    have HM:=Zh hm
    rw[hm] at q3
    have y1:(m:Int)<8:=by omega
    have y2:(0:Int)≤(m:Int):=by omega
    cases hh:zII (ls.take k) (m:Int) with
    | true =>
     rw[hh] at e1
     have HV:=Zh (show zAw n o s [] ls=5 by rw[←HQ.out,HDR.out];unfold zAw;rw[if_neg (by simpa using H1.out),if_pos (by rw[HM.out];exact hh)])
     clear hh hm
     go_wp2_with fail
     go_ret
     exact ⟨zAL (by rw[HE.out,HV.out];rfl),(S0.step S3.below).below⟩
    | false =>
     rw[hh] at e1
     have HV:=Zh (show zAw n o s (ls.take (k+1)) (ls.drop (k+1))=zAw n o s [] ls by
      rw[←HQ.out,HDR.out]
      conv=>rhs;unfold zAw
      rw[if_neg (by simpa using H1.out),if_neg (by rw[HM.out];simp[hh])]
      rw[HT2.out])
     have hsn4:=hsn3.set (N:=m) (l':=ls.take (k+1)) hm8 (fun M=>by rw[HTK.out M,HM.out])
     have S4:=S3.setCell (a:=⟨B6,m,none⟩) hBB (.bool true)
     have HSN:=Zh hsn4
     clear hh hm hsn3 hsn4
     go_wp2_with fail
     go_roundw
     case rel=>exact ⟨k+1,by omega,by go_num,S4,HSN.out,HV.out⟩
     case measure=>simp[intOf];omega
   ·have HV:=Zh (show zAw n o s [] ls=zDy n o s t.1 t.2 by rw[←HQ.out,HDR.out];unfold zAw;rw[if_pos h1])
    have H1:=Zh h1
    have hne:(zDy n o s t.1 t.2 != 0)=true:=by simpa using h1
    clear h1 q3
    go_wp2_with fail
    go_ret
    exact ⟨zAL (by rw[HE.out,HV.out,if_pos H1.out]),(S0.step S3.below).below⟩
  ·obtain rfl:ls.length=k:=by omega
   have hv0:zAw n o s [] ls=0:=by rw[←HQ.out,List.drop_length];rfl
   have HV:=Zh hv0
   obtain ⟨d0,d1,d2⟩:=HC.out _ hS
   clear hv0
   by_cases hf:(ls.length:Int)<n
   ·have HF:=Zh hf
    go_wp2_with fail
    go_ret
    exact ⟨zAL (by rw[HE.out,HV.out,if_neg (by simp),if_pos HF.out]),(S0.step hS.below).below⟩
   ·have HF:=Zh hf
    go_wp2_with fail
    go_ret
    exact ⟨zAL (by rw[HE.out,HV.out,if_neg (by simp),if_neg (by have:=HF.out;omega)]),(S0.step hS.below).below⟩
theorem zJ3(n o s:Int)(v:Value)(ls:List Sh)(W:World)(hd:zAN W v ls) :
  Calls Tryz.prog 104 #[.agg #[.int .i64 n,.int .i64 o,.int .i64 s],v] W fun e w'=>e=.returned (.int .i64 (zAb n o s ls))∧Below W.heap.size W w':=by
 by_cases h:zAx n o s=0
 ·by_cases hl:8<(ls.length:Int)
  ·exact zK4 n o s v ls W hd (Or.inr ⟨h,hl⟩)
  ·obtain ⟨n,o,s,rfl,rfl,rfl⟩:=zCq h
   exact zOJ n o s v ls W hd h (by omega)
 ·exact zK4 n o s v ls W hd (Or.inl h)
def zC6(n s:Nat)(ls:List Sh):Bool:=!zBl ((zCB n ls (zAM n s)).drop s)
def zFK(n s:Nat)(ls:List Sh):List Int:=if zC6 n s ls=true then (zCB n ls (zAM n s)).take s else []
theorem zIP{n s:Nat}{ls:List Sh}(h:zC6 n s ls=true):zFK n s ls=(zCB n ls (zAM n s)).take s:=by unfold zFK;rw[if_pos h]
theorem zR4{v:Value}{a b:Bool}(h:a=b):Ending.returned (.tuple #[v,.bool a])=.returned (.tuple #[v,.bool b]):=by rw[h]
set_option maxRecDepth 100000 in
theorem zTS(n o s:Nat)(v:Value)(ls:List Sh)(W:World)(hd:zAN W v ls)(hR:zBe n o s ls) :
  Calls Tryz.prog 107 #[.agg #[.int .i64 n,.int .i64 o,.int .i64 s],v] W fun e w'=>(∃v',e=.returned (.tuple #[v',.bool (zC6 n s ls)])∧zAG w' v' (zFK n s ls))∧Below W.heap.size W w':=by
 obtain ⟨p1,p2,p3,p4,p5,p6⟩:=zAg hR.plan
 obtain ⟨r1,r2,r3⟩:=zGq (n:=n) (s:=s) (by omega) (by omega) (by omega) (by omega)
 have hfew:=hR.few
 have hmany:=hR.many
 have HRT:=Zh hR
 have HLO:=Zh (zEh hR.plan)
 have HD:=Zh hd
 obtain ⟨a,c,rfl,hcc,⟨hcm,hcm',_⟩,_⟩:=hd.opened
 clear hd hR
 have S0:=(zAD.refl W).alloc (.cells #[.int .i64 n,.int .i64 o,.int .i64 s] 49)
 have c0:(W.alloc (.cells #[.int .i64 n,.int .i64 o,.int .i64 s] 49)).cell? ⟨W.heap.size,0,none⟩=some (.int .i64 n):=by go_simp
 have c1:(W.alloc (.cells #[.int .i64 n,.int .i64 o,.int .i64 s] 49)).cell? ⟨W.heap.size,1,none⟩=some (.int .i64 o):=by go_simp
 have c2:(W.alloc (.cells #[.int .i64 n,.int .i64 o,.int .i64 s] 49)).cell? ⟨W.heap.size,2,none⟩=some (.int .i64 s):=by go_simp
 go_enter Tryz.func107,Tryz.ntmps107
 go_upto_region 2 with fail
 generalize W.alloc (.cells #[.int .i64 n,.int .i64 o,.int .i64 s] 49)=w0 at *
 obtain ⟨B,hB⟩:∃B,B=W.heap.size:=⟨_,rfl⟩
 rw[←hB] at c0 c1 c2 ⊢
 clear hB
 have l0:=zAH c0
 have HC:Hid (∀w',zAD w0.heap.size w0 w'→(w'.cell? ⟨B,0,none⟩=some (.int .i64 n)∧w'.cell? ⟨B,1,none⟩=some (.int .i64 o)∧w'.cell? ⟨B,2,none⟩=some (.int .i64 s))):=Zh (fun w' q=>⟨(q.below.cell (p:=⟨B,0,none⟩) l0).trans c0,(q.below.cell (p:=⟨B,1,none⟩) l0).trans c1,(q.below.cell (p:=⟨B,2,none⟩) l0).trans c2⟩)
 have HDS:Hid (∀w',zAD w0.heap.size w0 w'→zAN w' (.slice a ls.length c) ls):=Zh (fun w' q=>zAs HD.out (S0.step q.below).below)
 clear c1 c2
 have hnc:(n:Int)≤(c:Int):=by omega
 have hn8:n≤ls.length:=hfew
 go_wp2_with fail
 clear c0
 go_loopw[22,6] (fun i x wr=>∃k:Nat,k≤n∧i=.int .i64 k∧zAD w0.heap.size w0 wr∧zAJ wr 3 w0.heap.size x (xsL k ls)) (fun i _ _=>n - (intOf i).toNat)
 case atStart=>exact ⟨0,by omega,rfl,zAD.refl w0,by simpa[xsL] using zAJ.nil _ _ _⟩
 case round =>
  obtain ⟨k,hk,rfl,hS,ho⟩:=hrel
  by_cases hlt:k<n
  ·have hx:ls[k]?=some ls[k]:=List.getElem?_eq_getElem (by omega)
   obtain ⟨g,off,u,cu,rfl,k0,k1,_,hi1⟩:=zBZ (HDS.out wr hS) hx
   have HST:=Zh (zOx hx)
   have hxl:(xsL k ls).length≤8:=by simp[xsL];omega
   generalize ls[k]=t at *
   have S1:=hS.alloc (.cells #[.int .i64 t.1,.slice u t.2.length cu] 64)
   have ho1:=ho.stays (zAB wr (.cells #[.int .i64 t.1,.slice u t.2.length cu] 64))
   have hgs:=hS.2
   clear hx ho hS
   go_wp2_with (at_builtin;refine zAc rfl _ _ 36 rfl 3 Tryz.underlying36 zBD w0.heap.size _ _ rfl (ho1.stays (zAB _ _)) ⟨wr.heap.size+1,0,none⟩ 1 t.1 rfl (by go_simp) hi1 (by omega) (by simp;omega) ?_;intro v' w2 ho2 hg2)
   have S2:=(S1.alloc (.cells #[.int .i64 t.1] 3)).own (ho1.stays (zAB _ _)) hg2
   have HO2:=Zh ho2
   clear ho2 hg2 ho1 k0 k1
   go_roundw
   case rel=>exact ⟨k+1,by omega,by go_num,S2,by rw[HST.out];exact HO2.out⟩
   case measure=>simp[intOf];omega
  ·obtain rfl:k=n:=by omega
   have hxi:=ho.isInts
   obtain ⟨ax,cx,rfl,_⟩:=hxi.opened
   have hS0:=hS
   obtain ⟨w1,hw1⟩:∃w1:World,w1=wr:=⟨_,rfl⟩
   rw[←hw1] at hxi hS0 ⊢
   clear hw1 ho hS
   obtain ⟨d0,d1,d2⟩:=HC.out _ hS0
   go_wp2_with fail
   refine (zFr k o s _).mono ?_
   rintro e w3 ⟨rfl,hb3⟩
   rw[HLO.out]
   have S3:=hS0.step hb3
   have HX:=Zh (hxi.stays hb3)
   have HC3:Hid (∀w',zAD w3.heap.size w3 w'→(w'.cell? ⟨B,0,none⟩=some (.int .i64 k)∧w'.cell? ⟨B,1,none⟩=some (.int .i64 o)∧w'.cell? ⟨B,2,none⟩=some (.int .i64 s))):=Zh (fun w' q=>HC.out w' (S3.step q.below))
   have HD3:Hid (∀w',zAD w3.heap.size w3 w'→zAN w' (.slice a ls.length c) ls):=Zh (fun w' q=>HDS.out w' (S3.step q.below))
   clear hb3 hxi hS0 d0 d1 d2
   go_wp2_with fail
   go_loopw[34,7] (fun i vd wr=>∃r:Nat,r≤zAM k s∧i=.int .i64 r∧zAD w3.heap.size w3 wr∧zAJ wr 3 w3.heap.size vd (zCB k ls r)) (fun i _ _=>zAM k s - (intOf i).toNat)
   case atStart=>exact ⟨0,by omega,rfl,zAD.refl w3,by simpa[zCB] using zAJ.nil _ _ _⟩
   case round =>
    obtain ⟨r,hr,rfl,hS,hdt⟩:=hrel
    obtain ⟨d0,d1,d2⟩:=HC3.out _ hS
    by_cases hlr:r<zAM k s
    ·obtain ⟨ad,cd,rfl,_⟩:=hdt.isInts.opened
     have hnc:(k:Int)≤(c:Int):=by omega
     go_wp2_with fail
     clear d0 d1 d2
     obtain ⟨wo,hwo⟩:∃wo:World,wo=wr:=⟨_,rfl⟩
     rw[←hwo] at hdt hS ⊢
     clear hwo
     go_loopw[42,11] (fun i vy wr=>∃m:Nat,m≤k∧i=.int .i64 m∧zAD wo.heap.size wo wr∧zAJ wr 3 wo.heap.size vy (ysL m ls r)) (fun i _ _=>k - (intOf i).toNat)
     case atStart=>exact ⟨0,by omega,rfl,zAD.refl wo,by simpa[ysL] using zAJ.nil _ _ _⟩
     case round =>
      obtain ⟨m,hm,rfl,hSw,hy⟩:=hrel
      by_cases hlm:m<k
      ·have hx:ls[m]?=some ls[m]:=List.getElem?_eq_getElem (by omega)
       obtain ⟨g,off,u,cu,rfl,k0,k1,hiv,hi1⟩:=zBZ (HD3.out wr (hS.step hSw.below)) hx
       have htl:=HRT.out.len _ (List.mem_of_getElem? hx)
       have HST:=Zh (zO9 r hx)
       have hyl:(ysL m ls r).length≤8:=by simp[ysL];omega
       generalize ls[m]=t at *
       have hz:t.2[r]?=some t.2[r]:=List.getElem?_eq_getElem (by omega)
       have HGD:=Zh (show t.2.getD r 0=t.2[r] by simp[List.getD_eq_getElem?_getD,hz])
       obtain ⟨b1,o1,e1,q1,hiz⟩:=zC0 hiv hz
       subst e1
       generalize t.2[r]=z at *
       have S1:=hSw.alloc (.cells #[.int .i64 t.1,.slice (some ⟨b1,o1,none⟩) t.2.length cu] 64)
       have hy1:=hy.stays (zAB wr (.cells #[.int .i64 t.1,.slice (some ⟨b1,o1,none⟩) t.2.length cu] 64))
       have hgs:=hSw.2
       have lq:=zAH q1
       have y1:(r:Int)<(t.2.length:Int):=by omega
       clear hx hy hSw hiv hz htl
       go_wp2_with (at_builtin;refine zAc rfl _ _ 36 rfl 3 Tryz.underlying36 zBD wo.heap.size _ _ rfl (hy1.stays (zAB _ _)) ⟨wr.heap.size+1,0,none⟩ 1 z rfl (by go_simp) hiz (by omega) (by simp;omega) ?_;intro v' w4 ho4 hg4)
       have S4:=(S1.alloc (.cells #[.int .i64 z] 3)).own (hy1.stays (zAB _ _)) hg4
       have HO4:=Zh ho4
       clear ho4 hg4 hy1 k0 k1 q1
       go_roundw
       case rel=>exact ⟨m+1,by omega,by go_num,S4,by rw[HST.out,HGD.out];exact HO4.out⟩
       case measure=>simp[intOf];omega
      ·obtain rfl:k=m:=by omega
       obtain ⟨ay,cy,rfl,_⟩:=hy.isInts.opened
       have hne:∀q,(Value.slice ad (zCB k ls r).length cd).ownBlock=some q→(Value.slice ay (ysL k ls r).length cy).ownBlock≠some q:=fun q hq e=>by
        have h1:=(hdt.1.lt q hq).2
        have h2:=(hy.1.lt q e).1
        omega
       have hdt2:=hdt.stays hSw.below
       have S2:=hS.step hSw.below
       have hpts:=HRT.out.pts r
       have HPT:=Zh hpts
       have hb0:=zDH k ls r
       have hb1:r*k≤28:=by
        have:r*k≤zAM k s*k:=Nat.mul_le_mul_right _ (by omega)
        omega
       have hb2:(zCB k ls r).length≤28:=by omega
       obtain ⟨d0,d1,d2⟩:=HC3.out _ S2
       have hyl:(ysL k ls r).length≤8:=by simp[ysL];omega
       obtain ⟨wy,hwy⟩:∃wy:World,wy=wr:=⟨_,rfl⟩
       rw[←hwy] at hdt2 S2 hy d0 ⊢
       clear hwy hpts hb0 hdt hS hSw d1 d2
       go_wp2_with fail
       clear d0
       go_loopw[57,7] (fun i vd wr=>∃j:Nat,j≤k∧i=.int .i64 j∧zAD w3.heap.size w3 wr∧zAJ wr 3 w3.heap.size vd (zCB k ls r++zLq k ls r j)∧zAJ wr 3 wo.heap.size (.slice ay (ysL k ls r).length cy) (ysL k ls r)∧(∀q,vd.ownBlock=some q→(Value.slice ay (ysL k ls r).length cy).ownBlock≠some q)) (fun i _ _=>k - (intOf i).toNat)
       case atStart=>exact ⟨0,by omega,rfl,S2,by simpa[zLq] using hdt2,hy,hne⟩
       case round =>
        obtain ⟨j,hj,rfl,hS,hdt,hy,hne⟩:=hrel
        have HNE:=Zh hne
        clear hne hdt2 S2
        obtain ⟨D,hDD⟩:∃D,D=zCB k ls r++zLq k ls r j:=⟨_,rfl⟩
        rw[←hDD] at hdt
        have HDD:=Zh hDD
        have hDl:D.length≤40:=by rw[hDD,List.length_append,zIO];omega
        clear hDD
        by_cases hlj:j<k
        ·obtain ⟨ad,cd,rfl,_⟩:=hdt.isInts.opened
         have HVE:=Zh (zRd HPT.out (j:Int))
         have HST:=Zh (zM9 k ls r j)
         have hpb:=zEk (xsL k ls) (ysL k ls r) (j:Int)
         have ipv:I64 (atV (xsL k ls) (ysL k ls r) (j:Int)):=⟨by omega,by omega⟩
         have HDT:=Zh hdt
         have HY:=Zh hy
         clear hdt hy
         go_wp2_with fail
         refine (zI6 _ _ (xsL k ls) (ysL k ls r) j _ (HX.out.stays hS.below) HY.out.isInts HPT.out (by omega) (by omega)).mono ?_
         rintro e w5 ⟨rfl,hb5⟩
         rw[HVE.out]
         have S5:=hS.step hb5
         have hdt5:=HDT.out.stays hb5
         have hy5:=HY.out.stays hb5
         have hgs:=S5.2
         have hylt:∀q,(Value.slice ay (ysL k ls r).length cy).ownBlock=some q→q<w5.heap.size:=fun q hq=>(hy5.1.lt q hq).2
         clear hb5 hS
         go_wp2_with (at_builtin;refine zBC rfl _ _ 36 rfl 3 Tryz.underlying36 zBD w3.heap.size (.slice ad D.length cd) D rfl (hdt5.stays (zAB _ _)) ⟨w5.heap.size,0,none⟩ 1 (atV (xsL k ls) (ysL k ls r) (j:Int)) rfl (by simp) ipv (by omega) (by simp;omega) ?_;intro v6 w6 ho6 hg6 hat6)
         have S6:=(S5.alloc (.cells #[.int .i64 (atV (xsL k ls) (ysL k ls r) (j:Int))] 3)).own (hdt5.stays (zAB _ _)) hg6
         have hy6:=(hy5.stays (zAB w5 (.cells #[.int .i64 (atV (xsL k ls) (ysL k ls r) (j:Int))] 3))).kept hg6 (by
          cases hq:(Value.slice ad D.length cd).ownBlock with
          | none=>cases (Value.slice ay (ysL k ls r).length cy).ownBlock<;>simp
          | some q=>exact Or.inr (HNE.out q hq))
         have hne6:∀q,v6.ownBlock=some q→(Value.slice ay (ysL k ls r).length cy).ownBlock≠some q:=fun q hq e=>by
          rcases hat6 with h|h
          ·rw[h] at hq
           exact HNE.out q hq e
          ·rw[h] at hq
           have h1:=hylt q e
           simp at hq
           omega
         have HO6:=Zh ho6
         clear ho6 hg6 hat6 hdt5 hy5 S5 hylt
         go_roundw
         case rel=>exact ⟨j+1,by omega,by go_num,S6,by rw[HST.out,←List.append_assoc,←HDD.out];exact HO6.out,hy6,hne6⟩
         case measure=>simp[intOf];omega
        ·obtain rfl:k=j:=by omega
         have HDT:=Zh hdt
         have HST:=Zh (zFu k ls r)
         clear hdt hy
         go_wp2_with fail
         go_roundw
         case rel=>exact ⟨r+1,by omega,by go_num,hS,by rw[HST.out,←HDD.out];exact HDT.out⟩
         case measure=>simp[intOf];omega
    ·obtain rfl:r=zAM k s:=by omega
     have hDl:=zDH k ls (zAM k s)
     have S6:=S3.step hS.below
     obtain ⟨D,hD⟩:∃D,D=zCB k ls (zAM k s):=⟨_,rfl⟩
     have HMB:=Zh (show zC6 k s ls = !zBl (D.drop s) by rw[hD];rfl)
     have HMC:Hid (zC6 k s ls=true→zFK k s ls=D.take s):=Zh (fun h=>by rw[hD];exact zIP h)
     rw[←hD] at hdt hDl
     have hsD:s≤D.length:=by omega
     have hDb:D.length≤28:=by omega
     have hdi:=hdt.isInts
     clear hD hDl hdt
     obtain ⟨a5,c5,rfl,hc5,⟨_,hcm5,_⟩,hdz⟩:=hdi.opened
     obtain ⟨b5,o5,_,rfl,_⟩:=hdz 0 (by omega)
     have htk:=hdi.take s hsD
     obtain ⟨wz,hwz⟩:∃wz:World,wz=wr:=⟨_,rfl⟩
     rw[←hwz] at hdi htk d0 d1 d2 S6 ⊢
     clear hdz hwz hS
     have HTK:=Zh htk
     have hld:=zAH d2
     have hsc5:(s:Int)≤(D.length:Int):=by omega
     by_cases hsc:s<c5
     ·have hfr:=hdi.from s hsD
      have HFR:=Zh hfr
      have hne5:¬(c5=s):=by omega
      obtain ⟨Z,hZ⟩:∃Z,Z=D.drop s:=⟨_,rfl⟩
      have HZL:=Zh (show Z.length=D.length - s by rw[hZ,List.length_drop])
      rw[←hZ] at HMB HFR
      clear hfr hdi htk hZ
      go_wp2_with fail
      obtain ⟨M,hM⟩:∃M,M=D.length - s:=⟨_,rfl⟩
      rw[←hM] at HFR HZL ⊢
      have hMb:M≤28:=by omega
      clear hM
      go_loopw[74] (fun i wr=>∃q:Nat,q≤M∧i=.int .i64 q∧wr=wz∧zBl (Z.drop q)=zBl Z) (fun i _=>M - (intOf i).toNat)
      case atStart=>exact ⟨0,by omega,rfl,rfl,rfl⟩
      case round =>
       obtain ⟨q,hq,rfl,rfl,hhn⟩:=hrel
       have HHN:=Zh hhn
       clear hhn
       by_cases hlq:q<M
       ·have hqZ:q<Z.length:=by rw[HZL.out];exact hlq
        have hz:Z[q]?=some Z[q]:=List.getElem?_eq_getElem hqZ
        obtain ⟨b1,o1,e1,q1,hiz⟩:=zC0 HFR.out hz
        cases e1
        have HDR:=Zh (zAr hz)
        generalize Z[q]=z at *
        clear hz hqZ
        by_cases hz0:z=0
        ·have hzz:(z != 0)=false:=by simpa using hz0
         have HNX:=Zh (show zBl (Z.drop (q+1))=zBl Z by rw[←HHN.out,HDR.out];simp[zBl,hz0])
         clear hz0
         go_wp2_with fail
         go_roundw
         case rel=>exact ⟨q+1,by omega,by go_num,by trivial,HNX.out⟩
         case measure=>simp[intOf];omega
        ·have hzz:(z != 0)=true:=by simpa using hz0
         have hmb:zC6 k s ls=false:=by rw[HMB.out,←HHN.out,HDR.out];simp[zBl,hz0]
         have HB0:=Zh hmb
         clear hz0 hmb
         go_wp2_with fail
         go_ret2
         exact ⟨⟨_,zR4 HB0.out.symm,by unfold zFK;rw[HB0.out,if_neg (by simp)];exact zAG.nil _⟩,(S0.step S6.below).below⟩
       ·have hmb:zC6 k s ls=true:=by rw[HMB.out,←HHN.out,List.drop_eq_nil_of_le (by rw[HZL.out];omega)];rfl
        have HB0:=Zh hmb
        clear hmb
        go_wp2_with fail
        go_ret2
        exact ⟨⟨_,zR4 HB0.out.symm,by rw[HMC.out HB0.out];exact HTK.out⟩,(S0.step S6.below).below⟩
     ·obtain rfl:s=c5:=by omega
      have hds:D.drop s=[]:=List.drop_eq_nil_of_le (by omega)
      rw[hds] at HMB
      have hnn:zBl []=false:=rfl
      rw[hnn] at HMB
      clear hds hnn hdi htk
      go_wp2_with fail
      go_loopw[74] (fun i wr=>i=.int .i64 0∧wr=wz) (fun _ _=>0)
      case atStart=>exact ⟨rfl,rfl⟩
      case round =>
       obtain ⟨rfl,rfl⟩:=hrel
       have HB0:Hid (zC6 k s ls=true):=Zh (by rw[HMB.out];rfl)
       go_wp2_with fail
       go_ret2
       exact ⟨⟨_,zR4 HB0.out.symm,by rw[HMC.out HB0.out];exact HTK.out⟩,(S0.step S6.below).below⟩
section
variable {n o s : Nat} {ls : List Sh}
theorem zTr(_h:zBe n o s ls)(hm:zC6 n s ls=true){i j:Nat}(hi:i<zAM n s)(hj:j<n):(zFK n s ls).getD (i*n+j) 0=atV (xsL n ls) (ysL n ls i) (j:Int):=by
 have hg:=zNN n ls hj (zAM n s) hi
 rw[zIP hm,List.getD_eq_getElem?_getD]
 by_cases hlt:i*n+j<s
 ·rw[List.getElem?_take,if_pos hlt,hg]
  rfl
 ·rw[List.getElem?_take,if_neg hlt]
  have h3:((zCB n ls (zAM n s)).drop s)[i*n+j - s]?=some (atV (xsL n ls) (ysL n ls i) (j:Int)):=by
   rw[List.getElem?_drop,show s+(i*n+j - s)=i*n+j by omega]
   exact hg
  have h4:=List.mem_of_getElem? h3
  unfold zC6 at hm
  simp[zBl] at hm
  exact (hm _ h4).symm
theorem zLx(h:zBe n o s ls)(hm:zC6 n s ls=true){i:Nat}(hi:i<zAM n s)(k:Nat):zCL n (zFK n s ls) k i=atV (xsL n ls) (ysL n ls i) (k:Int):=by
 obtain ⟨p1,p2,p3,p4,p5,p6⟩:=zAg h.plan
 have hrow:zFF n (zFK n s ls) i=(zA5 n).map (atV (xsL n ls) (ysL n ls i)):=by
  apply List.ext_getElem?
  intro j
  by_cases hj:j<n
  ·rw[zEr _ _ hj,zTr h hm hi hj,List.getElem?_map,zJi hj]
   rfl
  ·rw[List.getElem?_eq_none (by rw[zDl];omega),List.getElem?_eq_none (by rw[List.length_map,zB2];omega)]
 unfold zCL
 rw[hrow]
 refine (zTa (h.pts i) ?_ (zIH (by omega)) ?_).2 _
 ·unfold zA5
  refine List.pairwise_map.2 (List.Pairwise.imp ?_ List.pairwise_lt_range)
  intro a b hab e
  omega
 ·have:=h.few
  rw[zB2]
  simp[xsL];omega
def zCj(n s:Nat)(ls:List Sh)(t:Sh):Bool:=zCm t.1 t.1 t.2 (zAY n (zFK n s ls) (zAM n s) t.1.toNat).2
theorem zJ5(h:zBe n o s ls)(hm:zC6 n s ls=true){t:Sh}(ht:t∈ls):zCj n s ls t=true↔∀i,i<zAM n s→atV (xsL n ls) (ysL n ls i) t.1=t.2.getD i 0:=by
 have hn:=h.num t ht
 have hl:=h.len t ht
 have hk:((t.1.toNat:Nat):Int)=t.1:=by omega
 have e:zCj n s ls t=true↔t.2=(zAY n (zFK n s ls) (zAM n s) t.1.toNat).2:=by
  unfold zCj zCm zBV
  simp
 rw[e]
 constructor
 ·intro he i hi
  have h1:=zLx h hm hi t.1.toNat
  rw[hk] at h1
  rw[←h1,List.getD_eq_getElem?_getD]
  conv=>rhs;rw[he]
  rw[zEl _ _ _ hi]
  rfl
 ·intro hh
  apply List.ext_getElem?
  intro i
  by_cases hi:i<zAM n s
  ·have h1:=zLx h hm hi t.1.toNat
   rw[hk] at h1
   rw[zEl _ _ _ hi,h1,hh i hi,List.getD_eq_getElem?_getD,List.getElem?_eq_getElem (by omega)]
   rfl
  ·rw[List.getElem?_eq_none (by omega),List.getElem?_eq_none (by rw[zF1];omega)]
theorem zJ4(h:zBe n o s ls)(hm:zC6 n s ls=true):ls.all (zCj n s ls) = !zEJ n ls (zAM n s):=by
 rw[Bool.eq_iff_iff,List.all_eq_true,Bool.not_eq_true',zEJ,List.any_eq_false]
 constructor
 ·intro hall i hi
  have hi:=List.mem_range.1 hi
  unfold zJt
  rw[Bool.not_eq_true,List.any_eq_false]
  intro t ht
  have h1:=(zJ5 h hm (List.mem_of_mem_drop ht)).1 (hall t (List.mem_of_mem_drop ht)) i hi
  simp[h1]
 ·intro hall t ht
  refine (zJ5 h hm ht).2 fun i hi=>?_
  obtain ⟨m,hmt⟩:=List.getElem?_of_mem ht
  by_cases hmn:m<n
  ·have hl:=h.len t ht
   have hti:t.2[i]?=some t.2[i]:=List.getElem?_eq_getElem (by omega)
   rw[List.getD_eq_getElem?_getD,hti]
   refine zCv (h.pts i) (m:=m) ?_ ?_
   ·unfold xsL
    rw[List.getElem?_map,List.getElem?_take,if_pos hmn,hmt]
    rfl
   ·unfold ysL
    rw[List.getElem?_map,List.getElem?_take,if_pos hmn,hmt]
    simp[List.getD_eq_getElem?_getD,hti]
  ·have hd:t∈ls.drop n:=by
    refine List.mem_of_getElem? (i:=m - n) ?_
    rw[List.getElem?_drop,show n+(m - n)=m by omega]
    exact hmt
   have h1:=hall i (List.mem_range.2 hi)
   unfold zJt at h1
   rw[Bool.not_eq_true,List.any_eq_false] at h1
   have h2:=h1 t hd
   simpa using h2
theorem zN3(h:zBe n o s ls)(hc:zAb n o s ls=0):zBx n o s ls=if zC6 n s ls=true∧ls.all (zCj n s ls)=true then 0 else 9:=by
 unfold zBx
 rw[if_neg (by simpa using hc)]
 by_cases hm:zC6 n s ls=true
 ·rw[zJ4 h hm]
  have hn:zBl ((zCB n ls (zAM n s)).drop s)=false:=by unfold zC6 at hm;simpa using hm
  cases zEJ n ls (zAM n s)<;>simp[hm,hn]
 ·have hn:zBl ((zCB n ls (zAM n s)).drop s)=true:=by unfold zC6 at hm;simpa using hm
  cases zEJ n ls (zAM n s)<;>simp[hm,hn]
theorem zQs(h:zBe n o s ls)(hc:zAb n o s ls=0)(hm:zC6 n s ls=true)(ha:ls.all (zCj n s ls)=true):zBx n o s ls=0∧zCI n o s ls=zFK n s ls:=by
 have hE:zBx n o s ls=0:=by rw[zN3 h hc,if_pos ⟨hm,ha⟩]
 exact ⟨hE,by rw[zF2 hE,zIP hm];rfl⟩
theorem zUk(h:zBe n o s ls)(hc:zAb n o s ls=0)(hn:¬(zC6 n s ls=true∧ls.all (zCj n s ls)=true)):zBx n o s ls=9∧zCI n o s ls=[]:=by
 have hE:zBx n o s ls=9:=by rw[zN3 h hc,if_neg hn]
 exact ⟨hE,zJc (by rw[hE];omega)⟩
theorem zRi(_h:zBe n o s ls)(hm:zC6 n s ls=true):∀z∈zFK n s ls,0≤z∧z<31:=by
 intro z hz
 rw[zIP hm] at hz
 have hz:=List.mem_of_mem_take hz
 unfold zCB at hz
 rw[List.mem_flatten] at hz
 obtain ⟨r,hr,hz⟩:=hz
 obtain ⟨i,_,rfl⟩:=List.mem_map.1 hr
 unfold zUY zLq at hz
 obtain ⟨j,_,rfl⟩:=List.mem_map.1 hz
 exact zEk _ _ _
end
section
variable {n o s : Nat} {ls : List Sh}
theorem zMP:∀(cs:List (List Sh)) (st:Vs),cs.foldl (fun st c=>zCx n o s ls c st) st=st∨∃c∈cs,zBx n o s c=0∧cs.foldl (fun st c=>zCx n o s ls c st) st=(zCI n o s c,zEb (ofD n (zAM n s) (zCI n o s c)) 0 ls)
 | [],st=>Or.inl rfl
 | c::cs,st=>by
  rw[List.foldl_cons]
  rcases zMP cs (zCx n o s ls c st) with h|⟨d,hd,h1,h2⟩
  ·rw[h]
   unfold zCx
   by_cases hj:zBx n o s c=0
   ·rw[if_neg (by simpa using hj)]
    split
    ·exact Or.inr ⟨c,by simp,hj,rfl⟩
    ·exact Or.inl rfl
   ·rw[if_pos hj]
    exact Or.inl rfl
  ·exact Or.inr ⟨d,by simp[hd],h1,h2⟩
theorem zJD:zKI n o s ls=(zGe n [] ls).foldl (fun st c=>zCx n o s ls c st) ([],[]):=zGx _ _ _ _ _
theorem zHR(hR:zBe n o s ls){c:List Sh}(hc:c∈zGe n [] ls):zBe n o s c∧c.Sublist ls∧c.length=n:=by
 have hn:=(zAg hR.plan).1
 obtain ⟨q,rfl,h1,h2⟩:=(zFl (by simp;omega)).1 hc
 simp at h2
 exact ⟨hR.sub h1 (by omega),h1,by simpa using h2⟩
theorem zQu(hR:zBe n o s ls)(hE:zCF n o s ls=0):∃c∈zGe n [] ls,zBx n o s c=0∧zEs n o s ls=zCI n o s c∧zKI n o s ls=(zCI n o s c,zEb (ofD n (zAM n s) (zCI n o s c)) 0 ls):=by
 have h1:=zGy (n:=n) (o:=o) (s:=s) hR.checks
 rw[hE] at h1
 have hne:(zKI n o s ls).2≠[]:=by
  intro h
  rw[if_pos h] at h1
  cases h1
 rcases zMP (n:=n) (o:=o) (s:=s) (ls:=ls) (zGe n [] ls) ([],[]) with h|⟨c,hc,hj,h⟩
 ·rw[←zJD] at h
  rw[h] at hne
  exact absurd rfl hne
 ·rw[←zJD] at h
  exact ⟨c,hc,hj,by rw[zGp hE,h],h⟩
end
end Go.Proofs.YthgmphbkkojaoaaGreat
