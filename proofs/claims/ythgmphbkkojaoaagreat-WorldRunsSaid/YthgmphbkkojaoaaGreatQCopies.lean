/-
  The walks of a book's copy, and of what makes one. mesh.Copy walked. slices.SortStableFunc at a few ints of the call's own, with whatever closure that only reads. The walk of place.For. share.Split in one contract; what a slice of shares, of ints holds at a place.
-/
import Derived.Test.YthgmphbkkojaoaaGreatQDeeps
import Derived.Deep.DeepFit
import Derived.Test.YthgmphbkkojaoaaGreatRows
import Derived.BigRegion
set_option maxHeartbeats 4000000
namespace Go.Proofs.YthgmphbkkojaoaaGreat
set_option linter.unusedSectionVars false
variable [Zn]
open Go.RowKit
theorem zAz.one:zAz.One:=by
 rintro w cs x ⟨v,rfl,h,_⟩ c hc
 obtain ⟨a,cp,rfl,_⟩:=h.opened
 simp at hc
 rcases hc with rfl|rfl|rfl|rfl<;>rfl
theorem zLH:(Tryz.prog.info? 51).map (fun i=>(i.zero,i.size,i.bytes))=some (some (.agg #[.slice none 0 0,.int .i64 0,.int .i64 0,.int .i64 0]),4,48):=by kernel_rfl
theorem zCc(v:Value)(b:List Ver)(w0 w:World)(hw0:zAF (fun _=>False) w0 w)(hv:zAR w0 v b)(hb:b.length≤1000000) :
  Calls Tryz.prog 78 #[v] w fun e w'=>(∃v',e=.returned v'∧zAK 4 zAz (fun k=>w0.heap.size≤k) w' 51 w.heap.size v' b)∧Below w.heap.size w w':=by
 have hq:∀(w:World) (a:Option Addr) (n c n' c':Nat),(binOp .eql 22 (.slice a n c) (.slice none n' c')).run Tryz.prog w=.ok (.bool a.isNone) w:=fun w a n c n' c'=>Lib.run_eql_slice_nil w _ _ a n c n' c' Tryz.underlying22
 have hv0:=hv
 obtain ⟨ax,cx,rfl,hcx,hmx,hx⟩:=hv.opened
 obtain ⟨hm1,hm2,hm3⟩:=hmx
 cases ax with
 | none =>
  have hc0:=hm3 rfl
  have hl0:b=[]:=by
   cases b with
   | nil=>rfl
   | cons y r=>obtain ⟨b,off,e1,_⟩:=hx 0 y rfl;cases e1
  subst hc0 hl0
  clear hx
  go_enter Tryz.func78,Tryz.ntmps78
  go_wp2
  go_ret
  exact ⟨⟨_,rfl,zAK.nil _ _ _⟩,Below.refl _ _⟩
 | some ad =>
  clear hm3 hx hv
  have hown:=zAK.made (R:=zAz) (sz:=4) (E:=fun k=>w0.heap.size≤k) w 51
  have HV:=Zh hv0
  have HD:Hid (zAF (fun _=>False) w0 (w.alloc (.cells #[] 51))):=Zh (hw0.trans (zAF.old (zAB _ _) _))
  have hsz:=hw0.1
  clear hv0 hw0
  go_enter Tryz.func78,Tryz.ntmps78
  go_wp2_with (at_builtin;refine zCE rfl _ _ 22 rfl 4 _ 51 Tryz.underlying22 _ 48 zLH rfl (by omega) (by omega) w.heap.size _ [] rfl hown w0 HD.out b _ rfl HV.out zAz.stays zAz.one (by intro k hk;rcases hk with hk | hk;(cases hk;exact hsz);exact hk) (by simp;omega) (by simp) ?_;intro v' w1 hown1 hg1 _)
  go_ret
  exact ⟨⟨_,rfl,hown1⟩,zGv (zAB _ _) hown hg1 (by simp)⟩
theorem zSQ{E:Nat→Prop}{w:World}{e:TypeId}{base:Nat}{v:Value}{b:List Ver}(h:zAK 4 zAz E w e base v b){i:Nat}{x:Ver}(hx:b[i]?=some x) :
  ∃g cap u c,v=.slice (some ⟨g,0,none⟩) b.length cap∧base≤g∧g<w.heap.size∧b.length≤cap∧w.cell? ⟨g,i*4,none⟩=some (.slice u x.1.length c)∧w.cell? ⟨g,i*4+1,none⟩=some (.int .i64 x.2.1)∧w.cell? ⟨g,i*4+2,none⟩=some (.int .i64 x.2.2.1)∧w.cell? ⟨g,i*4+3,none⟩=some (.int .i64 x.2.2.2)∧zAG w (.slice u x.1.length c) x.1∧I64 x.2.1∧I64 x.2.2.1∧I64 x.2.2.2∧w.frozen? ⟨g,i*4,none⟩=false:=by
 obtain ⟨r,g,hg,hl,h1,hc,hf⟩:=h.get hx
 rcases h.shape with ⟨rfl,rfl⟩|⟨g',cap,cur,rfl,hb,hlt,hnc,_⟩
 ·simp at hx
 ·simp only[Value.ownBlock,Option.some.injEq] at hg
  subst hg
  obtain ⟨u,rfl,hu,i1,i2,i3⟩:=hf.now
  obtain ⟨a,c,rfl,_⟩:=hu.opened
  exact ⟨g',cap,a,c,rfl,hb,hlt,hnc,hc 0 _ rfl,hc 1 _ rfl,hc 2 _ rfl,hc 3 _ rfl,hu,i1,i2,i3,h.free rfl _⟩
def zNF(N:Nat→Prop)(cs:List Value):Prop:=∀u,cs[0]?=some u→∀k,Value.lies u k→N k
theorem zAK.copyPars{E N:Nat→Prop}{w:World}{e:TypeId}{base:Nat}{b:List Ver}{g cap L k:Nat}(h:zAK 4 (zJz zAz (zNF N)) E w e base (.slice (some ⟨g,0,none⟩) L cap) (zD4 b k)){x:Ver}(hx:b[k]?=some x){u:Value}(hu:zAG w u x.1)(hg:∀k,Value.lies u k→k≠g∧¬E k)(hN:∀k,Value.lies u k→N k) :
  zAK 4 (zJz zAz (zNF N)) E (w.setCell ⟨g,k*4,none⟩ u) e base (.slice (some ⟨g,0,none⟩) L cap) (zD4 b (k+1)):=by
 have hx':=zMU hx
 obtain ⟨r,g',hg',hl,h1,hc,hf⟩:=h.get hx'
 simp only[Value.ownBlock,Option.some.injEq] at hg'
 subst hg'
 have hone:u.oneCell'=true:=by obtain ⟨a,c,rfl,_⟩:=hu.opened;rfl
 obtain ⟨⟨u0,rfl,_,i1,i2,i3⟩,_⟩:=hf.now
 rw[←zKJ hx]
 refine h.set (j:=0) hx' rfl hl hc (by omega) hone ?_
 intro w' hw'
 refine ⟨⟨u,rfl,hu.framed (fun k hk _ hd=>?_) hw',i1,i2,i3⟩,fun _ u' hu' k hk=>?_⟩
 ·simp only[Value.ownBlock,Option.some.injEq] at hd
  rcases hd with hd|hd
  ·exact (hg k hk).1 hd.symm
  ·exact (hg k hk).2 hd
 ·simp at hu'
  subst hu'
  exact hN k hk
theorem zAK.copied{E E' N:Nat→Prop}{w:World}{e:TypeId}{base:Nat}{b:List Ver}{v:Value}(h:zAK 4 (zJz zAz (zNF N)) E w e base v (zD4 b b.length))(hN:∀k,N k→v.ownBlock≠some k∧¬E' k):zAK 4 zAz E' w e base v b:=by
 rw[zMO] at h
 have:=h.conv (R':=zAz) (E':=E') Prod.fst (fun cs x hx hf=>by
  obtain ⟨y,hy,rfl⟩:=List.mem_map.1 hx
  obtain ⟨⟨u,rfl,hu,i⟩,hC⟩:=hf.now
  intro w' hw'
  refine ⟨u,rfl,hu.framed (fun k hk _ hd=>?_) hw',i⟩
  have:=hN k (hC rfl u rfl k hk)
  rcases hd with hd|hd
  ·exact this.1 hd
  ·exact this.2 hd)
 simpa[Function.comp_def] using this
set_option maxRecDepth 100000 in
theorem zH1(v:Value)(b:List Ver)(W:World)(hv:zAR W v b)(hb:b.length≤1000000) :
  Calls Tryz.prog 48 #[.agg #[v]] W fun e w'=>(∃v',e=.returned (.agg #[v'])∧zAK 4 zAz (fun k=>k<W.heap.size) w' 51 W.heap.size v' b)∧Below W.heap.size W w':=by
 obtain ⟨a,c,rfl,hc,⟨hm,hcm,_⟩,_⟩:=hv.opened
 have S0:=((zAD.refl W).alloc (.cells #[.slice a b.length c] 24)).alloc (.cells #[.slice none 0 0] 24)
 have c0:((W.alloc (.cells #[.slice a b.length c] 24)).alloc (.cells #[.slice none 0 0] 24)).cell? ⟨W.heap.size,0,none⟩=some (.slice a b.length c):=by go_simp
 have f0:((W.alloc (.cells #[.slice a b.length c] 24)).alloc (.cells #[.slice none 0 0] 24)).frozen? ⟨W.heap.size,0,none⟩=false:=by go_simp
 have c1:((W.alloc (.cells #[.slice a b.length c] 24)).alloc (.cells #[.slice none 0 0] 24)).cell? ⟨W.heap.size+1,0,none⟩=some (.slice none 0 0):=by go_simp
 have f1:((W.alloc (.cells #[.slice a b.length c] 24)).alloc (.cells #[.slice none 0 0] 24)).frozen? ⟨W.heap.size+1,0,none⟩=false:=by go_simp
 obtain ⟨w0,hw0⟩:∃w0,w0=(W.alloc (.cells #[.slice a b.length c] 24)).alloc (.cells #[.slice none 0 0] 24):=⟨_,rfl⟩
 rw[←hw0] at S0 c0 f0 c1 f1
 have HW:=Zh hw0
 clear hw0
 obtain ⟨B,hB⟩:∃B,B=W.heap.size:=⟨_,rfl⟩
 obtain ⟨B1,hB1⟩:∃B1,B1=W.heap.size+1:=⟨_,rfl⟩
 have hBW:W.heap.size≤B:=by omega
 have hBB:¬B1=B:=by omega
 rw[←hB] at c0 f0
 rw[←hB1] at c1 f1
 have HB:=Zh hB
 have HB1:=Zh hB1
 clear hB hB1
 have l0:=zAH c0
 have l1:=zAH c1
 have HDW:=Zh (zAF.old S0.below (fun _=>False))
 go_enter Tryz.func48,Tryz.ntmps48
 go_wp2_with fail
 rw[←HW.out,←HB1.out,←HB.out]
 refine (zCc _ b W _ HDW.out hv hb).mono ?_
 rintro e w1 ⟨⟨v1,rfl,ho1⟩,hb1⟩
 have T1:=(zAD.refl w0).step hb1
 have ho2:=ho1.weaken (E':=fun k=>W.heap.size≤k∧k<w0.heap.size) (fun k _ h=>Or.inl h.1)
 have hlo:=ho1.lt
 clear ho1
 have d0:=(hb1.cell (p:=⟨B,0,none⟩) l0).trans c0
 have g0:=(hb1.frozen (p:=⟨B,0,none⟩) l0).trans f0
 have d1:=(hb1.cell (p:=⟨B1,0,none⟩) l1).trans c1
 have g1:=(hb1.frozen (p:=⟨B1,0,none⟩) l1).trans f1
 obtain ⟨a1,cp1,rfl,hcp1,⟨_,hcpm,_⟩,_⟩:=ho2.isRow.opened
 have hoB:∀k,(Value.slice a1 b.length cp1).ownBlock=some k→w0.heap.size≤k:=fun k hk=>(hlo k hk).1
 have HOB:=Zh hoB
 clear hoB hlo c0 f0 c1 f1 hb1
 have hn2:(Value.slice a1 b.length cp1).ownBlock=none∨(Value.slice a1 b.length cp1).ownBlock≠some B:=by
  cases hk:(Value.slice a1 b.length cp1).ownBlock with
  | none=>exact Or.inl rfl
  | some k=>right;intro e;cases e;have:=HOB.out B hk;omega
 have ho3:=ho2.kept (zAC w1 ⟨B,0,none⟩ (.slice a1 b.length cp1)) (by intro k hk;cases hk;exact ⟨hBW,l0⟩) hn2
 have ho3:=ho3.flag (C:=zNF (fun k=>w0.heap.size≤k∧(Value.slice a1 b.length cp1).ownBlock≠some k))
 have S3:=(S0.step T1.below).setCell (a:=⟨B,0,none⟩) hBW (.slice a1 b.length cp1)
 have hs3:w0.heap.size≤(w1.setCell ⟨B,0,none⟩ (.slice a1 b.length cp1)).heap.size:=by simpa using T1.2
 have e0:(w1.setCell ⟨B,0,none⟩ (.slice a1 b.length cp1)).cell? ⟨B,0,none⟩=some (.slice a1 b.length cp1):=by go_simp
 have e1:(w1.setCell ⟨B,0,none⟩ (.slice a1 b.length cp1)).cell? ⟨B1,0,none⟩=some (.slice none 0 0):=by go_simp
 have k1:(w1.setCell ⟨B,0,none⟩ (.slice a1 b.length cp1)).frozen? ⟨B1,0,none⟩=false:=by go_simp
 clear ho2 T1 d1 g1
 go_wp2_with fail
 clear d0 g0
 generalize w1.setCell ⟨B,0,none⟩ (.slice a1 b.length cp1)=w3 at *
 go_loopw[12] (fun i wr=>∃k:Nat,k≤b.length∧i=.int .i64 k∧zAD W.heap.size W wr∧w0.heap.size≤wr.heap.size∧wr.cell? ⟨B,0,none⟩=some (.slice a1 b.length cp1)∧wr.cell? ⟨B1,0,none⟩=some (.slice none 0 0)∧wr.frozen? ⟨B1,0,none⟩=false∧zAK 4 (zJz zAz (zNF (fun k=>w0.heap.size≤k∧(Value.slice a1 b.length cp1).ownBlock≠some k))) (fun k=>W.heap.size≤k∧k<w0.heap.size) wr 51 w0.heap.size (.slice a1 b.length cp1) (zD4 b k)) (fun i _=>b.length - (intOf i).toNat)
 case atStart=>exact ⟨0,by omega,rfl,S3,hs3,e0,e1,k1,ho3⟩
 case round =>
  obtain ⟨k,hk,rfl,hS,hsz,e0,e1,k1,ho⟩:=hrel
  clear S3 hs3 ho3
  by_cases hlt:k<b.length
  ·have hx:b[k]?=some b[k]:=List.getElem?_eq_getElem hlt
   generalize b[k]=x at *
   obtain ⟨g,cap,u,cu,ev,hg1,hg2,hcap,k0,n1,n2,n3,hp,i1,i2,i3,fz⟩:=zSQ ho.unflag hx
   simp only[Value.slice.injEq,true_and] at ev
   obtain ⟨rfl,rfl⟩:=ev
   have HX:=Zh hx
   clear hx
   have s1:(k:Int)<(b.length:Int):=by omega
   have B1':=zAB wr (.cells #[.slice u x.1.length cu,.int .i64 x.2.1,.int .i64 x.2.2.1,.int .i64 x.2.2.2] 51)
   have S4:=hS.alloc (.cells #[.slice u x.1.length cu,.int .i64 x.2.1,.int .i64 x.2.2.1,.int .i64 x.2.2.2] 51)
   have hp4:=hp.stays B1'
   have ho4:=ho.stays B1'
   have d0:=(B1'.cell (p:=⟨B,0,none⟩) (zAH e0)).trans e0
   have d1:=(B1'.cell (p:=⟨B1,0,none⟩) (zAH e1)).trans e1
   have d2:=(B1'.frozen (p:=⟨B1,0,none⟩) (zAH e1)).trans k1
   have d3:=(B1'.cell (p:=⟨g,k*4,none⟩) hg2).trans k0
   have d4:=(B1'.frozen (p:=⟨g,k*4,none⟩) hg2).trans fz
   have d5:(wr.alloc (.cells #[.slice u x.1.length cu,.int .i64 x.2.1,.int .i64 x.2.2.1,.int .i64 x.2.2.2] 51)).cell? ⟨wr.heap.size,0,none⟩=some (.slice u x.1.length cu):=by go_simp
   go_wp2_with fail
   clear k0 n1 n2 n3 fz e0 e1 k1 hp
   obtain ⟨r0,hr0⟩:∃r0,r0=wr.heap.size:=⟨_,rfl⟩
   have hgr:g<r0:=by omega
   have hr1:w0.heap.size≤r0:=by omega
   have hBg:B≠g:=by omega
   have hrg:r0≠g:=by omega
   have hw4:r0<(wr.alloc (.cells #[.slice u x.1.length cu,.int .i64 x.2.1,.int .i64 x.2.2.1,.int .i64 x.2.2.2] 51)).heap.size:=by simp;omega
   rw[←hr0] at d5 ⊢
   clear hr0 hg2 ho hS B1' hsz
   generalize wr.alloc (.cells #[.slice u x.1.length cu,.int .i64 x.2.1,.int .i64 x.2.2.1,.int .i64 x.2.2.2] 51)=w4 at *
   go_region_held3 (fun w'=>w'.cell? ⟨B,0,none⟩=some (.slice (some ⟨g,0,none⟩) b.length cp1)∧w'.cell? ⟨r0,0,none⟩=some (.slice u x.1.length cu)) (first | exact ⟨d0,d5⟩ | exact ⟨d0',d5'⟩ | exact ⟨(zAI _ _ _ _ hBg).trans d0',(zAI _ _ _ _ hrg).trans d5'⟩) (first | (go_at_call 39;refine (zD0 _ x.1 _ hp4.drew).mono ?_;rintro e w5 ⟨⟨v5,rfl,hv5⟩,hb5⟩;obtain ⟨a5,c5,rfl,_⟩:=hv5.isInts.opened;have d0':=(Below.cell hb5 (p:=⟨B,0,none⟩) (zAH d0)).trans d0;have d5':=(Below.cell hb5 (p:=⟨r0,0,none⟩) hw4).trans d5;have d3':=(Below.cell hb5 (p:=⟨g,k*4,none⟩) (zAH d3)).trans d3;have d4':=(Below.frozen hb5 (p:=⟨g,k*4,none⟩) (zAH d3)).trans d4))
   all_goals
    have S6:=(S4.drew.step hb5).setCell (a:=⟨g,k*4,none⟩) (show W.heap.size≤g by omega) (.slice a5 x.1.length c5)
    have hs6:w0.heap.size≤(w5.setCell ⟨g,k*4,none⟩ (.slice a5 x.1.length c5)).heap.size:=by have:=hb5.size;simp at this ⊢;omega
    have hB1g:B1≠g:=by omega
    have e0:=(zAI w5 g (k*4) (.slice a5 x.1.length c5) (p:=⟨B,0,none⟩) hBg).trans d0'
    have e1:=(zAI w5 g (k*4) (.slice a5 x.1.length c5) (p:=⟨B1,0,none⟩) hB1g).trans ((Below.cell hb5 (p:=⟨B1,0,none⟩) (zAH d1)).trans d1)
    have k1:=(zA1 w5 g (k*4) (.slice a5 x.1.length c5) (p:=⟨B1,0,none⟩) hB1g).trans ((Below.frozen hb5 (p:=⟨B1,0,none⟩) (zAH d1)).trans d2)
    have ho6:=(ho4.drew.stays hb5).copyPars HX.out hv5.isInts (fun m hm=>by
     have:=(hv5.lies m hm).1
     simp at this
     exact ⟨by omega,fun hh=>by omega⟩) (fun m hm=>by
     have:=(hv5.lies m hm).1
     simp at this
     exact ⟨by omega,by intro e;simp[Value.ownBlock] at e;omega⟩)
    clear d0 d1 d2 d3 d4 d5 d0' d3' d4' d5' hv5 hb5 ho4 hp4 S4
    generalize w5.setCell ⟨g,k*4,none⟩ (.slice a5 x.1.length c5)=w6 at *
    go_wp2_with fail
    go_roundw
    case rel=>exact ⟨k+1,by omega,by go_num,S6,hs6,e0,e1,k1,ho6⟩
    case measure=>simp[intOf];omega
  ·obtain rfl:b.length=k:=by omega
   have hWB1:W.heap.size≤B1:=by have:=HB1.out;omega
   have S7:=hS.setCell (a:=⟨B1,0,none⟩) hWB1 (.slice a1 b.length cp1)
   have m1:(wr.setCell ⟨B1,0,none⟩ (.slice a1 b.length cp1)).cell? ⟨B1,0,none⟩=some (.slice a1 b.length cp1):=by go_simp
   have hn7:(Value.slice a1 b.length cp1).ownBlock=none∨(Value.slice a1 b.length cp1).ownBlock≠some B1:=by
    cases hk:(Value.slice a1 b.length cp1).ownBlock with
    | none=>exact Or.inl rfl
    | some k=>right;intro e;cases e;have:=HOB.out B1 hk;omega
   have ho7:=((ho.kept (zAC wr ⟨B1,0,none⟩ (.slice a1 b.length cp1)) (by intro k hk;cases hk;exact ⟨hWB1,l1⟩) hn7).copied (E':=fun k=>k<W.heap.size) (fun k hk=>⟨hk.2,by have:=hk.1;have:=S0.2;omega⟩)).mono S0.2
   clear ho hS
   go_wp2_with fail
   exact bodyPost_ret (v:=.agg #[.slice a1 b.length cp1]) (by simp[results,Tryz.results48,go_sem,m1]) rfl ⟨⟨_,rfl,ho7⟩,S7.below⟩
theorem zI7:(Tryz.prog.info? 62).map (fun i=>(i.zero,i.size,i.bytes))=some (some (.agg #[.bool false,.int .i64 0,.slice none 0 0]),3,40):=by kernel_rfl
theorem zBT{α:Type}{R:Rd α}(hRS:R.Stays)(hR1:R.One)(v:Value)(b:List α)(w0 w:World)(hw0:zAF (fun _=>False) w0 w)(hv:zAZ 3 R w0 v b)(hb:b.length≤1000000) :
  Calls Tryz.prog 35 #[v] w fun e w'=>(∃v',e=.returned v'∧zAK 3 R (fun k=>w0.heap.size≤k) w' 62 w.heap.size v' b)∧Below w.heap.size w w':=by
 have hq:∀(w:World) (a:Option Addr) (n c n' c':Nat),(binOp .eql 25 (.slice a n c) (.slice none n' c')).run Tryz.prog w=.ok (.bool a.isNone) w:=fun w a n c n' c'=>Lib.run_eql_slice_nil w _ _ a n c n' c' Tryz.underlying25
 have hv0:=hv
 obtain ⟨ax,cx,rfl,hcx,hmx,hx⟩:=hv.opened
 obtain ⟨hm1,hm2,hm3⟩:=hmx
 cases ax with
 | none =>
  have hc0:=hm3 rfl
  have hl0:b=[]:=by
   cases b with
   | nil=>rfl
   | cons y r=>obtain ⟨b,off,e1,_⟩:=hx 0 y rfl;cases e1
  subst hc0 hl0
  clear hx
  go_enter Tryz.func35,Tryz.ntmps35
  go_wp2
  go_ret
  exact ⟨⟨_,rfl,zAK.nil _ _ _⟩,Below.refl _ _⟩
 | some ad =>
  clear hm3 hx hv
  have hown:=zAK.made (R:=R) (sz:=3) (E:=fun k=>w0.heap.size≤k) w 62
  have HV:=Zh hv0
  have HD:Hid (zAF (fun _=>False) w0 (w.alloc (.cells #[] 62))):=Zh (hw0.trans (zAF.old (zAB _ _) _))
  have hsz:=hw0.1
  clear hv0 hw0
  go_enter Tryz.func35,Tryz.ntmps35
  go_wp2_with (at_builtin;refine zCE rfl _ _ 25 rfl 3 _ 62 Tryz.underlying25 _ 40 zI7 rfl (by omega) (by omega) w.heap.size _ [] rfl hown w0 HD.out b _ rfl HV.out hRS hR1 (by intro k hk;rcases hk with hk | hk;(cases hk;exact hsz);exact hk) (by simp;omega) (by simp) ?_;intro v' w1 hown1 hg1 _)
  go_ret
  exact ⟨⟨_,rfl,hown1⟩,zGv (zAB _ _) hown hg1 (by simp)⟩
def zCl(X:Nat→Prop)(w:World)(base:Nat)(v1 v2:Value)(m:Me):Prop:=∃zs,zs.map zDK=m.2∧DP w base v2 zs∧∀w',zAF (fun k=>zBu v2 zs k∨X k) w w'→zAR w' v1 m.1
section
variable {X Y : Nat → Prop} {w w1 : World} {base b : Nat} {v1 v2 : Value} {m : Me}
theorem zCl.vers(h:zCl X w base v1 v2 m):zAR w v1 m.1:=by
 obtain ⟨zs,_,_,h⟩:=h
 exact h w (zAF.refl _ _)
theorem zCl.peers(h:zCl X w base v1 v2 m):zAT w v2 m.2:=by
 obtain ⟨zs,h1,h2,_⟩:=h
 rw[←h1]
 exact h2.isPeers
theorem zCl.mono(h:zCl X w base v1 v2 m)(hb:b≤base):zCl X w b v1 v2 m:=by
 obtain ⟨zs,h1,h2,h3⟩:=h
 exact ⟨zs,h1,h2.mono hb,h3⟩
theorem zCl.less(h:zCl X w base v1 v2 m)(hX:∀k,Y k→X k):zCl Y w base v1 v2 m:=by
 obtain ⟨zs,h1,h2,h3⟩:=h
 exact ⟨zs,h1,h2,fun w' hw'=>h3 w' (hw'.mono fun k _ hk=>hk.imp id (hX k))⟩
theorem zCl.stays(h:zCl X w base v1 v2 m)(hb:Below w.heap.size w w1):zCl X w1 base v1 v2 m:=by
 obtain ⟨zs,h1,h2,h3⟩:=h
 exact ⟨zs,h1,h2.stays hb,fun w' hw'=>h3 w' ((zAF.old hb _).trans hw')⟩
theorem zCl.frame(h:zCl X w base v1 v2 m){D:Nat→Prop}(hw:zAF D w w1)(hD:∀k,D k→X k∧k<base):zCl X w1 base v1 v2 m:=by
 obtain ⟨zs,h1,h2,h3⟩:=h
 exact ⟨zs,h1,h2.frame hw (fun k hk hd=>by have:=(h2.lt hk).1;have:=(hD k hd).2;omega),fun w' hw'=>h3 w' ((hw.mono fun k _ hk=>Or.inr (hD k hk).1).trans hw')⟩
end
theorem zBf(w:World)(g o:Nat)(a b c:Value){p:Addr}(h:p.block≠g):(((w.setCell ⟨g,o,none⟩ a).setCell ⟨g,o+1,none⟩ b).setCell ⟨g,o+1+1,none⟩ c).cell? p=w.cell? p:=
 ((zAI _ _ _ _ h).trans (zAI _ _ _ _ h)).trans (zAI _ _ _ _ h)
set_option maxRecDepth 100000 in
theorem zDS(vb:Value)(b:List Ver)(u:Value)(ps:List Pr)(W:World)(hb:zAR W vb b)(hu0:zAT W u ps)(hbt:b.length≤1000000)(hut:ps.length≤1000000)(hkt:∀x∈ps,x.2.2.length≤1000000) :
  Calls Tryz.prog 22 #[.agg #[vb,u]] W fun e w'=>(∃v1 v2,e=.returned (.agg #[v1,v2])∧zCl (fun k=>k<W.heap.size) w' W.heap.size v1 v2 (b,ps))∧Below W.heap.size W w':=by
 obtain ⟨ys,hym,hu,hyu⟩:=hu0.rawP
 have hyl:ys.length=ps.length:=by rw[←hym,List.length_map]
 have HYM:=Zh hym
 have HYU:=Zh hyu
 have HI64:Hid (∀x∈ps,I64 x.2.1∧x.2.2.length≤1000000):=Zh (fun x hx=>by
  refine ⟨?_,hkt x hx⟩
  rw[←hym] at hx
  obtain ⟨y,hy,rfl⟩:=List.mem_map.1 hx
  exact (hyu y hy).2)
 clear hu0 hym hyu hkt
 obtain ⟨a,c,rfl,hcb,⟨hbm,hbc,_⟩,_⟩:=hb.opened
 obtain ⟨a',c',rfl,hcu,⟨hum,huc,_⟩,_⟩:=hu.opened
 rw[hyl] at hu hcu hum ⊢
 have S0:=((zAD.refl W).alloc (.cells #[.slice a b.length c,.slice a' ps.length c'] 27)).alloc (.cells #[.slice none 0 0,.slice none 0 0] 27)
 obtain ⟨w0,hw0⟩:∃w0,w0=(W.alloc (.cells #[.slice a b.length c,.slice a' ps.length c'] 27)).alloc (.cells #[.slice none 0 0,.slice none 0 0] 27):=⟨_,rfl⟩
 have p0:w0.cell? ⟨W.heap.size,0,none⟩=some (.slice a b.length c):=by rw[hw0];go_simp
 have p1:w0.cell? ⟨W.heap.size,1,none⟩=some (.slice a' ps.length c'):=by rw[hw0];go_simp
 have p2:∀j,w0.frozen? ⟨W.heap.size,j,none⟩=false:=by intro j;rw[hw0];go_simp
 have q0:w0.cell? ⟨W.heap.size+1,0,none⟩=some (.slice none 0 0):=by rw[hw0];go_simp
 have q1:w0.cell? ⟨W.heap.size+1,1,none⟩=some (.slice none 0 0):=by rw[hw0];go_simp
 have q2:∀j,w0.frozen? ⟨W.heap.size+1,j,none⟩=false:=by intro j;rw[hw0];go_simp
 have hsz0:w0.heap.size=W.heap.size+2:=by rw[hw0];simp
 rw[←hw0] at S0
 have HW:=Zh hw0
 clear hw0
 obtain ⟨B,hB⟩:∃B,B=W.heap.size:=⟨_,rfl⟩
 obtain ⟨B1,hB1⟩:∃B1,B1=W.heap.size+1:=⟨_,rfl⟩
 have hBW:W.heap.size≤B:=by omega
 have hBW1:W.heap.size≤B1:=by omega
 have hBB:¬B1=B:=by omega
 have hBB':¬B=B1:=by omega
 have hB0:B<w0.heap.size:=by omega
 have hB10:B1<w0.heap.size:=by omega
 rw[←hB1] at q0 q1 q2
 rw[←hB] at p0 p1 p2
 have HB:=Zh hB
 have HB1:=Zh hB1
 clear hB hB1 hsz0
 have hb0:=hb.stays zAz.stays S0.below
 have HB0:=Zh (hb0.drew zAz.stays)
 have HU:=Zh hu
 have HDW:=Zh (zAF.old S0.below (fun _=>False))
 clear hb hb0 hu
 have HF:Hid (∀w',zAD w0.heap.size w0 w'→w'.cell? ⟨B,0,none⟩=some (.slice a b.length c)∧w'.cell? ⟨B,1,none⟩=some (.slice a' ps.length c')∧(∀j,w'.frozen? ⟨B,j,none⟩=false)∧w'.cell? ⟨B1,0,none⟩=some (.slice none 0 0)∧w'.cell? ⟨B1,1,none⟩=some (.slice none 0 0)∧(∀j,w'.frozen? ⟨B1,j,none⟩=false)):=Zh (fun w' q=>⟨zAA q.below p0,zAA q.below p1,fun j=>(q.below.frozen (p:=⟨B,j,none⟩) hB0).trans (p2 j),zAA q.below q0,zAA q.below q1,fun j=>(q.below.frozen (p:=⟨B1,j,none⟩) hB10).trans (q2 j)⟩)
 have U0:=(zAD.refl w0).drew
 have s3:w0.drew.cell? ⟨B,0,none⟩=some (.slice a b.length c)∧w0.drew.cell? ⟨B,1,none⟩=some (.slice a' ps.length c'):=⟨p0,p1⟩
 go_enter Tryz.func22,Tryz.ntmps22
 go_upto_region 1 with fail
 rw[←HW.out,←HB1.out,←HB.out]
 clear p0 p1 p2 q0 q1 q2
 obtain ⟨s30,s31⟩:=s3
 go_region_law (first
  | (go_simp;go_at_call 48;refine (zH1 _ b w0.drew HB0.out hbt).mono ?_;rintro e w1 ⟨⟨v1,rfl,ho1⟩,hb1⟩;obtain ⟨a1,cp1,rfl,hcp1,_,_⟩:=ho1.isRow.opened;have U1:=U0.step hb1;obtain ⟨s40,s41,_,_,_,_⟩:=HF.out w1 U1)
  | (go_simp;go_at_call 35;refine (zBT RPC.stays RPC.one _ ys W w1 (HDW.out.trans (zAF.old U1.below _)) HU.out (by omega)).mono ?_;rintro e w2 ⟨⟨v2,rfl,ho2⟩,hb2⟩;obtain ⟨a2,cp2,ev2,hcp2,⟨_,hcpm,_⟩,_⟩:=ho2.isRow.opened;rw[hyl] at ev2;subst ev2;have U2:=U1.step hb2;obtain ⟨x0,x1,x2,y0,y1,y2⟩:=HF.out w2 U2))
 all_goals
  have hlo2:=ho2.lt
  have HOB:=Zh (fun k hk=>(hlo2 k hk).1)
  have hn2:(Value.slice a2 ps.length cp2).ownBlock=none∨(Value.slice a2 ps.length cp2).ownBlock≠some B:=by
   cases hk:(Value.slice a2 ps.length cp2).ownBlock with
   | none=>exact Or.inl rfl
   | some k=>right;intro e;cases e;have:=(hlo2 B hk).1;have:=U1.2;omega
  have hg3:=(zAC w2 ⟨B,0,none⟩ (.slice a1 b.length cp1)).trans (zAC _ ⟨B,1,none⟩ (.slice a2 ps.length cp2))
  have ho3:=RPC.anyE (E':=fun _=>False) ((RPC.anyE (E':=fun k=>k=B) ho2).kept hg3 (by intro k hk;cases hk;rfl) hn2)
  have HBK:Hid (∀w',zAF (fun k=>k<w0.heap.size∨w1.heap.size≤k) w1 w'→zAR w' (.slice a1 b.length cp1) b):=Zh (fun w' hw'=>((ho1.later (hw'.mono (fun k hk h=>by rcases h with h | h;exact h;exact absurd hk (by omega))) (fun k hk h=>by have:=(ho1.lt k hk).1;exact absurd h (Nat.not_lt.2 this))).isRow))
  have S3:=(((S0.step U2.below).setCell (a:=⟨B,0,none⟩) hBW (.slice a1 b.length cp1)).setCell (a:=⟨B,1,none⟩) hBW (.slice a2 ps.length cp2))
  have hD3:zAF (fun k=>k<w0.heap.size∨w1.heap.size≤k) w1 ((w2.setCell ⟨B,0,none⟩ (.slice a1 b.length cp1)).setCell ⟨B,1,none⟩ (.slice a2 ps.length cp2)):=(zAF.old hb2 _).trans ((zAF.of_grown hg3).mono (fun k _ hk=>by cases hk;exact Or.inl hB0))
  have hs3:w1.heap.size≤((w2.setCell ⟨B,0,none⟩ (.slice a1 b.length cp1)).setCell ⟨B,1,none⟩ (.slice a2 ps.length cp2)).heap.size:=by have:=hb2.size;simpa using this
  have m0:((w2.setCell ⟨B,0,none⟩ (.slice a1 b.length cp1)).setCell ⟨B,1,none⟩ (.slice a2 ps.length cp2)).cell? ⟨B,0,none⟩=some (.slice a1 b.length cp1):=by go_simp
  have m1:((w2.setCell ⟨B,0,none⟩ (.slice a1 b.length cp1)).setCell ⟨B,1,none⟩ (.slice a2 ps.length cp2)).cell? ⟨B,1,none⟩=some (.slice a2 ps.length cp2):=by go_simp
  have j0:((w2.setCell ⟨B,0,none⟩ (.slice a1 b.length cp1)).setCell ⟨B,1,none⟩ (.slice a2 ps.length cp2)).cell? ⟨B1,0,none⟩=some (.slice none 0 0):=by go_simp
  have j1:((w2.setCell ⟨B,0,none⟩ (.slice a1 b.length cp1)).setCell ⟨B,1,none⟩ (.slice a2 ps.length cp2)).cell? ⟨B1,1,none⟩=some (.slice none 0 0):=by go_simp
  have j3:∀j,((w2.setCell ⟨B,0,none⟩ (.slice a1 b.length cp1)).setCell ⟨B,1,none⟩ (.slice a2 ps.length cp2)).frozen? ⟨B1,j,none⟩=false:=by intro j;rw[World.frozen?_setCell,World.frozen?_setCell];exact y2 j
  have hw1:=U1.2
  clear ho1 ho2 hlo2 hn2 hg3 s30 s31 s40 s41 x0 x1 x2 y0 y1 y2 hcp1
  generalize (w2.setCell ⟨B,0,none⟩ (.slice a1 b.length cp1)).setCell ⟨B,1,none⟩ (.slice a2 ps.length cp2)=w3 at *
  have HSB:Hid (∀w',zAD w1.heap.size w3 w'→w'.cell? ⟨B,1,none⟩=some (.slice a2 ps.length cp2)):=Zh (fun w' q=>(q.below.cell (p:=⟨B,1,none⟩) (by dsimp only;omega)).trans m1)
  have HSC:Hid (∀w',zAD w1.heap.size w3 w'→w'.cell? ⟨B,0,none⟩=some (.slice a1 b.length cp1)∧w'.cell? ⟨B1,0,none⟩=some (.slice none 0 0)∧w'.cell? ⟨B1,1,none⟩=some (.slice none 0 0)∧∀j,w'.frozen? ⟨B1,j,none⟩=false):=
   Zh (fun w' q=>⟨(q.below.cell (p:=⟨B,0,none⟩) (by dsimp only;omega)).trans m0,(q.below.cell (p:=⟨B1,0,none⟩) (by dsimp only;omega)).trans j0,(q.below.cell (p:=⟨B1,1,none⟩) (by dsimp only;omega)).trans j1,fun j=>(q.below.frozen (p:=⟨B1,j,none⟩) (by dsimp only;omega)).trans (j3 j)⟩)
  clear m0 j0 j1 j3
  have HS3:=Zh S3
  have HS0:=Zh S0.2
  go_wp2_with fail
  clear m1
  go_loopw[16] (fun i wr=>∃k:Nat,k≤ps.length∧i=.int .i64 k∧zAD w1.heap.size w3 wr∧zCy ys ps w1.heap.size (.slice a2 ps.length cp2) k wr) (fun i _=>ps.length - (intOf i).toNat)
  case atStart=>exact ⟨0,by omega,rfl,⟨Below.refl _ _,hs3⟩,ys,HYM.out,ho3,fun _ _ _ h=>h,by simp,by simp⟩
  case round =>
   obtain ⟨k,hk,rfl,hS,ho⟩:=hrel
   clear S3 hs3 ho3 S0
   by_cases hlt:k<ps.length
   ·have hx:ps[k]?=some ps[k]:=List.getElem?_eq_getElem hlt
    have hkt:=(HI64.out _ (List.getElem_mem hlt)).2
    generalize ps[k]=x at *
    obtain ⟨g,cap,u,cu,ev,hg1,hg2,k0,n1,n2,hp,i1,fz⟩:=ho.at (HYU.out) ((HS3.out.below.trans (hS.below.mono (Nat.le_trans HS0.out hw1))):Below W.heap.size W wr) hx
    simp only[Value.slice.injEq,true_and] at ev
    obtain ⟨rfl,rfl⟩:=ev
    have HX:=Zh hx
    clear hx
    obtain ⟨t,r,ks⟩:=x
    simp only at k0 n1 n2 hp i1 hkt
    have s1:(k:Int)<(ps.length:Int):=by omega
    have BB:=zAB wr (.cells #[.bool t,.int .i64 r,.slice u ks.length cu] 62)
    have S4:=hS.alloc (.cells #[.bool t,.int .i64 r,.slice u ks.length cu] 62)
    have hp4:=hp.stays zAf.stays BB
    have ho4:=ho.stays BB
    have c0:=zAA BB k0
    have c1:=zAA BB n1
    have c2:=zAA BB n2
    have z0:=zAE BB k0 (fz _)
    have z1:=zAE BB n1 (fz _)
    have z2:=zAE BB n2 (fz _)
    have r0:(wr.alloc (.cells #[.bool t,.int .i64 r,.slice u ks.length cu] 62)).cell? ⟨wr.heap.size,0,none⟩=some (.bool t):=by go_simp
    have r1:(wr.alloc (.cells #[.bool t,.int .i64 r,.slice u ks.length cu] 62)).cell? ⟨wr.heap.size,1,none⟩=some (.int .i64 r):=by go_simp
    have r2:(wr.alloc (.cells #[.bool t,.int .i64 r,.slice u ks.length cu] 62)).cell? ⟨wr.heap.size,2,none⟩=some (.slice u ks.length cu):=by go_simp
    go_upto_region 5 with fail
    clear k0 n1 n2 fz hp
    obtain ⟨rr,hrr⟩:∃rr,rr=wr.heap.size:=⟨_,rfl⟩
    have hgr:g<rr:=by omega
    have hBg:B≠g:=by omega
    have hrg:rr≠g:=by omega
    rw[←hrr] at r0 r1 r2 ⊢
    clear hrr hg2 ho hS BB
    generalize wr.alloc (.cells #[.bool t,.int .i64 r,.slice u ks.length cu] 62)=w4 at *
    have hb4:=HSB.out w4 S4
    have d0:w4.drew.cell? ⟨B,1,none⟩=some (.slice (some ⟨g,0,none⟩) ps.length cp2)∧w4.drew.cell? ⟨rr,0,none⟩=some (.bool t)∧w4.drew.cell? ⟨rr,1,none⟩=some (.int .i64 r)∧w4.drew.cell? ⟨rr,2,none⟩=some (.slice u ks.length cu):=⟨hb4,r0,r1,r2⟩
    clear hb4
    have HP4:=Zh (hp4.drew zAf.stays)
    have q0:w4.drew.cell? ⟨g,k*3,none⟩=some (.bool t):=c0
    have q1:w4.drew.cell? ⟨g,k*3+1,none⟩=some (.int .i64 r):=c1
    have q2:w4.drew.cell? ⟨g,k*3+2,none⟩=some (.slice u ks.length cu):=c2
    have y0:w4.drew.frozen? ⟨g,k*3,none⟩=false:=z0
    have y1:w4.drew.frozen? ⟨g,k*3+1,none⟩=false:=z1
    have y2:w4.drew.frozen? ⟨g,k*3+2,none⟩=false:=z2
    clear c0 c1 c2 z0 z1 z2 hp4
    go_region_held3 (fun w'=>w'.cell? ⟨B,1,none⟩=some (.slice (some ⟨g,0,none⟩) ps.length cp2)∧w'.cell? ⟨rr,0,none⟩=some (.bool t)∧w'.cell? ⟨rr,1,none⟩=some (.int .i64 r)∧w'.cell? ⟨rr,2,none⟩=some (.slice u ks.length cu)) (first | exact d0 | exact d5 | exact ⟨(zBf _ _ _ _ _ _ hBg).trans d5.1,(zBf _ _ _ _ _ _ hrg).trans d5.2.1,(zBf _ _ _ _ _ _ hrg).trans d5.2.2.1,(zBf _ _ _ _ _ _ hrg).trans d5.2.2.2⟩) (first
     | (go_at_call 49;go_fit (zDr t r _ ks _ HP4.out hkt);rintro e w5 ⟨⟨v5,zs5,rfl,hm5,hv5⟩,hb5⟩;obtain ⟨a5,c5,ev5,_⟩:=hv5.row.isRow.opened;have hl5:zs5.length=ks.length:=(by rw[←hm5,List.length_map]);rw[hl5] at ev5;subst ev5;have d5:w5.cell? ⟨B,1,none⟩=some (.slice (some ⟨g,0,none⟩) ps.length cp2)∧w5.cell? ⟨rr,0,none⟩=some (.bool t)∧w5.cell? ⟨rr,1,none⟩=some (.int .i64 r)∧w5.cell? ⟨rr,2,none⟩=some (.slice u ks.length cu):=⟨zAA hb5 d0.1,zAA hb5 d0.2.1,zAA hb5 d0.2.2.1,zAA hb5 d0.2.2.2⟩;have t0:=zAA hb5 q0;have t1:=zAA hb5 q1;have t2:=zAA hb5 q2;have x0:=zAE hb5 q0 y0;have x1:=zAE hb5 q1 y1;have x2:=zAE hb5 q2 y2))
    all_goals
     have S6:zAD w1.heap.size w3 (((w5.setCell ⟨g,k*3,none⟩ (.bool t)).setCell ⟨g,k*3+1,none⟩ (.int .i64 r)).setCell ⟨g,k*3+1+1,none⟩ (.slice a5 ks.length c5)):=(((S4.drew.step hb5).setCell (a:=⟨g,k*3,none⟩) hg1 (.bool t)).setCell (a:=⟨g,k*3+1,none⟩) hg1 (.int .i64 r)).setCell (a:=⟨g,k*3+1+1,none⟩) hg1 (.slice a5 ks.length c5)
     have ho6:zCy ys ps w1.heap.size (.slice (some ⟨g,0,none⟩) ps.length cp2) (k+1) (((w5.setCell ⟨g,k*3,none⟩ (.bool t)).setCell ⟨g,k*3+1,none⟩ (.int .i64 r)).setCell ⟨g,k*3+1+1,none⟩ (.slice a5 ks.length c5)):=
      (ho4.stays (Below.refl _ _).drew).next hb5 HX.out hm5 hv5 (Nat.lt_of_lt_of_le hgr (by have:=zAH d0.2.1;simp at this;exact Nat.le_of_lt this)) S4.2
     clear d0 d5 q0 q1 q2 y0 y1 y2 t0 t1 t2 x0 x1 x2 hv5 hb5 ho4 S4
     generalize ((w5.setCell ⟨g,k*3,none⟩ (.bool t)).setCell ⟨g,k*3+1,none⟩ (.int .i64 r)).setCell ⟨g,k*3+1+1,none⟩ (.slice a5 ks.length c5)=w6 at *
     go_wp2_with fail
     go_roundw
     case rel=>exact ⟨k+1,by omega,by go_num,S6,ho6⟩
     case measure=>simp[intOf];omega
   ·obtain rfl:ps.length=k:=by omega
    have hB:=HSB.out wr hS
    obtain ⟨m0,j0,j1,j3⟩:=HSC.out wr hS
    have hg7:=(zAC wr ⟨B1,0,none⟩ (.slice a1 b.length cp1)).trans (zAC _ ⟨B1,1,none⟩ (.slice a2 ps.length cp2))
    have hd7:zAF (fun j=>j=B1) wr ((wr.setCell ⟨B1,0,none⟩ (.slice a1 b.length cp1)).setCell ⟨B1,1,none⟩ (.slice a2 ps.length cp2)):=(zAF.of_grown hg7).mono (fun j _ hj=>by cases hj;rfl)
    have ho7:=(ho.later hd7 (fun j hj=>by rw[hj];omega)).done (fun x hx=>(HI64.out x hx).1)
    have S7:zAD W.heap.size W ((wr.setCell ⟨B1,0,none⟩ (.slice a1 b.length cp1)).setCell ⟨B1,1,none⟩ (.slice a2 ps.length cp2)):=
     ((show zAD W.heap.size W wr from ⟨HS3.out.below.trans (hS.below.mono (Nat.le_trans HS0.out hw1)),by have:=hS.2;have:=HS0.out;omega⟩).setCell (a:=⟨B1,0,none⟩) hBW1 (.slice a1 b.length cp1)).setCell (a:=⟨B1,1,none⟩) hBW1 (.slice a2 ps.length cp2)
    have hD7:zAF (fun k=>k<w0.heap.size∨w1.heap.size≤k) w1 ((wr.setCell ⟨B1,0,none⟩ (.slice a1 b.length cp1)).setCell ⟨B1,1,none⟩ (.slice a2 ps.length cp2)):=
     (hD3.trans ((zAF.of_below hS.below (Nat.le_trans (Nat.le_refl _) hS.below.size)).mono (fun k _ h=>Or.inr h))).trans (hd7.mono (fun k _ h=>by rw[h];exact Or.inl hB10))
    have v0:((wr.setCell ⟨B1,0,none⟩ (.slice a1 b.length cp1)).setCell ⟨B1,1,none⟩ (.slice a2 ps.length cp2)).cell? ⟨B1,0,none⟩=some (.slice a1 b.length cp1):=by go_simp
    have v1:((wr.setCell ⟨B1,0,none⟩ (.slice a1 b.length cp1)).setCell ⟨B1,1,none⟩ (.slice a2 ps.length cp2)).cell? ⟨B1,1,none⟩=some (.slice a2 ps.length cp2):=by go_simp
    have f0:=j3 0
    have f1:=j3 1
    obtain ⟨zs7,hzm7,hdp7⟩:=ho7
    have hsz7:w1.heap.size≤((wr.setCell ⟨B1,0,none⟩ (.slice a1 b.length cp1)).setCell ⟨B1,1,none⟩ (.slice a2 ps.length cp2)).heap.size:=by have:=hS.2;simpa using this
    have HO7:Hid (zCl (fun k=>k<W.heap.size) ((wr.setCell ⟨B1,0,none⟩ (.slice a1 b.length cp1)).setCell ⟨B1,1,none⟩ (.slice a2 ps.length cp2)) W.heap.size (.slice a1 b.length cp1) (.slice a2 ps.length cp2) (b,ps)):=Zh ⟨zs7,hzm7,hdp7.mono (Nat.le_trans HS0.out hw1),fun w' hw'=>HBK.out w' (hD7.trans (hw'.mono (fun k _ hk=>hk.elim (fun h=>Or.inr (hdp7.lt h).1) (fun h=>Or.inl (by have:=HS0.out;omega)))))⟩
    clear ho hS hd7 hdp7 hzm7 j3 hg7 hD7
    go_wp2_with fail
    clear m0 j0 j1 f0 f1 hB
    generalize (wr.setCell ⟨B1,0,none⟩ (.slice a1 b.length cp1)).setCell ⟨B1,1,none⟩ (.slice a2 ps.length cp2)=w7 at *
    exact bodyPost_ret (v:=.agg #[.slice a1 b.length cp1,.slice a2 ps.length cp2]) (by simp[results,Tryz.results22,go_sem,v0,v1]) rfl ⟨⟨_,_,rfl,HO7.out⟩,S7.below⟩
def ltc(cf:Int→Int→Int)(x y:Int):Bool:=decide (cf x y<0)
set_option maxRecDepth 100000 in
theorem zNx(F:Nat)(eF:∀args w,(callFunc F args).run Tryz.prog w=.ok (.enter F args) w)(caps:Array Value)(cf:Int→Int→Int)(base g cap:Nat)(l:List Int)(W:World)(ho:zAJ W 3 base (.slice (some ⟨g,0,none⟩) l.length cap) l)(hl:l.length≤1000000)
  (hF:∀x y w,x∈l→y∈l→W.grownBy w (some g)→Calls Tryz.prog F (#[.int .i64 x,.int .i64 y]++caps) w fun e w'=>e=.returned (.int .i64 (cf x y))∧∃q,w'=w.drewN q) :
  Calls Tryz.prog 164 #[.slice (some ⟨g,0,none⟩) l.length cap,.int .i64 0,.int .i64 l.length,.func (.func F) #[] caps] W fun e w'=>e=.returned (.tuple #[])∧zAJ w' 3 base (.slice (some ⟨g,0,none⟩) l.length cap) (zSz (ltc cf) l)∧W.grownBy w' (some g):=by
 have HF:=Zh hF
 have hg0:W.grownBy W (some g):=World.grownBy.refl W _
 clear hF
 go_enter Tryz.func164,Tryz.ntmps164
 go_wp2_with fail
 go_loopw[8] (fun i wr=>∃k:Nat,∃c:List Int,i=.int .i64 k∧1≤k∧(k≤l.length∨k=1)∧c=(zNW (ltc cf) (l.take k)).reverse++l.drop k∧zAJ wr 3 base (.slice (some ⟨g,0,none⟩) l.length cap) c∧W.grownBy wr (some g)) (fun i _=>l.length - (intOf i).toNat)
 case atStart=>exact ⟨1,l,by go_num,by omega,Or.inr rfl,(zRm l).symm,ho,hg0⟩
 case round =>
  obtain ⟨k,c,rfl,hk1,hk2,hc,hoc,hgw⟩:=hrel
  clear ho hg0
  obtain ⟨wo,hwo⟩:∃wo:World,wo=wr:=⟨_,rfl⟩
  rw[←hwo] at hoc hgw ⊢
  clear hwo
  by_cases hlt:k<l.length
  ·have hx:l[k]?=some l[k]:=List.getElem?_eq_getElem hlt
   have HMX:=Zh (List.getElem_mem hlt)
   generalize l[k]=x at *
   have HST:=Zh (zRU (lt:=ltc cf) hx)
   have hcs:c=(zNW (ltc cf) (l.take k)).reverse++x::([]++l.drop (k+1)):=by rw[hc,zAr hx];rfl
   have hP:(zNW (ltc cf) (l.take k)).length=k:=by rw[zTb,List.length_take];omega
   have HX:=Zh hx
   have HCS:=Zh hcs
   have HP:=Zh hP
   have HPM:=Zh (zIn (lt:=ltc cf) (l.take k))
   clear hx hc hcs hP
   go_wp2_with fail
   go_loopw[9] (fun j wr=>∃jj:Nat,∃A B c:List Int,j=.int .i64 jj∧A.length=jj∧jj+B.length=k∧c=A++x::(B++l.drop (k+1))∧(zLr (ltc cf) x A.reverse).reverse++B=(zNW (ltc cf) (l.take (k+1))).reverse∧(∀z∈A,z∈l)∧zAJ wr 3 base (.slice (some ⟨g,0,none⟩) l.length cap) c∧W.grownBy wr (some g)) (fun j _=>(intOf j).toNat)
   case atStart =>
    refine ⟨k,(zNW (ltc cf) (l.take k)).reverse,[],c,rfl,by rw[List.length_reverse];exact HP.out,by simp,HCS.out,by rw[List.reverse_reverse,List.append_nil,HST.out],fun z hz=>?_,hoc,hgw⟩
    exact List.mem_of_mem_take (HPM.out.mem_iff.1 (List.mem_reverse.1 hz))
   case round =>
    obtain ⟨jj,A,B,c2,rfl,hA,hB,hc2,hins,hAl,ho2,hg2⟩:=hrel
    have HI:=Zh hins
    have HC2:=Zh hc2
    have HAL:=Zh hAl
    have HA:=Zh hA
    have hcl:c2.length=l.length:=by rw[hc2];simp;omega
    have hcl1:l.length≤c2.length:=by omega
    have HSTOP:Hid ((A=[]∨∃A' y,A=A'++[y]∧ltc cf x y=false)→c2=(zNW (ltc cf) (l.take (k+1))).reverse++l.drop (k+1)):=Zh (fun h=>by rw[←HI.out,zQ8 h,HC2.out];simp)
    clear hins hc2 hAl hcl hoc hgw
    by_cases hj:0<jj
    ·obtain ⟨jp,hjp⟩:∃jp,jj=jp+1:=⟨jj - 1,by omega⟩
     obtain ⟨A',y,hAy⟩:∃A' y,A=A'++[y]:=by
      rcases List.eq_nil_or_concat A with h|⟨A',y,h⟩
      ·rw[h] at hA;simp at hA;omega
      ·exact ⟨A',y,by rw[h,List.concat_eq_append]⟩
     have hA':A'.length=jp:=by rw[hAy] at hA;simp at hA;omega
     have e1:c2[jj]?=some x:=by rw[HC2.out,List.getElem?_append_right (by omega),hA];simp
     have e2:c2[jp]?=some y:=by rw[HC2.out,hAy];simp[hA']
     have c1:=ho2.cell jj (by omega)
     rw[List.getD_eq_getElem?_getD,e1] at c1
     have c0:=ho2.cell jp (by omega)
     rw[List.getD_eq_getElem?_getD,e2] at c0
     have c1':wr.cell? ⟨g,jj,none⟩=some (.int .i64 x):=c1
     have c0':wr.cell? ⟨g,jp,none⟩=some (.int .i64 y):=c0
     have ix:I64 x:=ho2.2.1 x (List.mem_of_getElem? e1)
     have iy:I64 y:=ho2.2.1 y (List.mem_of_getElem? e2)
     have f1:=ho2.free jj
     have f0:=ho2.free jp
     have hmy:y∈l:=HAL.out y (by rw[hAy];simp)
     have HC:=Zh (fun n=>HF.out x y (wr.drewN n) HMX.out hmy (hg2.trans ⟨rfl,rfl,rfl,Nat.le_refl _,fun _ _ _=>rfl⟩))
     have hw1:IntKind.i64.wrap ((jj:Int) - 1)=(jp:Int):=by rw[IntWalk.i64_in _ (by omega)];omega
     have s1:(0:Int)<(jj:Int):=by omega
     have s2:(0:Int)≤(jp:Int):=by omega
     have s3:(jj:Int)<(l.length:Int):=by omega
     have s4:(jp:Int)<(l.length:Int):=by omega
     have s5:¬jj=jp:=by omega
     have s6:¬jp=jj:=by omega
     have HAY:=Zh hAy
     have HA':=Zh hA'
     have HB:=Zh hB
     have HE1:=Zh e1
     have HE2:=Zh e2
     have HJ:=Zh hjp
     clear c1 c0 e1 e2 hmy hAy hA' hA hB hjp
     by_cases hlv:cf x y<0
     ·have HLV:=Zh (show ltc cf x y=true from decide_eq_true hlv)
      go_wp2_with (go_quiet (first | (go_at_fn F;refine Calls.quiet_of (HC.out _))))
      have hg3:W.grownBy (wr.drewN nq) (some g):=hg2.trans ⟨rfl,rfl,rfl,Nat.le_refl _,fun _ _ _=>rfl⟩
      have ho3:zAJ (wr.drewN nq) 3 base (.slice (some ⟨g,0,none⟩) l.length cap) c2:=ho2.kept (row:=none) ⟨rfl,rfl,rfl,Nat.le_refl _,fun _ _ _=>rfl⟩ (Or.inr (by simp[Value.ownBlock]))
      have c1:(wr.drewN nq).cell? ⟨g,jj,none⟩=some (.int .i64 x):=c1'
      have c0:(wr.drewN nq).cell? ⟨g,jp,none⟩=some (.int .i64 y):=c0'
      have k1:(wr.drewN nq).frozen? ⟨g,jj,none⟩=false:=f1
      have k0:(wr.drewN nq).frozen? ⟨g,jp,none⟩=false:=f0
      clear c1' c0' f1 f0 ho2 hg2
      generalize wr.drewN nq=w3 at *
      go_region
      have ho5:=(ho3.stored jj y iy).stored jp x ix
      have hg5:=hg3.trans (World.grownBy.trans (zAC w3 ⟨g,jj,none⟩ (.int .i64 y)) (zAC _ ⟨g,jp,none⟩ (.int .i64 x)))
      have hset:(c2.set jj y).set jp x=A'++x::((y::B)++l.drop (k+1)):=by
       have h1:c2=A'++y::x::(B++l.drop (k+1)):=by rw[HC2.out,HAY.out];simp
       have h2:=HA'.out
       have h3:=HJ.out
       rw[h1,h3,←h2,List.set_append_right _ _ (by omega),List.set_append_right _ _ (by omega)]
       simp
      have HSET:=Zh hset
      clear c1 c0 k1 k0 ho3 hg3 hset
      go_wp2_with fail
      go_roundw
      case rel =>
       refine ⟨jp,A',y::B,_,by go_num,HA'.out,?_,HSET.out,?_,fun z hz=>HAL.out z (by rw[HAY.out];simp[hz]),ho5,hg5.trans ⟨rfl,rfl,rfl,Nat.le_refl _,fun _ _ _=>rfl⟩⟩
       ·have:=HB.out;have:=HJ.out;simp;omega
       ·rw[←HI.out,HAY.out,zUh HLV.out,List.append_assoc];rfl
      case measure=>have:=HJ.out;simp[intOf];omega
     ·have HLV:=Zh (show ltc cf x y=false from decide_eq_false hlv)
      go_wp2_with (go_quiet (first | (go_at_fn F;refine Calls.quiet_of (HC.out _))))
      go_roundw
      case rel =>
       refine ⟨k+1,c2,by go_num,by omega,by omega,HSTOP.out (Or.inr ⟨A',y,HAY.out,HLV.out⟩),?_,hg2.trans ⟨rfl,rfl,rfl,Nat.le_refl _,fun _ _ _=>rfl⟩⟩
       exact ho2.kept (row:=none) ⟨rfl,rfl,rfl,Nat.le_refl _,fun _ _ _=>rfl⟩ (Or.inr (by simp[Value.ownBlock]))
      case measure=>simp[intOf];omega
    ·have hj0:jj=0:=by omega
     have hs:¬(0:Int)<(jj:Int):=by omega
     have HNIL:=Zh (show A=[] from List.eq_nil_of_length_eq_zero (by omega))
     go_wp2_with (go_quiet (fail))
     go_roundw
     case rel =>
      refine ⟨k+1,c2,by go_num,by omega,by omega,HSTOP.out (Or.inl HNIL.out),?_,hg2.trans ⟨rfl,rfl,rfl,Nat.le_refl _,fun _ _ _=>rfl⟩⟩
      exact ho2.kept (row:=none) ⟨rfl,rfl,rfl,Nat.le_refl _,fun _ _ _=>rfl⟩ (Or.inr (by simp[Value.ownBlock]))
     case measure=>simp[intOf];omega
  ·have HD:=Zh (show c=zSz (ltc cf) l by rw[hc];unfold zSz;rcases hk2 with h | h;(have:l.length=k:=by omega);(rw[←this,List.take_length,List.drop_length,List.append_nil]);(subst h;rw[List.take_of_length_le (by omega),List.drop_of_length_le (by omega),List.append_nil]))
   clear hc
   go_wp2_with fail
   go_end0
   exact ⟨rfl,by rw[←HD.out];exact hoc,hgw⟩
set_option maxRecDepth 100000 in
theorem zJr(F:Nat)(eF:∀args w,(callFunc F args).run Tryz.prog w=.ok (.enter F args) w)(caps:Array Value)(cf:Int→Int→Int)(base g cap:Nat)(l:List Int)(W:World)(ho:zAJ W 3 base (.slice (some ⟨g,0,none⟩) l.length cap) l)(hl:l.length≤19)
  (hF:∀x y w,x∈l→y∈l→W.grownBy w (some g)→Calls Tryz.prog F (#[.int .i64 x,.int .i64 y]++caps) w fun e w'=>e=.returned (.int .i64 (cf x y))∧∃q,w'=w.drewN q) :
  Calls Tryz.prog 113 #[.slice (some ⟨g,0,none⟩) l.length cap,.func (.func F) #[] caps] W fun e w'=>e=.returned (.tuple #[])∧zAJ w' 3 base (.slice (some ⟨g,0,none⟩) l.length cap) (zSz (ltc cf) l)∧W.grownBy w' (some g):=by
 have hi:=Zh (zNx F eF caps cf base g cap l W ho (by omega) hF)
 clear hF ho
 have hst:Calls Tryz.prog 129 #[.slice (some ⟨g,0,none⟩) l.length cap,.int .i64 l.length,.func (.func F) #[] caps] W fun e w'=>e=.returned (.tuple #[])∧zAJ w' 3 base (.slice (some ⟨g,0,none⟩) l.length cap) (zSz (ltc cf) l)∧W.grownBy w' (some g):=by
  have h1:¬((20:Int)≤(l.length:Int)):=by omega
  have h2:¬((20:Int)<(l.length:Int)):=by omega
  go_enter Tryz.func129,Tryz.ntmps129
  go_wp2_with fail
  go_loopw[7,8] (fun a b wr=>a=.int .i64 0∧b=.int .i64 20∧wr=W) (fun _ _ _=>0)
  case atStart=>exact ⟨rfl,rfl,rfl⟩
  case round =>
   obtain ⟨rfl,rfl,rfl⟩:=hrel
   go_wp2_with fail
   refine hi.out.mono ?_
   rintro e w1 ⟨rfl,ho1,hg1⟩
   have HO:=Zh ho1
   have HG:=Zh hg1
   clear ho1 hg1
   go_wp2_with fail
   go_loopw[6,7,8,9] (fun a b c d wr=>a=.int .i64 20∧wr=w1) (fun _ _ _ _ _=>0)
   case atStart=>exact ⟨rfl,rfl⟩
   case round =>
    obtain ⟨rfl,rfl⟩:=hrel
    go_wp2_with fail
    go_end0
    exact ⟨rfl,HO.out,HG.out⟩
 have HST:=Zh hst
 clear hst
 go_enter Tryz.func113,Tryz.ntmps113
 go_wp2_with fail
 refine HST.out.mono ?_
 rintro e w1 ⟨rfl,ho1,hg1⟩
 go_wp2_with fail
 go_end0
 exact ⟨rfl,ho1,hg1⟩
theorem zQv{w0 w w':World}{g:Nat}(h:zAD w0.heap.size w0 w)(hg:w.grownBy w' (some g))(hk:w0.heap.size≤g):zAF (fun _=>False) w0 w':=
 ⟨Nat.le_trans h.2 hg.size,fun k hk' _=>(hg.block k (Nat.lt_of_lt_of_le hk' h.2) (by intro e;cases e;omega)).trans (h.below.block k hk')⟩
set_option maxRecDepth 100000 in
theorem zPb(B:Nat)(al:Option Addr)(cl:Nat)(l:List Pr)(i j:Int)(W:World)(hB:W.cell? ⟨B,0,none⟩=some (.slice al l.length cl))(hu:zAT W (.slice al l.length cl) l)(hi:0≤i∧i<l.length)(hj:0≤j∧j<l.length)
  (hroom:∀p∈l,0≤zDh p∧zDh p≤20) :
  Calls Tryz.prog 114 #[.int .i64 i,.int .i64 j,.pointer (some ⟨B,0,none⟩)] W fun e w'=>e=.returned (.int .i64 (cfP l i j))∧∃q,w'=W.drewN q:=by
 obtain ⟨i,rfl⟩:=Int.eq_ofNat_of_zero_le hi.1
 obtain ⟨j,rfl⟩:=Int.eq_ofNat_of_zero_le hj.1
 have hi2:i<l.length:=by omega
 have hj2:j<l.length:=by omega
 obtain ⟨g,off,u,cu,rfl,_,k1,k2,hp,i1⟩:=zBq hu (List.getElem?_eq_getElem hi2)
 obtain ⟨g',off',u',cu',e1,_,k1',k2',hp',i1'⟩:=zBq hu (List.getElem?_eq_getElem hj2)
 cases e1
 have h1:=hroom _ (List.getElem_mem hi2)
 have h2:=hroom _ (List.getElem_mem hj2)
 have HC:=Zh (show cfP l i j=zDh l[j] - zDh l[i] by unfold cfP;rw[zFs (List.getElem?_eq_getElem hi2),zFs (List.getElem?_eq_getElem hj2)])
 generalize l[i]=p at *
 generalize l[j]=q at *
 have wq:IntKind.i64.wrap (q.2.1 - (q.2.2.length:Int))=zDh q:=by unfold zDh at h2 ⊢;exact IntWalk.i64_in _ (by omega)
 have wp:IntKind.i64.wrap (p.2.1 - (p.2.2.length:Int))=zDh p:=by unfold zDh at h1 ⊢;exact IntWalk.i64_in _ (by omega)
 have wd:IntKind.i64.wrap (zDh q - zDh p)=zDh q - zDh p:=IntWalk.i64_in _ (by omega)
 have s1:(i:Int)<(l.length:Int):=by omega
 have s2:(j:Int)<(l.length:Int):=by omega
 have s3:(0:Int)≤(i:Int):=by omega
 have s4:(0:Int)≤(j:Int):=by omega
 clear hu hp hp' hi hj hroom
 go_enter Tryz.func114,Tryz.ntmps114
 go_wp2_with (go_quiet (fail))
 go_ret
 exact ⟨zAL HC.out.symm,_,rfl⟩
set_option maxRecDepth 100000 in
theorem zJy(F:Nat)(caps:Array Value)(a:Option Addr)(cap:Nat)(W:World) :
  Calls Tryz.prog 113 #[.slice a 0 cap,.func (.func F) #[] caps] W fun e w'=>e=.returned (.tuple #[])∧w'=W:=by
 have hi:Calls Tryz.prog 164 #[.slice a 0 cap,.int .i64 0,.int .i64 0,.func (.func F) #[] caps] W fun e w'=>e=.returned (.tuple #[])∧w'=W:=by
  go_enter Tryz.func164,Tryz.ntmps164
  go_wp2_with fail
  go_loopw[8] (fun i wr=>i=.int .i64 1∧wr=W) (fun _ _=>0)
  case atStart=>exact ⟨rfl,rfl⟩
  case round =>
   obtain ⟨rfl,rfl⟩:=hrel
   go_wp2_with fail
   go_end0
   exact ⟨rfl,rfl⟩
 have HI:=Zh hi
 clear hi
 have hst:Calls Tryz.prog 129 #[.slice a 0 cap,.int .i64 0,.func (.func F) #[] caps] W fun e w'=>e=.returned (.tuple #[])∧w'=W:=by
  go_enter Tryz.func129,Tryz.ntmps129
  go_wp2_with fail
  go_loopw[7,8] (fun a b wr=>a=.int .i64 0∧b=.int .i64 20∧wr=W) (fun _ _ _=>0)
  case atStart=>exact ⟨rfl,rfl,rfl⟩
  case round =>
   obtain ⟨rfl,rfl,rfl⟩:=hrel
   go_wp2_with fail
   refine HI.out.mono ?_
   rintro e w1 ⟨rfl,rfl⟩
   go_wp2_with fail
   go_loopw[6,7,8,9] (fun a b c d wr=>a=.int .i64 20∧wr=w1) (fun _ _ _ _ _=>0)
   case atStart=>exact ⟨rfl,rfl⟩
   case round =>
    obtain ⟨rfl,rfl⟩:=hrel
    go_wp2_with fail
    go_end0
    exact ⟨rfl,rfl⟩
 have HST:=Zh hst
 clear hst
 go_enter Tryz.func113,Tryz.ntmps113
 go_wp2_with fail
 refine HST.out.mono ?_
 rintro e w1 ⟨rfl,rfl⟩
 go_wp2_with fail
 go_end0
 exact ⟨rfl,rfl⟩
theorem zCq{n o s:Int}(h:zAx n o s=0):∃n' o' s':Nat,n=n'∧o=o'∧s=s':=by
 obtain ⟨p1,p2,p3,p4,p5,p6⟩:=zAg h
 exact ⟨n.toNat,o.toNat,s.toNat,by omega,by omega,by omega⟩
theorem zDQ{n o s:Int}{data:List Int}(h:zAe n o s data=0):zAx n o s=0∧(data.length:Int)=s∧∀z∈data,0≤z∧z<31:=by
 unfold zAe at h
 split at h
 ·rename_i h1;exact absurd h h1
 ·rename_i h1
  split at h
  ·simp at h
  ·rename_i h2
   exact ⟨by simpa using h1,by simpa using h2,(zFj _).1 h⟩
def zA4(n o s:Int)(data:List Int):List Sh:=if zAe n o s data=0 then zAV n.toNat data o.toNat (zAM n.toNat s.toNat) else []
theorem zBw{n o s:Nat}{data:List Int}(h:zAe n o s data=0):zA4 n o s data=zAV n data o (zAM n s):=by unfold zA4;rw[if_pos h];simp
theorem zFp{n o s:Int}{data:List Int}(h:zAe n o s data≠0):zA4 n o s data=[]:=by unfold zA4;rw[if_neg h]
theorem zMY(n o s:Int)(v:Value)(data:List Int)(W:World)(hd:zAG W v data) :
  Calls Tryz.prog 68 #[.agg #[.int .i64 n,.int .i64 o,.int .i64 s],v] W fun e w'=>(∃v',e=.returned (.tuple #[v',.int .i64 (zAe n o s data)])∧zAN w' v' (zA4 n o s data))∧Below W.heap.size W w':=by
 by_cases h:zAe n o s data=0
 ·obtain ⟨n,o,s,rfl,rfl,rfl⟩:=zCq (zDQ h).1
  rw[h,zBw h]
  exact (zLj n o s v data W hd h).mono fun e w' ⟨⟨g,f,he,ho⟩,hb⟩=>⟨⟨_,he,ho.isShares⟩,hb⟩
 ·rw[zFp h]
  exact (zPI n o s v data W hd h).mono fun e w' ⟨he,hb⟩=>⟨⟨_,he,zAN.nil _⟩,hb⟩
theorem zBZ{w:World}{a:Option Addr}{n cap:Nat}{ls:List Sh}(h:zAN w (.slice a n cap) ls){k:Nat}{s:Sh}(hs:ls[k]?=some s) :
  ∃b off u c,a=some ⟨b,off,none⟩∧w.cell? ⟨b,off+k*2,none⟩=some (.int .i64 s.1)∧w.cell? ⟨b,off+k*2+1,none⟩=some (.slice u s.2.length c)∧zAG w (.slice u s.2.length c) s.2∧I64 s.1:=by
 obtain ⟨a',c',e,_,_,hi⟩:=h
 simp only[Value.slice.injEq] at e
 obtain ⟨rfl,rfl,rfl⟩:=e
 obtain ⟨b,off,v,s',e1,h1,h2,h3,h4,h5⟩:=hi k (List.getElem?_eq_some_iff.1 hs).1
 rw[hs] at h4
 cases h4
 obtain ⟨u,c,rfl,_⟩:=h3.opened
 exact ⟨b,off,u,c,e1,h1,h2,h3,h5⟩
theorem zC0{w:World}{a:Option Addr}{n cap:Nat}{l:List Int}(h:zAG w (.slice a n cap) l){i:Nat}{z:Int}(hz:l[i]?=some z) :
  ∃b off,a=some ⟨b,off,none⟩∧w.cell? ⟨b,off+i,none⟩=some (.int .i64 z)∧I64 z:=by
 obtain ⟨a',c',e,_,_,hi⟩:=h.opened
 simp only[Value.slice.injEq] at e
 obtain ⟨rfl,rfl,rfl⟩:=e
 obtain ⟨b,off,z',e1,h1,h2,h3⟩:=hi i (List.getElem?_eq_some_iff.1 hz).1
 rw[hz] at h2
 cases h2
 exact ⟨b,off,e1,h1,h3⟩
theorem zAs{w w':World}{v:Value}{ls:List Sh}(h:zAN w v ls)(hb:Below w.heap.size w w'):zAN w' v ls:=by
 obtain ⟨a,c,e,h1,h2,h3⟩:=h
 exact ⟨a,c,e,h1,h2,h3.stays hb⟩
end Go.Proofs.YthgmphbkkojaoaaGreat
