/-
  The walks of a peer's copy, and of a share's. What a peer keeps, peers: as the call's own, to the last number; no two things in one block. The walk of a peer's copy. The walk of slices.Insert of one kept share into an own row. The walk of peer.Keep. What mesh.put does, in plain Lean. Meshes as the call's own: peers being copied.
-/
import Derived.Test.YthgmphbkkojaoaaGreatQPlaces
import Derived.Lib.Overlaps
set_option maxHeartbeats 8000000
namespace Go.Proofs.YthgmphbkkojaoaaGreat
set_option linter.unusedSectionVars false
variable [Zn]
open Go.RowKit
theorem zAf.one:zAf.One:=by
 rintro w cs x ⟨v,rfl,h,_⟩ c hc
 obtain ⟨a,cp,rfl,_⟩:=h.opened
 simp at hc
 rcases hc with rfl|rfl|rfl<;>rfl
theorem zCn:(Tryz.prog.info? 66).map (fun i=>(i.zero,i.size,i.bytes))=some (some (.agg #[.int .i64 0,.int .i64 0,.slice none 0 0]),3,40):=by kernel_rfl
theorem zFa{α:Type}{R:Rd α}(hRS:R.Stays)(hR1:R.One)(v:Value)(b:List α)(w0 w:World)(hw0:zAF (fun _=>False) w0 w)(hv:zAZ 3 R w0 v b)(hb:b.length≤1000000) :
  Calls Tryz.prog 38 #[v] w fun e w'=>(∃v',e=.returned v'∧zAK 3 R (fun k=>w0.heap.size≤k) w' 66 w.heap.size v' b)∧Below w.heap.size w w':=by
 have hq:∀(w:World) (a:Option Addr) (n c n' c':Nat),(binOp .eql 60 (.slice a n c) (.slice none n' c')).run Tryz.prog w=.ok (.bool a.isNone) w:=fun w a n c n' c'=>Lib.run_eql_slice_nil w _ _ a n c n' c' Tryz.underlying60
 have hv0:=hv
 obtain ⟨ax,cx,rfl,hcx,hmx,hx⟩:=hv.opened
 obtain ⟨hm1,hm2,hm3⟩:=hmx
 cases ax with
 | none =>
  have hc0:=hm3 rfl
  have hl0:b=[]:=by
   cases b with
   | nil=>rfl
   | cons y r=>obtain ⟨b,off,e1,_⟩:=hx 0 y rfl;cases e1
  subst hc0 hl0
  clear hx
  go_enter Tryz.func38,Tryz.ntmps38
  go_wp2
  go_ret
  exact ⟨⟨_,rfl,zAK.nil _ _ _⟩,Below.refl _ _⟩
 | some ad =>
  clear hm3 hx hv
  have hown:=zAK.made (R:=R) (sz:=3) (E:=fun k=>w0.heap.size≤k) w 66
  have HV:=Zh hv0
  have HD:Hid (zAF (fun _=>False) w0 (w.alloc (.cells #[] 66))):=Zh (hw0.trans (zAF.old (zAB _ _) _))
  have hsz:=hw0.1
  clear hv0 hw0
  go_enter Tryz.func38,Tryz.ntmps38
  go_wp2_with (at_builtin;refine zCE rfl _ _ 60 rfl 3 _ 66 Tryz.underlying60 _ 40 zCn rfl (by omega) (by omega) w.heap.size _ [] rfl hown w0 HD.out b _ rfl HV.out hRS hR1 (by intro k hk;rcases hk with hk | hk;(cases hk;exact hsz);exact hk) (by simp;omega) (by simp) ?_;intro v' w1 hown1 hg1 _)
  go_ret
  exact ⟨⟨_,rfl,hown1⟩,zGv (zAB _ _) hown hg1 (by simp)⟩
theorem zEX(v:Value)(b:List Kp)(w0 w:World)(hw0:zAF (fun _=>False) w0 w)(hv:zAl w0 v b)(hb:b.length≤1000000) :
  Calls Tryz.prog 38 #[v] w fun e w'=>(∃v',e=.returned v'∧zAK 3 zAf (fun k=>w0.heap.size≤k) w' 66 w.heap.size v' b)∧Below w.heap.size w w':=
 zFa zAf.stays zAf.one v b w0 w hw0 hv hb
set_option maxRecDepth 100000 in
theorem zGl(N:Int)(v:Value)(l:List Int)(W:World)(hv:zAG W v l) :
  Calls Tryz.prog 79 #[.agg #[.int .i64 N,v]] W fun e w'=>(∃v',e=.returned (.agg #[.int .i64 N,v'])∧zAJ w' 3 W.heap.size v' l)∧Below W.heap.size W w':=by
 obtain ⟨a,c,rfl,hc,⟨hm,hcm,_⟩,_⟩:=hv.opened
 have S0:=((zAD.refl W).alloc (.cells #[.int .i64 N,.slice a l.length c] 64)).alloc (.cells #[.int .i64 0,.slice none 0 0] 64)
 have hv0:=hv.stays S0.below
 have c0:((W.alloc (.cells #[.int .i64 N,.slice a l.length c] 64)).alloc (.cells #[.int .i64 0,.slice none 0 0] 64)).cell? ⟨W.heap.size,0,none⟩=some (.int .i64 N):=by go_simp
 have c1:((W.alloc (.cells #[.int .i64 N,.slice a l.length c] 64)).alloc (.cells #[.int .i64 0,.slice none 0 0] 64)).cell? ⟨W.heap.size,1,none⟩=some (.slice a l.length c):=by go_simp
 have f1:((W.alloc (.cells #[.int .i64 N,.slice a l.length c] 64)).alloc (.cells #[.int .i64 0,.slice none 0 0] 64)).frozen? ⟨W.heap.size,1,none⟩=false:=by go_simp
 have d0:((W.alloc (.cells #[.int .i64 N,.slice a l.length c] 64)).alloc (.cells #[.int .i64 0,.slice none 0 0] 64)).cell? ⟨W.heap.size+1,0,none⟩=some (.int .i64 0):=by go_simp
 have d1:((W.alloc (.cells #[.int .i64 N,.slice a l.length c] 64)).alloc (.cells #[.int .i64 0,.slice none 0 0] 64)).cell? ⟨W.heap.size+1,1,none⟩=some (.slice none 0 0):=by go_simp
 have g0:((W.alloc (.cells #[.int .i64 N,.slice a l.length c] 64)).alloc (.cells #[.int .i64 0,.slice none 0 0] 64)).frozen? ⟨W.heap.size+1,0,none⟩=false:=by go_simp
 have g1:((W.alloc (.cells #[.int .i64 N,.slice a l.length c] 64)).alloc (.cells #[.int .i64 0,.slice none 0 0] 64)).frozen? ⟨W.heap.size+1,1,none⟩=false:=by go_simp
 clear hv
 go_enter Tryz.func79,Tryz.ntmps79
 go_upto_region 1 with fail
 generalize (W.alloc (.cells #[.int .i64 N,.slice a l.length c] 64)).alloc (.cells #[.int .i64 0,.slice none 0 0] 64)=w0 at *
 obtain ⟨B,hB⟩:∃B,B=W.heap.size:=⟨_,rfl⟩
 obtain ⟨B1,hB1⟩:∃B1,B1=W.heap.size+1:=⟨_,rfl⟩
 rw[←hB1] at d0 d1 g0 g1 ⊢
 rw[←hB] at c0 c1 f1 ⊢
 have hWB:W.heap.size≤B:=by omega
 have hWB1:W.heap.size≤B1:=by omega
 have hBB:¬B=B1:=by omega
 have hBB':¬B1=B:=by omega
 clear hB hB1
 go_wp2_with (go_at_call 39;refine (zD0 _ l _ hv0).mono ?_;rintro e w1 ⟨⟨v1,rfl,ho1⟩,hb1⟩;obtain ⟨a1,k1,rfl,_⟩:=ho1.isInts.opened;have e0:=zAA hb1 c0;have e1:=zAA hb1 c1;have e2:=zAE hb1 c1 f1;have e3:=zAA hb1 d0;have e4:=zAA hb1 d1;have e5:=zAE hb1 d0 g0;have e6:=zAE hb1 d1 g1)
 have hB0:=zAH c0
 have hB1:=zAH d0
 have hlt:=ho1.1.lt
 have hn:∀k,k<w0.heap.size→(Value.slice a1 l.length k1).ownBlock=none∨(Value.slice a1 l.length k1).ownBlock≠some k:=fun k hk=>by
  cases hq:(Value.slice a1 l.length k1).ownBlock with
  | none=>exact Or.inl rfl
  | some j=>right;intro e;cases e;have:=(hlt _ hq).1;omega
 have HO:=Zh ((((ho1.kept (zAC w1 ⟨B,1,none⟩ (.slice a1 l.length k1)) (hn B hB0)).kept (zAC _ ⟨B1,0,none⟩ (.int .i64 N)) (hn B1 hB1)).kept (zAC _ ⟨B1,1,none⟩ (.slice a1 l.length k1)) (hn B1 hB1)).mono S0.2)
 have S3:=(((S0.step hb1).setCell (a:=⟨B,1,none⟩) hWB (.slice a1 l.length k1)).setCell (a:=⟨B1,0,none⟩) hWB1 (.int .i64 N)).setCell (a:=⟨B1,1,none⟩) hWB1 (.slice a1 l.length k1)
 have m0:(((w1.setCell ⟨B,1,none⟩ (.slice a1 l.length k1)).setCell ⟨B1,0,none⟩ (.int .i64 N)).setCell ⟨B1,1,none⟩ (.slice a1 l.length k1)).cell? ⟨B1,0,none⟩=some (.int .i64 N):=by go_simp
 have m1:(((w1.setCell ⟨B,1,none⟩ (.slice a1 l.length k1)).setCell ⟨B1,0,none⟩ (.int .i64 N)).setCell ⟨B1,1,none⟩ (.slice a1 l.length k1)).cell? ⟨B1,1,none⟩=some (.slice a1 l.length k1):=by go_simp
 clear ho1 e0 e1 e2 e3 e4 e5 e6 hb1 hn hlt
 generalize ((w1.setCell ⟨B,1,none⟩ (.slice a1 l.length k1)).setCell ⟨B1,0,none⟩ (.int .i64 N)).setCell ⟨B1,1,none⟩ (.slice a1 l.length k1)=w3 at *
 exact bodyPost_ret (v:=.agg #[.int .i64 N,.slice a1 l.length k1]) (by simp[results,Tryz.results79,go_sem,m0,m1]) rfl ⟨⟨_,rfl,HO.out⟩,S3.below⟩
theorem zK3{E:Nat→Prop}{w:World}{e:TypeId}{base:Nat}{v:Value}{b:List Kp}(h:zAK 3 zAf E w e base v b){i:Nat}{x:Kp}(hx:b[i]?=some x) :
  ∃g cap u c,v=.slice (some ⟨g,0,none⟩) b.length cap∧base≤g∧g<w.heap.size∧b.length≤cap∧w.cell? ⟨g,i*3,none⟩=some (.int .i64 x.1)∧w.cell? ⟨g,i*3+1,none⟩=some (.int .i64 x.2.1)∧w.cell? ⟨g,i*3+2,none⟩=some (.slice u x.2.2.length c)∧zAG w (.slice u x.2.2.length c) x.2.2∧I64 x.1∧I64 x.2.1∧(∀j,w.frozen? ⟨g,j,none⟩=false):=by
 obtain ⟨r,g,hg,hl,h1,hc,hf⟩:=h.get hx
 rcases h.shape with ⟨rfl,rfl⟩|⟨g',cap,cur,rfl,hb,hlt,hnc,_⟩
 ·simp at hx
 ·simp only[Value.ownBlock,Option.some.injEq] at hg
  subst hg
  obtain ⟨u,rfl,hu,i1,i2⟩:=hf.now
  obtain ⟨a,c,rfl,_⟩:=hu.opened
  exact ⟨g',cap,a,c,rfl,hb,hlt,hnc,hc 0 _ rfl,hc 1 _ rfl,hc 2 _ rfl,hu,i1,i2,fun j=>h.free rfl j⟩
theorem zHG{α:Type}{l:List α}{i:Nat}{x:α}(h:l[i]?=some x):l.set i x=l:=by
 apply List.ext_getElem?
 intro j
 rw[List.getElem?_set]
 by_cases hij:i=j
 ·subst hij
  rw[if_pos rfl,if_pos (List.getElem?_eq_some_iff.1 h).1,h]
 ·rw[if_neg hij]
abbrev KpD:=Kp × Value
def RC:Rd KpD:=fun _ cs y=>cs=[.int .i64 y.1.1,.int .i64 y.1.2.1,y.2]∧∃a n c,y.2=.slice a n c
theorem RC.stays:RC.Stays:=fun _ _ _ h _ _=>h
theorem RC.one:RC.One:=by
 rintro w cs y ⟨rfl,a,n,c,e⟩ u hu
 simp at hu
 rcases hu with rfl|rfl|rfl
 ·rfl
 ·rfl
 ·rw[e];rfl
theorem RC.anyE{E E':Nat→Prop}{w:World}{sz:Nat}{e:TypeId}{base:Nat}{v:Value}{l:List KpD}(h:zAK sz RC E w e base v l):zAK sz RC E' w e base v l:=by
 have:=h.conv (R':=RC) (E':=E') id (fun cs x _ hf w' _=>hf.now)
 simpa using this
structure DK (w:World) (base:Nat) (v:Value) (ys:List KpD):Prop where
 row:zAK 3 RC (fun _=>False) w 66 base v ys
 vals:∀y∈ys,zAJ w 3 base y.2 y.1.2.2∧I64 y.1.1∧I64 y.1.2.1∧zDw y.2 v
 apart:ys.Pairwise (fun a b=>zDw a.2 b.2)
def zMx(v:Value)(ys:List KpD)(k:Nat):Prop:=v.ownBlock=some k∨∃y∈ys,y.2.ownBlock=some k
theorem zK8{v:Value}{k:Nat}(h:Value.lies v k):v.ownBlock=some k:=by
 obtain ⟨a,n,c,rfl,rfl⟩:=h
 rfl
theorem zAJ.same{w w':World}{e:TypeId}{base:Nat}{v:Value}{l:List Int}(h:zAJ w e base v l)(hb:∀k,v.ownBlock=some k→w'.heap[k]?=w.heap[k]?):zAJ w' e base v l:=by
 obtain ⟨⟨h1,h2⟩,h3⟩:=h
 refine ⟨⟨h1,?_⟩,h3⟩
 rcases h2 with h2|⟨g,cap,cur,h4,h5,h6,h7⟩
 ·exact .inl h2
 ·exact .inr ⟨g,cap,cur,h4,h5,(hb g (by rw[h4];rfl)).trans h6,h7⟩
section
variable {w w' : World} {base : Nat} {v : Value} {ys : List KpD}
theorem DK.nil(w:World)(base:Nat):DK w base (.slice none 0 0) []:=⟨zAK.nil _ _ _,by simp,List.Pairwise.nil⟩
theorem DK.lt(h:DK w base v ys){k:Nat}(hk:zMx v ys k):base≤k∧k<w.heap.size:=by
 rcases hk with hk|⟨y,hy,hk⟩
 ·exact h.row.lt k hk
 ·exact (h.vals y hy).1.1.lt k hk
theorem DK.frame(h:DK w base v ys){D:Nat→Prop}(hw:zAF D w w')(hD:∀k,zMx v ys k→¬D k):DK w' base v ys:=by
 refine ⟨RC.anyE ((RC.anyE (E':=D) h.row).later hw (fun k hk=>hD k (Or.inl hk))),fun y hy=>?_,h.apart⟩
 obtain ⟨h1,h2⟩:=h.vals y hy
 exact ⟨h1.same (fun k hk=>hw.2 k (h1.1.lt k hk).2 (hD k (Or.inr ⟨y,hy,hk⟩))),h2⟩
theorem DK.stays(h:DK w base v ys)(hb:Below w.heap.size w w'):DK w' base v ys:=h.frame (zAF.old hb (fun _=>False)) (fun _ _=>id)
theorem DK.mono(h:DK w base v ys){b:Nat}(hb:b≤base):DK w b v ys:=⟨h.row.mono hb,fun y hy=>⟨(h.vals y hy).1.mono hb,(h.vals y hy).2⟩,h.apart⟩
theorem DK.ownRow(h:DK w base v ys){E:Nat→Prop}(hE:∀k,zMx v ys k→¬E k):zAK 3 zAf E w 66 base v (ys.map (·.1)):=
 h.row.conv (·.1) fun cs y hy hf=>by
  obtain ⟨rfl,_⟩:=hf.now
  obtain ⟨h1,h2,h3,h4⟩:=h.vals y hy
  intro w' hw'
  refine ⟨y.2,rfl,(h1.isInts.framed (fun k hk _ hd=>?_) hw'),h2,h3⟩
  have hk:=zK8 hk
  rcases hd with hd|hd
  ·exact h4 k k hk hd rfl
  ·exact hE k (Or.inr ⟨y,hy,hk⟩) hd
theorem DK.isKepts(h:DK w base v ys):zAl w v (ys.map (·.1)):=(h.ownRow (E:=fun _=>False) (fun _ _=>id)).isRow
end
theorem zGW{α β:Type}:∀{l:List α} {P:Nat→α→β→Prop},(∀(i:Nat) x,l[i]?=some x→∃y,P i x y)→∃ys:List β,ys.length=l.length∧∀(i:Nat) x y,l[i]?=some x→ys[i]?=some y→P i x y
 | [],_,_=>⟨[],rfl,fun i x y h=>by simp at h⟩
 | a::l,P,h=>by
  obtain ⟨y0,h0⟩:=h 0 a rfl
  obtain ⟨ys,h1,h2⟩:=zGW (l:=l) (P:=fun i x y=>P (i+1) x y) (fun i x hx=>h (i+1) x (by simpa using hx))
  refine ⟨y0::ys,by simp[h1],fun i x y hx hy=>?_⟩
  match i,hx,hy with
  | 0,hx,hy=>simp at hx hy;subst hx hy;exact h0
  | i+1,hx,hy=>exact h2 i x y (by simpa using hx) (by simpa using hy)
theorem zAZ.rawK{w:World}{v:Value}{l:List Kp}(h:zAl w v l):∃ys:List KpD,ys.map (·.1)=l∧zAZ 3 RC w v ys∧∀y∈ys,zAG w y.2 y.1.2.2∧I64 y.1.1∧I64 y.1.2.1:=by
 obtain ⟨a,cap,rfl,h1,h2,h3⟩:=h
 obtain ⟨ys,hl,hy⟩:=zGW (l:=l) (P:=fun i x (y:KpD)=>y.1=x∧(∃b off,a=some ⟨b,off,none⟩∧zEB 3 RC w b (off+i*3) y)∧zAG w y.2 y.1.2.2∧I64 y.1.1∧I64 y.1.2.1) (fun i x hx=>by
  obtain ⟨b,off,e,cs,g1,g2,v,rfl,g3,g4,g5⟩:=h3 i x hx
  obtain ⟨u,c,rfl,_⟩:=g3.opened
  exact ⟨(x,.slice u x.2.2.length c),rfl,⟨b,off,e,_,g1,g2,rfl,_,_,_,rfl⟩,g3,g4,g5⟩)
 have hm:ys.map (·.1)=l:=by
  apply List.ext_getElem?
  intro i
  rw[List.getElem?_map]
  by_cases hi:i<l.length
  ·have e1:=List.getElem?_eq_getElem hi
   have e2:=List.getElem?_eq_getElem (l:=ys) (i:=i) (by omega)
   rw[e1,e2]
   simp[(hy i _ _ e1 e2).1]
  ·rw[List.getElem?_eq_none (by omega),List.getElem?_eq_none (by omega)]
   rfl
 refine ⟨ys,hm,⟨a,cap,by rw[hl],by omega,⟨by omega,h2.2⟩,fun i y hi=>?_⟩,fun y hm'=>?_⟩
 ·have hil:=(List.getElem?_eq_some_iff.1 hi).1
  exact (hy i _ y (List.getElem?_eq_getElem (by omega)) hi).2.1
 ·obtain ⟨i,hi⟩:=List.getElem?_of_mem hm'
  have hil:=(List.getElem?_eq_some_iff.1 hi).1
  exact (hy i _ y (List.getElem?_eq_getElem (by omega)) hi).2.2
theorem zOf{E:Nat→Prop}{w:World}{e:TypeId}{base:Nat}{v:Value}{zs:List KpD}(h:zAK 3 RC E w e base v zs){i:Nat}{y:KpD}(hy:zs[i]?=some y) :
  ∃g cap,v=.slice (some ⟨g,0,none⟩) zs.length cap∧base≤g∧g<w.heap.size∧zs.length≤cap∧w.cell? ⟨g,i*3,none⟩=some (.int .i64 y.1.1)∧w.cell? ⟨g,i*3+1,none⟩=some (.int .i64 y.1.2.1)∧w.cell? ⟨g,i*3+2,none⟩=some y.2∧(∀j,w.frozen? ⟨g,j,none⟩=false):=by
 obtain ⟨r,g,hg,hl,h1,hc,hf⟩:=h.get hy
 rcases h.shape with ⟨rfl,rfl⟩|⟨g',cap,cur,rfl,hb,hlt,hnc,_⟩
 ·simp at hy
 ·simp only[Value.ownBlock,Option.some.injEq] at hg
  subst hg
  obtain ⟨rfl,_⟩:=hf.now
  exact ⟨g',cap,rfl,hb,hlt,hnc,hc 0 _ rfl,hc 1 _ rfl,hc 2 _ rfl,fun j=>h.free rfl j⟩
theorem zAK.setRC{E:Nat→Prop}{w:World}{e:TypeId}{base g L cap k:Nat}{zs:List KpD}(h:zAK 3 RC E w e base (.slice (some ⟨g,0,none⟩) L cap) zs){y:KpD}(hy:zs[k]?=some y){v:Value}(hv:∃a n c,v=.slice a n c) :
  zAK 3 RC E ((w.setCell ⟨g,k*3+1,none⟩ (.int .i64 y.1.2.1)).setCell ⟨g,k*3+2,none⟩ v) e base (.slice (some ⟨g,0,none⟩) L cap) (zs.set k (y.1,v)):=by
 have hone:v.oneCell'=true:=by obtain ⟨a,n,c,rfl⟩:=hv;rfl
 have h2:zAK 3 RC E (w.setCell ⟨g,k*3+1,none⟩ (.int .i64 y.1.2.1)) e base (.slice (some ⟨g,0,none⟩) L cap) zs:=by
  obtain ⟨r,g',hg',hl,h1,hc,hf⟩:=h.get hy
  simp only[Value.ownBlock,Option.some.injEq] at hg'
  subst hg'
  have hr:r.set 1 (.int .i64 y.1.2.1)=r:=by
   obtain ⟨rfl,_⟩:=hf.now
   rfl
  have:=h.set (j:=1) (c:=.int .i64 y.1.2.1) (x':=y) hy rfl hl hc (by omega) rfl (by rw[hr];exact hf)
  rwa [zHG hy] at this
 clear h
 generalize w.setCell ⟨g,k*3+1,none⟩ (.int .i64 y.1.2.1)=w1 at *
 obtain ⟨r,g',hg',hl,h1,hc,hf⟩:=h2.get hy
 simp only[Value.ownBlock,Option.some.injEq] at hg'
 subst hg'
 obtain ⟨rfl,_⟩:=hf.now
 exact h2.set (j:=2) hy rfl hl hc (by omega) hone (fun _ _=>⟨rfl,hv⟩)
abbrev PrD:=(Bool × Int × Value) × List KpD
def zDK(z:PrD):Pr:=(z.1.1,z.1.2.1,z.2.map (·.1))
def RPC:Rd PrD:=fun _ cs z=>cs=[.bool z.1.1,.int .i64 z.1.2.1,z.1.2.2]∧∃a n c,z.1.2.2=.slice a n c
theorem RPC.stays:RPC.Stays:=fun _ _ _ h _ _=>h
theorem RPC.one:RPC.One:=by
 rintro w cs y ⟨rfl,a,n,c,e⟩ u hu
 simp at hu
 rcases hu with rfl|rfl|rfl
 ·rfl
 ·rfl
 ·rw[e];rfl
theorem RPC.anyE{E E':Nat→Prop}{w:World}{sz:Nat}{e:TypeId}{base:Nat}{v:Value}{l:List PrD}(h:zAK sz RPC E w e base v l):zAK sz RPC E' w e base v l:=by
 have:=h.conv (R':=RPC) (E':=E') id (fun cs x _ hf w' _=>hf.now)
 simpa using this
def zDu(z:PrD)(k:Nat):Prop:=zMx z.1.2.2 z.2 k
structure DP (w:World) (base:Nat) (v:Value) (zs:List PrD):Prop where
 row:zAK 3 RPC (fun _=>False) w 62 base v zs
 each:∀z∈zs,DK w base z.1.2.2 z.2∧I64 z.1.2.1∧∀k,zDu z k→v.ownBlock≠some k
 apart:zs.Pairwise (fun a b=>∀k,zDu a k→¬zDu b k)
def zBu(v:Value)(zs:List PrD)(k:Nat):Prop:=v.ownBlock=some k∨∃z∈zs,zDu z k
section
variable {w w' : World} {base : Nat} {v : Value} {zs : List PrD}
theorem DP.nil(w:World)(base:Nat):DP w base (.slice none 0 0) []:=⟨zAK.nil _ _ _,by simp,List.Pairwise.nil⟩
theorem DP.lt(h:DP w base v zs){k:Nat}(hk:zBu v zs k):base≤k∧k<w.heap.size:=by
 rcases hk with hk|⟨z,hz,hk⟩
 ·exact h.row.lt k hk
 ·exact (h.each z hz).1.lt hk
theorem DP.frame(h:DP w base v zs){D:Nat→Prop}(hw:zAF D w w')(hD:∀k,zBu v zs k→¬D k):DP w' base v zs:=by
 refine ⟨RPC.anyE ((RPC.anyE (E':=D) h.row).later hw (fun k hk=>hD k (Or.inl hk))),fun z hz=>?_,h.apart⟩
 obtain ⟨h1,h2⟩:=h.each z hz
 exact ⟨h1.frame hw (fun k hk=>hD k (Or.inr ⟨z,hz,hk⟩)),h2⟩
theorem DP.stays(h:DP w base v zs)(hb:Below w.heap.size w w'):DP w' base v zs:=h.frame (zAF.old hb (fun _=>False)) (fun _ _=>id)
theorem DP.mono(h:DP w base v zs){b:Nat}(hb:b≤base):DP w b v zs:=⟨h.row.mono hb,fun z hz=>⟨(h.each z hz).1.mono hb,(h.each z hz).2⟩,h.apart⟩
theorem DP.isPeers(h:DP w base v zs):zAT w v (zs.map zDK):=by
 have:=h.row.conv (R':=zAj) (E':=fun _=>False) zDK fun cs z hz hf=>by
  obtain ⟨rfl,_⟩:=hf.now
  obtain ⟨h1,h2,h3⟩:=h.each z hz
  intro w' hw'
  refine ⟨z.1.2.2,rfl,(h1.frame hw' (fun k hk hd=>?_)).isKepts,h2⟩
  rcases hd with hd|hd
  ·exact h3 k hk hd
  ·exact hd
 exact this.isRow
theorem DP.get(h:DP w base v zs){i:Nat}{z:PrD}(hz:zs[i]?=some z):∃g cap a n c,v=.slice (some ⟨g,0,none⟩) zs.length cap∧z.1.2.2=.slice a n c∧w.cell? ⟨g,i*3,none⟩=some (.bool z.1.1)∧w.cell? ⟨g,i*3+1,none⟩=some (.int .i64 z.1.2.1)∧w.cell? ⟨g,i*3+2,none⟩=some (.slice a n c)∧base≤g∧∀j,w.frozen? ⟨g,j,none⟩=false:=by
 obtain ⟨r,g,hg,hl,h1,hc,hf⟩:=h.row.get hz
 rcases h.row.shape with ⟨rfl,rfl⟩|⟨g',cap,cur,rfl,hb,_⟩
 ·simp at hz
 ·simp only[Value.ownBlock,Option.some.injEq] at hg
  subst hg
  obtain ⟨rfl,a,n,c,e⟩:=hf.now
  exact ⟨g',cap,a,n,c,rfl,e,hc 0 _ rfl,hc 1 _ rfl,by have:=hc 2 _ rfl;rwa [e] at this,hb,fun j=>h.row.free rfl j⟩
theorem zC3{α:Type}{R:α→α→Prop}(hs:∀a b,R a b→R b a):∀{l:List α} {i:Nat} {x:α},l.Pairwise R→(∀(j:Nat) y,j≠i→l[j]?=some y→R x y)→(l.set i x).Pairwise R
 | [],_,_,_,_=>by simp
 | a::l,0,x,h,hx=>by
  rw[List.set_cons_zero,List.pairwise_cons]
  refine ⟨fun y hy=>?_,(List.pairwise_cons.1 h).2⟩
  obtain ⟨j,hj⟩:=List.getElem?_of_mem hy
  exact hx (j+1) y (by omega) (by simpa using hj)
 | a::l,i+1,x,h,hx=>by
  rw[List.set_cons_succ,List.pairwise_cons]
  refine ⟨fun y hy=>?_,zC3 hs (List.pairwise_cons.1 h).2 (fun j y hj hy=>hx (j+1) y (by omega) (by simpa using hy))⟩
  rcases List.mem_or_eq_of_mem_set hy with hy|rfl
  ·exact (List.pairwise_cons.1 h).1 y hy
  ·exact hs _ _ (hx 0 a (by omega) rfl)
theorem zCQ{α:Type}{R:α→α→Prop}(hs:∀a b,R a b→R b a){l:List α}(h:l.Pairwise R){i j:Nat}{x y:α}(hx:l[i]?=some x)(hy:l[j]?=some y)(hij:i≠j):R x y:=by
 have hp:=List.pairwise_iff_getElem.1 h
 obtain ⟨h1,rfl⟩:=List.getElem?_eq_some_iff.1 hx
 obtain ⟨h2,rfl⟩:=List.getElem?_eq_some_iff.1 hy
 rcases Nat.lt_or_ge i j with h3|h3
 ·exact hp i j h1 h2 h3
 ·exact hs _ _ (hp j i h2 h1 (by omega))
theorem zCd(a b:PrD)(h:∀k,zDu a k→¬zDu b k):∀k,zDu b k→¬zDu a k:=fun k hb ha=>h k ha hb
theorem DP.put(h:DP w base v zs){g L cap:Nat}(hv:v=.slice (some ⟨g,0,none⟩) L cap){i:Nat}{z':PrD}(hi:i<zs.length)(hd:DK w base z'.1.2.2 z'.2)(hz:I64 z'.1.2.1)(hs:∃a n c,z'.1.2.2=.slice a n c)(hg:∀k,zDu z' k→k≠g)(ha:∀(j:Nat) z,j≠i→zs[j]?=some z→∀k,zDu z' k→¬zDu z k) :
  DP (w.setCells g (i*3) [.bool z'.1.1,.int .i64 z'.1.2.1,z'.1.2.2]) base v (zs.set i z'):=by
 subst hv
 have hgr:=zAQ g [.bool z'.1.1,.int .i64 z'.1.2.1,z'.1.2.2] (i*3) w
 have hw:zAF (fun k=>k=g) w (w.setCells g (i*3) [.bool z'.1.1,.int .i64 z'.1.2.1,z'.1.2.2]):=(zAF.of_grown hgr).mono fun k _ hk=>by cases hk;rfl
 refine ⟨h.row.setElem hi rfl ?_ ?_,fun z hz'=>?_,zC3 zCd h.apart (fun j y hj hy=>ha j y hj hy)⟩
 ·obtain ⟨a,n,c,e⟩:=hs
  intro u hu
  simp at hu
  rcases hu with rfl|rfl|rfl
  ·rfl
  ·rfl
  ·rw[e];rfl
 ·exact fun _ _=>⟨rfl,hs⟩
 ·rcases List.mem_or_eq_of_mem_set hz' with hm|rfl
  ·obtain ⟨h1,h2,h3⟩:=h.each z hm
   exact ⟨h1.frame hw (fun k hk e=>h3 k hk (by rw[e];rfl)),h2,h3⟩
  ·exact ⟨hd.frame hw (fun k hk e=>hg k hk e),hz,fun k hk e=>hg k hk (by cases e;rfl)⟩
end
def zB3(ys:List KpD)(b:List Kp)(base:Nat)(V:Value)(k:Nat)(w:World):Prop:=
 ∃zs,zs.map (·.1)=b∧zAK 3 RC (fun _=>False) w 66 base V zs∧(∀(j:Nat) y,k≤j→zs[j]?=some y→ys[j]?=some y)∧(∀y∈zs.take k,zAJ w 3 base y.2 y.1.2.2∧zDw y.2 V)∧(zs.take k).Pairwise (fun a b=>zDw a.2 b.2)
section
variable {ys : List KpD} {b : List Kp} {base k : Nat} {V : Value} {w w' : World}
theorem zB3.later(h:zB3 ys b base V k w){D:Nat→Prop}(hw:zAF D w w')(hD:∀j,D j→j<base):zB3 ys b base V k w':=by
 obtain ⟨zs,h1,h2,h3,h4,h5⟩:=h
 refine ⟨zs,h1,RC.anyE ((RC.anyE (E':=D) h2).later hw (fun j hj hd=>by have:=(h2.lt j hj).1;have:=hD j hd;omega)),h3,fun y hy=>⟨(h4 y hy).1.same (fun j hj=>hw.2 j ((h4 y hy).1.1.lt j hj).2 (fun hd=>by have:=((h4 y hy).1.1.lt j hj).1;have:=hD j hd;omega)),(h4 y hy).2⟩,h5⟩
theorem zB3.stays(h:zB3 ys b base V k w)(hb:Below w.heap.size w w'):zB3 ys b base V k w':=h.later (zAF.old hb (fun _=>False)) (fun _ h=>h.elim)
theorem zB3.at{W:World}(h:zB3 ys b base V k w)(hy:∀y∈ys,zAG W y.2 y.1.2.2∧I64 y.1.1∧I64 y.1.2.1)(hb:Below W.heap.size W w){x:Kp}(hx:b[k]?=some x) :
  ∃g cap u cu,V=.slice (some ⟨g,0,none⟩) b.length cap∧base≤g∧g<w.heap.size∧w.cell? ⟨g,k*3,none⟩=some (.int .i64 x.1)∧w.cell? ⟨g,k*3+1,none⟩=some (.int .i64 x.2.1)∧w.cell? ⟨g,k*3+2,none⟩=some (.slice u x.2.2.length cu)∧zAG w (.slice u x.2.2.length cu) x.2.2∧I64 x.1∧I64 x.2.1∧(∀j,w.frozen? ⟨g,j,none⟩=false):=by
 obtain ⟨zs,h1,h2,h3,h4,h5⟩:=h
 have hl:zs.length=b.length:=by rw[←h1,List.length_map]
 have hkl:k<zs.length:=by have:=(List.getElem?_eq_some_iff.1 hx).1;omega
 have hzk:zs[k]?=some zs[k]:=List.getElem?_eq_getElem hkl
 have hxe:zs[k].1=x:=by
  rw[←h1,List.getElem?_map,hzk] at hx
  exact Option.some.inj hx
 obtain ⟨g,cap,e1,e2,e3,_,c0,c1,c2,f⟩:=zOf h2 hzk
 obtain ⟨g1,g2,g3⟩:=hy _ (List.mem_of_getElem? (h3 k _ (Nat.le_refl _) hzk))
 rw[hxe] at c0 c1 g1 g2 g3
 obtain ⟨u,cu,e4,_⟩:=g1.opened
 rw[e4] at c2 g1
 exact ⟨g,cap,u,cu,by rw[e1,hl],e2,e3,c0,c1,c2,g1.stays hb,g2,g3,f⟩
theorem zB3.next{g L cap:Nat}{w5:World}(h:zB3 ys b base (.slice (some ⟨g,0,none⟩) L cap) k w)(hb5:Below w.heap.size w w5){x:Kp}(hx:b[k]?=some x){v:Value}(hv:zAJ w5 3 w.heap.size v x.2.2)(hg:g<w.heap.size)(hbase:base≤w.heap.size) :
  zB3 ys b base (.slice (some ⟨g,0,none⟩) L cap) (k+1) ((w5.setCell ⟨g,k*3+1,none⟩ (.int .i64 x.2.1)).setCell ⟨g,k*3+2,none⟩ v):=by
 obtain ⟨zs,h1,h2,h3,h4,h5⟩:=h
 have hl:zs.length=b.length:=by rw[←h1,List.length_map]
 have hkl:k<zs.length:=by have:=(List.getElem?_eq_some_iff.1 hx).1;omega
 have hzk:zs[k]?=some zs[k]:=List.getElem?_eq_getElem hkl
 have hxe:zs[k].1=x:=by
  have hx':=hx
  rw[←h1,List.getElem?_map,hzk] at hx'
  exact Option.some.inj hx'
 have hvs:∃a n c,v=.slice a n c:=by obtain ⟨a,c,e,_⟩:=hv.isInts.opened;exact ⟨a,_,c,e⟩
 have hgr:w5.grownBy ((w5.setCell ⟨g,k*3+1,none⟩ (.int .i64 x.2.1)).setCell ⟨g,k*3+2,none⟩ v) (some g):=(zAC w5 ⟨g,k*3+1,none⟩ (.int .i64 x.2.1)).trans (zAC _ ⟨g,k*3+2,none⟩ v)
 have h2':=(h2.stays hb5).setRC hzk hvs
 rw[hxe] at h2'
 have hset:(zs.set k (x,v))[k]?=some (x,v):=by rw[List.getElem?_set,if_pos rfl,if_pos hkl]
 have htk:(zs.set k (x,v)).take k=zs.take k:=by
  apply List.ext_getElem?
  intro j
  rw[List.getElem?_take,List.getElem?_take]
  by_cases hj:j<k
  ·rw[if_pos hj,if_pos hj,List.getElem?_set,if_neg (by omega)]
  ·rw[if_neg hj,if_neg hj]
 refine ⟨zs.set k (x,v),?_,h2',fun j y hj hy=>?_,fun y hy=>?_,?_⟩
 ·rw[List.map_set,h1]
  exact zHG hx
 ·rw[List.getElem?_set,if_neg (by omega)] at hy
  exact h3 j y (by omega) hy
 ·rw[zAv hset,htk] at hy
  rcases List.mem_append.1 hy with hy|hy
  ·obtain ⟨g1,g2⟩:=h4 y hy
   exact ⟨(g1.stays hb5).kept hgr (by
    cases hq:y.2.ownBlock with
    | none=>exact Or.inl rfl
    | some j=>right;intro e;cases e;exact g2 g g hq rfl rfl),g2⟩
  ·simp only[List.mem_singleton] at hy
   subst hy
   refine ⟨(hv.mono hbase).kept hgr ?_,fun i j hi hj e=>?_⟩
   ·cases hq:v.ownBlock with
    | none=>exact Or.inl rfl
    | some j=>right;intro e;cases e;have:=(hv.1.lt g hq).1;omega
   ·have hj':g=j:=Option.some.inj hj
    have:=(hv.1.lt i hi).1
    omega
 ·rw[zAv hset,htk,List.pairwise_append]
  refine ⟨h5,by simp,fun a ha c hc=>?_⟩
  simp only[List.mem_singleton] at hc
  subst hc
  intro i j hi hj e
  have h6:=((h4 a ha).1.1.lt i hi).2
  have h7:=(hv.1.lt j hj).1
  omega
theorem zB3.done(h:zB3 ys b base V b.length w)(hi:∀x∈b,I64 x.1∧I64 x.2.1):∃zs,zs.map (·.1)=b∧DK w base V zs:=by
 obtain ⟨zs,h1,h2,h3,h4,h5⟩:=h
 have hl:zs.length=b.length:=by rw[←h1,List.length_map]
 rw[←hl,List.take_length] at h4 h5
 refine ⟨zs,h1,h2,fun y hy=>?_,h5⟩
 obtain ⟨g1,g2⟩:=h4 y hy
 obtain ⟨i1,i2⟩:=hi y.1 (by rw[←h1];exact List.mem_map.2 ⟨y,hy,rfl⟩)
 exact ⟨g1,i1,i2,g2⟩
end
set_option maxRecDepth 100000 in
theorem zDr(t:Bool)(r:Int)(v:Value)(b:List Kp)(W:World)(hv0:zAl W v b)(hb:b.length≤1000000) :
  Calls Tryz.prog 49 #[.agg #[.bool t,.int .i64 r,v]] W fun e w'=>(∃v' zs,e=.returned (.agg #[.bool t,.int .i64 r,v'])∧zs.map (·.1)=b∧DK w' W.heap.size v' zs)∧Below W.heap.size W w':=by
 obtain ⟨ys,hym,hv,hyv⟩:=hv0.rawK
 have hyl:ys.length=b.length:=by rw[←hym,List.length_map]
 have HYM:=Zh hym
 have HYV:=Zh hyv
 have HI64:Hid (∀x∈b,I64 x.1∧I64 x.2.1):=Zh (fun x hx=>by
  rw[←hym] at hx
  obtain ⟨y,hy,rfl⟩:=List.mem_map.1 hx
  exact (hyv y hy).2)
 clear hv0 hym hyv
 obtain ⟨a,c,rfl,hc,⟨hm,hcm,_⟩,_⟩:=hv.opened
 rw[hyl] at hv hc hm ⊢
 have S0:=((zAD.refl W).alloc (.cells #[.bool t,.int .i64 r,.slice a b.length c] 62)).alloc (.cells #[.bool false,.int .i64 0,.slice none 0 0] 62)
 obtain ⟨w0,hw0⟩:∃w0,w0=(W.alloc (.cells #[.bool t,.int .i64 r,.slice a b.length c] 62)).alloc (.cells #[.bool false,.int .i64 0,.slice none 0 0] 62):=⟨_,rfl⟩
 have p0:w0.cell? ⟨W.heap.size,0,none⟩=some (.bool t):=by rw[hw0];go_simp
 have p1:w0.cell? ⟨W.heap.size,1,none⟩=some (.int .i64 r):=by rw[hw0];go_simp
 have p2:w0.cell? ⟨W.heap.size,2,none⟩=some (.slice a b.length c):=by rw[hw0];go_simp
 have p3:w0.frozen? ⟨W.heap.size,2,none⟩=false:=by rw[hw0];go_simp
 have q0:w0.cell? ⟨W.heap.size+1,0,none⟩=some (.bool false):=by rw[hw0];go_simp
 have q1:w0.cell? ⟨W.heap.size+1,1,none⟩=some (.int .i64 0):=by rw[hw0];go_simp
 have q2:w0.cell? ⟨W.heap.size+1,2,none⟩=some (.slice none 0 0):=by rw[hw0];go_simp
 have q3:∀j,w0.frozen? ⟨W.heap.size+1,j,none⟩=false:=by intro j;rw[hw0];go_simp
 have hsz0:w0.heap.size=W.heap.size+2:=by rw[hw0];simp
 rw[←hw0] at S0
 have HW:=Zh hw0
 clear hw0
 obtain ⟨B,hB⟩:∃B,B=W.heap.size:=⟨_,rfl⟩
 obtain ⟨B1,hB1⟩:∃B1,B1=W.heap.size+1:=⟨_,rfl⟩
 have hBW:W.heap.size≤B:=by omega
 have hBW1:W.heap.size≤B1:=by omega
 have hBB:¬B1=B:=by omega
 have hBB':¬B=B1:=by omega
 have hB0:B<w0.heap.size:=by omega
 have hB10:B1<w0.heap.size:=by omega
 rw[←hB1] at q0 q1 q2 q3
 rw[←hB] at p0 p1 p2 p3
 have HB:=Zh hB
 have HB1:=Zh hB1
 clear hB hB1 hsz0
 have HDW:=Zh (zAF.old S0.below (fun _=>False))
 go_enter Tryz.func49,Tryz.ntmps49
 go_upto_region 1 with fail
 rw[←HW.out,←HB1.out,←HB.out]
 go_wp2_with (go_at_call 38;refine (zFa RC.stays RC.one _ ys W _ HDW.out hv (by omega)).mono ?_;rintro e w1 ⟨⟨v1,rfl,ho1⟩,hb1⟩;obtain ⟨a1,cp1,ev1,hcp1,⟨_,hcpm,_⟩,_⟩:=ho1.isRow.opened;rw[hyl] at ev1;subst ev1;have e0:=zAA hb1 p0;have e1:=zAA hb1 p1;have e2:=zAA hb1 p2;have e3:=zAE hb1 p2 p3;have k0:=zAA hb1 q0;have k1:=zAA hb1 q1;have k2:=zAA hb1 q2;have hh1:=hB10;have k3:∀j,w1.frozen? ⟨B1,j,none⟩=false:=fun j=>(hb1.frozen (p:=⟨B1,j,none⟩) hB10).trans (q3 j))
 have hlo:=ho1.lt
 have hn2:(Value.slice a1 b.length cp1).ownBlock=none∨(Value.slice a1 b.length cp1).ownBlock≠some B:=by
  cases hk:(Value.slice a1 b.length cp1).ownBlock with
  | none=>exact Or.inl rfl
  | some k=>right;intro e;cases e;have:=(hlo B hk).1;omega
 have ho2:=(RC.anyE (E':=fun k=>k=B) ho1).kept (zAC w1 ⟨B,2,none⟩ (.slice a1 b.length cp1)) (by intro k hk;cases hk;rfl) hn2
 have ho3:=RC.anyE (E':=fun _=>False) ho2
 have HOB:=Zh (fun k hk=>(hlo k hk).1)
 have S3:=(S0.step hb1).setCell (a:=⟨B,2,none⟩) hBW (.slice a1 b.length cp1)
 have hs3:w0.heap.size≤(w1.setCell ⟨B,2,none⟩ (.slice a1 b.length cp1)).heap.size:=by have:=hb1.size;simpa using this
 have m0:(w1.setCell ⟨B,2,none⟩ (.slice a1 b.length cp1)).cell? ⟨B,0,none⟩=some (.bool t):=by go_simp
 have m1:(w1.setCell ⟨B,2,none⟩ (.slice a1 b.length cp1)).cell? ⟨B,1,none⟩=some (.int .i64 r):=by go_simp
 have m2:(w1.setCell ⟨B,2,none⟩ (.slice a1 b.length cp1)).cell? ⟨B,2,none⟩=some (.slice a1 b.length cp1):=by go_simp
 have j0:(w1.setCell ⟨B,2,none⟩ (.slice a1 b.length cp1)).cell? ⟨B1,0,none⟩=some (.bool false):=by go_simp
 have j1:(w1.setCell ⟨B,2,none⟩ (.slice a1 b.length cp1)).cell? ⟨B1,1,none⟩=some (.int .i64 0):=by go_simp
 have j2:(w1.setCell ⟨B,2,none⟩ (.slice a1 b.length cp1)).cell? ⟨B1,2,none⟩=some (.slice none 0 0):=by go_simp
 have j3:∀j,(w1.setCell ⟨B,2,none⟩ (.slice a1 b.length cp1)).frozen? ⟨B1,j,none⟩=false:=by intro j;rw[World.frozen?_setCell];exact k3 j
 clear ho1 ho2 hlo hn2 e0 e1 e2 e3 k0 k1 k2 k3 hb1 p0 p1 p2 p3 q0 q1 q2 q3
 generalize w1.setCell ⟨B,2,none⟩ (.slice a1 b.length cp1)=w3 at *
 have HSB:Hid (∀w',zAD w0.heap.size w3 w'→w'.cell? ⟨B,2,none⟩=some (.slice a1 b.length cp1)):=Zh (fun w' q=>(q.below.cell (p:=⟨B,2,none⟩) hB0).trans m2)
 have HSC:Hid (∀w',zAD w0.heap.size w3 w'→w'.cell? ⟨B,0,none⟩=some (.bool t)∧w'.cell? ⟨B,1,none⟩=some (.int .i64 r)∧w'.cell? ⟨B1,0,none⟩=some (.bool false)∧w'.cell? ⟨B1,1,none⟩=some (.int .i64 0)∧w'.cell? ⟨B1,2,none⟩=some (.slice none 0 0)∧∀j,w'.frozen? ⟨B1,j,none⟩=false):=
  Zh (fun w' q=>⟨(q.below.cell (p:=⟨B,0,none⟩) hB0).trans m0,(q.below.cell (p:=⟨B,1,none⟩) hB0).trans m1,(q.below.cell (p:=⟨B1,0,none⟩) hB10).trans j0,(q.below.cell (p:=⟨B1,1,none⟩) hB10).trans j1,(q.below.cell (p:=⟨B1,2,none⟩) hB10).trans j2,fun j=>(q.below.frozen (p:=⟨B1,j,none⟩) hB10).trans (j3 j)⟩)
 clear m0 m1 m2 j0 j1 j2 j3
 have HS3:=Zh S3
 have HS0:=Zh S0.2
 go_loopw[12] (fun i wr=>∃k:Nat,k≤b.length∧i=.int .i64 k∧zAD w0.heap.size w3 wr∧zB3 ys b w0.heap.size (.slice a1 b.length cp1) k wr) (fun i _=>b.length - (intOf i).toNat)
 case atStart=>exact ⟨0,by omega,rfl,⟨Below.refl _ _,hs3⟩,ys,HYM.out,ho3,fun _ _ _ h=>h,by simp,by simp⟩
 case round =>
  obtain ⟨k,hk,rfl,hS,ho⟩:=hrel
  clear S3 hs3 ho3 S0
  by_cases hlt:k<b.length
  ·have hx:b[k]?=some b[k]:=List.getElem?_eq_getElem hlt
   generalize b[k]=x at *
   obtain ⟨g,cap,u,cu,ev,hg1,hg2,k0,n1,n2,hp,i1,i2,fz⟩:=ho.at (HYV.out) ((HS3.out.below.trans (hS.below.mono HS0.out)):Below W.heap.size W wr) hx
   simp only[Value.slice.injEq,true_and] at ev
   obtain ⟨rfl,rfl⟩:=ev
   have HX:=Zh hx
   clear hx
   have s1:(k:Int)<(b.length:Int):=by omega
   have BB:=zAB wr (.cells #[.int .i64 x.1,.int .i64 x.2.1,.slice u x.2.2.length cu] 66)
   have S4:=hS.alloc (.cells #[.int .i64 x.1,.int .i64 x.2.1,.slice u x.2.2.length cu] 66)
   have hp4:=hp.stays BB
   have ho4:=ho.stays BB
   have c1:=zAA BB n1
   have c2:=zAA BB n2
   have z1:=zAE BB n1 (fz _)
   have z2:=zAE BB n2 (fz _)
   have r1:(wr.alloc (.cells #[.int .i64 x.1,.int .i64 x.2.1,.slice u x.2.2.length cu] 66)).cell? ⟨wr.heap.size,1,none⟩=some (.int .i64 x.2.1):=by go_simp
   have r2:(wr.alloc (.cells #[.int .i64 x.1,.int .i64 x.2.1,.slice u x.2.2.length cu] 66)).cell? ⟨wr.heap.size,2,none⟩=some (.slice u x.2.2.length cu):=by go_simp
   go_upto_region 5 with fail
   clear k0 n1 n2 fz hp
   obtain ⟨r0,hr0⟩:∃r0,r0=wr.heap.size:=⟨_,rfl⟩
   have hgr:g<r0:=by omega
   have hr1:w0.heap.size≤r0:=by have:=hS.2;omega
   have hBg:B≠g:=by omega
   have hrg:r0≠g:=by omega
   rw[←hr0] at r1 r2 ⊢
   clear hr0 hg2 ho hS BB
   generalize wr.alloc (.cells #[.int .i64 x.1,.int .i64 x.2.1,.slice u x.2.2.length cu] 66)=w4 at *
   have hb4:=HSB.out w4 S4
   have d0:w4.drew.cell? ⟨B,2,none⟩=some (.slice (some ⟨g,0,none⟩) b.length cp1)∧w4.drew.cell? ⟨r0,1,none⟩=some (.int .i64 x.2.1)∧w4.drew.cell? ⟨r0,2,none⟩=some (.slice u x.2.2.length cu):=⟨hb4,r1,r2⟩
   clear hb4
   have HP4:=Zh hp4.drew
   have U4:=zAD.refl w4.drew
   have q1:w4.drew.cell? ⟨g,k*3+1,none⟩=some (.int .i64 x.2.1):=c1
   have q2:w4.drew.cell? ⟨g,k*3+2,none⟩=some (.slice u x.2.2.length cu):=c2
   have y1:w4.drew.frozen? ⟨g,k*3+1,none⟩=false:=z1
   have y2:w4.drew.frozen? ⟨g,k*3+2,none⟩=false:=z2
   clear c1 c2 z1 z2 hp4
   go_region_held3 (fun w'=>w'.cell? ⟨B,2,none⟩=some (.slice (some ⟨g,0,none⟩) b.length cp1)∧w'.cell? ⟨r0,1,none⟩=some (.int .i64 x.2.1)∧w'.cell? ⟨r0,2,none⟩=some (.slice u x.2.2.length cu)) (first | exact d0 | exact d5 | exact ⟨(zAI _ _ _ _ hBg).trans ((zAI _ _ _ _ hBg).trans d5.1),(zAI _ _ _ _ hrg).trans ((zAI _ _ _ _ hrg).trans d5.2.1),(zAI _ _ _ _ hrg).trans ((zAI _ _ _ _ hrg).trans d5.2.2)⟩) (first
    | (go_at_call 79;refine (zGl x.2.1 _ x.2.2 _ HP4.out).mono ?_;rintro e w5 ⟨⟨v5,rfl,hv5⟩,hb5⟩;obtain ⟨a5,c5,rfl,_⟩:=hv5.isInts.opened;have d5:w5.cell? ⟨B,2,none⟩=some (.slice (some ⟨g,0,none⟩) b.length cp1)∧w5.cell? ⟨r0,1,none⟩=some (.int .i64 x.2.1)∧w5.cell? ⟨r0,2,none⟩=some (.slice u x.2.2.length cu):=⟨zAA hb5 d0.1,zAA hb5 d0.2.1,zAA hb5 d0.2.2⟩;have t1:=zAA hb5 q1;have t2:=zAA hb5 q2;have x1:=zAE hb5 q1 y1;have x2:=zAE hb5 q2 y2))
   all_goals
    have S6:zAD w0.heap.size w3 ((w5.setCell ⟨g,k*3+1,none⟩ (.int .i64 x.2.1)).setCell ⟨g,k*3+1+1,none⟩ (.slice a5 x.2.2.length c5)):=((S4.drew.step hb5).setCell (a:=⟨g,k*3+1,none⟩) hg1 (.int .i64 x.2.1)).setCell (a:=⟨g,k*3+1+1,none⟩) hg1 (.slice a5 x.2.2.length c5)
    have ho6:zB3 ys b w0.heap.size (.slice (some ⟨g,0,none⟩) b.length cp1) (k+1) ((w5.setCell ⟨g,k*3+1,none⟩ (.int .i64 x.2.1)).setCell ⟨g,k*3+1+1,none⟩ (.slice a5 x.2.2.length c5)):=
     (ho4.stays (Below.refl _ _).drew).next hb5 HX.out hv5 (Nat.lt_of_lt_of_le hgr (by have:=zAH d0.2.1;simp at this;exact Nat.le_of_lt this)) S4.2
    clear d0 d5 q1 q2 y1 y2 t1 t2 x1 x2 hv5 hb5 ho4 S4 U4
    generalize (w5.setCell ⟨g,k*3+1,none⟩ (.int .i64 x.2.1)).setCell ⟨g,k*3+1+1,none⟩ (.slice a5 x.2.2.length c5)=w6 at *
    go_wp2_with fail
    go_roundw
    case rel=>exact ⟨k+1,by omega,by go_num,S6,ho6⟩
    case measure=>simp[intOf];omega
  ·obtain rfl:b.length=k:=by omega
   have hB:=HSB.out wr hS
   obtain ⟨m0,m1,j0,j1,j2,j3⟩:=HSC.out wr hS
   have hd7:zAF (fun j=>j=B1) wr (((wr.setCell ⟨B1,0,none⟩ (.bool t)).setCell ⟨B1,1,none⟩ (.int .i64 r)).setCell ⟨B1,2,none⟩ (.slice a1 b.length cp1)):=
    (zAF.of_grown (((zAC wr ⟨B1,0,none⟩ (.bool t)).trans (zAC _ ⟨B1,1,none⟩ (.int .i64 r))).trans (zAC _ ⟨B1,2,none⟩ (.slice a1 b.length cp1)))).mono (fun j _ hj=>by cases hj;rfl)
   have ho7:=(ho.later hd7 (fun j hj=>by rw[hj];exact hB10)).done HI64.out
   have S7:zAD W.heap.size W (((wr.setCell ⟨B1,0,none⟩ (.bool t)).setCell ⟨B1,1,none⟩ (.int .i64 r)).setCell ⟨B1,2,none⟩ (.slice a1 b.length cp1)):=
    (((show zAD W.heap.size W wr from ⟨HS3.out.below.trans (hS.below.mono HS0.out),by have:=hS.2;omega⟩).setCell (a:=⟨B1,0,none⟩) hBW1 (.bool t)).setCell (a:=⟨B1,1,none⟩) hBW1 (.int .i64 r)).setCell (a:=⟨B1,2,none⟩) hBW1 (.slice a1 b.length cp1)
   have v0:(((wr.setCell ⟨B1,0,none⟩ (.bool t)).setCell ⟨B1,1,none⟩ (.int .i64 r)).setCell ⟨B1,2,none⟩ (.slice a1 b.length cp1)).cell? ⟨B1,0,none⟩=some (.bool t):=by go_simp
   have v1:(((wr.setCell ⟨B1,0,none⟩ (.bool t)).setCell ⟨B1,1,none⟩ (.int .i64 r)).setCell ⟨B1,2,none⟩ (.slice a1 b.length cp1)).cell? ⟨B1,1,none⟩=some (.int .i64 r):=by go_simp
   have v2:(((wr.setCell ⟨B1,0,none⟩ (.bool t)).setCell ⟨B1,1,none⟩ (.int .i64 r)).setCell ⟨B1,2,none⟩ (.slice a1 b.length cp1)).cell? ⟨B1,2,none⟩=some (.slice a1 b.length cp1):=by go_simp
   have f0:=j3 0
   have f1:=j3 1
   have f2:=j3 2
   obtain ⟨zs7,hzm7,hdk7⟩:=ho7
   have HO7:=Zh (hdk7.mono HS0.out)
   have HM7:=Zh hzm7
   clear ho hS hd7 hdk7 hzm7 j3
   go_wp2_with fail
   clear m0 m1 j0 j1 j2 f0 f1 f2 hB
   generalize ((wr.setCell ⟨B1,0,none⟩ (.bool t)).setCell ⟨B1,1,none⟩ (.int .i64 r)).setCell ⟨B1,2,none⟩ (.slice a1 b.length cp1)=w7 at *
   exact bodyPost_ret (v:=.agg #[.bool t,.int .i64 r,.slice a1 b.length cp1]) (by simp[results,Tryz.results49,go_sem,v0,v1,v2]) rfl ⟨⟨_,zs7,rfl,HM7.out,HO7.out⟩,S7.below⟩
def zF7(w:World)(base:Nat)(v:Value)(l:List Kp):Prop:=∃ys:List KpD,ys.map (·.1)=l∧DK w base v ys
section
variable {w w' : World} {base : Nat} {v : Value} {l : List Kp}
theorem zF7.nil(w:World)(base:Nat):zF7 w base (.slice none 0 0) []:=⟨[],rfl,DK.nil _ _⟩
theorem zF7.row(h:zF7 w base v l):zAK 3 zAf (fun j=>j<base) w 66 base v l:=by
 obtain ⟨ys,rfl,h⟩:=h
 exact h.ownRow (fun k hk hd=>by have:=(h.lt hk).1;omega)
theorem zF7.isKepts(h:zF7 w base v l):zAl w v l:=h.row.isRow
theorem zF7.lt(h:zF7 w base v l):∀k,v.ownBlock=some k→base≤k∧k<w.heap.size:=h.row.lt
theorem zF7.kept(h:zF7 w base v l){row:Option Nat}(hg:w.grownBy w' row)(hrow:∀k,row=some k→k<base):zF7 w' base v l:=by
 obtain ⟨ys,hm,h⟩:=h
 exact ⟨ys,hm,h.frame (zAF.of_grown hg) (fun k hk hd=>by have:=(h.lt hk).1;have:=hrow k hd;omega)⟩
theorem zF7.stays(h:zF7 w base v l)(hb:Below w.heap.size w w'):zF7 w' base v l:=by
 obtain ⟨ys,hm,h⟩:=h
 exact ⟨ys,hm,h.stays hb⟩
theorem zF7.mono(h:zF7 w base v l){b:Nat}(hb:b≤base):zF7 w b v l:=by
 obtain ⟨ys,hm,h⟩:=h
 exact ⟨ys,hm,h.mono hb⟩
end
set_option maxRecDepth 100000 in
theorem zG5{α:Type}{R:Rd α}(E:Nat→Prop)(base:Nat)(v:Value)(l:List α)(i:Nat)(y:α)(x0 x1 x2:Value)(gx:Nat)(W:World)(ho:zAK 3 R E W 66 base v l)(hi:i≤l.length)(htop:l.length<1000000)(hbase:base≤W.heap.size)
  (hx:W.heap[gx]?=some (.cells #[x0,x1,x2] 66 (0,0))) (hne:v.ownBlock≠some gx) (hone:∀c∈[x0,x1,x2],c.oneCell'=true) (hR:zA3 (fun k=>v.ownBlock=some k∨E k) R W [x0,x1,x2] y) :
  Calls Tryz.prog 115 #[v,.int .i64 i,.slice (some ⟨gx,0,none⟩) 1 1] W fun e w' =>
   (∃v',e=.returned v'∧zAK 3 R E w' 66 base v' (l.take i++y::l.drop i)∧(v'.ownBlock=v.ownBlock∨∃k,v'.ownBlock=some k∧W.heap.size≤k))∧W.grownBy w' v.ownBlock:=by
 have hcx:∀j c,[x0,x1,x2][j]?=some c→W.cell? ⟨gx,j,none⟩=some c:=by
  intro j c hj
  rw[World.cell?,hx]
  match j,hj with
  | 0,hj=>simpa using hj
  | 1,hj=>simpa using hj
  | 2,hj=>simpa using hj
 obtain ⟨a,cap,rfl,hcap,⟨hm,hcm,_⟩,_⟩:=ho.isRow.opened
 by_cases hil:i=l.length
 ·subst hil
  have HO:=Zh ho
  have HX:=Zh hcx
  have HN:=Zh hone
  have HR:=Zh hR
  have HE:=Zh (show l.take l.length++y::l.drop l.length=l++[y] by simp)
  have hii:((l.length:Int) == (l.length:Int))=true:=by simp
  clear ho hcx hone hR hx
  rcases Nat.lt_or_ge l.length cap with hcl|hcl
  case' inr=>obtain rfl:cap=l.length:=by omega
  case' inl=>have hcl2:¬cap=l.length:=by omega
  all_goals
   go_enter Tryz.func115,Tryz.ntmps115
   go_wp2_with (at_builtin;refine zAd rfl _ _ 60 rfl 3 E 66 Tryz.underlying60 _ 40 zCn rfl (by omega) (by omega) base _ l (by rfl) HO.out ⟨gx,0,none⟩ 1 [x0,x1,x2] y rfl rfl HN.out (fun j c hj=>by rw[zA7];exact HX.out j c hj) HR.out (by omega) hbase ?_;intro v' w1 ho1 hg1 hb1)
   all_goals
   have HO1:=Zh ho1
   have HG1:=Zh hg1
   have HB1:=Zh hb1
   clear ho1 hg1 hb1
   go_wp2_with fail
   go_ret
   refine ⟨⟨_,rfl,(by first | exact HO1.out | (rw[HE.out];exact HO1.out)),?_⟩,HG1.out⟩
   rcases HB1.out with h|h
   ·exact Or.inl h
   ·exact Or.inr ⟨_,h,Nat.le_refl _⟩
 ·have hilt:i<l.length:=by omega
  rcases ho.shape with ⟨h5,h6⟩|⟨g,cap',cur,h5,hgb,hgl,hnc,_,hg,hcs⟩
  ·rw[h6] at hilt;simp at hilt
  ·simp only[Value.slice.injEq,true_and] at h5
   obtain ⟨rfl,rfl⟩:=h5
   obtain ⟨i0,hi0,hz0,hs0,hb0⟩:=info_parts zCn
   have hii:((i:Int) == (l.length:Int))=false:=beq_eq_false_iff_ne.2 (by omega)
   have hci:¬cap=i:=by omega
   have b1:(i:Int)≤(l.length:Int):=by omega
   have b2:(i:Int)≤(cap:Int):=by omega
   obtain ⟨rs,r1,r2,r3,r4,r5⟩:=ho.part i
   have hgx:gx≠g:=fun e=>hne (by rw[e];rfl)
   have wi1:IntKind.i64.wrap ((i:Int)+1)=((i+1:Nat):Int):=by rw[IntWalk.i64_in _ (by omega)];omega
   have wl1:IntKind.i64.wrap ((l.length:Int)+1)=((l.length+1:Nat):Int):=by rw[IntWalk.i64_in _ (by omega)];omega
   have wk:IntKind.i64.wrap (((l.length+1:Nat):Int) - (i:Int))=((l.length+1 - i:Nat):Int):=by rw[IntWalk.i64_in _ (by omega)];omega
   by_cases hroom:l.length+1≤cap
   ·have c1:¬(cap:Int)<((l.length+1:Nat):Int):=by omega
    have hc3:¬cap=i+1:=by omega
    have b3:(0:Int)≤(i:Int)+1:=by omega
    have b4:((i:Int)+1).toNat=i+1:=by omega
    have b5:(i:Int)+1≤(l.length:Int)+1:=by omega
    have b6:(l.length:Int)+1≤(cap:Int):=by omega
    have HO:=Zh ho
    have HX:=Zh hcx
    have HN:=Zh hone
    have HR:=Zh hR
    have HR3:=Zh r3
    have HR5:=Zh r5
    have hgx0:W.shape? gx=some (66,3):=by simp[World.shape?,hx]
    have hg0:W.shape? g=some (66,cap*3):=by simp[World.shape?,hg,hcs]
    have hsz:∀w,(Go.sizeOf 66).run Tryz.prog w=.ok 3 w:=fun w=>by simp[sizeOf,typeInfo,hi0,hs0]
    have hov:(callFunc 130 #[.slice (some ⟨gx,0,none⟩) 1 1,.slice (some ⟨g,(i+1)*3,none⟩) (l.length - i) (cap - (i+1))]).run Tryz.prog W=.ok (.value (.bool false)) W:=by
     rw[run_callFunc_extern Tryz.func130 (by kernel_rfl) (by kernel_rfl) (by kernel_rfl) (e:=Extern.SlicesOverlaps.overlaps #[60,60] #[4]) (by kernel_rfl),
      Lib.run_overlaps_apart W 60 4 66 Tryz.underlying60 3 hsz ⟨gx,0,none⟩ ⟨g,(i+1)*3,none⟩ 1 1 _ _ hgx 66 66 3 (cap*3) hgx0 hg0 (by omega) (by simp[World.frozen?,hx]) (by simp[World.frozen?,hx])]
     rfl
    have hn2:Hid (rs.flatten.length=Nat.min (l.length+1 - i) (l.length - i)*i0.size):=Zh (by rw[hs0,r4,show Nat.min (l.length+1 - i) (l.length - i)=l.length - i from Nat.min_eq_right (by omega)])
    have h12:Hid (∀c∈rs.flatten,c.oneCell'=true):=Zh (fun c hc=>by
     obtain ⟨q,hq,hcq⟩:=List.mem_flatten.1 hc
     exact (r2 q hq).2 c hcq)
    have hcap3:(l.length+1)*3≤cap*3:=Nat.mul_le_mul_right _ hroom
    have hcp2:∀ty,(Builtin.copy_ #[60,60] ty #[.slice (some ⟨g,(i+1)*3,none⟩) (l.length - i) (cap - (i+1)),.slice (some ⟨g,i*3,none⟩) (l.length+1 - i) (cap - i)]).run Tryz.prog W.drew=.ok (goInt (Nat.min (l.length+1 - i) (l.length - i))) (W.drew.setCells g ((i+1)*3) rs.flatten):=fun ty =>
     zC4 W.drew _ _ ty 66 i0 g ((i+1)*3) _ _ ⟨g,i*3,none⟩ _ _ _ Tryz.underlying60 hi0 hn2.out (fun j c hj=>by rw[zEI];exact HR5.out j c hj) (fun j hj=>HO.out.drew.spare (by rw[r4] at hj;omega)) h12.out
    have hsp:=HO.out.drew.splice (k:=i+1) (by omega) (rs:=rs) (xs:=l.drop i) r1 r2 (fun m q x hq hx=>(HR3.out m q x hq hx).step ⟨Nat.le_refl _,fun _ _ _=>rfl⟩) (by rw[List.length_drop];omega) (by rw[List.length_drop];omega) (n:=l.length+1) (by simp;omega)
    have e3:l.take (i+1)++l.drop i++l.drop (i+1+(l.drop i).length)=l.take (i+1)++l.drop i:=by
     rw[show l.drop (i+1+(l.drop i).length)=[] from List.drop_of_length_le (by rw[List.length_drop];omega),List.append_nil]
    rw[e3] at hsp
    have hg1:=(show W.grownBy W.drew (some g) from ⟨rfl,rfl,rfl,Nat.le_refl _,fun _ _ _=>rfl⟩).trans (zAQ g rs.flatten ((i+1)*3) W.drew)
    have HSP:=Zh hsp
    have HG1:=Zh hg1
    have e4:(l.take (i+1)++l.drop i).set i y=l.take i++y::l.drop i:=by
     rw[List.set_append_left _ _ (by rw[List.length_take];omega),List.set_eq_take_append_cons_drop,if_pos (by rw[List.length_take];omega),List.take_take,Nat.min_eq_left (by omega),List.drop_of_length_le (l:=l.take (i+1)) (by rw[List.length_take];omega)]
     simp
    have E4:=Zh e4
    have hk1:i<(l.take (i+1)++l.drop i).length:=by simp;omega
    have HK1:=Zh hk1
    clear hx r3 r5 hil hroom e3 e4 hsp hg1 hk1 hgx0 hg0 hsz hg hcs r1 r2 r4 hone hR hcx ho
    go_enter Tryz.func115,Tryz.ntmps115
    go_upto_region 15 with fail
    go_region
    clear hcp2 hov
    have hR1:zA3 (fun j=>some g=some j∨E j) R (W.drew.setCells g ((i+1)*3) rs.flatten) [x0,x1,x2] y:=HR.out.step ((zAF.of_grown HG1.out).mono fun k _ hk=>by cases hk;exact Or.inl rfl)
    have HFIN:=Zh (HSP.out.setElem HK1.out (r:=[x0,x1,x2]) rfl HN.out hR1)
    have HGF:=Zh (HG1.out.trans (zAQ g [x0,x1,x2] (i*3) _))
    have hn1:Hid ([x0,x1,x2].length=Nat.min 1 (l.length+1 - i)*i0.size):=Zh (by rw[hs0,show Nat.min 1 (l.length+1 - i)=1 from Nat.min_eq_left (by omega)];rfl)
    have hsr1:Hid (∀j c,[x0,x1,x2][j]?=some c→(W.drew.setCells g ((i+1)*3) rs.flatten).cell? ((⟨gx,0,none⟩:Addr).add j)=some c):=Zh (fun j c hj=>by
     rw[zA7]
     exact HG1.out.cell (HX.out j c hj) (by intro e;cases e;exact hgx rfl))
    have hsp1:Hid (∀j,j<3→((W.drew.setCells g ((i+1)*3) rs.flatten).cell? ⟨g,i*3+j,none⟩).isSome=true∧(W.drew.setCells g ((i+1)*3) rs.flatten).frozen? ⟨g,i*3+j,none⟩=false):=Zh (fun j hj=>HSP.out.spare (by omega))
    have hcp1:∀ty,(Builtin.copy_ #[60,60] ty #[.slice (some ⟨g,i*3,none⟩) (l.length+1 - i) (cap - i),.slice (some ⟨gx,0,none⟩) 1 1]).run Tryz.prog (W.drew.setCells g ((i+1)*3) rs.flatten)=.ok (goInt (Nat.min 1 (l.length+1 - i))) ((W.drew.setCells g ((i+1)*3) rs.flatten).setCells g (i*3) [x0,x1,x2]):=fun ty =>
     zC4 _ _ _ ty 66 i0 g (i*3) _ _ ⟨gx,0,none⟩ 1 1 _ Tryz.underlying60 hi0 hn1.out hsr1.out (fun j hj=>hsp1.out j hj) HN.out
    go_wp2_with fail
    go_ret
    exact ⟨⟨_,rfl,by rw[←E4.out];exact HFIN.out,Or.inl rfl⟩,HGF.out⟩
   ·have c1:(cap:Int)<((l.length+1:Nat):Int):=by omega
    have HO:=Zh ho
    have HX:=Zh hcx
    have HN:=Zh hone
    have HR:=Zh hR
    have HR3:=Zh r3
    have HR5:=Zh r5
    clear ho hcx hone hR hx hg r3 r5 hil hroom
    go_enter Tryz.func115,Tryz.ntmps115
    have HOT:=Zh (HO.out.take i (by omega) rfl)
    go_upto_region 10 with (at_builtin;refine zHK rfl _ _ 60 3 rfl 3 E 66 Tryz.underlying60 Tryz.underlying3 _ 40 zCn rfl (by omega) (by omega) base g i cap (l.length+1 - i) (l.take i) (by rfl) HOT.out (by simp[Act.eval];omega) (by omega) (by omega) (by omega) hbase ?_;intro cap2 w1 ho1 hcap2 hg1 hsz1)
    rw[show i+(l.length+1 - i)=l.length+1 by omega] at hcap2 ⊢
    have hti:(l.take i).length=i:=by rw[List.length_take];omega
    have hmv:∀k,k<W.heap.size→(some W.heap.size=some k∨E k)→((Value.slice (some ⟨g,0,none⟩) l.length cap).ownBlock=some k∨E k):=fun k hk hh=>by
     rcases hh with hh|hh
     ·cases hh;omega
     ·exact Or.inr hh
    have hd1:zAF (fun k=>(Value.slice (some ⟨g,0,none⟩) l.length cap).ownBlock=some k∨E k) W w1:=(zAF.of_grown hg1).mono fun k _ hk=>by cases hk
    have hR1:=HR.out.move hd1 hmv
    have hsp:=ho1.splice (k:=i) (by omega) (rs:=[[x0,x1,x2]]) (xs:=[y]) rfl (fun q hq=>by simp at hq;subst hq;exact ⟨rfl,HN.out⟩) (fun m q x hq hx=>by
     match m,hq,hx with
     | 0,hq,hx=>simp at hq hx;subst hq hx;exact hR1
     | m+1,hq,hx=>simp at hq) (by simp;omega) (by simp;omega) (n:=i+1) (by simp;omega)
    have e1:(l.take i).take i++[y]++(l.take i).drop (i + [y].length)=l.take i++[y]:=by
     rw[List.take_of_length_le (l:=l.take i) (by omega),List.drop_of_length_le (l:=l.take i) (by simp only[List.length_singleton];omega),List.append_nil]
    have e2:[[x0,x1,x2]].flatten=[x0,x1,x2]:=rfl
    rw[e1,e2] at hsp
    have hl1:(l.take i++[y]).length=i+1:=by simp;omega
    have hD2:=zAF.of_grown (zAQ W.heap.size [x0,x1,x2] (i*3) w1)
    have hR2:∀(m:Nat) (q:List Value) (x:α),rs[m]?=some q→(l.drop i)[m]?=some x→zA3 (fun k=>some W.heap.size=some k∨E k) R (w1.setCells W.heap.size (i*3) [x0,x1,x2]) q x:=fun m q x hq hx =>
     ((HR3.out m q x hq hx).move hd1 hmv).step (hD2.mono fun k _ hk=>Or.inl hk)
    have e3:(l.take i++[y]).take (i+1)++l.drop i++(l.take i++[y]).drop (i+1+(l.drop i).length)=l.take i++y::l.drop i:=by
     rw[List.take_of_length_le (l:=l.take i++[y]) (by omega),List.drop_of_length_le (l:=l.take i++[y]) (by omega),List.append_nil]
     simp
    have E3:=Zh e3
    have HSP:=Zh hsp
    have HR2:=Zh hR2
    have hgw:W.grownBy (w1.setCells W.heap.size (i*3) [x0,x1,x2]) none:=
     ⟨(
      zAQ W.heap.size _ (i*3) w1).os.trans hg1.os,(zAQ W.heap.size _ (i*3) w1).tape.trans hg1.tape,(zAQ W.heap.size _ (i*3) w1).output.trans hg1.output,
      Nat.le_trans hg1.size (zAQ W.heap.size _ (i*3) w1).size,fun k hk _=>((zAQ W.heap.size _ (i*3) w1).block k (by omega) (by intro e;cases e;omega)).trans (hg1.block k hk (by simp))⟩
    have HGW:=Zh hgw
    have HRS:=Zh (show rs.length=(l.drop i).length∧∀r∈rs,r.length=3∧∀c∈r,c.oneCell'=true from ⟨r1,r2⟩)
    have hgxW:gx<W.heap.size:=by have:=zAH (HX.out 0 _ rfl);exact this
    have hsrc1:Hid (∀j c,[x0,x1,x2][j]?=some c→w1.cell? ((⟨gx,0,none⟩:Addr).add j)=some c):=Zh (fun j c hj=>by
     rw[zA7]
     exact hg1.cell (HX.out j c hj) (by simp))
    have hsp1:Hid (∀j,j<3→(w1.cell? ⟨W.heap.size,i*3+j,none⟩).isSome=true∧w1.frozen? ⟨W.heap.size,i*3+j,none⟩=false):=Zh (fun j hj=>ho1.spare (by
     have:(i+1)*3≤cap2*3:=Nat.mul_le_mul_right _ (by omega)
     omega))
    have hn1:Hid ([x0,x1,x2].length=Nat.min 1 (l.length+1 - i)*i0.size):=Zh (by rw[hs0,show Nat.min 1 (l.length+1 - i)=1 from Nat.min_eq_left (by omega)];rfl)
    have hsrc2:Hid (∀j c,rs.flatten[j]?=some c→(w1.setCells W.heap.size (i*3) [x0,x1,x2]).cell? ((⟨g,i*3,none⟩:Addr).add j)=some c):=Zh (fun j c hj=>by
     rw[zEI]
     have h1:=HR5.out j c hj
     exact (zAQ W.heap.size _ (i*3) w1).cell (hg1.cell h1 (by simp)) (by intro e;simp at e;omega))
    have hsp2:Hid (∀j,j<rs.flatten.length→((w1.setCells W.heap.size (i*3) [x0,x1,x2]).cell? ⟨W.heap.size,(i+1)*3+j,none⟩).isSome=true∧(w1.setCells W.heap.size (i*3) [x0,x1,x2]).frozen? ⟨W.heap.size,(i+1)*3+j,none⟩=false):=Zh (fun j hj=>hsp.spare (by
     have h1:(l.length+1)*3≤cap2*3:=Nat.mul_le_mul_right _ hcap2
     rw[r4] at hj
     omega))
    have hn2:Hid (rs.flatten.length=Nat.min (l.length - i) (l.length - i)*i0.size):=Zh (by rw[hs0,r4,show Nat.min (l.length - i) (l.length - i)=l.length - i from Nat.min_self _])
    have h12:Hid (∀c∈rs.flatten,c.oneCell'=true):=Zh (fun c hc=>by
     obtain ⟨q,hq,hcq⟩:=List.mem_flatten.1 hc
     exact (r2 q hq).2 c hcq)
    have hcm2:cap2≤9223372036854775807:=by
     obtain ⟨_,_,e,_,⟨_,h,_⟩,_⟩:=ho1.isRow.opened
     simp only[Value.slice.injEq] at e
     obtain ⟨_,_,rfl⟩:=e
     exact h
    have hc2:¬cap2=i:=by omega
    have hc3:¬cap2=i+1:=by omega
    generalize hg2:W.heap.size=g2 at *
    clear ho1 hsp e3 hgw hd1 hR1 hR2 hD2 hmv HOT r1 r2 r4 hg1 hsz1
    have hcp1:∀ty,(Builtin.copy_ #[60,60] ty #[.slice (some ⟨g2,i*3,none⟩) (l.length+1 - i) (cap2 - i),.slice (some ⟨gx,0,none⟩) 1 1]).run Tryz.prog w1=.ok (goInt (Nat.min 1 (l.length+1 - i))) (w1.setCells g2 (i*3) [x0,x1,x2]):=fun ty =>
     zC4 w1 _ _ ty 66 i0 g2 (i*3) _ _ ⟨gx,0,none⟩ 1 1 _ Tryz.underlying60 hi0 hn1.out hsrc1.out (fun j hj=>hsp1.out j hj) HN.out
    go_upto_region 11 with fail
    clear hcp1
    generalize w1.setCells g2 (i*3) [x0,x1,x2]=w2 at *
    have b3:(0:Int)≤(i:Int)+1:=by omega
    have b4:((i:Int)+1).toNat=i+1:=by omega
    have hcp2:∀ty,(Builtin.copy_ #[60,60] ty #[.slice (some ⟨g2,(i+1)*3,none⟩) (l.length - i) (cap2 - (i+1)),.slice (some ⟨g,i*3,none⟩) (l.length - i) (cap - i)]).run Tryz.prog w2.drew=.ok (goInt (Nat.min (l.length - i) (l.length - i))) (w2.drew.setCells g2 ((i+1)*3) rs.flatten):=fun ty =>
     zC4 w2.drew _ _ ty 66 i0 g2 ((i+1)*3) _ _ ⟨g,i*3,none⟩ _ _ _ Tryz.underlying60 hi0 hn2.out hsrc2.out hsp2.out h12.out
    go_region
    have hfin:=HSP.out.drew.splice (k:=i+1) (by omega) (rs:=rs) (xs:=l.drop i) HRS.out.1 HRS.out.2 (fun m q x hq hx=>(HR2.out m q x hq hx).step ⟨Nat.le_refl _,fun _ _ _=>rfl⟩) (by rw[List.length_drop];omega) (by rw[List.length_drop];omega) (n:=l.length+1) (by simp;omega)
    rw[E3.out] at hfin
    have hgf:=HGW.out
    have hgs:=zAQ g2 rs.flatten ((i+1)*3) w2.drew
    have hgt:W.grownBy (w2.drew.setCells g2 ((i+1)*3) rs.flatten) (some g):=
     ⟨hgs.os.trans hgf.os,hgs.tape.trans hgf.tape,hgs.output.trans hgf.output,Nat.le_trans hgf.size hgs.size,fun k hk _=>(hgs.block k (Nat.lt_of_lt_of_le hk hgf.size) (by intro e;cases e;omega)).trans (hgf.block k hk (by simp))⟩
    have HFIN:=Zh hfin
    have HGT:=Zh hgt
    clear hfin hgf hgs hgt hcp2
    go_wp2_with fail
    go_ret
    exact ⟨⟨_,rfl,HFIN.out,Or.inr ⟨g2,rfl,Nat.le_of_eq hg2⟩⟩,HGT.out⟩
def zET(p:Pr)(k:Kp):Pr:=(p.1,p.2.1,zDF k p.2.2)
def zBN(b:List Ver)(p:Pr)(k:Kp):Int:=if zBG b p≠0 then zBG b p else if (p.2.2.length:Int)=p.2.1 then 8 else if 0≤zBy k.1 p.2.2 0 then 5 else zBG b (zET p k)
def zC5(b:List Ver)(p:Pr)(k:Kp):Pr:=if zBN b p k=0 then zET p k else (false,0,[])
theorem zIR{b:List Ver}{p:Pr}{k:Kp}(h:zBN b p k≠0):zC5 b p k=(false,0,[]):=by unfold zC5;rw[if_neg h]
theorem zIZ{b:List Ver}{p:Pr}{k:Kp}(h:zBN b p k=0):zC5 b p k=zET p k:=by unfold zC5;rw[if_pos h]
theorem zT1{x y:Kp}{r:List Kp}(h:y.1<x.1):zDF x (y::r)=y::zDF x r:=by conv=>lhs;unfold zDF;rw[if_pos h]
theorem zP5{x y:Kp}{r:List Kp}(h:¬y.1<x.1):zDF x (y::r)=x::y::r:=by conv=>lhs;unfold zDF;rw[if_neg h]
theorem zQR(x:Kp)(l:List Kp)(i:Nat)(h:zDF x l=l.take i++zDF x (l.drop i))(hi:∀y,l[i]?=some y→¬y.1<x.1):zDF x l=l.take i++x::l.drop i:=by
 rw[h]
 congr 1
 cases hd:l.drop i with
 | nil=>rfl
 | cons y r =>
  have:l[i]?=some y:=by
   have:=congrArg (fun q=>q[0]?) hd
   simpa[List.getElem?_drop] using this
  exact zP5 (hi y this)
theorem zGG{w:World}{B:Nat}{x y z:Value}(h0:(w.cell? ⟨B,0,none⟩).isSome=true)(h1:(w.cell? ⟨B,1,none⟩).isSome=true)(h2:(w.cell? ⟨B,2,none⟩).isSome=true) :
  (((w.setCell ⟨B,0,none⟩ x).setCell ⟨B,1,none⟩ y).setCell ⟨B,2,none⟩ z).cell? ⟨B,0,none⟩=some x∧(((w.setCell ⟨B,0,none⟩ x).setCell ⟨B,1,none⟩ y).setCell ⟨B,2,none⟩ z).cell? ⟨B,1,none⟩=some y∧(((w.setCell ⟨B,0,none⟩ x).setCell ⟨B,1,none⟩ y).setCell ⟨B,2,none⟩ z).cell? ⟨B,2,none⟩=some z:=by
 obtain ⟨u0,h0⟩:=Option.isSome_iff_exists.1 h0
 obtain ⟨u1,h1⟩:=Option.isSome_iff_exists.1 h1
 obtain ⟨u2,h2⟩:=Option.isSome_iff_exists.1 h2
 refine ⟨?_,?_,?_⟩<;>go_simp
theorem zUe{w5 w6:World}{base:Nat}{V:Value}{l:List Kp}{kv kn:Int}{kl:List Int}{a6:Option Addr}{c6 j:Nat}(ho:zF7 w5 base V l)(hb6:Below w5.heap.size w5 w6)(hv6:zAJ w6 3 w5.heap.size (.slice a6 kl.length c6) kl)
  (hV:∀k,V.ownBlock=some k→k<w5.heap.size) (hbase:base≤w5.heap.size) (hk1:I64 kv) (hk2:I64 kn) (hj:j≤l.length) (htop:l.length<1000000) :
  Calls Tryz.prog 115 #[V,.int .i64 j,.slice (some ⟨w6.heap.size,0,none⟩) 1 1] (w6.alloc (.cells #[.int .i64 kv,.int .i64 kn,.slice a6 kl.length c6] 66)) fun e w' =>
   (∃v',e=.returned v'∧zF7 w' base v' (l.take j++(kv,kn,kl)::l.drop j)∧(v'.ownBlock=V.ownBlock∨∃k,v'.ownBlock=some k∧(w6.alloc (.cells #[.int .i64 kv,.int .i64 kn,.slice a6 kl.length c6] 66)).heap.size≤k))∧(w6.alloc (.cells #[.int .i64 kv,.int .i64 kn,.slice a6 kl.length c6] 66)).grownBy w' V.ownBlock:=by
 obtain ⟨ys,hm,hd⟩:=ho
 have hl:ys.length=l.length:=by rw[←hm,List.length_map]
 have hsz:=hb6.size
 have hd7:=(hd.stays hb6).stays (zAB w6 (.cells #[.int .i64 kv,.int .i64 kn,.slice a6 kl.length c6] 66))
 have hv7:=hv6.stays (zAB w6 (.cells #[.int .i64 kv,.int .i64 kn,.slice a6 kl.length c6] 66))
 have hs7:(w6.alloc (.cells #[.int .i64 kv,.int .i64 kn,.slice a6 kl.length c6] 66)).heap.size=w6.heap.size+1:=by simp
 refine (zG5 (R:=RC) (fun _=>False) base V ys j ((kv,kn,kl),.slice a6 kl.length c6) _ _ _ w6.heap.size _ hd7.row (by omega) (by omega) (by omega) (heap_alloc_new w6 _) (fun e=>by have:=hV _ e;omega) (by intro c hc;simp at hc;rcases hc with rfl | rfl | rfl<;>rfl) (fun _ _=>⟨rfl,_,_,_,rfl⟩)).mono ?_
 rintro e w' ⟨⟨v',rfl,ho,hat⟩,hg⟩
 have hat':∀k,v'.ownBlock=some k→V.ownBlock=some k∨w6.heap.size<k:=fun k hk=>by
  rcases hat with h|⟨m,h,hm⟩
  ·exact Or.inl (h ▸ hk)
  ·rw[h] at hk;cases hk;exact Or.inr (by omega)
 have hold:∀y∈ys,∀k,y.2.ownBlock=some k→k<w5.heap.size:=fun y hy k hk=>(hd.lt (Or.inr ⟨y,hy,hk⟩)).2
 have hvl:∀k,(Value.slice a6 kl.length c6).ownBlock=some k→w5.heap.size≤k∧k<w6.heap.size:=fun k hk=>hv6.1.lt k hk
 refine ⟨⟨v',rfl,⟨ys.take j++((kv,kn,kl),.slice a6 kl.length c6)::ys.drop j,?_,ho,fun y hy=>?_,?_⟩,hat⟩,hg⟩
 ·rw[List.map_append,List.map_cons,List.map_take,List.map_drop,hm]
 ·have hy':y=((kv,kn,kl),.slice a6 kl.length c6)∨y∈ys:=by
   rcases List.mem_append.1 hy with hy|hy
   ·exact Or.inr (List.mem_of_mem_take hy)
   ·rcases List.mem_cons.1 hy with hy|hy
    ·exact Or.inl hy
    ·exact Or.inr (List.mem_of_mem_drop hy)
  rcases hy' with rfl|hy'
  ·refine ⟨(hv7.mono hbase).kept hg ?_,hk1,hk2,fun i k hi hk e=>?_⟩
   ·cases hq:(Value.slice a6 kl.length c6).ownBlock with
    | none=>exact Or.inl rfl
    | some k=>right;intro e;have:=hV k e.symm;have:=(hvl k hq).1;omega
   ·have h1:=hvl i hi
    rcases hat' k hk with h2|h2
    ·have:=hV k h2;omega
    ·omega
  ·obtain ⟨g1,g2,g3,g4⟩:=hd7.vals y hy'
   refine ⟨g1.kept hg ?_,g2,g3,fun i k hi hk e=>?_⟩
   ·cases hq:y.2.ownBlock with
    | none=>exact Or.inl rfl
    | some k=>right;intro e;exact g4 k k hq e.symm rfl
   ·have h1:=hold y hy' i hi
    rcases hat' k hk with h2|h2
    ·exact g4 i k hi h2 e
    ·omega
 ·refine (List.perm_middle.pairwise_iff (fun {x y:KpD} (h:zDw x.2 y.2)=>h.symm)).2 ?_
  rw[List.take_append_drop,List.pairwise_cons]
  exact ⟨fun y hy i k hi hk e=>by have:=(hvl i hi).1;have:=hold y hy k hk;omega,hd.apart⟩
def zUD(W w0 w2 w4:World)(B4:Nat)(t:Bool)(r:Int)(L8:List Kp)(s:Value)(wx:World):Prop:=
 ∃a8 c8,s=.slice a8 L8.length c8∧wx.cell? ⟨B4,0,none⟩=some (.bool t)∧wx.cell? ⟨B4,1,none⟩=some (.int .i64 r)∧wx.cell? ⟨B4,2,none⟩=some (.slice a8 L8.length c8) ∧
  zF7 wx w2.heap.size (.slice a8 L8.length c8) L8∧zAD W.heap.size W wx ∧
  (∀(p:Addr) (u:Value),p.block<w0.heap.size→p.block≠B4→w4.cell? p=some u→wx.cell? p=some u)∧(∀(p:Addr),p.block<w0.heap.size→p.block≠B4→wx.frozen? p=w4.frozen? p)
theorem zR6{W w0 w2 w4 w5 w6 w8:World}{o:Obj}{B4:Nat}{t:Bool}{r:Int}{L8:List Kp}{V:Value}{a8:Option Addr}{c8:Nat}(h4:zAD W.heap.size W w4)(hW:W.heap.size≤B4)(hb:B4<w0.heap.size)(h02:w0.heap.size≤w2.heap.size)(h24:w2.heap.size≤w4.heap.size)
  (h5:zAD w4.heap.size w4 w5) (h6:Below w5.heap.size w5 w6) (hg:(w6.alloc o).grownBy w8 V.ownBlock) (hV:∀k,V.ownBlock=some k→w2.heap.size≤k∧k<w4.heap.size)
  (ho:zF7 w8 w2.heap.size (.slice a8 L8.length c8) L8) (c0:w4.cell? ⟨B4,0,none⟩=some (.bool t)) (c1:w4.cell? ⟨B4,1,none⟩=some (.int .i64 r)) (c2:(w4.cell? ⟨B4,2,none⟩).isSome=true) :
  zUD W w0 w2 w4 B4 t r L8 (.slice a8 L8.length c8) (w8.setCell ⟨B4,2,none⟩ (.slice a8 L8.length c8)):=by
 have h02':w0.heap.size≤w4.heap.size:=Nat.le_trans h02 h24
 have hW0:W.heap.size≤w2.heap.size:=by omega
 have hblk:∀k,k<w0.heap.size→w8.heap[k]?=w4.heap[k]?:=fun k hk=>by
  have h1:k<w5.heap.size:=Nat.lt_of_lt_of_le (Nat.lt_of_lt_of_le hk h02') h5.2
  have h3:k<w6.heap.size:=Nat.lt_of_lt_of_le h1 h6.size
  rw[hg.block k (by simpa using Nat.lt_succ_of_lt h3) (fun e=>by have:=(hV k e.symm).1;omega),heap_alloc_old w6 o h3,h6.block k h1,h5.below.block k (Nat.lt_of_lt_of_le hk h02')]
 have S8:zAD W.heap.size W w8:=((((show zAD W.heap.size W w5 from ⟨h4.below.trans (h5.below.mono h4.2),by have:=h4.2;have:=h5.2;omega⟩).step h6).alloc o).grown hg (fun k hk=>by have:=(hV k hk).1;omega))
 have e0:w8.cell? ⟨B4,0,none⟩=some (.bool t):=(World.cell?_of_block (hblk B4 hb)).trans c0
 have e1:w8.cell? ⟨B4,1,none⟩=some (.int .i64 r):=(World.cell?_of_block (hblk B4 hb)).trans c1
 have e2:(w8.cell? ⟨B4,2,none⟩).isSome=true:=by rw[World.cell?_of_block (a:=⟨B4,2,none⟩) (hblk B4 hb)];exact c2
 obtain ⟨u2,e2⟩:=Option.isSome_iff_exists.1 e2
 refine ⟨a8,c8,rfl,?_,?_,?_,ho.kept (zAC w8 ⟨B4,2,none⟩ (.slice a8 L8.length c8)) (fun k hk=>by cases hk;exact Nat.lt_of_lt_of_le hb h02),S8.setCell (a:=⟨B4,2,none⟩) hW _,fun p u hp hne hu=>?_,fun p hp hne=>?_⟩
 ·clear hblk;go_simp
 ·clear hblk;go_simp
 ·clear hblk;go_simp
 ·have h1:=(World.cell?_of_block (Below.heap_setCell w8 ⟨B4,2,none⟩ (.slice a8 L8.length c8) p.block hne):_)
  rw[h1,World.cell?_of_block (hblk p.block hp)]
  exact hu
 ·rw[World.frozen?_setCell,World.frozen?_of_block (hblk p.block hp)]
set_option maxRecDepth 100000 in
theorem zL0(vb:Value)(b:List Ver)(u:Value)(p:Pr)(uk:Value)(k:Kp)(W:World)(hb:zAR W vb b)(hu:zAl W u p.2.2)(hi:I64 p.2.1)(hk:zAG W uk k.2.2)(hk1:I64 k.1)(hk2:I64 k.2.1) :
  Calls Tryz.prog 94 #[.agg #[vb],.agg #[.bool p.1,.int .i64 p.2.1,u],.agg #[.int .i64 k.1,.int .i64 k.2.1,uk]] W fun e w' =>
   (∃v',e=.returned (.tuple #[.agg #[.bool (zC5 b p k).1,.int .i64 (zC5 b p k).2.1,v'],.int .i64 (zBN b p k)])∧zF7 w' W.heap.size v' (zC5 b p k).2.2)∧Below W.heap.size W w':=by
 obtain ⟨ab,cb,rfl,hcb,⟨hbm,hbc,_⟩,_⟩:=hb.opened
 obtain ⟨au,cu,rfl,hcu,⟨hum,huc,_⟩,_⟩:=hu.opened
 obtain ⟨ak,ck,rfl,hck,⟨hkm,hkc,_⟩,_⟩:=hk.opened
 obtain ⟨t,r,l⟩:=p
 obtain ⟨kv,kn,kl⟩:=k
 simp only at hu hi hk hk1 hk2 hcu hum hcb hck hkm ⊢
 obtain ⟨w0,hw0⟩:∃w0,w0=(((W.alloc (.cells #[.slice ab b.length cb] 24)).alloc (.cells #[.bool t,.int .i64 r,.slice au l.length cu] 62)).alloc (.cells #[.int .i64 kv,.int .i64 kn,.slice ak kl.length ck] 66)).alloc (.cells #[.bool false,.int .i64 0,.slice none 0 0] 62):=⟨_,rfl⟩
 have S0:=((((zAD.refl W).alloc (.cells #[.slice ab b.length cb] 24)).alloc (.cells #[.bool t,.int .i64 r,.slice au l.length cu] 62)).alloc (.cells #[.int .i64 kv,.int .i64 kn,.slice ak kl.length ck] 66)).alloc (.cells #[.bool false,.int .i64 0,.slice none 0 0] 62)
 rw[←hw0] at S0
 have a0:w0.cell? ⟨W.heap.size,0,none⟩=some (.slice ab b.length cb):=by rw[hw0];go_simp
 have p0:w0.cell? ⟨W.heap.size+1,0,none⟩=some (.bool t):=by rw[hw0];go_simp
 have p1:w0.cell? ⟨W.heap.size+1,1,none⟩=some (.int .i64 r):=by rw[hw0];go_simp
 have p2:w0.cell? ⟨W.heap.size+1,2,none⟩=some (.slice au l.length cu):=by rw[hw0];go_simp
 have p3:∀j,w0.frozen? ⟨W.heap.size+1,j,none⟩=false:=by intro j;rw[hw0];go_simp
 have k0:w0.cell? ⟨W.heap.size+2,0,none⟩=some (.int .i64 kv):=by rw[hw0];go_simp
 have k1:w0.cell? ⟨W.heap.size+2,1,none⟩=some (.int .i64 kn):=by rw[hw0];go_simp
 have k2:w0.cell? ⟨W.heap.size+2,2,none⟩=some (.slice ak kl.length ck):=by rw[hw0];go_simp
 have q0:w0.cell? ⟨W.heap.size+3,0,none⟩=some (.bool false):=by rw[hw0];go_simp
 have q1:w0.cell? ⟨W.heap.size+3,1,none⟩=some (.int .i64 0):=by rw[hw0];go_simp
 have q2:w0.cell? ⟨W.heap.size+3,2,none⟩=some (.slice none 0 0):=by rw[hw0];go_simp
 have q3:∀j,w0.frozen? ⟨W.heap.size+3,j,none⟩=false:=by intro j;rw[hw0];go_simp
 have hsz0:w0.heap.size=W.heap.size+4:=by rw[hw0];simp
 have HW:=Zh hw0
 clear hw0
 obtain ⟨B3,hB3⟩:∃B3,B3=W.heap.size:=⟨_,rfl⟩
 obtain ⟨B4,hB4⟩:∃B4,B4=W.heap.size+1:=⟨_,rfl⟩
 obtain ⟨B5,hB5⟩:∃B5,B5=W.heap.size+2:=⟨_,rfl⟩
 obtain ⟨B6,hB6⟩:∃B6,B6=W.heap.size+3:=⟨_,rfl⟩
 rw[←hB6] at q0 q1 q2 q3
 rw[←hB5] at k0 k1 k2
 rw[←hB4] at p0 p1 p2 p3
 rw[←hB3] at a0
 have hlt:B3<w0.heap.size∧B4<w0.heap.size∧B5<w0.heap.size∧B6<w0.heap.size∧W.heap.size≤B4∧W.heap.size≤B6:=by omega
 have hne:¬B3=B4∧¬B3=B6∧¬B4=B6∧¬B5=B4∧¬B5=B6∧¬B6=B4:=by omega
 have HLT:=Zh hlt
 obtain ⟨n34,n36,n46,n54,n56,n64⟩:=hne
 have HB3:=Zh hB3
 have HB4:=Zh hB4
 have HB5:=Zh hB5
 have HB6:=Zh hB6
 clear hB3 hB4 hB5 hB6 hsz0 hlt
 have HVB:=Zh hb
 have HVU:=Zh hu
 have HVK:=Zh hk
 have HS0:=Zh S0
 have HC:Hid (∀w',zAD w0.heap.size w0 w'→w'.cell? ⟨B3,0,none⟩=some (.slice ab b.length cb)∧w'.cell? ⟨B4,0,none⟩=some (.bool t)∧w'.cell? ⟨B4,1,none⟩=some (.int .i64 r)∧w'.cell? ⟨B4,2,none⟩=some (.slice au l.length cu)∧w'.cell? ⟨B5,0,none⟩=some (.int .i64 kv)∧w'.cell? ⟨B6,0,none⟩=some (.bool false)∧w'.cell? ⟨B6,1,none⟩=some (.int .i64 0)∧w'.cell? ⟨B6,2,none⟩=some (.slice none 0 0)∧w'.frozen? ⟨B6,0,none⟩=false∧w'.frozen? ⟨B6,1,none⟩=false∧w'.frozen? ⟨B6,2,none⟩=false):=
  Zh (fun w' q=>⟨zAA q.below a0,zAA q.below p0,zAA q.below p1,zAA q.below p2,zAA q.below k0,zAA q.below q0,zAA q.below q1,zAA q.below q2,zAE q.below q0 (q3 0),zAE q.below q1 (q3 1),zAE q.below q2 (q3 2)⟩)
 have HZ:Hid (∀w',zAD w0.heap.size w0 w'→∀j,w'.frozen? ⟨B4,j,none⟩=false):=Zh (fun w' q j=>(q.below.frozen (p:=⟨B4,j,none⟩) HLT.out.2.1).trans (p3 j))
 have HKC:Hid (∀w',zAD w0.heap.size w0 w'→w'.cell? ⟨B5,0,none⟩=some (.int .i64 kv)∧w'.cell? ⟨B5,1,none⟩=some (.int .i64 kn)∧w'.cell? ⟨B5,2,none⟩=some (.slice ak kl.length ck)):=
  Zh (fun w' q=>⟨zAA q.below k0,zAA q.below k1,zAA q.below k2⟩)
 have hfail:∀(c:Int) (w:World),zAD w0.heap.size w0 w→zBN b (t,r,l) (kv,kn,kl)=c→c≠0 →
   zF7 (((w.setCell ⟨B6,0,none⟩ (.bool false)).setCell ⟨B6,1,none⟩ (.int .i64 0)).setCell ⟨B6,2,none⟩ (.slice none 0 0)) W.heap.size (.slice none 0 0) (zC5 b (t,r,l) (kv,kn,kl)).2.2 ∧
   (zC5 b (t,r,l) (kv,kn,kl)).1=false∧(zC5 b (t,r,l) (kv,kn,kl)).2.1=0∧Below W.heap.size W (((w.setCell ⟨B6,0,none⟩ (.bool false)).setCell ⟨B6,1,none⟩ (.int .i64 0)).setCell ⟨B6,2,none⟩ (.slice none 0 0)):=by
  intro c w hS he hc
  have hC:=zIR (show zBN b (t,r,l) (kv,kn,kl)≠0 by rw[he];exact hc)
  rw[hC]
  obtain ⟨_,_,_,_,_,h6⟩:=HLT.out
  exact ⟨zF7.nil _ _,rfl,rfl,(((S0.step hS.below).setCell (a:=⟨B6,0,none⟩) h6 (.bool false)).setCell (a:=⟨B6,1,none⟩) h6 (.int .i64 0)).setCell (a:=⟨B6,2,none⟩) h6 (.slice none 0 0) |>.below⟩
 have HFAIL:=Zh hfail
 clear a0 p0 p1 p2 p3 k0 k1 k2 q0 q1 q2 q3 hb hu hk S0 hfail
 go_enter Tryz.func94,Tryz.ntmps94
 go_upto_region 1 with fail
 rw[←HW.out,←HB6.out,←HB5.out,←HB4.out,←HB3.out]
 have hvb0:=HVB.out.stays zAz.stays HS0.out.below
 have hvu0:=HVU.out.stays zAf.stays HS0.out.below
 obtain ⟨c3,c40,c41,c42,c50,c60,c61,c62,f60,f61,f62⟩:=HC.out w0 (zAD.refl w0)
 go_upto_region 2 with (go_at_call 77;refine (zC7 _ b _ (t,r,l) _ hvb0 hvu0 hi).mono ?_;rintro e w1 ⟨rfl,hb1⟩)
 clear c3 c40 c41 c42 c50 c60 c61 c62 f60 f61 f62
 have S1:=(zAD.refl w0).step hb1
 obtain ⟨c3,c40,c41,c42,c50,c60,c61,c62,f60,f61,f62⟩:=HC.out w1 S1
 by_cases h0:zBG b (t,r,l)=0
 ·have H0:=Zh h0
  rw[h0]
  by_cases hfull:(l.length:Int)=r
  ·have hE:zBN b (t,r,l) (kv,kn,kl)=8:=by unfold zBN;rw[if_neg (by simpa using h0)];exact if_pos hfull
   obtain ⟨h1,h2,h3,h4⟩:=HFAIL.out 8 w1 S1 hE (by decide)
   have hff:((l.length:Int) == r)=true:=by simpa using hfull
   have HE:=Zh hE
   have HH:=Zh h1
   have H2:=Zh h2
   have H3:=Zh h3
   have H4:=Zh h4
   clear h1 h2 h3 h4 hE h0 hfull hvb0 hvu0
   go_wp2_with fail
   exact bodyPost_ret (v:=.tuple #[.agg #[.bool false,.int .i64 0,.slice none 0 0],.int .i64 8]) (by simp[results,Tryz.results94,go_sem,c60,c61,c62]) rfl ⟨⟨_,by rw[H2.out,H3.out,HE.out],HH.out⟩,H4.out⟩
  ·have hok:=zDD.1 h0
   have hl20:(l.length:Int)<r∧r≤20:=by
    have h1:=hok.few
    have h2:=hok.room
    simp only at h1 h2
    omega
   have HOK:=Zh hok
   have hff:((l.length:Int) == r)=false:=by simpa using hfull
   have HNF:=Zh hfull
   have hvu1:=hvu0.stays zAf.stays hb1
   clear hok hfull h0 hvb0 hvu0
   by_cases hfd:0≤zBy kv l 0
   ·have hE:zBN b (t,r,l) (kv,kn,kl)=5:=by unfold zBN;rw[if_neg (by simpa using H0.out),if_neg HNF.out];exact if_pos hfd
    have HE:=Zh hE
    clear hE
    go_wp2_with (go_at_call 40;refine (zDo t r _ l kv _ hvu1).mono ?_;rintro e w2 ⟨rfl,hb2⟩;have S2:=S1.step hb2;obtain ⟨d3,d40,d41,d42,d50,d60,d61,d62,g60,g61,g62⟩:=HC.out w2 S2;obtain ⟨h1,h2,h3,h4⟩:=HFAIL.out 5 w2 S2 HE.out (by decide);have HH:=Zh h1;have H2:=Zh h2;have H3:=Zh h3;have H4:=Zh h4;clear h1 h2 h3 h4)
    exact bodyPost_ret (v:=.tuple #[.agg #[.bool false,.int .i64 0,.slice none 0 0],.int .i64 5]) (by simp[results,Tryz.results94,go_sem,d60,d61,d62]) rfl ⟨⟨_,by rw[H2.out,H3.out,HE.out],HH.out⟩,H4.out⟩
   ·have HE:=Zh (show zBN b (t,r,l) (kv,kn,kl)=zBG b (zET (t,r,l) (kv,kn,kl)) by unfold zBN;rw[if_neg (by simpa using H0.out),if_neg HNF.out];exact if_neg hfd)
    have HNOT:=Zh (show ∀y∈l,y.1≠kv from (zFg (v:=kv) (l:=l) (k:=0)).1 (by omega))
    go_upto_region 8 with (go_at_call 40;refine (zDo t r _ l kv _ hvu1).mono ?_;rintro e w2 ⟨rfl,hb2⟩;have S2:=S1.step hb2;obtain ⟨d3,d40,d41,d42,d50,d60,d61,d62,g60,g61,g62⟩:=HC.out w2 S2)
    clear c3 c40 c41 c42 c50 c60 c61 c62 f60 f61 f62
    have hvu2:=hvu1.stays zAf.stays hb2
    clear hvu1 hb1 hb2 S1 hfd hff
    have j0:=HLT.out
    obtain ⟨l3,l4,l5,l6,m4,m6⟩:=j0
    go_wp2_with (go_at_call 49;refine (zDr t r _ l _ hvu2 (by omega)).mono ?_;rintro e w3 ⟨⟨v3,zs3,rfl,hm3,hd3⟩,hb3⟩;have ho3:zF7 w3 w2.heap.size v3 l:=⟨zs3,hm3,hd3⟩;obtain ⟨a3,cp3,rfl,hcp3,⟨_,hcm3,_⟩,_⟩:=ho3.isKepts.opened;clear hm3 hd3;have S3:=S2.step hb3;obtain ⟨e3,e40,e41,e42,e50,e60,e61,e62,x60,x61,x62⟩:=HC.out w3 S3;have z4:∀j,w3.frozen? ⟨B4,j,none⟩=false:=fun j=>HZ.out w3 S3 j;have z40:=z4 0;have z41:=z4 1;have z42:=z4 2)
    have HE0:=Zh (show w0.heap.size≤w2.heap.size from S2.2)
    have hlo:=ho3.lt
    have hEB:∀j,some B4=some j→j<w2.heap.size:=fun j hj=>by cases hj;have:=HE0.out;omega
    have ho4:=((ho3.kept (zAC w3 ⟨B4,0,none⟩ (.bool t)) hEB).kept (zAC _ ⟨B4,1,none⟩ (.int .i64 r)) hEB).kept (zAC _ ⟨B4,2,none⟩ (.slice a3 l.length cp3)) hEB
    have S4:zAD W.heap.size W (((w3.setCell ⟨B4,0,none⟩ (.bool t)).setCell ⟨B4,1,none⟩ (.int .i64 r)).setCell ⟨B4,2,none⟩ (.slice a3 l.length cp3)):=(((HS0.out.step S3.below).setCell (a:=⟨B4,0,none⟩) m4 (.bool t)).setCell (a:=⟨B4,1,none⟩) m4 (.int .i64 r)).setCell (a:=⟨B4,2,none⟩) m4 (.slice a3 l.length cp3)
    obtain ⟨y50,y51,y52⟩:=HKC.out w3 S3
    have hs4:w2.heap.size≤(((w3.setCell ⟨B4,0,none⟩ (.bool t)).setCell ⟨B4,1,none⟩ (.int .i64 r)).setCell ⟨B4,2,none⟩ (.slice a3 l.length cp3)).heap.size:=by have:=hb3.size;simpa using this
    obtain ⟨w4,hw4⟩:∃w4,w4=((w3.setCell ⟨B4,0,none⟩ (.bool t)).setCell ⟨B4,1,none⟩ (.int .i64 r)).setCell ⟨B4,2,none⟩ (.slice a3 l.length cp3):=⟨_,rfl⟩
    have v3:w4.cell? ⟨B3,0,none⟩=some (.slice ab b.length cb):=by rw[hw4];go_simp
    have v40:w4.cell? ⟨B4,0,none⟩=some (.bool t):=by rw[hw4];go_simp
    have v41:w4.cell? ⟨B4,1,none⟩=some (.int .i64 r):=by rw[hw4];go_simp
    have v42:w4.cell? ⟨B4,2,none⟩=some (.slice a3 l.length cp3):=by rw[hw4];go_simp
    have v50:w4.cell? ⟨B5,0,none⟩=some (.int .i64 kv):=by rw[hw4];go_simp
    have v51:w4.cell? ⟨B5,1,none⟩=some (.int .i64 kn):=by rw[hw4];go_simp
    have v52:w4.cell? ⟨B5,2,none⟩=some (.slice ak kl.length ck):=by rw[hw4];go_simp
    have v60:w4.cell? ⟨B6,0,none⟩=some (.bool false):=by rw[hw4];go_simp
    have v61:w4.cell? ⟨B6,1,none⟩=some (.int .i64 0):=by rw[hw4];go_simp
    have v62:w4.cell? ⟨B6,2,none⟩=some (.slice none 0 0):=by rw[hw4];go_simp
    have z60:w4.frozen? ⟨B6,0,none⟩=false:=by rw[hw4];go_simp
    have z61:w4.frozen? ⟨B6,1,none⟩=false:=by rw[hw4];go_simp
    have z62:w4.frozen? ⟨B6,2,none⟩=false:=by rw[hw4];go_simp
    have z42':w4.frozen? ⟨B4,2,none⟩=false:=by rw[hw4];go_simp
    rw[←hw4] at ho4 S4 hs4 ⊢
    clear hw4 ho3 hlo hEB hb3 S3 e3 e40 e41 e42 e50 e60 e61 e62 x60 x61 x62 z4 z40 z41 z42 y50 y51 y52 d3 d40 d41 d42 d50 d60 d61 d62 g60 g61 g62 hvu2 S2
    have H4A:Hid (∀w',zAD w0.heap.size w4 w'→w'.cell? ⟨B4,2,none⟩=some (.slice a3 l.length cp3)∧w'.frozen? ⟨B4,2,none⟩=false∧w'.cell? ⟨B5,0,none⟩=some (.int .i64 kv)∧w'.cell? ⟨B5,1,none⟩=some (.int .i64 kn)∧w'.cell? ⟨B5,2,none⟩=some (.slice ak kl.length ck)):=
     Zh (fun w' q=>⟨(q.below.cell (p:=⟨B4,2,none⟩) l4).trans v42,(q.below.frozen (p:=⟨B4,2,none⟩) l4).trans z42',(q.below.cell (p:=⟨B5,0,none⟩) l5).trans v50,(q.below.cell (p:=⟨B5,1,none⟩) l5).trans v51,(q.below.cell (p:=⟨B5,2,none⟩) l5).trans v52⟩)
    have H4B:Hid (∀w',zAD w0.heap.size w4 w'→w'.cell? ⟨B3,0,none⟩=some (.slice ab b.length cb)∧w'.cell? ⟨B4,0,none⟩=some (.bool t)∧w'.cell? ⟨B4,1,none⟩=some (.int .i64 r)∧w'.cell? ⟨B6,0,none⟩=some (.bool false)∧w'.cell? ⟨B6,1,none⟩=some (.int .i64 0)∧w'.cell? ⟨B6,2,none⟩=some (.slice none 0 0)∧w'.frozen? ⟨B6,0,none⟩=false∧w'.frozen? ⟨B6,1,none⟩=false∧w'.frozen? ⟨B6,2,none⟩=false):=
     Zh (fun w' q=>⟨(q.below.cell (p:=⟨B3,0,none⟩) l3).trans v3,(q.below.cell (p:=⟨B4,0,none⟩) l4).trans v40,(q.below.cell (p:=⟨B4,1,none⟩) l4).trans v41,(q.below.cell (p:=⟨B6,0,none⟩) l6).trans v60,(q.below.cell (p:=⟨B6,1,none⟩) l6).trans v61,(q.below.cell (p:=⟨B6,2,none⟩) l6).trans v62,(q.below.frozen (p:=⟨B6,0,none⟩) l6).trans z60,(q.below.frozen (p:=⟨B6,1,none⟩) l6).trans z61,(q.below.frozen (p:=⟨B6,2,none⟩) l6).trans z62⟩)
    have HS4:=Zh S4
    have HO4:=Zh ho4
    have hs40:w0.heap.size≤w4.heap.size:=Nat.le_trans HE0.out hs4
    have HB40:=Zh v40
    have H4C:=Zh (show w4.cell? ⟨B3,0,none⟩=some (.slice ab b.length cb)∧w4.cell? ⟨B6,0,none⟩=some (.bool false)∧w4.cell? ⟨B6,1,none⟩=some (.int .i64 0)∧w4.cell? ⟨B6,2,none⟩=some (.slice none 0 0)∧w4.frozen? ⟨B6,0,none⟩=false∧w4.frozen? ⟨B6,1,none⟩=false∧w4.frozen? ⟨B6,2,none⟩=false from ⟨v3,v60,v61,v62,z60,z61,z62⟩)
    have HB41:=Zh v41
    have HB42:=Zh (show (w4.cell? ⟨B4,2,none⟩).isSome=true by rw[v42];rfl)
    clear v3 v40 v41 v42 v50 v51 v52 v60 v61 v62 z60 z61 z62 z42' S4 ho4
    go_loopw[9] (fun i wr=>∃j:Nat,j≤l.length∧i=.int .i64 j∧zAD w4.heap.size w4 wr∧zDF (kv,kn,kl) l=l.take j++zDF (kv,kn,kl) (l.drop j)) (fun i _=>l.length - (intOf i).toNat)
    case atStart=>exact ⟨0,by omega,rfl,zAD.refl w4,by simp⟩
    case round =>
     obtain ⟨j,hj,rfl,hS,hkk⟩:=hrel
     have HKK:=Zh hkk
     clear hkk
     have hS0:zAD w0.heap.size w4 wr:=⟨hS.below.mono hs40,Nat.le_trans hs40 hS.2⟩
     obtain ⟨t42,_,t50,_,_⟩:=H4A.out wr hS0
     have how:=HO4.out.stays hS.below
     by_cases hgo:∃y,l[j]?=some y∧y.1<kv
     ·obtain ⟨y,hy,hlt⟩:=hgo
      obtain ⟨g,cap,ug,cg,ev,hg1,hg2,hcap,k0,_,_,_,i1,_,_⟩:=zK3 how.row hy
      simp only[Value.slice.injEq,true_and] at ev
      obtain ⟨rfl,rfl⟩:=ev
      have hjl:j<l.length:=(List.getElem?_eq_some_iff.1 hy).1
      have s1:(j:Int)<(l.length:Int):=by omega
      have HSTEP:=Zh (show zDF (kv,kn,kl) l=l.take (j+1)++zDF (kv,kn,kl) (l.drop (j+1)) by rw[HKK.out,zAr hy,zT1 hlt,zAv hy];simp)
      clear hy how
      go_wp2_with (go_quiet (fail))
      have hS9:=zBL hS nq
      clear k0 t42 t50
      go_roundw
      case rel=>exact ⟨j+1,by omega,by go_num,hS9,HSTEP.out⟩
      case measure=>simp[intOf];omega
     ·have HREST:=Zh (zQR (kv,kn,kl) l j HKK.out (fun y hy h=>hgo ⟨y,hy,h⟩))
      have hcase:j=l.length∨∃y,l[j]?=some y∧¬y.1<kv:=by
       rcases Nat.lt_or_ge j l.length with h|h
       ·exact Or.inr ⟨l[j],List.getElem?_eq_getElem h,fun h2=>hgo ⟨_,List.getElem?_eq_getElem h,h2⟩⟩
       ·exact Or.inl (by omega)
      clear hgo
      have htop:l.length<1000000:=by omega
      have hsh:∀k,(Value.slice a3 l.length cp3).ownBlock=some k→w2.heap.size≤k∧k<w4.heap.size:=HO4.out.lt
      obtain ⟨V,hV⟩:∃V,V=Value.slice a3 l.length cp3:=⟨_,rfl⟩
      have HOV:Hid (∀w',zAD w4.heap.size w4 w'→zF7 w' w2.heap.size V l):=Zh (fun w' q=>by rw[hV];exact HO4.out.stays q.below)
      have H4V:Hid (∀w',zAD w0.heap.size w4 w'→w'.cell? ⟨B4,2,none⟩=some V∧w'.frozen? ⟨B4,2,none⟩=false∧w'.cell? ⟨B5,0,none⟩=some (.int .i64 kv)∧w'.cell? ⟨B5,1,none⟩=some (.int .i64 kn)∧w'.cell? ⟨B5,2,none⟩=some (.slice ak kl.length ck)):=Zh (fun w' q=>by rw[hV];exact H4A.out w' q)
      have HSH:=Zh (show ∀k,V.ownBlock=some k→w2.heap.size≤k∧k<w4.heap.size by rw[hV];exact hsh)
      have HNB:=Zh (show ∀k,k<w0.heap.size→some k≠V.ownBlock from fun k hk e=>by have:=(HSH.out k e.symm).1;have:=HE0.out;omega)
      obtain ⟨L8,hL8⟩:∃L8,L8=l.take j++(kv,kn,kl)::l.drop j:=⟨_,rfl⟩
      have hL8l:L8.length≤1000000:=by rw[hL8];simp;omega
      have HL8:=Zh hL8
      clear hV hsh hL8
      go_upto_region 10 with fail
      go_cut[48] (fun s48 wx=>∃wz,wz=wx∧s48=.bool false∧zAD w4.heap.size w4 wx)
      case first =>
       rcases hcase with hjl|⟨y,hy,hnlt⟩
       ·have s1:¬(j:Int)<(l.length:Int):=by omega
        clear hjl
        go_wp2_with (go_quiet (fail))
        go_meet
        exact ⟨_,rfl,rfl,zBL hS nq⟩
       ·obtain ⟨g,cap,ug,cg,ev,hg1,hg2,hcap,k0,_,_,_,i1,_,_⟩:=zK3 how.row hy
        simp only[Value.slice.injEq,true_and] at ev
        obtain ⟨rfl,rfl⟩:=ev
        have hjl:j<l.length:=(List.getElem?_eq_some_iff.1 hy).1
        have s1:(j:Int)<(l.length:Int):=by omega
        clear hy
        go_wp2_with (go_quiet (fail))
        go_meet
        exact ⟨_,rfl,rfl,zBL hS nq⟩
      case rest =>
       obtain ⟨w5,rfl,rfl,hS5⟩:=hcut
       have hS50:zAD w0.heap.size w4 w5:=⟨hS5.below.mono hs40,Nat.le_trans hs40 hS5.2⟩
       clear hS hS0 how t42 t50 hcase
       go_upto_region 12 with fail
       go_cut[61] (fun s61 wx=>∃wz,wz=wx∧zUD W w0 w2 w4 B4 t r L8 s61 wx)
       case first =>
        have hS5d:zAD w4.heap.size w4 w5.drew:=hS5.drew
        have hS50d:zAD w0.heap.size w4 w5.drew:=hS50.drew
        obtain ⟨b42,z42,b50,b51,b52⟩:=H4V.out w5.drew hS50d
        have hkd:zAG w5.drew (.slice ak kl.length ck) kl:=HVK.out.stays (HS4.out.below.trans (hS50d.below.mono HS0.out.2))
        have HU5:=Zh (zAD.refl w5.drew)
        have HL:=Zh (zGl kn _ kl _ hkd)
        have HG:Hid (∀w',Below w5.drew.heap.size w5.drew w'→w'.cell? ⟨B4,2,none⟩=some V∧w'.frozen? ⟨B4,2,none⟩=false∧w'.cell? ⟨B5,0,none⟩=some (.int .i64 kv)∧w'.cell? ⟨B5,1,none⟩=some (.int .i64 kn)∧w'.cell? ⟨B5,2,none⟩=some (.slice ak kl.length ck)):=
         Zh (fun w' q=>⟨zAA q b42,zAE q b42 z42,zAA q b50,zAA q b51,zAA q b52⟩)
        have HI:=Zh (fun (w6:World) (a6:Option Addr) (c6:Nat) (hb6:Below w5.drew.heap.size w5.drew w6) (hv6:zAJ w6 3 w5.drew.heap.size (.slice a6 kl.length c6) kl)=>zUe (HOV.out w5.drew hS5d) hb6 hv6 (fun k hk=>Nat.lt_of_lt_of_le (HSH.out k hk).2 hS5d.2) (Nat.le_trans hs4 hS5d.2) hk1 hk2 hj htop)
        clear hkd
        go_region_law (first
         | (go_simp;go_at_call 79;refine HL.out.mono ?_;rintro e w6 ⟨⟨v6,rfl,hv6⟩,hb6⟩;obtain ⟨a6,c6,rfl,_⟩:=hv6.isInts.opened;obtain ⟨x0,x1,x2,x3,x4⟩:=HG.out w6 hb6;obtain ⟨y0,y1,y2,y3,y4⟩:=HG.out (w6.alloc (.cells #[.int .i64 kv,.int .i64 kn,.slice a6 kl.length c6] 66)) ((HU5.out.step hb6).alloc _).below)
         | (go_simp;go_at_call 115;refine (HI.out w6 a6 c6 hb6 hv6).mono ?_;rintro e w8 ⟨⟨v8,rfl,ho8,hb8⟩,hg8⟩;rw[←HL8.out] at ho8;obtain ⟨a8,c8,rfl,hc8,⟨hm8,hcm8,_⟩,_⟩:=ho8.isKepts.opened;have b82:=hg8.cell y0 (HNB.out B4 l4);have z82:=zAW hg8 y0 y1 (HNB.out B4 l4)))
        all_goals
         have HR:=Zh (zR6 (o:=.cells #[.int .i64 kv,.int .i64 kn,.slice a6 kl.length c6] 66) HS4.out m4 l4 HE0.out hs4 hS5d hb6 hg8 HSH.out ho8 HB40.out HB41.out HB42.out)
         clear hb6 hv6 hg8 ho8 hb8 x0 x1 x2 x3 x4 y0 y1 y2 y3 y4 b82 z82 hc8 hm8 hcm8 b42 z42 b50 b51 b52 hS5d hS50d HL HG HI HU5
         go_wp2_with fail
         go_meet
         exact ⟨_,rfl,HR.out⟩
       case rest =>
        obtain ⟨w9,rfl,a8,c8,rfl,d40,d41,d42,ho8,S8,hcell,hfro⟩:=hcut
        have d3:=hcell ⟨B3,0,none⟩ _ l3 n34 H4C.out.1
        have d60:=hcell ⟨B6,0,none⟩ _ l6 n64 H4C.out.2.1
        have d61:=hcell ⟨B6,1,none⟩ _ l6 n64 H4C.out.2.2.1
        have d62:=hcell ⟨B6,2,none⟩ _ l6 n64 H4C.out.2.2.2.1
        have z60:=(hfro ⟨B6,0,none⟩ l6 n64).trans H4C.out.2.2.2.2.1
        have z61:=(hfro ⟨B6,1,none⟩ l6 n64).trans H4C.out.2.2.2.2.2.1
        have z62:=(hfro ⟨B6,2,none⟩ l6 n64).trans H4C.out.2.2.2.2.2.2
        clear hcell hfro
        have HK8:=Zh (show (t,r,L8)=zET (t,r,l) (kv,kn,kl) from congrArg (fun q=>((t,r,q):Pr)) (HL8.out.trans HREST.out.symm))
        have hvb9:=HVB.out.stays zAz.stays S8.below
        have hvk9:=ho8.isKepts
        have HO8:=Zh ho8
        have HS8:=Zh S8
        clear ho8 S8
        go_upto_region 14 with (go_at_call 77;refine (zC7 _ b _ (t,r,L8) _ hvb9 hvk9 hi).mono ?_;rintro e w10 ⟨rfl,hb10⟩)
        have e40:=zAA hb10 d40
        have e41:=zAA hb10 d41
        have e42:=zAA hb10 d42
        have e60:=zAA hb10 d60
        have e61:=zAA hb10 d61
        have e62:=zAA hb10 d62
        have x60:=zAE hb10 d60 z60
        have x61:=zAE hb10 d61 z61
        have x62:=zAE hb10 d62 z62
        have HO10:=Zh (HO8.out.stays hb10)
        have S10:=HS8.out.step hb10
        clear d3 d40 d41 d42 d60 d61 d62 z60 z61 z62 hvb9 hvk9
        by_cases hz:zBG b (t,r,L8)=0
        ·have HE0':=Zh (show zBN b (t,r,l) (kv,kn,kl)=0 by rw[HE.out,←HK8.out,hz])
         have HC0:=Zh (show zC5 b (t,r,l) (kv,kn,kl)=(t,r,L8) by rw[zIZ HE0'.out,HK8.out])
         rw[hz]
         clear hz
         go_wp2_with fail
         obtain ⟨f0,f1,f2⟩:=zGG (w:=w10) (B:=B6) (x:=.bool t) (y:=.int .i64 r) (z:=.slice a8 L8.length c8) (by rw[e60];rfl) (by rw[e61];rfl) (by rw[e62];rfl)
         have hEB:∀m,some B6=some m→m<w2.heap.size:=fun m hm=>by cases hm;have:=HE0.out;omega
         have ho11:=(((HO10.out.kept (zAC w10 ⟨B6,0,none⟩ (.bool t)) hEB).kept (zAC _ ⟨B6,1,none⟩ (.int .i64 r)) hEB).kept (zAC _ ⟨B6,2,none⟩ (.slice a8 L8.length c8)) hEB)
         have S11:=((S10.setCell (a:=⟨B6,0,none⟩) m6 (.bool t)).setCell (a:=⟨B6,1,none⟩) m6 (.int .i64 r)).setCell (a:=⟨B6,2,none⟩) m6 (.slice a8 L8.length c8)
         have HO11:=Zh (ho11.mono (b:=W.heap.size) (by have h1:=HS0.out.2;have h2:=HE0.out;omega))
         clear e40 e41 e42 e60 e61 e62 x60 x61 x62 ho11 hEB
         generalize ((w10.setCell ⟨B6,0,none⟩ (.bool t)).setCell ⟨B6,1,none⟩ (.int .i64 r)).setCell ⟨B6,2,none⟩ (.slice a8 L8.length c8)=w11 at *
         exact bodyPost_ret (v:=.tuple #[.agg #[.bool t,.int .i64 r,.slice a8 L8.length c8],.int .i64 0]) (by simp[results,Tryz.results94,go_sem,f0,f1,f2]) rfl ⟨⟨_,by rw[HC0.out,HE0'.out],by rw[HC0.out];exact HO11.out⟩,S11.below⟩
        ·have HEN:=Zh (show zBN b (t,r,l) (kv,kn,kl)=zBG b (t,r,L8) by rw[HE.out,←HK8.out])
         have HC0:=Zh (zIR (show zBN b (t,r,l) (kv,kn,kl)≠0 by rw[HEN.out];exact hz))
         have hne:(zBG b (t,r,L8) != 0)=true:=by simpa using hz
         clear hz
         go_wp2_with fail
         obtain ⟨f0,f1,f2⟩:=zGG (w:=w10) (B:=B6) (x:=.bool false) (y:=.int .i64 0) (z:=.slice none 0 0) (by rw[e60];rfl) (by rw[e61];rfl) (by rw[e62];rfl)
         have S11:=((S10.setCell (a:=⟨B6,0,none⟩) m6 (.bool false)).setCell (a:=⟨B6,1,none⟩) m6 (.int .i64 0)).setCell (a:=⟨B6,2,none⟩) m6 (.slice none 0 0)
         clear e40 e41 e42 e60 e61 e62 x60 x61 x62
         generalize ((w10.setCell ⟨B6,0,none⟩ (.bool false)).setCell ⟨B6,1,none⟩ (.int .i64 0)).setCell ⟨B6,2,none⟩ (.slice none 0 0)=w11 at *
         exact bodyPost_ret (v:=.tuple #[.agg #[.bool false,.int .i64 0,.slice none 0 0],.int .i64 (zBG b (t,r,L8))]) (by simp[results,Tryz.results94,go_sem,f0,f1,f2]) rfl ⟨⟨_,by rw[HC0.out,HEN.out],by rw[HC0.out];exact zF7.nil _ _⟩,S11.below⟩
 ·have hE:zBN b (t,r,l) (kv,kn,kl)=zBG b (t,r,l):=by unfold zBN;rw[if_pos h0]
  obtain ⟨h1,h2,h3,h4⟩:=HFAIL.out _ w1 S1 hE h0
  have hne:(zBG b (t,r,l) != 0)=true:=by simpa using h0
  have HE:=Zh hE
  have HH:=Zh h1
  have H2:=Zh h2
  have H3:=Zh h3
  have H4:=Zh h4
  clear h1 h2 h3 h4 hE h0 hvb0 hvu0
  go_wp2_with fail
  exact bodyPost_ret (v:=.tuple #[.agg #[.bool false,.int .i64 0,.slice none 0 0],.int .i64 (zBG b (t,r,l))]) (by simp[results,Tryz.results94,go_sem,c60,c61,c62]) rfl ⟨⟨_,by rw[H2.out,H3.out,HE.out],HH.out⟩,H4.out⟩
def zVm(v:Int)(ss:List Sh)(i:Nat):Kp:=(v,(ss[i]?).getD (0,[]))
theorem zO6{v:Int}{ss:List Sh}{i:Nat}{s:Sh}(h:ss[i]?=some s):zVm v ss i=(v,s):=by unfold zVm;rw[h];rfl
def zGR(b:List Ver)(v:Int)(ss:List Sh):List Int→Nat→List Pr→Int × List Pr
 | [],_,ps=>(0,ps)
 | c::cs,i,ps =>
  if zBN b ((ps[c.toNat]?).getD (false,0,[])) (zVm v ss i)≠0 then (zBN b ((ps[c.toNat]?).getD (false,0,[])) (zVm v ss i),[])
  else zGR b v ss cs (i+1) (ps.set c.toNat (zET ((ps[c.toNat]?).getD (false,0,[])) (zVm v ss i)))
theorem zLR{b:List Ver}{v:Int}{ss:List Sh}{c:Int}{cs:List Int}{i k:Nat}{ps:List Pr}{p:Pr}{s:Sh}(hc:c=(k:Int))(hp:ps[k]?=some p)(hs:ss[i]?=some s)(h:zBN b p (v,s)=0):zGR b v ss (c::cs) i ps=zGR b v ss cs (i+1) (ps.set k (zC5 b p (v,s))):=by
 subst hc
 conv=>lhs;unfold zGR
 rw[zO6 hs]
 simp only[Int.toNat_natCast,hp,Option.getD_some]
 rw[if_neg (by simpa using h),zIZ h]
theorem zNz{b:List Ver}{v:Int}{ss:List Sh}{c:Int}{cs:List Int}{i k:Nat}{ps:List Pr}{p:Pr}{s:Sh}(hc:c=(k:Int))(hp:ps[k]?=some p)(hs:ss[i]?=some s)(h:zBN b p (v,s)≠0):zGR b v ss (c::cs) i ps=(zBN b p (v,s),[]):=by
 subst hc
 conv=>lhs;unfold zGR
 rw[zO6 hs]
 simp only[Int.toNat_natCast,hp,Option.getD_some]
 rw[if_pos h]
def zF8(m:Me)(v:Int)(ss:List Sh):Int:=if zGh m.1 m.2 v ss.length≠0 then zGh m.1 m.2 v ss.length else (zGR m.1 v ss (zIQ m.1 m.2 v ss.length) 0 m.2).1
def zGk(m:Me)(v:Int)(ss:List Sh):Me:=if zF8 m v ss≠0 then ([],[]) else (m.1,(zGR m.1 v ss (zIQ m.1 m.2 v ss.length) 0 m.2).2)
theorem zIX{b:List Ver}{l:List Pr}{v:Int}{n:Nat}(h:zGh b l v n=0):(zIQ b l v n).length=n∧∀c∈zIQ b l v n,0≤c∧c<l.length:=by
 have h1:¬((zDR v l l.length).length:Int)<n:=by
  intro h2
  unfold zGh at h
  split at h
  ·rename_i h0;exact h0 h
  ·split at h
   ·simp at h
   ·simp at h
 rw[zFA h]
 refine ⟨?_,fun c hc=>?_⟩
 ·have:=zFt v l
  simp
  omega
 ·have:=(zE6 v l).mem_iff.1 (List.mem_of_mem_take hc)
  exact (zD3.1 this).1
theorem zAZ.rawP{w:World}{v:Value}{l:List Pr}(h:zAT w v l):∃ys:List PrD,ys.map zDK=l∧zAZ 3 RPC w v ys∧∀y∈ys,zAl w y.1.2.2 (y.2.map (·.1))∧I64 y.1.2.1:=by
 obtain ⟨a,cap,rfl,h1,h2,h3⟩:=h
 obtain ⟨ys,hl,hy⟩:=zGW (l:=l) (P:=fun i x (y:PrD)=>zDK y=x∧(∃b off,a=some ⟨b,off,none⟩∧zEB 3 RPC w b (off+i*3) y)∧zAl w y.1.2.2 (y.2.map (·.1))∧I64 y.1.2.1) (fun i x hx=>by
  obtain ⟨b,off,e,cs,g1,g2,v,rfl,g3,g4⟩:=h3 i x hx
  obtain ⟨u,c,rfl,_⟩:=g3.opened
  obtain ⟨ks,hk,_⟩:=g3.rawK
  refine ⟨((x.1,x.2.1,.slice u x.2.2.length c),ks),?_,⟨b,off,e,_,g1,g2,rfl,_,_,_,rfl⟩,?_,g4⟩
  ·unfold zDK
   simp only
   rw[hk]
  ·simp only
   rw[hk]
   exact g3)
 have hm:ys.map zDK=l:=by
  apply List.ext_getElem?
  intro i
  rw[List.getElem?_map]
  by_cases hi:i<l.length
  ·have e1:=List.getElem?_eq_getElem hi
   have e2:=List.getElem?_eq_getElem (l:=ys) (i:=i) (by omega)
   rw[e1,e2]
   simp[(hy i _ _ e1 e2).1]
  ·rw[List.getElem?_eq_none (by omega),List.getElem?_eq_none (by omega)]
   rfl
 refine ⟨ys,hm,⟨a,cap,by rw[hl],by omega,⟨by omega,h2.2⟩,fun i y hi=>?_⟩,fun y hm'=>?_⟩
 ·have hil:=(List.getElem?_eq_some_iff.1 hi).1
  exact (hy i _ y (List.getElem?_eq_getElem (by omega)) hi).2.1
 ·obtain ⟨i,hi⟩:=List.getElem?_of_mem hm'
  have hil:=(List.getElem?_eq_some_iff.1 hi).1
  exact (hy i _ y (List.getElem?_eq_getElem (by omega)) hi).2.2
def zCy(ys:List PrD)(ps:List Pr)(base:Nat)(V:Value)(k:Nat)(w:World):Prop:=
 ∃zs,zs.map zDK=ps∧zAK 3 RPC (fun _=>False) w 62 base V zs∧(∀(j:Nat) y,k≤j→zs[j]?=some y→ys[j]?=some y)∧(∀y∈zs.take k,DK w base y.1.2.2 y.2∧∀i,zDu y i→V.ownBlock≠some i)∧(zs.take k).Pairwise (fun a b=>∀i,zDu a i→¬zDu b i)
section
variable {ys : List PrD} {ps : List Pr} {base k : Nat} {V : Value} {w w' : World}
theorem zCy.later(h:zCy ys ps base V k w){D:Nat→Prop}(hw:zAF D w w')(hD:∀j,D j→j<base):zCy ys ps base V k w':=by
 obtain ⟨zs,h1,h2,h3,h4,h5⟩:=h
 refine ⟨zs,h1,RPC.anyE ((RPC.anyE (E':=D) h2).later hw (fun j hj hd=>by have:=(h2.lt j hj).1;have:=hD j hd;omega)),h3,fun y hy=>⟨(h4 y hy).1.frame hw (fun j hj hd=>by have:=((h4 y hy).1.lt hj).1;have:=hD j hd;omega),(h4 y hy).2⟩,h5⟩
theorem zCy.stays(h:zCy ys ps base V k w)(hb:Below w.heap.size w w'):zCy ys ps base V k w':=h.later (zAF.old hb (fun _=>False)) (fun _ h=>h.elim)
theorem zCy.at{W:World}(h:zCy ys ps base V k w)(hy:∀y∈ys,zAl W y.1.2.2 (y.2.map (·.1))∧I64 y.1.2.1)(hb:Below W.heap.size W w){x:Pr}(hx:ps[k]?=some x) :
  ∃g cap u cu,V=.slice (some ⟨g,0,none⟩) ps.length cap∧base≤g∧g<w.heap.size∧w.cell? ⟨g,k*3,none⟩=some (.bool x.1)∧w.cell? ⟨g,k*3+1,none⟩=some (.int .i64 x.2.1)∧w.cell? ⟨g,k*3+2,none⟩=some (.slice u x.2.2.length cu)∧zAl w (.slice u x.2.2.length cu) x.2.2∧I64 x.2.1∧(∀j,w.frozen? ⟨g,j,none⟩=false):=by
 obtain ⟨zs,h1,h2,h3,h4,h5⟩:=h
 have hl:zs.length=ps.length:=by rw[←h1,List.length_map]
 have hkl:k<zs.length:=by have:=(List.getElem?_eq_some_iff.1 hx).1;omega
 have hzk:zs[k]?=some zs[k]:=List.getElem?_eq_getElem hkl
 have hxe:zDK zs[k]=x:=by
  rw[←h1,List.getElem?_map,hzk] at hx
  exact Option.some.inj hx
 obtain ⟨r,g,hg,hlr,hr1,hc,hf⟩:=h2.get hzk
 obtain ⟨g1,g2⟩:=hy _ (List.mem_of_getElem? (h3 k _ (Nat.le_refl _) hzk))
 rcases h2.shape with ⟨rfl,h0⟩|⟨g',cap',cur,rfl,hb',hlt,hnc,_⟩
 ·rw[h0] at hkl;simp at hkl
 ·simp only[Value.ownBlock,Option.some.injEq] at hg
  subst hg
  obtain ⟨rfl,a,n,c,e⟩:=hf.now
  have c0:=hc 0 _ rfl
  have c1:=hc 1 _ rfl
  have c2:=hc 2 _ rfl
  rw[e] at g1
  obtain ⟨u,cu,e4,_⟩:=g1.opened
  rw[e4] at g1
  rw[e,e4] at c2
  have q1:zs[k].1.1=x.1:=by rw[←hxe];rfl
  have q2:zs[k].1.2.1=x.2.1:=by rw[←hxe];rfl
  have q3:zs[k].2.map (·.1)=x.2.2:=by rw[←hxe];rfl
  rw[q1] at c0
  rw[q2] at c1 g2
  rw[q3] at c2 g1
  exact ⟨g',cap',u,cu,by rw[hl],hb',hlt,c0,c1,c2,g1.stays zAf.stays hb,g2,fun j=>h2.free rfl j⟩
theorem zCy.next{g L cap:Nat}{w5:World}(h:zCy ys ps base (.slice (some ⟨g,0,none⟩) L cap) k w)(hb5:Below w.heap.size w w5){x:Pr}(hx:ps[k]?=some x){v:Value}{ks:List KpD}(hks:ks.map (·.1)=x.2.2)(hv:DK w5 w.heap.size v ks)(hg:g<w.heap.size)(hbase:base≤w.heap.size) :
  zCy ys ps base (.slice (some ⟨g,0,none⟩) L cap) (k+1) (w5.setCells g (k*3) [.bool x.1,.int .i64 x.2.1,v]):=by
 obtain ⟨zs,h1,h2,h3,h4,h5⟩:=h
 have hl:zs.length=ps.length:=by rw[←h1,List.length_map]
 have hkl:k<zs.length:=by have:=(List.getElem?_eq_some_iff.1 hx).1;omega
 have hvs:∃a n c,v=.slice a n c:=by obtain ⟨a,c,e,_⟩:=hv.isKepts.opened;exact ⟨a,_,c,e⟩
 have hgr:=zAQ g [.bool x.1,.int .i64 x.2.1,v] (k*3) w5
 have hd:zAF (fun j=>j=g) w5 (w5.setCells g (k*3) [.bool x.1,.int .i64 x.2.1,v]):=(zAF.of_grown hgr).mono fun j _ hj=>by cases hj;rfl
 have h2':=(h2.stays hb5).setElem (x:=((x.1,x.2.1,v),ks)) hkl rfl (by
  obtain ⟨a,n,c,e⟩:=hvs
  intro u hu
  simp at hu
  rcases hu with rfl|rfl|rfl
  ·rfl
  ·rfl
  ·rw[e];rfl) (fun _ _=>⟨rfl,hvs⟩)
 have hset:(zs.set k ((x.1,x.2.1,v),ks))[k]?=some ((x.1,x.2.1,v),ks):=by rw[List.getElem?_set,if_pos rfl,if_pos hkl]
 have htk:(zs.set k ((x.1,x.2.1,v),ks)).take k=zs.take k:=by
  apply List.ext_getElem?
  intro j
  rw[List.getElem?_take,List.getElem?_take]
  by_cases hj:j<k
  ·rw[if_pos hj,if_pos hj,List.getElem?_set,if_neg (by omega)]
  ·rw[if_neg hj,if_neg hj]
 refine ⟨_,?_,h2',fun j y hj hy=>?_,fun y hy=>?_,?_⟩
 ·rw[List.map_set,h1]
  have:zDK ((x.1,x.2.1,v),ks)=x:=by unfold zDK;simp only;rw[hks]
  rw[this]
  exact zHG hx
 ·rw[List.getElem?_set,if_neg (by omega)] at hy
  exact h3 j y (by omega) hy
 ·rw[zAv hset,htk] at hy
  rcases List.mem_append.1 hy with hy|hy
  ·obtain ⟨g1,g2⟩:=h4 y hy
   exact ⟨(g1.stays hb5).frame hd (fun i hi e=>g2 i hi (by rw[e];rfl)),g2⟩
  ·simp only[List.mem_singleton] at hy
   subst hy
   refine ⟨(hv.mono hbase).frame hd (fun i hi e=>?_),fun i hi e=>?_⟩
   ·have:=(hv.lt hi).1
    omega
   ·have hj':g=i:=Option.some.inj e
    have:=(hv.lt hi).1
    omega
 ·rw[zAv hset,htk,List.pairwise_append]
  refine ⟨h5,by simp,fun a ha c hc=>?_⟩
  simp only[List.mem_singleton] at hc
  subst hc
  intro i hi hj
  have h6:=((h4 a ha).1.lt hi).2
  have h7:=(hv.lt hj).1
  omega
theorem zCy.done(h:zCy ys ps base V ps.length w)(hi:∀x∈ps,I64 x.2.1):∃zs,zs.map zDK=ps∧DP w base V zs:=by
 obtain ⟨zs,h1,h2,h3,h4,h5⟩:=h
 have hl:zs.length=ps.length:=by rw[←h1,List.length_map]
 rw[←hl,List.take_length] at h4 h5
 refine ⟨zs,h1,h2,fun y hy=>?_,h5⟩
 obtain ⟨g1,g2⟩:=h4 y hy
 have i1:=hi (zDK y) (by rw[←h1];exact List.mem_map.2 ⟨y,hy,rfl⟩)
 exact ⟨g1,i1,g2⟩
end
end Go.Proofs.YthgmphbkkojaoaaGreat
