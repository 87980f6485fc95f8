/-
  Kept shares, peers: how they lie in memory, and the readings. Peers in plain lists: what is wrong with one; what is found, kept, dropped. Walks: what a peer keeps is found; slices.IndexFunc and slices.EqualFunc at what is kept, with whatever closure.
-/
import Derived.Test.YthgmphbkkojaoaaGreatQBooks
set_option maxHeartbeats 2000000
namespace Go.Proofs.YthgmphbkkojaoaaGreat
set_option linter.unusedSectionVars false
variable [Zn]
open Go.ChangeShapes Go.WideShapes Go.ChangeAt Go.RowKit Go.Deep
abbrev Kp:=Int × Sh
abbrev Pr:=Bool × Int × List Kp
def zAf:Rd Kp:=fun w cs x=>∃v,cs=[.int .i64 x.1,.int .i64 x.2.1,v]∧zAG w v x.2.2∧I64 x.1∧I64 x.2.1
theorem zAf.stays:zAf.Stays:=by
 rintro w cs x ⟨v,rfl,h,i⟩ w' hw
 exact ⟨v,rfl,h.framed (fun _ _ _=>id) hw,i⟩
abbrev zAl(w:World)(v:Value)(l:List Kp):Prop:=zAZ 3 zAf w v l
theorem zCK{w:World}{a:Option Addr}{n cap:Nat}{l:List Kp}(h:zAl w (.slice a n cap) l){i:Nat}{x:Kp}(hx:l[i]?=some x) :
  ∃g off u c,a=some ⟨g,off,none⟩∧w.cell? ⟨g,off+i*3,none⟩=some (.int .i64 x.1)∧w.cell? ⟨g,off+i*3+1,none⟩=some (.int .i64 x.2.1)∧w.cell? ⟨g,off+i*3+2,none⟩=some (.slice u x.2.2.length c)∧zAG w (.slice u x.2.2.length c) x.2.2∧I64 x.1∧I64 x.2.1:=by
 obtain ⟨g,off,rfl,cs,hl,hc,v,rfl,hv,h1,h2⟩:=h.at hx
 obtain ⟨u,c,rfl,_⟩:=hv.opened
 exact ⟨g,off,u,c,rfl,hc 0 _ rfl,hc 1 _ rfl,hc 2 _ rfl,hv,h1,h2⟩
def zAj:Rd Pr:=fun w cs x=>∃v,cs=[.bool x.1,.int .i64 x.2.1,v]∧zAl w v x.2.2∧I64 x.2.1
theorem zAj.stays:zAj.Stays:=by
 rintro w cs x ⟨v,rfl,h,i⟩ w' hw
 exact ⟨v,rfl,h.later zAf.stays hw,i⟩
abbrev zAT(w:World)(v:Value)(l:List Pr):Prop:=zAZ 3 zAj w v l
theorem zBq{w:World}{a:Option Addr}{n cap:Nat}{l:List Pr}(h:zAT w (.slice a n cap) l){i:Nat}{x:Pr}(hx:l[i]?=some x) :
  ∃g off u c,a=some ⟨g,off,none⟩∧w.cell? ⟨g,off+i*3,none⟩=some (.bool x.1)∧w.cell? ⟨g,off+i*3+1,none⟩=some (.int .i64 x.2.1)∧w.cell? ⟨g,off+i*3+2,none⟩=some (.slice u x.2.2.length c)∧zAl w (.slice u x.2.2.length c) x.2.2∧I64 x.2.1:=by
 obtain ⟨g,off,rfl,cs,hl,hc,v,rfl,hv,h1⟩:=h.at hx
 obtain ⟨u,c,rfl,_⟩:=hv.opened
 exact ⟨g,off,u,c,rfl,hc 0 _ rfl,hc 1 _ rfl,hc 2 _ rfl,hv,h1⟩
section
variable {H : Type} {enc : TypeId × Value → H} {W : World} {base : Nat} {v : Value} {d : DataW H} {ps : List MemPlace} [zRf W]
theorem zKz:Tryz.prog.cellsOf 66=3:=by kernel_rfl
theorem zPW:Tryz.prog.cellsOf 4=1:=by kernel_rfl
theorem zNg:Tryz.prog.cellsOf 60=1:=by kernel_rfl
theorem zJ1:Tryz.prog.cellsOf 62=3:=by kernel_rfl
set_option maxRecDepth 100000 in
theorem zKU:zEN enc W 66 zAf:=by
 intro n cs x h hz
 obtain ⟨y0,y1,k,rfl,hl,h0,h1⟩:=trod_struct2 Tryz.underlying66 h
 rw[zKz] at hl
 simp only[zFk,zJa] at h0 h1
 match cs,hl with
 | [c0,c1,c2],_ =>
  simp only[List.drop_zero,List.drop_succ_cons,List.take_succ_cons,List.take_zero] at h0 h1
  simp only[DataW.weights,Tryz.underlying66,List.map_cons,List.map_nil,DataW.weightsEach,List.mem_append] at hz
  obtain ⟨z0,e0,i0⟩:=zCO Tryz.underlying3 k _ _ h0 (fun m hm=>hz m (by simp[hm]))
  obtain ⟨z1,v1,e1,i1,j1⟩:=zJF k _ _ h1 (fun m hm=>hz m (by simp[hm]))
  simp only[List.cons.injEq,and_true] at e0 e1
  obtain ⟨rfl,rfl⟩:=e1
  subst e0
  exact ⟨(z0,z1),_,rfl,i1,i0,j1⟩
set_option maxRecDepth 100000 in
theorem zNf:zEN enc W 60 (fun w cs l=>∃v,cs=[v]∧zAl w v l):=
 zHN Tryz.underlying60 zKz (by omega) (by rw[show Tryz.prog.bytesOf 66=40 by kernel_rfl];omega) zKU
set_option maxRecDepth 100000 in
theorem zKq:zEN enc W 62 zAj:=by
 intro n cs x h hz
 obtain ⟨y0,y1,y2,k,rfl,hl,h0,h1,h2⟩:=trod_struct3 Tryz.underlying62 h
 rw[zJ1] at hl
 simp only[zFk,zPW,zNg] at h0 h1 h2
 match cs,hl with
 | [c0,c1,c2],_ =>
  simp only[List.drop_zero,List.drop_succ_cons,List.take_succ_cons,List.take_zero] at h0 h1 h2
  simp only[DataW.weights,Tryz.underlying62,List.map_cons,List.map_nil,DataW.weightsEach,List.mem_append] at hz
  obtain ⟨z0,e0⟩:=zKV Tryz.underlying4 k _ _ h0 (fun m hm=>hz m (by simp[hm]))
  obtain ⟨z1,e1,i1⟩:=zCO Tryz.underlying3 k _ _ h1 (fun m hm=>hz m (by simp[hm]))
  obtain ⟨z2,v2,e2,i2⟩:=zNf k _ _ h2 (fun m hm=>hz m (by simp[hm]))
  simp only[zVW,List.cons.injEq,and_true] at e0 e1 e2
  subst e0 e1 e2
  exact ⟨(z0,z1,z2),_,rfl,i2,i1⟩
set_option maxRecDepth 100000 in
theorem zIr:zEN enc W 25 (fun w cs l=>∃v,cs=[v]∧zAT w v l):=
 zHN Tryz.underlying25 zJ1 (by omega) (by rw[show Tryz.prog.bytesOf 62=40 by kernel_rfl];omega) zKq
def zDG(w:World)(v:Value)(x:Kp):Prop:=∃u,v=.agg #[.int .i64 x.1,.int .i64 x.2.1,u]∧zAG w u x.2.2∧I64 x.1∧I64 x.2.1
def zG6(w:World)(v:Value)(x:Pr):Prop:=∃u,v=.agg #[.bool x.1,.int .i64 x.2.1,u]∧zAl w u x.2.2∧I64 x.2.1
end
def zAO(b:List Ver)(k:Int):Int × Int × Int:=((b[k.toNat]?).map (·.2)).getD (0,0,0)
def zBt(b:List Ver)(x:Kp):Int:=zDy (zAO b x.1).1 (zAO b x.1).2.1 (zAO b x.1).2.2 x.2.1 x.2.2
def zBh(b:List Ver):Int→List Kp→Int
 | _,[]=>0
 | last,x::r=>if x.1<0∨(b.length:Int)≤x.1 then 4 else if x.1≤last then 5 else if zBt b x≠0 then zBt b x else zBh b x.1 r
def zBG(b:List Ver)(p:Pr):Int:=if zAt b≠0 then zAt b else if p.2.1<0∨20<p.2.1 then 2 else if p.2.1<(p.2.2.length:Int) then 8 else zBh b (-1) p.2.2
theorem zM2(b:List Ver):∀(l:List Kp) (last:Int),zBh b last l=0↔(∀x∈l,last<x.1∧0≤x.1∧x.1<b.length∧zBt b x=0)∧l.Pairwise (fun x y=>x.1<y.1)
 | [],last=>by simp[zBh]
 | x::r,last=>by
  unfold zBh
  by_cases h1:x.1<0∨(b.length:Int)≤x.1
  ·rw[if_pos h1]
   constructor
   ·intro e;simp at e
   ·rintro ⟨h2,_⟩
    have:=h2 x (by simp)
    omega
  ·rw[if_neg h1]
   by_cases h2:x.1≤last
   ·rw[if_pos h2]
    constructor
    ·intro e;simp at e
    ·rintro ⟨h3,_⟩
     have:=h3 x (by simp)
     omega
   ·rw[if_neg h2]
    by_cases h3:zBt b x=0
    ·rw[if_neg (by simpa using h3),zM2 b r x.1,List.pairwise_cons]
     constructor
     ·rintro ⟨h4,h5⟩
      refine ⟨fun y hy=>?_,fun y hy=>(h4 y hy).1,h5⟩
      rcases List.mem_cons.1 hy with rfl|hy
      ·exact ⟨by omega,by omega,by omega,h3⟩
      ·have:=h4 y hy
       exact ⟨by omega,this.2⟩
     ·rintro ⟨h4,h5,h6⟩
      exact ⟨fun y hy=>⟨h5 y hy,(h4 y (by simp[hy])).2⟩,h6⟩
    ·rw[if_pos h3]
     constructor
     ·intro e;exact absurd e h3
     ·rintro ⟨h4,_⟩
      exact absurd (h4 x (by simp)).2.2.2 h3
structure zBk (b:List Ver) (p:Pr):Prop where
 book:zAt b=0
 room:0≤p.2.1∧p.2.1≤20
 few:(p.2.2.length:Int)≤p.2.1
 each:∀x∈p.2.2,0≤x.1∧x.1<b.length∧zBt b x=0
 rise:p.2.2.Pairwise (fun x y=>x.1<y.1)
theorem zDD{b:List Ver}{p:Pr}:zBG b p=0↔zBk b p:=by
 unfold zBG
 by_cases h1:zAt b=0
 ·rw[if_neg (by simpa using h1)]
  by_cases h2:p.2.1<0∨20<p.2.1
  ·rw[if_pos h2]
   exact ⟨fun e=>by simp at e,fun h=>by have:=h.room;omega⟩
  ·rw[if_neg h2]
   by_cases h3:p.2.1<(p.2.2.length:Int)
   ·rw[if_pos h3]
    exact ⟨fun e=>by simp at e,fun h=>by have:=h.few;omega⟩
   ·rw[if_neg h3,zM2]
    exact ⟨fun h=>⟨h1,by omega,by omega,fun x hx=>⟨(h.1 x hx).2.1,(h.1 x hx).2.2⟩,h.2⟩,fun h=>⟨fun x hx=>⟨by have:=h.each x hx;omega,h.each x hx⟩,h.rise⟩⟩
 ·rw[if_pos h1]
  exact ⟨fun e=>absurd e h1,fun h=>absurd h.book h1⟩
def zBy(v:Int):List Kp→Nat→Int
 | [],_ => -1
 | x::r,k=>if x.1=v then (k:Int) else zBy v r (k+1)
theorem zFg{v:Int}:∀{l:List Kp} {k:Nat},zBy v l k<0↔∀x∈l,x.1≠v
 | [],_=>by simp[zBy]
 | x::r,k=>by
  unfold zBy
  by_cases h:x.1=v
  ·rw[if_pos h]
   exact ⟨fun h2=>by omega,fun h2=>absurd h (h2 x (by simp))⟩
  ·rw[if_neg h,zFg (l:=r) (k:=k+1)]
   exact ⟨fun h2 y hy=>by rcases List.mem_cons.1 hy with rfl | hy;exact h;exact h2 y hy,fun h2 y hy=>h2 y (by simp[hy])⟩
def zAa(v:Int)(l:List Kp):List Kp:=l.filter fun x=>decide (x.1≠v)
def zDF(x:Kp):List Kp→List Kp
 | []=>[x]
 | y::r=>if y.1<x.1 then y::zDF x r else x::y::r
theorem zHB{x y:Kp}:∀{l:List Kp},y∈zDF x l↔y=x∨y∈l
 | []=>by simp[zDF]
 | z::r=>by
  unfold zDF
  by_cases h:z.1<x.1
  ·rw[if_pos h,List.mem_cons,zHB (l:=r),List.mem_cons]
   constructor
   ·rintro (h|h|h)
    ·exact Or.inr (Or.inl h)
    ·exact Or.inl h
    ·exact Or.inr (Or.inr h)
   ·rintro (h|h|h)
    ·exact Or.inr (Or.inl h)
    ·exact Or.inl h
    ·exact Or.inr (Or.inr h)
  ·rw[if_neg h,List.mem_cons]
theorem zHo{x:Kp}:∀{l:List Kp},l.Pairwise (fun a c=>a.1<c.1)→(∀y∈l,y.1≠x.1)→(zDF x l).Pairwise (fun a c=>a.1<c.1)
 | [],_,_=>by simp[zDF]
 | z::r,hp,hn=>by
  have hp':=List.pairwise_cons.1 hp
  unfold zDF
  by_cases h:z.1<x.1
  ·rw[if_pos h,List.pairwise_cons]
   refine ⟨fun y hy=>?_,zHo hp'.2 (fun y hy=>hn y (by simp[hy]))⟩
   rcases zHB.1 hy with rfl|hy
   ·exact h
   ·exact hp'.1 y hy
  ·have hzx:x.1<z.1:=by have:=hn z (by simp);omega
   rw[if_neg h,List.pairwise_cons]
   refine ⟨fun y hy=>?_,hp⟩
   rcases List.mem_cons.1 hy with rfl|hy
   ·exact hzx
   ·have:=hp'.1 y hy;omega
theorem zIy{x:Kp}:∀{l:List Kp},(∀y∈l,y.1≠x.1)→zAa x.1 (zDF x l)=l
 | [],_=>by simp[zDF,zAa]
 | z::r,hn=>by
  have hz:=hn z (by simp)
  have hr:zAa x.1 r=r:=by unfold zAa;rw[List.filter_eq_self];intro y hy;simpa using hn y (by simp[hy])
  unfold zDF
  by_cases h:z.1<x.1
  ·rw[if_pos h]
   have ih:=zIy (x:=x) (l:=r) (fun y hy=>hn y (by simp[hy]))
   unfold zAa at ih ⊢
   rw[List.filter_cons,if_pos (by simpa using hz),ih]
  ·rw[if_neg h]
   unfold zAa at hr ⊢
   rw[List.filter_cons,if_neg (by simp),List.filter_cons,if_pos (by simpa using hz),hr]
theorem zJ9{v:Int}{l:List Kp}(h:∀y∈l,y.1≠v):zAa v l=l:=by unfold zAa;rw[List.filter_eq_self];intro y hy;simpa using h y hy
open Go.RowKit
theorem zKh(v:Int):∀(l:List Kp) (k:Nat),zAP (fun x:Kp=>decide (x.1=v)) l k=zBy v l k
 | [],_=>rfl
 | x::r,k=>by
  unfold zAP zBy
  by_cases h:x.1=v
  ·rw[if_pos h,if_pos (by simpa using h)]
  ·rw[if_neg h,if_neg (by simpa using h),zKh v r (k+1)]
theorem zDG.stays{w w':World}{v:Value}{x:Kp}(h:zDG w v x)(hb:Below w.heap.size w w'):zDG w' v x:=by
 obtain ⟨u,rfl,hu,i⟩:=h
 exact ⟨u,rfl,hu.stays hb,i⟩
theorem zOL(u:Value)(x:Kp)(M:Int)(b:Nat)(W:World)(hx:zDG W u x)(hc:W.cell? ⟨b,0,none⟩=some (.int .i64 M)) :
  Calls Tryz.prog 67 #[u,.pointer (some ⟨b,0,none⟩)] W fun e w'=>e=.returned (.bool (decide (x.1=M)))∧Below W.heap.size W w':=by
 obtain ⟨y,rfl,hy,_⟩:=hx
 obtain ⟨a,c,rfl,_⟩:=hy.opened
 obtain ⟨n,N,l⟩:=x
 have S0:=(zAD.refl W).alloc (.cells #[.int .i64 n,.int .i64 N,.slice a l.length c] 66)
 have hc':=(S0.below.cell (p:=⟨b,0,none⟩) (zAH hc)).trans hc
 clear hc hy
 go_enter Tryz.func67,Tryz.ntmps67
 go_wp2_with fail
 go_ret
 exact ⟨zAX rfl,S0.below⟩
set_option maxRecDepth 100000 in
theorem zEY(F:Nat)(eF:∀args w,(callFunc F args).run Tryz.prog w=.ok (.enter F args) w)(caps:Array Value)(p:Kp→Bool)(v:Value)(l:List Kp)(W:World)(hv:zAl W v l)
  (hF:∀u z w,z∈l→zAD W.heap.size W w→zDG w u z→Calls Tryz.prog F (#[u]++caps) w fun e w'=>e=.returned (.bool (p z))∧Below w.heap.size w w') :
  Calls Tryz.prog 66 #[v,.func (.func F) #[] caps] W fun e w'=>e=.returned (.int .i64 (zAP p l 0))∧Below W.heap.size W w':=by
 obtain ⟨a,c,rfl,hcap,⟨hm,hcm,_⟩,_⟩:=hv.opened
 have HF:=Zh hF
 clear hF
 go_enter Tryz.func66,Tryz.ntmps66
 go_wp2_with fail
 go_loopw[8] (fun i wr=>∃k:Nat,k≤l.length∧i=.int .i64 k∧zAD W.heap.size W wr∧zAP p (l.drop k) k=zAP p l 0) (fun i _=>l.length - (intOf i).toNat)
 case atStart=>exact ⟨0,by omega,rfl,zAD.refl W,rfl⟩
 case round =>
  obtain ⟨k,hk,rfl,hS,hq⟩:=hrel
  have HQ:=Zh hq
  clear hq
  by_cases hlt:k<l.length
  ·obtain ⟨g,off,u,cu,rfl,k0,k1,k2,hp,hi⟩:=zCK (hv.later zAf.stays (zAF.old hS.below _)) (List.getElem?_eq_getElem hlt)
   have HD:=Zh (List.drop_eq_getElem_cons hlt)
   have HM:=Zh (List.getElem_mem hlt)
   generalize l[k]=x at *
   have hver:zDG wr (.agg #[.int .i64 x.1,.int .i64 x.2.1,.slice u x.2.2.length cu]) x:=⟨_,rfl,hp,hi⟩
   have HVER:=Zh hver
   obtain ⟨T,hT⟩:∃T,T=p x:=⟨_,rfl⟩
   have HT:=Zh hT
   clear hT hver hp hi
   cases T with
   | true =>
    have HH:=Zh (show zAP p l 0=(k:Int) by rw[←HQ.out,HD.out];simp[zAP,←HT.out])
    go_wp2_with (go_at_fn F;refine (HF.out _ x _ HM.out hS HVER.out).mono ?_;rintro e w' ⟨rfl,hb'⟩;rw[←HT.out])
    go_ret
    exact ⟨zAL HH.out.symm,(hS.step hb').below⟩
   | false =>
    have HH:=Zh (show zAP p (l.drop (k+1)) (k+1)=zAP p l 0 by rw[←HQ.out,HD.out];simp[zAP,←HT.out])
    go_wp2_with (go_at_fn F;refine (HF.out _ x _ HM.out hS HVER.out).mono ?_;rintro e w' ⟨rfl,hb'⟩;rw[←HT.out])
    clear k0 k1 k2
    go_roundw
    case rel=>exact ⟨k+1,by omega,by go_num,hS.step hb',HH.out⟩
    case measure=>simp[intOf];omega
  ·obtain rfl:l.length=k:=by omega
   go_wp2_with fail
   go_ret
   refine ⟨zAL ?_,hS.below⟩
   rw[←HQ.out]
   simp[zAP]
set_option maxRecDepth 100000 in
theorem zDo(t:Bool)(r:Int)(v:Value)(l:List Kp)(M:Int)(W:World)(hv:zAl W v l) :
  Calls Tryz.prog 40 #[.agg #[.bool t,.int .i64 r,v],.int .i64 M] W fun e w'=>e=.returned (.int .i64 (zBy M l 0))∧Below W.heap.size W w':=by
 obtain ⟨a,c,rfl,_⟩:=hv.opened
 have S0:=((zAD.refl W).alloc (.cells #[.bool t,.int .i64 r,.slice a l.length c] 62)).alloc (.cells #[.int .i64 M] 3)
 have HV:=Zh (hv.stays zAf.stays S0.below)
 have c1:((W.alloc (.cells #[.bool t,.int .i64 r,.slice a l.length c] 62)).alloc (.cells #[.int .i64 M] 3)).cell? ⟨W.heap.size+1,0,none⟩=some (.int .i64 M):=by go_simp
 have HE:=Zh (zKh M l 0)
 clear hv
 go_enter Tryz.func40,Tryz.ntmps40
 go_wp2_with fail
 generalize (W.alloc (.cells #[.bool t,.int .i64 r,.slice a l.length c] 62)).alloc (.cells #[.int .i64 M] 3)=w1 at *
 obtain ⟨B,hB⟩:∃B,B=W.heap.size+1:=⟨_,rfl⟩
 rw[←hB] at c1 ⊢
 have l1:=zAH c1
 clear hB
 refine (zEY 67 (fun _ _=>rfl) #[.pointer (some ⟨B,0,none⟩)] (fun x=>decide (x.1=M)) _ l _ HV.out (fun u z w _ hSw hz=>zOL u z M B w hz ((hSw.below.cell (p:=⟨B,0,none⟩) l1).trans c1))).mono ?_
 rintro e w2 ⟨rfl,hb2⟩
 rw[HE.out]
 have S2:=S0.step hb2
 clear c1 l1 hb2
 go_wp2_with fail
 go_ret
 exact ⟨rfl,S2.below⟩
set_option maxRecDepth 100000 in
theorem zMT(t:Bool)(r:Int)(v:Value)(l:List Kp)(M:Int)(W:World)(hv:zAl W v l) :
  Calls Tryz.prog 61 #[.agg #[.bool t,.int .i64 r,v],.int .i64 M] W fun e w'=>e=.returned (.int .i64 (zBy M l 0))∧Below W.heap.size W w':=by
 obtain ⟨a,c,rfl,hcap,⟨hm,hcm,_⟩,_⟩:=hv.opened
 have S0:=(zAD.refl W).alloc (.cells #[.bool t,.int .i64 r,.slice a l.length c] 62)
 have hv0:=hv.stays zAf.stays S0.below
 clear hv
 go_enter Tryz.func61,Tryz.ntmps61
 go_wp2_with fail
 generalize W.alloc (.cells #[.bool t,.int .i64 r,.slice a l.length c] 62)=w0 at *
 go_loopw[10] (fun i wr=>∃k:Nat,k≤l.length∧i=.int .i64 k∧zAD w0.heap.size w0 wr∧zBy M (l.drop k) k=zBy M l 0) (fun i _=>l.length - (intOf i).toNat)
 case atStart=>exact ⟨0,by omega,rfl,zAD.refl w0,rfl⟩
 case round =>
  obtain ⟨k,hk,rfl,hS,hq⟩:=hrel
  have HQ:=Zh hq
  clear hq
  by_cases hlt:k<l.length
  ·obtain ⟨g,off,u,cu,rfl,k0,k1,k2,hp,hi⟩:=zCK (hv0.later zAf.stays (zAF.old hS.below _)) (List.getElem?_eq_getElem hlt)
   have HD:=Zh (List.drop_eq_getElem_cons hlt)
   generalize l[k]=x at *
   have S1:=hS.alloc (.cells #[.int .i64 x.1,.int .i64 x.2.1,.slice u x.2.2.length cu] 66)
   clear hp hi
   by_cases hx:x.1=M
   ·have HH:=Zh (show zBy M l 0=(k:Int) by rw[←HQ.out,HD.out];simp[zBy,hx])
    have hd:(x.1 == M)=true:=by simpa using hx
    clear hx
    go_wp2_with fail
    go_ret
    exact ⟨zAL HH.out.symm,(S0.step S1.below).below⟩
   ·have HH:=Zh (show zBy M (l.drop (k+1)) (k+1)=zBy M l 0 by rw[←HQ.out,HD.out];simp[zBy,hx])
    have hd:(x.1 == M)=false:=by simpa using hx
    clear hx
    go_wp2_with fail
    clear k0 k1 k2
    go_roundw
    case rel=>exact ⟨k+1,by omega,by go_num,S1,HH.out⟩
    case measure=>simp[intOf];omega
  ·obtain rfl:l.length=k:=by omega
   go_wp2_with fail
   go_ret
   refine ⟨zAL ?_,(S0.step hS.below).below⟩
   rw[←HQ.out]
   simp[zBy]
end Go.Proofs.YthgmphbkkojaoaaGreat
