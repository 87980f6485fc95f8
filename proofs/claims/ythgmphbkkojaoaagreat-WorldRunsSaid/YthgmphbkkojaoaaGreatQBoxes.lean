/-
  A mesh in a box: what is read of it, whatever becomes of some blocks. slices.Equal at what was said. A law for a region that draws its order: of its operations the first N, which make memory, come up in whatever order; what each yields is known by a relation that lasts.
-/
import Derived.Test.YthgmphbkkojaoaaGreatQWovens
import Derived.Deep.RegionHeld
set_option maxHeartbeats 400000
namespace Go.Proofs.YthgmphbkkojaoaaGreat
set_option linter.unusedSectionVars false
variable [Zn]
open Go.RowKit
def zJs(D:Nat→Prop)(w:World)(v1 v2:Value)(m:Me):Prop:=∀w',zAF D w w'→zAR w' v1 m.1∧zAT w' v2 m.2
theorem zJs.of{X D:Nat→Prop}{w:World}{base top0:Nat}{v1 v2:Value}{m:Me}(h:zE0 X w base top0 v1 v2 m)(hD:∀k,D k→(X k∧k<base)∨top0≤k):zJs D w v1 v2 m:=fun _ hw =>
 have h':=h.frame hw hD
 ⟨h'.vers,h'.peers⟩
theorem zJs.now{D:Nat→Prop}{w:World}{v1 v2:Value}{m:Me}(h:zJs D w v1 v2 m):zAR w v1 m.1∧zAT w v2 m.2:=h w (zAF.refl _ _)
theorem zJs.later{D:Nat→Prop}{w w':World}{v1 v2:Value}{m:Me}(h:zJs D w v1 v2 m)(hw:zAF D w w'):zJs D w' v1 v2 m:=fun w'' h'=>h w'' (hw.trans h')
theorem zJs.next{D D':Nat→Prop}{w w':World}{v1 v2:Value}{m:Me}(h:zJs D w v1 v2 m)(hw:zAF D w w')(hD:∀k,D' k→D k∨w.heap.size≤k):zJs D' w' v1 v2 m:=fun w'' h'=>h w'' (hw.next h' hD)
theorem zJs.stays{D:Nat→Prop}{w w':World}{v1 v2:Value}{m:Me}(h:zJs D w v1 v2 m)(hb:Below w.heap.size w w'):zJs D w' v1 v2 m:=h.later (zAF.old hb _)
theorem zNP{α:Type}{R:Rd α}{sz:Nat}{w:World}{T:TypeId}(rows:List (List Value)){cs:List Value}(hcs:cs=rows.flatten){l:List α}{n:Nat}(hn:n=w.heap.size)(hl:rows.length=l.length)(hm:l.length≤1000000)(hr:∀r∈rows,r.length=sz)
  (hR:∀(i:Nat) r x,rows[i]?=some r→l[i]?=some x→R (w.alloc (.cells cs.toArray T)) r x):zAZ sz R (w.alloc (.cells cs.toArray T)) (.slice (some ⟨n,0,none⟩) l.length l.length) l:=by
 refine ⟨_,_,rfl,Nat.le_refl _,⟨by omega,by omega,fun e=>by cases e⟩,fun i x hx=>?_⟩
 have hil:=(List.getElem?_eq_some_iff.1 hx).1
 have hri:rows[i]?=some rows[i]:=List.getElem?_eq_getElem (by omega)
 refine ⟨n,0,rfl,rows[i],hr _ (List.getElem_mem _),fun j c hc=>?_,hR i _ x hri hx⟩
 have:=zBp w cs T n hn (i*sz+j) c (by rw[hcs];exact zCw hr hri hc)
 rw[zA7] at this
 simpa using this
theorem zQA(vx vy:Value)(x y:List Int)(w:World)(hx:zQ0 w vx x)(hy:zQ0 w vy y) :
  Calls Tryz.prog 11 #[vx,vy] w fun e w'=>e=.returned (.bool (zBV x y))∧Below w.heap.size w w':=by
 obtain ⟨ax,cx,rfl,hcx,hmx,hx⟩:=hx.opened
 obtain ⟨ay,cy,rfl,hcy,hmy,hy⟩:=hy.opened
 by_cases hl:x.length=y.length
 ·have hl1:((x.length:Int) != (y.length:Int))=false:=by simp[hl]
  have hl2:y.length≤x.length:=by omega
  have hl3:x.length≤y.length:=by omega
  have HL:=Zh hl
  clear hl
  go_enter Tryz.func11,Tryz.ntmps11
  go_wp2
  go_loopw[13] (fun i wr=>∃k:Nat,k≤x.length∧i=.int .i64 k∧Below w.heap.size w wr∧x.take k=y.take k) (fun i _=>x.length - (intOf i).toNat)
  case atStart=>exact ⟨0,by omega,rfl,Below.refl _ _,by simp⟩
  case round =>
   rename_i wr
   obtain ⟨k,hk,rfl,hb,hq⟩:=hrel
   have HQ:=Zh hq
   clear hq
   by_cases hlt:k<x.length
   ·obtain ⟨b1,o1,z1,rfl,hc1,hz1,hi1⟩:=(hx.stays hb) k hlt
    obtain ⟨b2,o2,z2,rfl,hc2,hz2,hi2⟩:=(hy.stays hb) k (by omega)
    have HZ1:=Zh hz1
    have HZ2:=Zh hz2
    clear hz1 hz2
    by_cases he:z1=z2
    ·subst he
     have hne:(z1 != z1)=false:=by simp
     go_wp2
     go_quiet (fail)
     go_wp2
     go_roundw
     case rel=>exact ⟨k+1,by omega,by go_num,below_drewN hb _,by rw[zAv HZ1.out,zAv HZ2.out,HQ.out]⟩
     case measure=>simp[intOf];omega
    ·have hne:(z1 != z2)=true:=by simpa using he
     have HN:=Zh he
     clear he
     go_wp2
     go_quiet (fail)
     go_wp2
     go_ret
     refine ⟨zAX ?_,below_drewN hb _⟩
     symm
     rw[zBV,decide_eq_false_iff_not]
     intro e
     subst e
     rw[HZ1.out] at HZ2
     exact HN.out (Option.some.inj HZ2)
   ·obtain rfl:k=x.length:=by omega
    go_wp2
    go_ret
    refine ⟨zAX ?_,hb⟩
    have h:=HQ.out
    rw[HL.out] at h
    rw[←HL.out,List.take_length,HL.out,List.take_length] at h
    simp[zBV,h]
 ·have hl1:((x.length:Int) != (y.length:Int))=true:=by simp;omega
  have H:=Zh (show zBV x y=false by rw[zBV,decide_eq_false_iff_not];intro e;exact hl (by rw[e]))
  clear hl
  go_enter Tryz.func11,Tryz.ntmps11
  go_wp2
  go_ret
  exact ⟨zAX H.out.symm,Below.refl _ _⟩
section
variable {P : Program} {ops : Array Oper} {Q : Exit → Act → World → Prop} {md : Region.Mode}
def zDx(ops:Array Oper)(i:Nat):Option Tmp:=(ops[i]?).bind (·.dst)
def zEu(ops:Array Oper)(vs:Nat→Value):List Nat→Act→Act
 | [],a=>a
 | i::r,a=>zEu ops vs r (a.put (zDx ops i) (vs i))
theorem zS8(a:Act)(d:Option Tmp)(v:Value):(a.put d v).tmps.size=a.tmps.size:=by
 cases d<;>simp[Act.put]
theorem zI3{vs us:Nat→Value}:∀{l:List Nat} {a:Act},(∀i∈l,vs i=us i)→zEu ops vs l a=zEu ops us l a
 | [],_,_=>rfl
 | i::r,a,h=>by
  unfold zEu
  rw[h i (by simp)]
  exact zI3 (fun j hj=>h j (by simp[hj]))
theorem zML{vs:Nat→Value}{d:Option Tmp}{v:Value}:∀{l:List Nat} {a:Act},(∀i∈l,zDx ops i≠d)→zEu ops vs l (a.put d v)=(zEu ops vs l a).put d v
 | [],_,_=>rfl
 | i::r,a,h=>by
  unfold zEu
  rw[Act.put_comm a v (vs i) (fun t ht e=>h i (by simp) (e.trans ht.symm))]
  exact zML (fun j hj=>h j (by simp[hj]))
theorem zIF{vs:Nat→Value}{p:Nat→Bool}{i:Nat}(hp:p i=false)(v:Value):∀{l:List Nat} {a:Act},l.Nodup→i∈l→(∀j∈l,j≠i→zDx ops j≠zDx ops i) →
  zEu ops (fun j=>if j=i then v else vs j) (l.filter fun j=>p j||j == i) a=(zEu ops vs (l.filter p) a).put (zDx ops i) v
 | [],_,_,hi,_=>by cases hi
 | x::l,a,hn,hi,hd=>by
  have hn2:=List.nodup_cons.1 hn
  by_cases hx:x=i
  ·subst hx
   rw[List.filter_cons,List.filter_cons,if_pos (by simp),if_neg (by simp[hp])]
   have hf:(l.filter fun j=>p j||j == x)=l.filter p:=List.filter_congr (fun j hj=>by
    have:j≠x:=fun e=>hn2.1 (e ▸ hj)
    simp[this])
   rw[hf]
   unfold zEu
   simp only[if_pos]
   rw[zI3 (us:=vs) (fun j hj=>by
    have:j≠x:=fun e=>hn2.1 (e ▸ (List.mem_filter.1 hj).1)
    simp[this])]
   have hnd:∀j∈l.filter p,zDx ops j≠zDx ops x:=fun j hj=>hd j (by simp[(List.mem_filter.1 hj).1]) (fun e=>hn2.1 (e ▸ (List.mem_filter.1 hj).1))
   rw[zML hnd]
   cases l.filter p<;>rfl
  ·have hil:i∈l:=by simpa[Ne.symm hx] using hi
   have ih:=fun a=>zIF (vs:=vs) hp v (l:=l) (a:=a) hn2.2 hil (fun j hj=>hd j (by simp[hj]))
   rw[List.filter_cons,List.filter_cons]
   by_cases hpx:p x=true
   ·rw[if_pos (by simp[hpx]),if_pos hpx]
    simp only[zEu]
    rw[if_neg hx]
    exact ih _
   ·rw[if_neg (by simp[hpx,hx]),if_neg hpx]
    exact ih _
theorem zEW{vs:Nat→Value}{x:Operand}:∀{l:List Nat} {a:Act},(∀i∈l,∀t,zDx ops i=some t→x≠.tmp t)→(zEu ops vs l a).eval x=a.eval x
 | [],_,_=>rfl
 | i::r,a,h=>by
  unfold zEu
  rw[zEW (fun j hj=>h j (by simp[hj]))]
  exact Act.eval_put (fun d hd=>h i (by simp) d hd)
theorem zGm{vs:Nat→Value}{i:Nat}{t:Tmp}(ht:zDx ops i=some t):∀{l:List Nat} {a:Act},l.Nodup→i∈l→(∀j∈l,j≠i→zDx ops j≠some t)→t<a.tmps.size→(zEu ops vs l a).eval (.tmp t)=vs i
 | [],_,_,hi,_,_=>by cases hi
 | x::l,a,hn,hi,hd,hs=>by
  have hn2:=List.nodup_cons.1 hn
  unfold zEu
  by_cases hx:x=i
  ·subst hx
   rw[zEW (fun j hj s hsj e=>by
    cases e
    exact hd j (by simp[hj]) (fun e=>hn2.1 (e ▸ hj)) hsj)]
   rw[ht]
   simp[Act.eval,Act.put,hs]
  ·exact zGm ht hn2.2 (by simpa[Ne.symm hx] using hi) (fun j hj=>hd j (by simp[hj])) (by rw[zS8];exact hs)
theorem zMd{listed:Array Bool}{i:Nat}(hi:i<listed.size)(j:Nat):(listed.setIfInBounds i true).getD j false=(listed.getD j false||j == i):=by
 by_cases h:i=j
 ·subst h
  simp[hi]
 ·rw[getD_set_ne false h]
  have:(j == i)=false:=by simpa using Ne.symm h
  rw[this,Bool.or_false]
def zMF(md:Region.Mode)(ops:Array Oper)(k i:Nat):Prop:=∃o,ops[k]?=some o∧∃e∈o.after,Region.binds md e=true∧e.on=i
def zOt(md:Region.Mode)(ops:Array Oper)(k i:Nat):Bool:=((ops[k]?).map fun o=>o.after.any fun e=>Region.binds md e&&e.on == i).getD false
theorem zBE{k i:Nat}(h:zOt md ops k i=true):zMF md ops k i:=by
 unfold zOt at h
 cases ho:ops[k]? with
 | none=>rw[ho] at h;cases h
 | some o =>
  rw[ho] at h
  simp only[Option.map_some,Option.getD_some] at h
  rw[Array.any_eq_true'] at h
  obtain ⟨e,he,h⟩:=h
  simp only[Bool.and_eq_true,beq_iff_eq] at h
  exact ⟨o,ho,e,he,h.1,h.2⟩
theorem zNi(N:Nat)(T:World→Prop)(R:Nat→Value→World→Prop){a0:Act}(rest:Nat)(hN:N≤ops.size)
  (hdst:∀i,i<N→∃t,zDx ops i=some t∧t<a0.tmps.size) (hinj:∀i j,i<N→j<N→i≠j→zDx ops i≠zDx ops j)
  (hguard:∀i o,i<N→ops[i]?=some o→o.guard=none)
  (hlow:∀k i,k<N→zMF md ops k i→i<k)
  (hout:∀k,N≤k→k<ops.size→∃i,zMF md ops k i∧N - 1≤i)
  (hsink:∀i,i+1<N→∃k,i<k∧k<N∧zMF md ops k i)
  (hstep:∀i o,i<N→ops[i]?=some o→∀(vs:Nat→Value) (a:Act) (w:World) (K:Act→World→Prop),T w →
   (∀j t,zMF md ops i j→zDx ops j=some t→R j (vs j) w∧a.eval (.tmp t)=vs j) →
   (∀t,(∀j,j<N→zDx ops j≠some t)→a.eval (.tmp t)=a0.eval (.tmp t)) →
   (∀v w',R i v w'→T w'→(∀j u,R j u w→R j u w')→K (a.put o.dst v) w')→Oper.wp P o a w K Q)
  (hfin:∀(vs:Nat→Value) (w:World),T w→(∀i,i<N→R i (vs i) w)→wpAny P md ops Q rest (Array.replicate N true++Array.replicate (ops.size - N) false) (zEu ops vs (List.range N) a0) w) :
  ∀(c:Nat) (listed:Array Bool) (vs:Nat→Value) (w:World),listed.size=ops.size→(∀j,N≤j→listed.getD j false=false)→(∀k,listed.getD k false=true→∀i,zMF md ops k i→listed.getD i false=true)→T w→(∀i,i<N→listed.getD i false=true→R i (vs i) w) →
   ((List.range N).filter fun i => !listed.getD i false).length=c →
   wpAny P md ops Q (c+rest) listed (zEu ops vs ((List.range N).filter fun i=>listed.getD i false) a0) w:=by
 intro c
 induction c with
 | zero =>
  intro listed vs w hsz ho hcl hT hR hc
  have hall:∀i,i<N→listed.getD i false=true:=fun i hi=>by
   have h0:=List.eq_nil_of_length_eq_zero hc
   rw[List.filter_eq_nil_iff] at h0
   simpa using h0 i (by simpa using hi)
  have e1:((List.range N).filter fun i=>listed.getD i false)=List.range N:=List.filter_eq_self.2 (fun i hi=>hall i (by simpa using hi))
  have e2:listed=Array.replicate N true++Array.replicate (ops.size - N) false:=by
   apply Array.ext
   ·simp;omega
   ·intro i h1 h2
    by_cases hi:i<N
    ·have:=hall i hi
     rw[Array.getD_eq_getD_getElem?,Array.getElem?_eq_getElem h1] at this
     rw[Array.getElem_append_left (by simpa using hi)]
     simpa using this
    ·have:=ho i (by omega)
     rw[Array.getD_eq_getD_getElem?,Array.getElem?_eq_getElem h1] at this
     rw[Array.getElem_append_right (by simp;omega)]
     simpa using this
  rw[e1,Nat.zero_add]
  have:=hfin vs w hT (fun i hi=>hR i hi (hall i hi))
  rw[←e2] at this
  exact this
 | succ c ih =>
  intro listed vs w hsz ho hcl hT hR hc
  have hex:∃i,i<N∧listed.getD i false=false:=by
   have:((List.range N).filter fun i => !listed.getD i false)≠[]:=fun e=>by rw[e] at hc;simp at hc
   obtain ⟨i,hi⟩:=List.exists_mem_of_ne_nil _ this
   rw[List.mem_filter] at hi
   exact ⟨i,by simpa using hi.1,by simpa using hi.2⟩
  have hmin:∃i,i<N∧listed.getD i false=false∧∀j,j<i→listed.getD j false=true:=by
   obtain ⟨i,hi,hli⟩:=hex
   induction i using Nat.strongRecOn with
   | ind i ihi =>
    by_cases h:∀j,j<i→listed.getD j false=true
    ·exact ⟨i,hi,hli,h⟩
    ·simp only[Classical.not_forall] at h
     obtain ⟨j,hj,hlj⟩:=h
     exact ihi j hj (by omega) (by simpa using hlj)
  have hgd:∀j,j<ops.size→listed.getD j true=listed.getD j false:=fun j hj=>by
   rw[Array.getD_eq_getD_getElem?,Array.getD_eq_getD_getElem?,Array.getElem?_eq_getElem (by omega)]
   rfl
  rw[show c+1+rest=(c+rest)+1 by omega]
  refine ⟨fun h0=>?_,fun i hi=>?_⟩
  ·obtain ⟨i,hi,hli,hlt⟩:=hmin
   have hlo:i<ops.size:=by omega
   have hmem:i∈Region.ready md ops listed:=mem_ready.2 ⟨by rw[hgd i hlo];exact hli,_,Array.getElem?_eq_getElem hlo,fun e he hb=>hlt _ (hlow i e.on hi ⟨_,Array.getElem?_eq_getElem hlo,e,he,hb,rfl⟩)⟩
   rw[h0] at hmem
   cases hmem
  ·obtain ⟨h0,o,hoi,hall⟩:=mem_ready.1 hi
   have hio:i<ops.size:=(Array.getElem?_eq_some_iff.1 hoi).1
   have hw:∀j,zMF md ops i j→listed.getD j false=true:=fun j hj=>by
    obtain ⟨o',ho',e,he,hb,rfl⟩:=hj
    rw[hoi] at ho'
    cases ho'
    exact hall e he hb
   have hiN:i<N:=by
    by_cases hiN:i<N
    ·exact hiN
    ·exfalso
     obtain ⟨s,hs,hsN⟩:=hout i (by omega) hio
     have hls:=hw s hs
     have hsl:s<N:=by
      by_cases h:s<N
      ·exact h
      ·rw[ho s (by omega)] at hls;cases hls
     have hs1:s=N - 1:=by omega
     have hdn:∀d i,i+d+1=N→listed.getD i false=true:=by
      intro d
      induction d using Nat.strongRecOn with
      | ind d ihd =>
       intro i hid
       by_cases h1:i+1<N
       ·obtain ⟨k,hk1,hk2,hk3⟩:=hsink i h1
        exact hcl k (ihd (N - 1 - k) (by omega) k (by omega)) i hk3
       ·have:i=s:=by omega
        rw[this];exact hls
     obtain ⟨q,hq,hlq⟩:=hex
     rw[hdn (N - 1 - q) q (by omega)] at hlq
     cases hlq
   have hli:listed.getD i false=false:=by rw[←hgd i hio];exact h0
   unfold wpOp
   simp only[hoi]
   rw[if_pos (by simp[Region.wanted,hguard i o hiN hoi])]
   left
   obtain ⟨ti,hti,hts⟩:=hdst i hiN
   have hdo:zDx ops i=o.dst:=by unfold zDx;rw[hoi];rfl
   refine hstep i o hiN hoi vs _ w _ hT (fun j t hj hjt=>?_) (fun t ht=>zEW (fun j hj t' hjt e=>by
    cases e
    exact ht j (by simpa using (List.mem_filter.1 hj).1) hjt)) (fun v w' hRv hT' hst=>?_)
   ·have hlj:=hw j hj
    have hjN:j<N:=by
     by_cases h:j<N
     ·exact h
     ·rw[ho j (by omega)] at hlj;cases hlj
    refine ⟨hR j hjN hlj,?_⟩
    obtain ⟨tj,htj,htjs⟩:=hdst j hjN
    rw[hjt] at htj
    cases htj
    refine zGm hjt (List.nodup_range.filter _) (List.mem_filter.2 ⟨by simpa using hjN,hlj⟩) (fun q hq hqj=>?_) htjs
    rw[←hjt]
    exact hinj q j (by simpa using (List.mem_filter.1 hq).1) hjN hqj
   ·have key:=ih (listed.setIfInBounds i true) (fun j=>if j=i then v else vs j) w' (by simpa using hsz)
     (fun j hj=>by rw[getD_set_ne false (by omega)];exact ho j hj)
     (fun k hk q hq=>by
      by_cases hki:k=i
      ·subst hki
       exact getD_set_true (hw q hq)
      ·rw[getD_set_ne false (Ne.symm hki)] at hk
       exact getD_set_true (hcl k hk q hq))
     hT'
     (fun j hj hlj=>by
      by_cases hji:j=i
      ·subst hji
       simp only[if_pos]
       exact hRv
      ·simp only[if_neg hji]
       rw[getD_set_ne false (Ne.symm hji)] at hlj
       exact hst _ _ (hR j hj hlj))
     (by
      have:((List.range N).filter fun j => !(listed.setIfInBounds i true).getD j false)=((List.range N).filter fun j => !listed.getD j false).filter fun j => !(j == i):=by
       rw[List.filter_filter]
       refine List.filter_congr (fun j _=>?_)
       rw[zMd (by omega)]
       cases listed.getD j false<;>cases (j == i)<;>rfl
      rw[this]
      have hnd:((List.range N).filter fun j => !listed.getD j false).Nodup:=List.nodup_range.filter _
      have hmem:i∈(List.range N).filter fun j => !listed.getD j false:=List.mem_filter.2 ⟨by simpa using hiN,by simp[hli]⟩
      have e:(((List.range N).filter fun j => !listed.getD j false).filter fun j => !(j == i))=((List.range N).filter fun j => !listed.getD j false).erase i:=by
       rw[hnd.erase_eq_filter]
       exact List.filter_congr (fun j _=>by simp[bne])
      rw[e,List.length_erase_of_mem hmem,hc]
      rfl)
    have e:((List.range N).filter fun j=>(listed.setIfInBounds i true).getD j false)=(List.range N).filter fun j=>listed.getD j false||j == i:=List.filter_congr (fun j _=>zMd (by omega) j)
    rw[e,zIF (p:=fun j=>listed.getD j false) hli v List.nodup_range (by simpa using hiN) (fun j hj hji=>hinj j i (by simpa using hj) hiN hji),hdo] at key
    exact key
def zT6(md:Region.Mode)(ops:Array Oper)(N n:Nat):Bool:=
 (List.range N).all (fun i=>((zDx ops i).map fun t=>decide (t<n)).getD false) &&
 (List.range N).all (fun i=>(List.range N).all fun j=>decide (i=j)||decide (zDx ops i≠zDx ops j)) &&
 (List.range N).all (fun i=>((ops[i]?).map fun o=>o.guard.isNone).getD true) &&
 (List.range N).all (fun k=>((ops[k]?).map fun o=>o.after.all fun e => !Region.binds md e||decide (e.on<k)).getD true) &&
 (List.range ops.size).all (fun k=>decide (k<N)||(List.range ops.size).any fun i=>zOt md ops k i&&decide (N - 1≤i)) &&
 (List.range N).all (fun i => !decide (i+1<N)||(List.range N).any fun k=>decide (i<k)&&zOt md ops k i)
def zWZ(ops:Array Oper)(N:Nat)(t:Tmp):Bool:=(List.range N).all fun j=>decide (zDx ops j≠some t)
theorem zJl{id:Nat}{a:Act}{w:World}(hm:P.follows .mixedOrders=true)(N rest n:Nat)(T:World→Prop)(R:Nat→Value→World→Prop)(hsz:ops.size=N+rest)(hn:a.tmps.size=n)(hB:zT6 .any ops N n=true)
  (hstep:∀i o,i<N→ops[i]?=some o→∀(vs:Nat→Value) (b:Act) (w:World) (K:Act→World→Prop),T w →
   (∀j t,zMF .any ops i j→zDx ops j=some t→R j (vs j) w∧b.eval (.tmp t)=vs j) →
   (∀t,zWZ ops N t=true→b.eval (.tmp t)=a.eval (.tmp t)) →
   (∀v w',R i v w'→T w'→(∀j u,R j u w→R j u w')→K (b.put o.dst v) w')→Oper.wp P o b w K Q)
  (hT:T w.drew)
  (hfin:∀(vs:Nat→Value) (w:World),T w→(∀i,i<N→R i (vs i) w)→wpAny P .any ops Q rest (Array.replicate N true++Array.replicate rest false) (zEu ops vs (List.range N) a) w):(Code.region id ops true).wp P Q a w:=by
 simp only[zT6,Bool.and_eq_true,List.all_eq_true,List.mem_range,Bool.or_eq_true,decide_eq_true_eq,Bool.not_eq_true',decide_eq_false_iff_not,List.any_eq_true] at hB
 obtain ⟨⟨⟨⟨⟨b1,b2⟩,b3⟩,b4⟩,b5⟩,b6⟩:=hB
 refine wp_region_any hm ?_
 have key:=zNi (P:=P) (Q:=Q) (md:=.any) (ops:=ops) N T R (a0:=a) rest (by omega)
  (fun i hi=>by
   have:=b1 i hi
   cases hd:zDx ops i with
   | none=>rw[hd] at this;simp at this
   | some t=>rw[hd] at this;exact ⟨t,rfl,by rw[hn];simpa using this⟩)
  (fun i j hi hj hij=>(b2 i hi j hj).resolve_left hij)
  (fun i o hi ho=>by
   have:=b3 i hi
   rw[ho] at this
   simpa using this)
  (fun k i hk hw=>by
   obtain ⟨o,ho,e,he,hb,rfl⟩:=hw
   have:=b4 k hk
   rw[ho] at this
   simp only[Option.map_some,Option.getD_some,Array.all_eq_true_iff_forall_mem,Bool.or_eq_true,Bool.not_eq_true',decide_eq_true_eq] at this
   exact (this e he).resolve_left (by simp[hb]))
  (fun k hk hks=>by
   obtain ⟨i,_,h1,h2⟩:=(b5 k hks).resolve_left (by omega)
   exact ⟨i,zBE h1,h2⟩)
  (fun i hi=>by
   obtain ⟨k,hk,h1,h2⟩:=(b6 i (by omega)).resolve_left (by omega)
   exact ⟨k,h1,hk,zBE h2⟩)
  (fun i o hi ho vs b w K h1 h2 h3 h4=>hstep i o hi ho vs b w K h1 h2 (fun t ht=>h3 t (by
   unfold zWZ at ht
   rw[List.all_eq_true] at ht
   intro j hj
   simpa using ht j (by simpa using hj))) h4) (fun vs w h1 h2=>by rw[show ops.size - N=rest by omega];exact hfin vs w h1 h2)
  N (Array.replicate ops.size false) (fun _=>undef) w.drew (by simp) (fun j _=>by
   rw[Array.getD_eq_getD_getElem?,Array.getElem?_replicate]
   split<;>rfl) (fun k hk=>by
   rw[Array.getD_eq_getD_getElem?,Array.getElem?_replicate] at hk
   split at hk<;>simp at hk) hT (fun i _ hk=>by
   rw[Array.getD_eq_getD_getElem?,Array.getElem?_replicate] at hk
   split at hk<;>simp at hk) (by
   have:((List.range N).filter fun i => !(Array.replicate ops.size false).getD i false)=List.range N:=List.filter_eq_self.2 (fun i _=>by
    rw[Array.getD_eq_getD_getElem?,Array.getElem?_replicate]
    split<;>rfl)
   rw[this,List.length_range])
 have e:((List.range N).filter fun i=>(Array.replicate ops.size false).getD i false)=[]:=List.filter_eq_nil_iff.2 (fun i _=>by
  rw[Array.getD_eq_getD_getElem?,Array.getElem?_replicate]
  split<;>simp)
 rw[e] at key
 rw[show ops.size=N+rest from hsz] at key ⊢
 exact key
end
end Go.Proofs.YthgmphbkkojaoaaGreat
