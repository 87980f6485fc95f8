/-
  slices.EqualFunc at rows of rows of numbers.
-/
import Derived.Test.YthgmphbkkojaoaaGreatDoMaths
import Derived.Test.YthgmphbkkojaoaaGreatBase
set_option linter.unusedSimpArgs false
set_option maxHeartbeats 2000000
namespace Go.Proofs.YthgmphbkkojaoaaGreat
open Go.RowKit
theorem zRO{w:World}{a:Option Addr}{n cap:Nat}{l:List (List Int)}(h:zAZ 1 zTx w (.slice a n cap) l){i:Nat}{x:List Int}(hx:l[i]?=some x) :
  ∃g off u c,a=some ⟨g,off,none⟩∧w.cell? ⟨g,off+i,none⟩=some (.slice u x.length c)∧zAG w (.slice u x.length c) x:=by
 obtain ⟨g,off,rfl,cs,hl,hc,v,rfl,hv⟩:=h.at hx
 obtain ⟨u,c,rfl,_⟩:=hv.opened
 have h0:=hc 0 _ rfl
 rw[Nat.mul_one] at h0
 exact ⟨g,off,u,c,rfl,h0,hv⟩
theorem zOB(u u':Value)(x y:List Int)(w:World)(hx:zAG w u x)(hy:zAG w u' y) :
  Calls Tryz.prog 18 #[u,u'] w fun e w'=>e=.returned (.bool (zBV x y))∧Below w.heap.size w w':=by
 obtain ⟨a,c,rfl,_⟩:=hx.opened
 obtain ⟨a',c',rfl,_⟩:=hy.opened
 have HC:=Lib.hid (zB8 _ _ x y w hx hy)
 clear hx hy
 go_enter Tryz.func18,Tryz.ntmps18
 go_wp2_with (go_at_call 19;go_fit HC.out;rintro e w1 ⟨rfl,hb1⟩)
 go_ret
 exact ⟨rfl,hb1⟩
set_option maxRecDepth 100000 in
theorem zTo(v u:Value)(l r:List (List Int))(W:World)(hv:zAZ 1 zTx W v l)(hu:zAZ 1 zTx W u r) :
  Calls Tryz.prog 17 #[v,u,.func (.func 18) #[] #[]] W fun e w'=>e=.returned (.bool (zEp zBV l r))∧Below W.heap.size W w':=by
 obtain ⟨a,c,rfl,hcap,⟨hm,hcm,_⟩,_⟩:=hv.opened
 obtain ⟨a',c',rfl,hcap',⟨hm',hcm',_⟩,_⟩:=hu.opened
 by_cases hl:l.length=r.length
 ·have hl2:(((l.length:Nat):Int) != ((r.length:Nat):Int))=false:=by simp[hl]
  have HL:=Lib.hid hl
  clear hl
  go_enter Tryz.func17,Tryz.ntmps17
  go_wp2_with fail
  go_loopw[17] (fun i wr=>∃k:Nat,k≤l.length∧i=.int .i64 k∧zAD W.heap.size W wr∧zEp zBV (l.drop k) (r.drop k)=zEp zBV l r) (fun i _=>l.length - (intOf i).toNat)
  case atStart=>exact ⟨0,by omega,rfl,zAD.refl W,rfl⟩
  case round =>
   obtain ⟨k,hk,rfl,hS,hq⟩:=hrel
   have HQ:=Lib.hid hq
   clear hq
   by_cases hlt:k<l.length
   ·have hlr:k<r.length:=by have:=HL.out;omega
    obtain ⟨g,off,u,cu,rfl,k0,hp⟩:=zRO (hv.stays zTx.stays hS.below) (List.getElem?_eq_getElem hlt)
    obtain ⟨g',off',u',cu',rfl,k0',hp'⟩:=zRO (hu.stays zTx.stays hS.below) (List.getElem?_eq_getElem hlr)
    have HD:=Lib.hid (List.drop_eq_getElem_cons hlt)
    have HE:=Lib.hid (List.drop_eq_getElem_cons hlr)
    generalize l[k]=x at *
    generalize r[k]=y at *
    have HC:=Lib.hid (zOB _ _ x y _ hp hp')
    obtain ⟨T,hT⟩:∃T,T=zBV x y:=⟨_,rfl⟩
    rw[←hT] at HC
    have HT:=Lib.hid hT
    clear hT hp hp'
    cases T with
    | true =>
     go_wp2_with (go_at_call 18;go_fit HC.out;rintro e w5 ⟨rfl,hb5⟩)
     have S5:=hS.step hb5
     clear k0 k0'
     go_roundw
     case rel =>
      refine ⟨k+1,by omega,by go_num,S5,?_⟩
      rw[←HQ.out,HD.out,HE.out]
      simp[zEp,←HT.out]
     case measure=>simp[intOf];omega
    | false =>
     go_wp2_with (go_at_call 18;go_fit HC.out;rintro e w5 ⟨rfl,hb5⟩)
     have S5:=hS.step hb5
     go_ret
     refine ⟨zAX ?_,S5.below⟩
     rw[←HQ.out,HD.out,HE.out]
     simp[zEp,←HT.out]
   ·obtain rfl:l.length=k:=by omega
    go_wp2_with fail
    go_ret
    refine ⟨zAX ?_,hS.below⟩
    have hLL:=HL.out
    rw[←HQ.out,List.drop_eq_nil_of_le (show l.length≤l.length by omega),List.drop_eq_nil_of_le (show r.length≤l.length by omega)]
    rfl
 ·have hl2:(((l.length:Nat):Int) != ((r.length:Nat):Int))=true:=by rw[bne_iff_ne];omega
  have HN:=Lib.hid (zGz zBV hl)
  clear hl
  go_enter Tryz.func17,Tryz.ntmps17
  go_wp2_with fail
  go_ret
  exact ⟨zAX HN.out.symm,Below.refl _ _⟩
end Go.Proofs.YthgmphbkkojaoaaGreat
