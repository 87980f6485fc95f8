/-
  Readings of a number, of numbers and of a script, for TaleSays.
-/
import Derived.Test.YthgmphbkkojaoaaGreatDoMaths
namespace Go.Proofs.YthgmphbkkojaoaaGreat
open Go.ChangeShapes Go.WideShapes Go.ChangeAt Go.RowKit
def IsIntT(v:Value)(x:Int):Prop:=v=.int .i64 x∧I64 x
section
variable {H : Type} {enc : TypeId × Value → H} {W : World} {base : Nat} {v : Value} {d : DataW H} {ps : List MemPlace}
set_option maxRecDepth 100000 in
theorem readT_int(hv:Value.okWide Tryz.prog W .any base 3 v)(h:DataW.Trod enc Tryz.prog W 0 (fun _=>true) true 3 v d ps)(_hz:∀n∈d.weights Tryz.prog 3,n≤reachBytes) :
  ∃x,IsIntT v x:=by
 obtain ⟨x,rfl,rfl,rfl,wx⟩:=open_int Tryz.underlying3 hv h
 exact ⟨x,rfl,zJR wx⟩
set_option maxRecDepth 100000 in
theorem readT_ints(_hv:Value.okWide Tryz.prog W .any base 36 v)(h:DataW.Trod enc Tryz.prog W 0 (fun _=>true) true 36 v d ps)(hz:∀n∈d.weights Tryz.prog 36,n≤reachBytes) :
  ∃l,zAG W v l:=by
 obtain ⟨n,hn⟩:=h
 obtain ⟨v',l,e,hl⟩:=zSC hn hz
 obtain ⟨a,len,cap,rfl⟩:=okWide_slice Tryz.underlying36 _hv
 simp[Value.cells] at e
 subst e
 exact ⟨l,hl⟩
set_option maxRecDepth 100000 in
theorem readT_slice{T e:TypeId}{α:Type}{R:Rd α}{sz:Nat}(hT:Tryz.prog.underlying T=some (.slice e))(hR:zEN enc W T (fun w cs l=>∃v,cs=[v]∧zAZ sz R w v l))(hv:Value.okWide Tryz.prog W .any base T v)(h:DataW.Trod enc Tryz.prog W 0 (fun _=>true) true T v d ps)(hz:∀n∈d.weights Tryz.prog T,n≤reachBytes) :
  ∃l,zAZ sz R W v l:=by
 obtain ⟨a,len,cap,rfl⟩:=okWide_slice hT hv
 obtain ⟨n,hn⟩:=h
 obtain ⟨l,u,e,hl⟩:=hR n _ _ hn hz
 simp[Value.cells] at e
 subst e
 exact ⟨l,hl⟩
set_option maxRecDepth 100000 in
theorem readT_haps(hv:Value.okWide Tryz.prog W .any base 28 v)(h:DataW.Trod enc Tryz.prog W 0 (fun _=>true) true 28 v d ps)(hz:∀n∈d.weights Tryz.prog 28,n≤reachBytes):∃l,zGj W v l:=
 readT_slice Tryz.underlying28 (zHN Tryz.underlying28 zNH (by omega) (by rw[show Tryz.prog.bytesOf 38=88 by kernel_rfl];omega) zMb) hv h hz
end
end Go.Proofs.YthgmphbkkojaoaaGreat
