/- Texts of this claim, joined: short names. -/
import Derived.Below
import Derived.Maps.RangeWalk
import Derived.Lib.Hide
set_option linter.unusedVariables false
set_option linter.unusedSimpArgs false
set_option maxRecDepth 100000
set_option maxHeartbeats 8000000
namespace Go.Proofs.YtfghplfgndppfaaGreatDoor
section
open Go Go.RowKit
theorem aB{α:Type _}{a:Array α}{k:Nat}{v:α}(h:a[k]?=some v):k<a.size:=(Array.getElem?_eq_some_iff.1 h).1
theorem gM{α:Type _}{a:List α}{k:Nat}{v:α}(h:a[k]?=some v):k<a.length:=(List.getElem?_eq_some_iff.1 h).1
theorem fP{n:Nat}{w w':World}{g:Nat}{o:Obj}(u:Below n w w')(h:w.heap[g]?=some o)(hn:w.heap.size<=n:=by exact Nat.le_refl _):w'.heap[g]?=some o:=(u.block _ (Nat.lt_of_lt_of_le (aB h) hn)).trans h
theorem au:(∀(a:Act)(t:Tmp)(v:Value),a.put (some t) v= { a with tmps:=a.tmps.setIfInBounds t v })/\(∀(a:Act)(v:Value),a.put none v=a)/\(∀(l:List Value)(i:Nat)(a:Value),l.toArray.setIfInBounds i a=(l.set i a).toArray)/\(∀(x:Value)(l:List Value)(a:Value),(x::l).set 0 a=a::l)/\(∀(x:Value)(l:List Value)(n:Nat)(a:Value),(x::l).set (n+1) a=x::l.set n a):=⟨λ_ _ _=>rfl,λ_ _=>rfl,λ_ _ _=>List.setIfInBounds_toArray ..,λ_ _ _=>rfl,λ_ _ _ _=>rfl⟩
theorem aoU{p:Prop}(h:p):RowKit.Hid p:=h
theorem bB{α:Sort _}(x:α):∃y,y=x:=⟨_,rfl⟩
theorem dh:type_of% @List.getElem?_eq_getElem:= @List.getElem?_eq_getElem
theorem bp:type_of% @heap_alloc_new:= @heap_alloc_new
theorem cg:type_of% @Nat.lt_of_lt_of_le:= @Nat.lt_of_lt_of_le
theorem aZ:type_of% @Nat.le_refl:= @Nat.le_refl
theorem bQ:type_of% @Nat.le_trans:= @Nat.le_trans
theorem dG:type_of% @List.length_append:= @List.length_append
theorem fi:type_of% @List.mem_singleton:= @List.mem_singleton
theorem dm:type_of% @bodyPost_ret:= @bodyPost_ret
theorem iO:type_of% @decide_eq_false_iff_not:= @decide_eq_false_iff_not
theorem lU:type_of% @List.take_succ_eq_append_getElem:= @List.take_succ_eq_append_getElem
theorem fC:type_of% @World.ownsRow_nil:= @World.ownsRow_nil
theorem gN:type_of% @List.mem_cons_self:= @List.mem_cons_self
theorem dV:type_of% @Nat.zero_add:= @Nat.zero_add
theorem fF:type_of% @World.size_alloc:= @World.size_alloc
theorem ij:type_of% @Bool.and_eq_true:= @Bool.and_eq_true
theorem iu:type_of% @List.length_cons:= @List.length_cons
theorem gY:type_of% @List.nil_append:= @List.nil_append
theorem jg:type_of% @List.append_assoc:= @List.append_assoc
theorem mV:type_of% @Array.getElem?_eq_getElem:= @Array.getElem?_eq_getElem
theorem lV:type_of% @List.take_of_length_le:= @List.take_of_length_le
theorem pZ:type_of% @Array.getElem?_setIfInBounds_ne:= @Array.getElem?_setIfInBounds_ne
theorem kS:type_of% @List.mem_cons_of_mem:= @List.mem_cons_of_mem
theorem oc:type_of% @List.getD_eq_getElem?_getD:= @List.getD_eq_getElem?_getD
theorem iZ:type_of% @List.length_map:= @List.length_map
theorem lW:type_of% @List.mem_of_getElem?:= @List.mem_of_getElem?
theorem lu:type_of% @World.ownsRow.alloc:= @World.ownsRow.alloc
theorem jO:type_of% @World.ownsRow.lt:= @World.ownsRow.lt
theorem mv:type_of% @World.cell?_of_block:= @World.cell?_of_block
theorem nC:type_of% @List.getElem?_set_self:= @List.getElem?_set_self
theorem lw:type_of% @decide_eq_true_iff:= @decide_eq_true_iff
theorem kT:type_of% @List.length_take:= @List.length_take
theorem kU:type_of% @List.map_append:= @List.map_append
theorem pv:type_of% @Array.getElem?_eq_none:= @Array.getElem?_eq_none
theorem kV:type_of% @results_none:= @results_none
end

end Go.Proofs.YtfghplfgndppfaaGreatDoor
