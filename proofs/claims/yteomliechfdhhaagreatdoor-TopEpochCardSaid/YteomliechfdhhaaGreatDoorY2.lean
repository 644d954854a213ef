/- Part 2. -/
import Derived.Below
import Derived.WalkKit
import Derived.WalkSmall
import Derived.Deep.Draws
import Derived.Lib.Hide
set_option maxHeartbeats 8000000
set_option maxRecDepth 20000
set_option linter.all false
namespace Go.Proofs.YteomliechfdhhaaGreatDoor
section
def Hd (p:Prop):Prop:=p
theorem Hd.o {p:Prop}(h:Hd p):p:=h
theorem Hd.out {p:Prop}(h:Hd p):p:=h
theorem zh {p:Prop}(h:p):Hd p:=h
theorem bR {n:Nat}{w:Go.World}:Go.RowKit.Below n w w:=Go.RowKit.Below.refl n w
theorem nR {n:Nat}:n<=n:=Nat.le_refl n
theorem xE {α:Sort _}(a:α):∃ b,b=a:=⟨a,rfl⟩
abbrev Bl (w v:Go.World):Prop:=Go.RowKit.Below w.heap.size w v
theorem ZKt:type_of% @List.setIfInBounds_toArray:=@List.setIfInBounds_toArray
theorem ZKu:type_of% @if_neg:=@if_neg
theorem ZKv:type_of% @if_pos:=@if_pos
theorem ZKw:type_of% @List.set_cons_zero:=@List.set_cons_zero
theorem ZKx:type_of% @List.set_cons_succ:=@List.set_cons_succ
theorem ZKy:type_of% @List.getElem_cons_zero:=@List.getElem_cons_zero
theorem ZKz:type_of% @List.mem_map:=@List.mem_map
theorem ZK0:type_of% @List.getElem_cons_succ:=@List.getElem_cons_succ
theorem ZK1:type_of% @List.mem_append:=@List.mem_append
theorem ZK2:type_of% @Go.World.block_lt_of_cell?:=@Go.World.block_lt_of_cell?
theorem ZK3:type_of% @List.getElem_toArray:=@List.getElem_toArray
theorem ZK4:type_of% @List.length_append:=@List.length_append
theorem ZK5:type_of% @Option.some.inj:=@Option.some.inj
theorem ZK6:type_of% @Nat.le_trans:=@Nat.le_trans
theorem ZK7:type_of% @List.length_map:=@List.length_map
theorem ZK8:type_of% @Go.World.cell?_of_block:=@Go.World.cell?_of_block
theorem ZK9:type_of% @List.getElem?_eq_getElem:=@List.getElem?_eq_getElem
theorem ZLA:type_of% @Go.World.drewN_drewN:=@Go.World.drewN_drewN
theorem ZLB:type_of% @decide_eq_false:=@decide_eq_false
theorem ZLC:type_of% @Nat.lt_of_lt_of_le:=@Nat.lt_of_lt_of_le
theorem ZLD:type_of% @Go.World.ownsRow_nil:=@Go.World.ownsRow_nil
theorem ZLE:type_of% @List.take_succ_eq_append_getElem:=@List.take_succ_eq_append_getElem
theorem ZLF:type_of% @List.getElem_mem:=@List.getElem_mem
theorem ZLG:type_of% @decide_eq_true:=@decide_eq_true
theorem ZLH:type_of% @List.map_append:=@List.map_append
theorem ZLI:type_of% @Nat.zero_add:=@Nat.zero_add
theorem ZLJ:type_of% @List.mem_range:=@List.mem_range
theorem ZLK:type_of% @List.mem_filter:=@List.mem_filter
theorem ZLL:type_of% @List.mem_singleton:=@List.mem_singleton
theorem ZLM:type_of% @List.eq_nil_of_length_eq_zero:=@List.eq_nil_of_length_eq_zero
theorem ZLN:type_of% @List.range_succ:=@List.range_succ
theorem ZLO:type_of% @List.nodup_append:=@List.nodup_append
theorem ZLP:type_of% @Nat.eq_of_beq_eq_true:=@Nat.eq_of_beq_eq_true
theorem ZLQ:type_of% @List.getD_eq_getElem?_getD:=@List.getD_eq_getElem?_getD
theorem ZLR:type_of% @Array.getElem?_eq_some_iff:=@Array.getElem?_eq_some_iff
theorem ZLS:type_of% @Array.getElem?_toList:=@Array.getElem?_toList
theorem ZLT:type_of% @List.getElem?_append_right:=@List.getElem?_append_right
theorem ZLU:type_of% @List.filter_append:=@List.filter_append
theorem ZLV:type_of% @List.take_of_length_le:=@List.take_of_length_le
theorem ZLW:type_of% @Array.getElem?_eq_getElem:=@Array.getElem?_eq_getElem
theorem ZLX:type_of% @List.length_filter_le:=@List.length_filter_le
theorem ZLY:type_of% @List.pairwise_iff_getElem:=@List.pairwise_iff_getElem
end
end Go.Proofs.YteomliechfdhhaaGreatDoor
namespace Go.Proofs.YteomliechfdhhaaGreatDoor.Dv
section
open Go.RowKit
theorem ZH {w:World}{b i:Nat}{v:Value}{c:Array Value}{e:TypeId}{fz:Nat×Nat}(h:w.heap[b]?=some (.cells c e fz)):
 (w.setCell ⟨b,i,none⟩ v).heap[b]?=some (.cells (c.setIfInBounds i v) e fz):=by
 simp [World.setCell,Array.getElem?_modify,h]
theorem ZF {w:World}{b i k:Nat}{v:Value}(h:k≠b):(w.setCell ⟨b,i,none⟩ v).heap[k]?=w.heap[k]?:=by
 simp only [World.setCell,Array.getElem?_modify];rw [ZKu (fun e=>h e.symm)]
theorem ZI {w:World}{o:Obj}{k:Nat}(h:k < w.heap.size):(w.alloc o).heap[k]?=w.heap[k]?:=Below.heap_alloc w o k h
theorem ZB (w:World)(o:Obj):(w.alloc o).heap[w.heap.size]?=some o:=by
 show (w.heap.push o)[w.heap.size]?=_;simp
theorem heap_lt {w:World}{b:Nat}{o:Obj}(h:w.heap[b]?=some o):b < w.heap.size:=by
 rcases Nat.lt_or_ge b w.heap.size with h'|h'
 ·exact h'
 ·rw [Array.getElem?_eq_none h'] at h;cases h
theorem ZC {w:World}{b i:Nat}{c:Array Value}{e:TypeId}{fz:Nat×Nat}(h:w.heap[b]?=some (.cells c e fz)):w.cell? ⟨b,i,none⟩=c[i]?:=by
 simp [World.cell?,h]
theorem ZG {w:World}{b i:Nat}{c:Array Value}{e:TypeId}(h:w.heap[b]?=some (.cells c e (0,0))):w.frozen? ⟨b,i,none⟩=false:=by
 simp [World.frozen?,h]
structure Only (F:Nat->Prop)(w w':World):Prop where
 os:w'.os=w.os
 tape:w'.tape=w.tape
 output:w'.output=w.output
 size:w.heap.size<=w'.heap.size
 block:∀ k,k < w.heap.size->¬ F k->w'.heap[k]?=w.heap[k]?
theorem Only.refl (F:Nat->Prop)(w:World):Only F w w:=⟨rfl,rfl,rfl,nR,fun _ _ _=>rfl⟩
theorem Only.trans {F G:Nat->Prop}{a b c:World}(h:Only F a b)(k:Only G b c)(hG:∀ i,i < a.heap.size->G i->F i):Only F a c:=
 ⟨k.os.trans h.os,k.tape.trans h.tape,k.output.trans h.output,ZK6 h.size k.size,fun i hi hf=>(k.block i (ZLC hi h.size) (fun g=>hf (hG i hi g))).trans (h.block i hi hf)⟩
theorem Only.mono {F G:Nat->Prop}{a b:World}(h:Only F a b)(hG:∀ i,F i->G i):Only G a b:=⟨h.os,h.tape,h.output,h.size,fun i hi hg=>h.block i hi (fun f=>hg (hG i f))⟩
theorem Only.set {F:Nat->Prop}{a w:World}(h:Only F a w){b i:Nat}(hb:F b)(v:Value):Only F a (w.setCell ⟨b,i,none⟩ v):=
 ⟨h.os,h.tape,h.output,by simpa [World.setCell] using h.size,fun k hk hf=>(ZF (k:=k) (b:=b) (fun e=>hf (by rw [e];exact hb))).trans (h.block k hk hf)⟩
theorem Only.alloc {F:Nat->Prop}{a w:World}(h:Only F a w)(o:Obj):Only F a (w.alloc o):=
 ⟨h.os,h.tape,h.output,ZK6 h.size (by simp),fun k hk hf=>(ZI (ZLC hk h.size)).trans (h.block k hk hf)⟩
theorem Only.drewN {F:Nat->Prop}{a w:World}(h:Only F a w)(n:Nat):Only F a (w.drewN n):=⟨h.os,h.tape,h.output,h.size,h.block⟩
theorem Only.drew {F:Nat->Prop}{a w:World}(h:Only F a w):Only F a w.drew:=⟨h.os,h.tape,h.output,h.size,h.block⟩
theorem Only.below {a b:World}(h:Only (fun _=>False) a b):Below a.heap.size a b:=⟨h.os,h.tape,h.output,h.size,fun k hk=>h.block k hk (fun f=>f)⟩
theorem Only.of_below {F:Nat->Prop}{a b:World}(h:Below a.heap.size a b):Only F a b:=⟨h.os,h.tape,h.output,h.size,fun k hk _=>h.block k hk⟩
theorem Only.cell {F:Nat->Prop}{a b:World}(h:Only F a b){p:Addr}{v:Value}(hc:a.cell? p=some v)(hF:¬ F p.block):b.cell? p=some v:=
 (ZK8 (h.block p.block (ZK2 _ _ hc) hF)).trans hc
structure DSt where
 L:Nat
 base:Nat->Nat
 H:Nat->List (Nat×Nat)
 dn:Nat->Nat
 off:Bool
 armed:Bool
 left:Nat
 ex:Nat
 err:Nat->Nat
 notes:Nat->Nat->Option Nat
 nb:Nat
def after (v:Nat)(x:Nat):List (Nat×Nat)->Nat
 |[]=>v
 |s:: l=>after (if s.1 / 8=x then s.2 else v) x l
theorem J4 (v x:Nat)(l:List (Nat×Nat))(s:Nat×Nat):after v x (l++[s])=if s.1 / 8=x then s.2 else after v x l:=by
 induction l generalizing v with
 |nil=>rfl
 |cons a l ih=>exact ih _
theorem ZAr (v x:Nat)(l m:List (Nat×Nat)):after v x (l++m)=after (after v x l) x m:=by
 induction l generalizing v with
 |nil=>rfl
 |cons a l ih=>exact ih _
def DSt.per (s:DSt)(x:Nat):Nat:=after (s.base x) x ((s.H (x / 8)).take (s.dn (x / 8)))
def DSt.cur (s:DSt)(x:Nat):Nat:=after (s.base x) x (s.H (x / 8))
def DSt.hist (s:DSt)(n:Nat):List (Nat×Nat):=(s.H n).drop (s.dn n)
structure DSt.Ok (s:DSt):Prop where
 lines:1<=s.L/\s.L<=4096
 base:∀ x,s.base x < 18446744073709551616
 dn:∀ n,s.dn n<=(s.H n).length
 word:∀ n,∀ p∈s.H n,p.1 % 8=0/\p.1 / 64=n/\p.2 < 18446744073709551616
 len:∀ n,(s.H n).length<=s.ex
 ex:s.ex<=1000000
 left:s.left<=1000000
 note:∀ t n p,s.notes t n=some p->p<=(s.H n).length/\n < s.L
 err:∀ t,s.err t<=20
 nb:s.nb<=s.ex
abbrev ZK:=Nat×Nat
end
end Go.Proofs.YteomliechfdhhaaGreatDoor.Dv
