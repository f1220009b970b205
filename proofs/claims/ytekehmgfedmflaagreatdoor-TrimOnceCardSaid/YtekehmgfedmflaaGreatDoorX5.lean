/- Parts of the proof, one behind another. -/
import Derived.Lib.RowBridge
import Derived.Lib.SortBridge
import Derived.WalkKit
import Derived.Test.YtekehmgfedmflaaGreatDoorX3
import Derived.Test.YtekehmgfedmflaaGreatDoorX4
set_option linter.all false
noncomputable section
namespace Go.Proofs.YtekehmgfedmflaaGreatDoor.A
section
open Go Go.Proofs Go.Shelf Go.RowKit Go.Lib Go.Sort
set_option maxHeartbeats 1000000 in
theorem Tryz.or2a(x y:Int)(b:Nat)(W:World)(hx:W.cell? ⟨b,0,none⟩=some (.int .i64 x))(h:x≠0) :
  Calls Tryz.prog 207 #[.slice (some ⟨b,0,none⟩) 2 2] W fun e w'=>e=.returned (.int .i64 x)/\w'=W:=by
 go_enter Tryz.func207,Tryz.ntmps207
 go_wp2
 refine wp_loop_rounds 3 ?_;rw[rounds_succ]
 go_wp2
 go_ret;exact⟨rfl,rfl⟩
set_option maxHeartbeats 1000000 in
theorem Tryz.or2b(y:Int)(b:Nat)(W:World)(hx:W.cell? ⟨b,0,none⟩=some (.int .i64 0))(hy:W.cell? ⟨b,1,none⟩=some (.int .i64 y)) :
  Calls Tryz.prog 207 #[.slice (some ⟨b,0,none⟩) 2 2] W fun e w'=>e=.returned (.int .i64 y)/\w'=W:=by
 go_enter Tryz.func207,Tryz.ntmps207
 go_wp2
 refine wp_loop_rounds 3 ?_;rw[rounds_succ]
 go_wp2
 rw[rounds_succ]
 go_wp2
 ·go_ret;exact⟨rfl,rfl⟩
 ·rename_i h1
  have h0:y=0:=by simpa using h1
  subst h0;rw[rounds_succ]
  go_wp2
  go_ret
  exact⟨rfl,rfl⟩
theorem ordL_iff'{a b:Int}:ordL a b=true↔a.natAbs<b.natAbs\/(a.natAbs=b.natAbs/\a<=b):=by simp[ordL]
def cfL(x y:Int):Int:=if Lib.compareInt x.natAbs y.natAbs=0 then Lib.compareInt x y else Lib.compareInt x.natAbs y.natAbs
theorem Tryz.var67(x:Int)(hx:inB x=true)(W:World):Calls Tryz.prog 82 #[.int .i64 x] W fun e w'=>e=.returned (.int .i64 x.natAbs)/\w'=W:=by
 have h:max x (wrap64 (-x))=x.natAbs:=by
  simp only[inB,Bool.and_eq_true,decide_eq_true_eq]at hx;unfold wrap64;omega
 go_enter Tryz.func82,Tryz.ntmps82
 go_wp2
 go_ret
 exact⟨rfl,rfl⟩
set_option maxHeartbeats 1000000 in
theorem Tryz.order155(x y:Int)(hx:inB x=true)(hy:inB y=true)(W:World):Calls Tryz.prog 178 #[.int .i64 x,.int .i64 y] W fun e w'=>e=.returned (.int .i64 (cfL x y))/\∃q os,w'=grow (W.drewN q) os:=by
 have hcmp:∀a b w,Calls Tryz.prog 208 #[.int .i64 a,.int .i64 b] w fun e w'=>e=.returned (.int .i64 (Lib.compareInt a b))/\w'=w:=fun a b w=>AnyG.cmp_Compare_int Tryz.cmpL a b w;have hv:∀z w,inB z=true->Calls Tryz.prog 82 #[.int .i64 z] w fun e w'=>e=.returned (.int .i64 z.natAbs)/\w'=w:=fun z w h=>Tryz.var67 z h w;unfold cfL;generalize hA:Lib.compareInt (x.natAbs:Int) (y.natAbs:Int)=A;generalize hB:Lib.compareInt x y=B;generalize hr:(if A=0 then B else A)=r
 go_enter Tryz.func178,Tryz.ntmps178
 go_wp2_with (first
  |(go_at_call 82;refine(hv _ _ (by assumption)).mono ?_;rintro e w' ⟨rfl,rfl⟩)
  |(go_at_call 208;refine(hcmp _ _ _).mono ?_;rintro e w' ⟨rfl,rfl⟩))
 have hc0:∀(A B:Int) (w:World),(w.alloc (Obj.cells #[Value.int .i64 A,Value.int .i64 B] 3)).cell? ⟨w.heap.size,0,none⟩=some (.int .i64 A):=fun A B w=>by
  have h:(w.alloc (Obj.cells #[Value.int .i64 A,Value.int .i64 B] 3)).heap[w.heap.size]?=some (Obj.cells #[Value.int .i64 A,Value.int .i64 B] 3):=by
   rw[show(w.alloc (Obj.cells #[Value.int .i64 A,Value.int .i64 B] 3)).heap=w.heap.push (Obj.cells #[Value.int .i64 A,Value.int .i64 B] 3)from rfl];simp
  simp only[World.cell?,h];rfl
 have hc1:∀(A B:Int) (w:World),(w.alloc (Obj.cells #[Value.int .i64 A,Value.int .i64 B] 3)).cell? ⟨w.heap.size,1,none⟩=some (.int .i64 B):=fun A B w=>by
  have h:(w.alloc (Obj.cells #[Value.int .i64 A,Value.int .i64 B] 3)).heap[w.heap.size]?=some (Obj.cells #[Value.int .i64 A,Value.int .i64 B] 3):=by
   rw[show(w.alloc (Obj.cells #[Value.int .i64 A,Value.int .i64 B] 3)).heap=w.heap.push (Obj.cells #[Value.int .i64 A,Value.int .i64 B] 3)from rfl];simp
  simp only[World.cell?,h];rfl
 have hg:∀(o:Obj) (w:World),w.alloc o=grow (w.drewN 0) #[o]:=fun o w=>alloc_eq_grow w o;by_cases h0:A=0
 ·rw[if_pos h0]at hr
  subst h0 hr;refine(Tryz.or2b B _ _ (hc0 _ _ _) (hc1 _ _ _)).mono ?_;rintro e w'' ⟨rfl,rfl⟩
  go_wp2
  go_ret
  exact⟨rfl,0,_,hg _ _⟩
 ·rw[if_neg h0]at hr
  subst hr;refine(Tryz.or2a A B _ _ (hc0 _ _ _) h0).mono ?_;rintro e w'' ⟨rfl,rfl⟩
  go_wp2
  go_ret
  exact⟨rfl,0,_,hg _ _⟩
theorem yh6_(x y:Int):ltOf cfL x y = !ordL y x:=by
 have h:ltOf cfL x y=true↔¬ordL y x=true:=by
  rw[ordL_iff'];unfold ltOf cfL Lib.compareInt;simp only[decide_eq_true_eq]
  repeat' split
  all_goals omega
 cases h1:ordL y x<;>cases h2:ltOf cfL x y<;>simp_all
abbrev BLit:={ n:Int // inB n=true }
instance:Inhabited BLit:=⟨⟨0,by decide⟩⟩
def encL(x:BLit):Value:=.int .i64 x.1
def cfS(x y:BLit):Int:=cfL x.1 y.1
theorem y4i_(x y:BLit):ltOf cfS x y = !ordL y.1 x.1:=yh6_ x.1 y.1
theorem swoS:SWO (ltOf cfS) where
 irrefl x:=by rw[y4i_];simp[ordL]
 trans x y z h1 h2:=by
  rw[y4i_]at *;simp only[Bool.not_eq_true',Bool.eq_false_iff,ne_eq,ordL_iff']at *;omega
 ntrans x y z h1 h2:=by
  rw[y4i_]at *;simp only[Bool.not_eq_false',ordL_iff']at *;omega
theorem totS(x y:BLit)(h1:ltOf cfS x y=false)(h2:ltOf cfS y x=false):x=y:=by
 rw[y4i_]at *;simp only[Bool.not_eq_false',ordL_iff']at *;exact Subtype.ext (by omega)
theorem Tryz.sortsNone:yas_ Tryz.prog 177:=fun p cap fv w=>AnyF.slices_SortFunc_none (P:=Tryz.prog) (ρ:=Tryz.sortF_ren) { Tryz.sortF with } p cap fv w
theorem yc2_(off:Nat)(d:List BLit)(c:Array Value):putCells encL off d.toArray c=putCells (Value.int .i64) off (d.map (·.1)).toArray c:=by
 unfold putCells
 congr 1
 funext k x
 simp only[List.size_toArray,List.length_map]
 split
 ·rename_i h
  rw[getElem!_pos _ _ (by simp;omega),getElem!_pos _ _ (by simp;omega)];simp[encL]
 ·rfl
theorem yen_(w:World)(blk off:Nat)(d:List BLit):putRow encL w blk off d.toArray=putRow (Value.int .i64) w blk off (d.map (·.1)).toArray:=by
 unfold putRow
 congr 1
 funext c
 exact yc2_ off d c
theorem Tryz.sortsOrd:ybj_ Tryz.prog 177 178:=fun blk off cap zs w hH hblk hsz hb=>by
 have hz:∃ls:List BLit,ls.map (·.1)=zs:=by
  clear hH hsz
  induction zs with
  |nil=>exact⟨[],rfl⟩
  |cons z zs ih=>
   rw[List.all_cons,Bool.and_eq_true]at hb;obtain⟨ls,h⟩:=ih hb.2;exact⟨⟨z,hb.1⟩::ls,by rw[List.map_cons,h]⟩
 obtain⟨ls,rfl⟩:=hz;have hH':Holds encL w blk off ls.toArray:=fun j hj=>by
  have hj':j<ls.length:=by simpa using hj
  have:=hH j (by simpa using hj);rw[getElem!_pos _ _ (by simpa using hj')]at this⊢;simpa[encL]using this
 have eg:∀args w,(callFunc 178 args).run Tryz.prog w=.ok (.enter 178 args) w:=enters_of Tryz.func178 (by kernel_rfl) rfl;have hc:CmpLays1 Tryz.prog 178 #[] encL cfS blk off ls.toArray.size w:=fun m os dk _ x y=>by
  have:=Tryz.order155 x.1 y.1 x.2 y.2 (sortWorld encL w blk off m dk os);exact this.mono fun e w' ⟨h1,q,os',h2⟩=>⟨h1,q,os',h2⟩
 have h:=Any.slices_SortFunc_total Tryz.sortF encL (fun _=>rfl) cfS swoS 178 #[] blk off cap ls.toArray w eg hc hH' hblk (by simpa using hsz) totS;have e0:(ls.map (·.1)).length=ls.toArray.size:=by simp
 rw[e0];refine Calls.mono h fun e w' ⟨h1,n,os,h2⟩=>⟨h1,n,os,?_⟩;rw[h2];have e1:(ls.toArray.toList.mergeSort fun x y => !ltOf cfS y x).map (·.1)=yf_ (ls.map (·.1)):=by
  unfold yf_;rw[List.map_mergeSort];intro a _ b _;rw[y4i_];simp
 rw[<-e1,<-yen_];rfl
end
end Go.Proofs.YtekehmgfedmflaaGreatDoor.A
end
