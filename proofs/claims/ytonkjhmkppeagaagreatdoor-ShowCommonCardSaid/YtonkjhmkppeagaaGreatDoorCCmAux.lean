/- Pieces of walks: rows of cells loaded out of own variables; expressions made anew; slices written out, owned. -/
import Derived.Test.YtonkjhmkppeagaaGreatDoorCCp
set_option linter.unusedVariables false
set_option linter.unusedSimpArgs false
namespace Go.Proofs.YtonkjhmkppeagaaGreatDoor.Pz
open Go.Proofs.Tryz
open Go.RowKit Go Go.Sort Ba Lx
theorem zcb {P:Program} {o:Oper} {a:Act} {w:World} {ty:TypeId} {x:Operand} (ho:o.op=.load ty x) {C off:Nat} (hx:a.eval x=.pointer (some ⟨C,off,none⟩)) {cs:List Value} (hu:(P.underlying ty).map (·.isRow)=some true) (hs:(P.info? ty).map (·.size)=some cs.length)
 (hc:∀ (j:Nat) (v:Value),cs[j]?=some v→w.cell? ⟨C,off+j,none⟩=some v):(execOp a.eval o).run P w=.ok (.value (.agg cs.toArray)) w:=by
 cases hq:P.underlying ty with
 | none=>rw[hq]at hu;cases hu
 | some d =>
  rw[hq]at hu;unfold execOp;simp only[ho,hx,Instr.loadAt,Instr.sureAddr,Sem.run_bind,Sem.run_pure,Result.andThen_ok,run_loadVar_mid w C off ty cs d (fun j v hv=>hc j v hv) hq (Option.some.inj hu) hs]
theorem St.sub {S:Nat→Prop} {w0 w:World} {L:List Bx} {D:List (List Dat×List Value)} {O:List Ow} (h:St S w0 w L D O) {i C:Nat} {us:List Value} (hi:L[i]?=some (C,us)) (p:Nat) {vs:List Value} (hv:(us.drop p).take vs.length=vs):∀ (j:Nat) (v:Value),vs[j]?=some v→w.cell? ⟨C,p+j,none⟩=some v:=fun j v hj=>(h.at hi).cl _ _ (zhM hv hj)
theorem St.w_litO1 {P:Program} {ops:Array Oper} {rest:List Oper} {o:Oper} {a:Act} {Q:Exit→Act→World→Prop} {S:Nat→Prop} {w0 w:World} {L:List Bx} {D:List (List Dat×List Value)} {O:List Ow} (H:St S w0 w L D O) (hgd:Region.wanted o (yielded ops a.tmps)=true) {t e:TypeId} {x:Operand} (ho:o.op=.buildSlice t 1 #[(0,x)]) (hu:P.underlying t=some (.slice e)) {k:Nat} {z:Value} (hi:(P.info? e).map (fun i=>(i.zero,i.size))=some (some z,k)) {v:Value} (hx:a.eval x=v)
 (hz:z.cells.size=k) (hk:0<k) (hnk:k≤2 ^ 24) (h1:v.cells.size=k) {cs:List Value} (hcs:v.cells.toList=cs) {r:List Dat} (hrl:r.length=k) (hr:Row w (okL w0.heap.size L O) r cs)
 (h:∀ (w':World) (C:Nat),Below w.heap.size w w'→St S w0 w' L D (⟨e,k,.slice (some ⟨C,0,none⟩) 1 1,[r],[cs]⟩::O)→wpList P ops Q rest (a.put o.dst (.slice (some ⟨C,0,none⟩) 1 1)) w'):wpList P ops Q (o::rest) a w :=
 zaI hgd fun _ hK=>H.o_litO1 ho hu hi hx hz hk hnk h1 hcs hrl hr fun w' C g h'=>hK _ _ (h w' C g h')
theorem zfh {W:World} {ok:Nat→Prop} {x:Ex} {sl:Value} (h:Row W ok (exD x) (exC x sl)):XArgs W ok sl x.xs:=by
 obtain ⟨s2,e,h2⟩:=zim h;simp only[exC,List.cons.injEq,and_true,true_and]at e;rw[e];exact h2
theorem zgY (Y:Str) (w:World):Calls Tryz.prog 25 #[.string ⟨Y.toArray⟩] w (ExNew (zaz Y) w) :=
 (zgZ Y w (fun b=>w.heap.size≤b)).mono fun e w' ⟨ao,cp,he,hx,hb⟩=>⟨ao,cp,he,hx.weak (fun b _ h=>by rcases h with h|h<;>exact h),hb⟩
theorem znE (k n:Int) (Y:Str) (w:World):Calls Tryz.prog 26 #[.agg #[.int .i64 k,.int .i64 n,.string ⟨Y.toArray⟩]] w (ExNew (zal ⟨k,n,Y⟩) w) :=
 (zdV k n Y w (fun b=>w.heap.size≤b)).mono fun e w' ⟨ao,cp,he,hx,hb⟩=>⟨ao,cp,he,hx.weak (fun b _ h=>by rcases h with h|h<;>exact h),hb⟩
theorem of_any (n:Int) (w:World):Calls Tryz.prog 27 #[.int .i64 n] w fun e w'=>e=.returned (.agg #[.int .i64 1,.int .i64 n,.string ⟨#[]⟩])∧Below w.heap.size w w':=by
 go_enter func27,ntmps27
 go_wp2_with fail
 go_returns
 exact ⟨rfl,by go_grown⟩
end Go.Proofs.YtonkjhmkppeagaaGreatDoor.Pz
