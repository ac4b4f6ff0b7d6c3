/- Strings and bytes: the machine does what the evaluator says. -/
import Derived.Test.YtgchjlbhmfbgaaaGreatDoorTxX
import Derived.Laws.BytesString
import Derived.Lib.ConvBytes
namespace Go.TX
set_option linter.unusedSectionVars false
variable [Globals]
variable {P:Program}
theorem elems_int {c:Ctx}{k:IntKind}: ∀{l:List Int} {vs:List Value},Elems c (.int k) l vs→vs=l.map (.int k)
 |[],_,h=>h
 |_::_,_,⟨v1,v2,h1,h2,h3⟩=>by
  subst h1
  rw[show v1=_ from h2,elems_int h3];rfl
theorem bytes_run {c:Ctx}{H:Heap}{a:AV}{x:Value}{l:List Int}{src dst e:TypeId}(hc:content H a=some ⟨.int .u8,l⟩)(hx:Rep c a x)(hh:HRel c H.at)(hs: ∃ad n cap,x= .slice ad n cap)
  (h1:P.underlying src=some (.slice e)) (h2:P.underlying e=some (.int .u8)) (h3:P.underlying dst=some .string):
  (convert src dst x).run P c.w= .ok (.string (strOf l)) c.w:=by
 obtain⟨g1,g2⟩:=content_sound (P:=P) hc (by decide) hx hh
 obtain⟨vs,g3,g4⟩:=g2 l.length (Nat.le_refl _)
 rw[List.take_length] at g4
 have e1:=elems_int g4
 obtain⟨ad,n,cap,rfl⟩:=hs
 rw[run_convert_bytes_string _ _ _ e _ _ _ h1 h2 h3]
 have hn:n=l.length:=by simpa [Builtin.lenOf] using g1
 subst hn
 cases ad with
 |none=>
  have:vs=[]:=by
   simp[Builtin.firstCells] at g3
   simpa using g3
  subst this
  have:l=[]:=by cases l<;>simp at e1⊢
  subst this
  simp[Conv.bytesToString,strOf]
 |some ad=>
  rw[run_bytesToString (ns:=l)]
  ·rfl
  ·simp only[Builtin.firstCells] at g3
   rw[e1] at g3
   simpa [Sh.width] using g3
theorem convA_sound {α:Type}{a b:TypeId}{x:AV}{H:Heap}{k:Kont α}{r:α}(h:convA P a b x H k=some r):
  ∃v,k v H=some r∧ ∀c vx,Rep c x vx→HRel c H.at→ ∃v',(convert a b vx).run P c.w= .ok v' c.w∧Rep c v v':=by
 unfold convA at h
 split at h
 ·rename_i d1 d hd1 hu2
  split at h
  ·rename_i kk n
   refine⟨_,h,fun c vx hx _=>⟨.int d (d.wrap n), ?_,rfl⟩⟩
   simp[show vx=_ from hx,convert,run_underlying_ok hd1,run_underlying_ok hu2,Conv.intToInt]
  ·cases h
 ·rename_i e hs hd
  split at h
  ·rename_i l xx he ht
   refine⟨_,h,fun c vx hx hh=>⟨_, ?_,rfl⟩⟩
   have hx':Rep c (typed P a x) vx:=typed_rep hx
   rw[ht] at hx'
   obtain⟨ad,cap,e1,_⟩:=id hx'
   exact bytes_run (a:= .sl (.int .u8) l xx) rfl hx' hh ⟨_,_,_,e1⟩ hs he hd
  ·rename_i rr i n he ht
   split at h
   ·rename_i l hc
    refine⟨_,h,fun c vx hx hh=>⟨_, ?_,rfl⟩⟩
    have hx':Rep c (typed P a x) vx:=typed_rep hx
    rw[ht] at hx'
    refine bytes_run hc hx' hh ?_ hs he hd
    rcases hx' with ⟨_,ad,e1⟩|⟨b',o,w,m,z,cap,_,e1,_⟩
    ·exact⟨_,_,_,e1⟩
    ·exact⟨_,_,_,e1⟩
   ·cases h
  ·cases h
 ·rename_i d1 hd1 hu2
  split at h
  ·rename_i xs
   refine⟨_,h,fun c vx hx _=>⟨.string xs, ?_,rfl⟩⟩
   simp[show vx=_ from hx,convert,run_underlying_ok hd1,run_underlying_ok hu2]
  ·cases h
 ·cases h
theorem bytesWorld_eq (w:World)(e:TypeId)(s:ByteArray):
  Go.Lib.bytesWorld w e s=w.drew.alloc (.cells (Go.Lib.bytesCells w e s) e ((Go.Lib.bytesCells w e s).size,(Go.Lib.bytesCells w e s).size+1)):=by
 have hh:(Go.Lib.bytesWorld w e s).heap=(w.drew.alloc (.cells (Go.Lib.bytesCells w e s) e ((Go.Lib.bytesCells w e s).size,(Go.Lib.bytesCells w e s).size+1))).heap:=by
  apply Array.ext_getElem?
  intro j
  show _=(w.heap.push _)[j]?
  rcases Nat.lt_trichotomy j w.heap.size with h|h|h
  ·rw[Go.Lib.bytesWorld_at_old w e s j h];simp[Array.getElem?_push,Nat.ne_of_lt h]
  ·subst h;rw[Go.Lib.bytesWorld_at_new];simp
  ·rw[Array.getElem?_eq_none (by rw[Go.Lib.bytesWorld_size];omega),Array.getElem?_eq_none (by simp;omega)]
 calc Go.Lib.bytesWorld w e s={Go.Lib.bytesWorld w e s with heap:=(Go.Lib.bytesWorld w e s).heap}:=rfl
  _=_:=by rw[hh];rfl
theorem convN_sound {α:Type}{a b e:TypeId}{x:AV}{H:Heap}{k:Kont α}{r:α}(hb:P.underlying b=some (.slice e))(h:convN P a e x H k=some r):
  ∃v new,k v (H++new)=some r∧ ∀c vx,Rep c x vx→HRel c H.at→Fresh c H.length→SemRes P (convert a b vx) c H v (H++new):=by
 unfold convN at h
 split at h
 ·rename_i s hs he
  refine⟨_,_,h,fun c vx hx hh hf=> ?_⟩
  obtain⟨d1,d2,d3⟩:=drew_rel hh
  have hsz:s.size≤(Go.Lib.bytesCells c.w e s).size:=by simp[Go.Lib.bytesCells]
  have hlen:(bytesI s).length=s.size:=by simp[bytesI]
  obtain⟨g1,g2,g3,g4⟩:=move_alloc (c:=drewC c) d1 hf (.cells (Go.Lib.bytesCells c.w e s) e ((Go.Lib.bytesCells c.w e s).size,(Go.Lib.bytesCells c.w e s).size+1)) (.row (.int .u8) (bytesI s)) 0 1 s.size (Go.Lib.bytesCells c.w e s).size
   (fun hl=> .inr ⟨c.w.heap.size,0,Go.Lib.bytesCells c.w e s,e,((Go.Lib.bytesCells c.w e s).size,(Go.Lib.bytesCells c.w e s).size+1),by rw[hlen];exact upd_eq,by show(c.w.heap.push _)[_]? =_;simp,fun o ho hq=>by
     have h1:(Go.Lib.bytesCells c.w e s).size≤o:=hq.1
     omega,fun i hi=>⟨[.int .u8 (bytesI s)[i]],rfl,rfl,fun j hj=>by
     have hj0:j=0:=by have:j<1:=hj;omega
     subst hj0
     have hi':i<s.data.size:=by rw[hlen] at hi;exact hi
     have h2:(bytesI s)[i]=(s.data[i].toNat:Int):=by simp[bytesI]
     show(Go.Lib.bytesCells c.w e s)[0+i*1+0]? =([Value.int .u8 (bytesI s)[i]])[0]?
     rw[h2,show 0+i*1+0=i from by omega]
     unfold Go.Lib.bytesCells
     rw[Array.getElem?_append_left (by simpa using hi')]
     simp[Array.getElem?_map,Array.getElem?_eq_getElem hi']⟩⟩)
  refine⟨.slice (some ⟨c.w.heap.size,0,none⟩) s.size (grownCap c.w s.size 0 e),⟨c.w.drew.alloc _,c.I,_⟩, ?_, ?_,g1,g4,d2.trans g2,fun q l hq=>g3 q l (d3 q l hq)⟩
  ·rw[show vx=_ from hx,Go.Lib.run_convert_string_bytes c.w a b e s hs hb he,bytesWorld_eq]
  ·have hg:s.size≤grownCap c.w s.size 0 e:=by
    unfold grownCap Question.cut
    simp only
    omega
   exact .inr ⟨c.w.heap.size,0,1,s.size,_,_,upd_eq,by simp,hg,by omega,by simp[Go.Lib.bytesCells];omega⟩
 ·cases h
theorem rangeA_sound {α:Type}{t:TypeId}{x:AV}{H:Heap}{k:Kont α}{r:α}(h:rangeA P t x H k=some r):
  ∃v new,k v (H++new)=some r∧ ∀c vx,Rep c x vx→HRel c H.at→Fresh c H.length→SemRes P (Instr.range t vx) c H v (H++new):=by
 unfold rangeA at h
 split at h
 ·rename_i s hu
  refine⟨_,_,h,fun c vx hx hh hf=> ?_⟩
  obtain⟨g1,g2,g3,g4⟩:=move_alloc hh hf (.stringIter s 0) (.it s 0) 0 0 1 0 (fun hl=>⟨c.w.heap.size,upd_eq,by show(c.w.heap.push _)[_]? =_;simp⟩)
  refine⟨.pointer (some ⟨c.w.heap.size,0,none⟩),_, ?_,⟨_,_,_,_,_,upd_eq,by omega,by simp⟩,g1,g4,g2,g3⟩
  simp only[show vx=_ from hx,Instr.range,Sem.run_bind,run_underlying_ok hu,Result.andThen_ok,Sem.run_pure,run_newObj];rfl
 ·cases h
theorem nextA_sound {α:Type}{x:AV}{isStr:Bool}{H:Heap}{k:Kont α}{r:α}(h:nextA x isStr H k=some r):
  ∃v H',k v H'=some r∧ ∀c vx ty,Rep c x vx→HRel c H.at→Fresh c H.length→SemRes P (Instr.next vx isStr ty) c H v H':=by
 unfold nextA at h
 split at h
 ·rename_i rr i off
  split at h
  ·rename_i hio
   obtain⟨rfl,rfl⟩:=hio
   split at h
   ·rename_i s pos hat
    have open_: ∀c vx,Rep c (.ptr rr 0 0) vx→HRel c H.at→ ∃b,vx= .pointer (some ⟨b,0,none⟩)∧c.js rr=some (.real b 0 0 1 0)∧c.w.heap[b]? =some (.stringIter s pos):=fun c vx hx hh=>by
     obtain⟨b,o,w,n,z,h1,h2,rfl⟩:=hx
     have ho:=hh.obj rr
     rw[hat] at ho
     obtain⟨b',h3,h4⟩:=ho
     rw[h1] at h3;simp only[Option.some.injEq,Loc.real.injEq] at h3
     obtain⟨rfl,rfl,rfl,rfl,rfl⟩:=h3
     exact⟨b,by simp,h1,h4⟩
    rcases cond_some h with ⟨hb,h⟩|⟨hb,h⟩
    ·have hp:pos<s.size:=of_decide_eq_true hb
     refine⟨_,_,h,fun c vx ty hx hh hf=> ?_⟩
     obtain⟨b,rfl,h1,h2⟩:=open_ c vx hx hh
     have hlt:rr<H.length:=lt_of_at hat (by simp)
     obtain⟨g1,g2,g3⟩:=move_set hh (ob:= .stringIter s (pos+(Utf8.decode s pos).2)) (x:= .it s (pos+runeW s pos)) h1 (by rw[hat];rfl) hlt rfl (fun hl=>by
      refine⟨b,h1, ?_⟩
      show(setB c.w b _).heap[b]? =_
      rw[setB_heap,if_pos rfl,if_pos (lt_of_heap h2)];rfl)
     refine⟨.tuple #[.bool true,goInt pos, .int .i32 ((Utf8.decode s pos).1:Nat)],_, ?_,⟨_,rfl, .cons rfl (.cons rfl (.one rfl))⟩,g1,fun q hq=>hf q (by simpa using hq),g2,g3⟩
     have hset: ∀o:Obj,(setObj b o).run P c.w= .ok () (setB c.w b o):=fun o=>by simp[setObj,Sem.run,setB,h2]
     have hget:(getObj b).run P c.w= .ok (.stringIter s pos) c.w:=by simp[getObj,Sem.run,h2]
     simp only[Instr.next,Sem.run_bind,hget,Result.andThen_ok,hp,if_true,hset,Sem.run_pure]
    ·have hp: ¬pos<s.size:=of_decide_eq_false hb
     refine⟨_,_,h,fun c vx ty hx hh hf=> ?_⟩
     obtain⟨b,rfl,h1,h2⟩:=open_ c vx hx hh
     have hget:(getObj b).run P c.w= .ok (.stringIter s pos) c.w:=by simp[getObj,Sem.run,h2]
     refine .same (v':= .tuple #[.bool false]) ?_ ⟨_,rfl, .one rfl⟩ hh hf
     simp only[Instr.next,Sem.run_bind,hget,Result.andThen_ok,hp,if_false,Sem.run_pure]
   ·cases h
  ·cases h
 ·cases h
end Go.TX
